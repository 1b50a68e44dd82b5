/- The reference's stack: what New, Push, Top and Pop do. A stack by value is a pair: the greatest size, and a slice. -/
import Derived.Test.YtnbdomhikbfabaaStkD
namespace Go.Proofs.Ytnbdomhikbfabaa
open Go.RowKit

set_option maxRecDepth 100000 in
theorem rnew_any (most : Int) (w : World) : Calls Try.prog 9 #[.int .i64 most] w fun e w' => e = .returned (.agg #[.int .i64 most, .slice none 0 0]) ∧ Fr nob w w' := by
  go_enter Try.func9, Try.ntmps9
  go_wp2
  exact bodyPost_ret (v := .agg #[.int .i64 most, .slice none 0 0]) (by simp [results, Try.results9, go_sem]) rfl ⟨rfl, (Fr.refl _ _).alloc _⟩

set_option maxRecDepth 100000 in
theorem rtop_none (most : Int) (a : Option Addr) (cap : Nat) (w : World) :
    Calls Try.prog 15 #[.agg #[.int .i64 most, .slice a 0 cap]] w fun e w' => e = .returned (.tuple #[.int .i64 0, .bool false]) ∧ Fr nob w w' := by
  go_enter Try.func15, Try.ntmps15
  go_wp2
  go_ret2
  exact ⟨rfl, (Fr.refl _ _).alloc _⟩

set_option maxRecDepth 100000 in
theorem rtop_some (most x : Int) (b o n cap : Nat) (w : World) (hb : b < w.heap.size) (hn : n + 1 ≤ cap) (hc : cap ≤ 9223372036854775807) (hx : w.cell? ⟨b, o + n, none⟩ = some (.int .i64 x)) :
    Calls Try.prog 15 #[.agg #[.int .i64 most, .slice (some ⟨b, o, none⟩) (n + 1) cap]] w fun e w' => e = .returned (.tuple #[.int .i64 x, .bool true]) ∧ Fr nob w w' := by
  have hx1 : ∀ ob, (w.alloc ob).cell? ⟨b, o + n, none⟩ = some (.int .i64 x) := fun ob => by rw [World.cell?_alloc_past _ _ _ hb]; exact hx
  have hne : ((n : Int) + 1 == 0) = false := by simp; omega
  go_enter Try.func15, Try.ntmps15
  go_wp2
  go_ret2
  exact ⟨rfl, (Fr.refl _ _).alloc _⟩

set_option maxRecDepth 100000 in
theorem rpush_full (most x : Int) (a : Option Addr) (n cap : Nat) (w : World) (hm : most ≤ n) :
    Calls Try.prog 11 #[.agg #[.int .i64 most, .slice a n cap], .int .i64 x] w fun e w' => e = .returned (.tuple #[.agg #[.int .i64 most, .slice a n cap], .bool false]) ∧ Fr nob w w' := by
  go_enter Try.func11, Try.ntmps11
  go_wp2
  exact bodyPost_ret (v := .tuple #[.agg #[.int .i64 most, .slice a n cap], .bool false]) (by simp [results, Try.results11, go_sem]) rfl ⟨rfl, ((Fr.refl _ _).alloc _).alloc _⟩

set_option maxRecDepth 100000 in
theorem rpush_room (most x : Int) (a : Option Addr) (cap base : Nat) (xs : List Int) (w : World) (h : w.ownsRow base 3 1 (.slice a xs.length cap) xs.length (xs.map (Value.int .i64))) (hm : xs.length < most) (hb : (xs.length + 1) * 8 ≤ 140737488355328) :
    Calls Try.prog 11 #[.agg #[.int .i64 most, .slice a xs.length cap], .int .i64 x] w fun e w' => ∃ v', e = .returned (.tuple #[.agg #[.int .i64 most, v'], .bool true]) ∧ w'.ownsRow w.heap.size 3 1 v' (xs.length + 1) ((xs ++ [x]).map (Value.int .i64)) ∧ Fr nob w w' := by
  have H := Lib.hid h
  clear h
  go_enter Try.func11, Try.ntmps11
  go_wp2_with (at_builtin; go_must (refine wpList_app rfl (.tmp 18) (.tmp 20) rfl appInt rfl (base := w.heap.size + 1 + 1 + 1) (n := 0) (xs := []) (World.ownsRow_nil _ _ _ _) (m := xs.length) (news := xs.map (Value.int .i64)) rfl ?o2 ?o3 ?o4 ?o5 ?o6 ?o7))
  case o2 => simp
  case o3 => exact Src.owned H.out ((((Fr.refl nob w).alloc _).alloc _).alloc _) (fun _ _ x => x) (ints_oneCell _ _)
  case o4 => omega
  case o5 => simp only [maxLen]; omega
  case o6 => simp
  case o7 =>
    intro v1 w1 ho hg _
    obtain ⟨a1, cap1, rfl, -, -⟩ := owns_shape ho
    have hfr := (Fr.refl nob _).grown hg (fun k hk _ => by simp [Value.ownBlock] at hk)
    have b2 : w1.heap[w.heap.size + 1 + 1]? = some (.cells #[.int .i64 most, .slice none 0 0] 28 (0, 0)) := hfr.heap_some (obj_new (by simp) _) (fun x => x)
    have b1 : w1.heap[w.heap.size + 1]? = some (.cells #[.int .i64 0, .slice none 0 0] 28 (0, 0)) := hfr.heap_some (obj_alloc (obj_new (by simp) _) _) (fun x => x)
    have c1 : w1.cell? ⟨w.heap.size + 1 + 1, 1, none⟩ = some (.slice none 0 0) := obj_cell b2 1
    have f1 := obj_free b2 1
    have B1 := Lib.hid b1
    have B2 := Lib.hid b2
    have F := Lib.hid hfr
    clear hfr b1 b2
    have hO := Lib.hid ho
    clear ho
    go_wp2_with (at_builtin; refine stop ?_)
    refine Stop.go (wpList_app rfl (.tmp 24) (.tmp 26) rfl appInt rfl (base := w.heap.size + 1 + 1 + 1) (n := xs.length) (xs := xs.map (Value.int .i64)) ?p1 (m := 1) (news := [.int .i64 x]) rfl rfl ?p3 ?p4 ?p5 ?p6 ?p7)
    case p1 => exact (ownsRow_setCell_below hO.out (by show w.heap.size + 1 + 1 < _; omega) _).alloc _
    case p3 => exact Src.new _ _ _ (by simp) rfl
    case p4 => exact hb
    case p5 => simp only [maxLen]; omega
    case p6 => have := F.out.size; simp at this ⊢; omega
    case p7 =>
      intro v2 w2 ho2 hg2 _
      obtain ⟨a2, cap2, rfl, -, -⟩ := owns_shape ho2
      have hfr2 := ((Fr.refl (fun k => (Value.slice a1 xs.length cap1).ownBlock = some k) (w1.setCell ⟨w.heap.size + 1 + 1, 1, none⟩ (.slice a1 xs.length cap1))).alloc _).grown hg2 (fun k hk _ => hk)
      have n1 : ¬ (Value.slice a1 xs.length cap1).ownBlock = some (w.heap.size + 1) := fun h => by have := hO.out.lt _ h; omega
      have n2 : ¬ (Value.slice a1 xs.length cap1).ownBlock = some (w.heap.size + 1 + 1) := fun h => by have := hO.out.lt _ h; omega
      have k2 : w2.heap[w.heap.size + 1 + 1]? = some (.cells #[.int .i64 most, .slice a1 xs.length cap1] 28 (0, 0)) := hfr2.heap_some (obj_set B2.out 1 _) n2
      have k1 : w2.heap[w.heap.size + 1]? = some (.cells #[.int .i64 0, .slice none 0 0] 28 (0, 0)) := hfr2.heap_some (obj_setNe B1.out _ (by simp) _) n1
      have e0 : w2.cell? ⟨w.heap.size + 1 + 1, 0, none⟩ = some (.int .i64 most) := obj_cell k2 0
      have e1 : w2.cell? ⟨w.heap.size + 1 + 1, 1, none⟩ = some (.slice a1 xs.length cap1) := obj_cell k2 1
      have g0 : w2.cell? ⟨w.heap.size + 1, 0, none⟩ = some (.int .i64 0) := obj_cell k1 0
      have g1 : w2.cell? ⟨w.heap.size + 1, 1, none⟩ = some (.slice none 0 0) := obj_cell k1 1
      have j1 := obj_free k2 1
      have l0 := obj_free k1 0
      have l1 := obj_free k1 1
      have O2 := Lib.hid ho2
      have F2 := Lib.hid hfr2
      clear k2 k1 ho2 hg2 hfr2 n1 n2 hg
      go_wp2
      refine bodyPost_ret (v := .tuple #[.agg #[.int .i64 most, .slice a2 (xs.length + 1) cap2], .bool true]) (by simp [results, Try.results11, go_sem, g0, g1]) rfl ⟨_, rfl, ?_, ?_⟩
      · refine ownsRow_base (b := w.heap.size + 1 + 1 + 1) ?_ (fun k hk => by have := (O2.out.lt k hk).1; omega)
        rw [List.map_append]
        exact ownsRow_setCell_below (ownsRow_setCell_below (ownsRow_setCell_below O2.out (by show w.heap.size + 1 + 1 < _; omega) _) (by show w.heap.size + 1 < _; omega) _) (by show w.heap.size + 1 < _; omega) _
      · have f0 : Fr nob w w1 := ((((Fr.refl nob w).alloc _).alloc _).alloc _).trans F.out (fun _ _ x => x) (fun _ _ x => x)
        have f1 := f0.setNew ⟨w.heap.size + 1 + 1, 1, none⟩ (by show _ ≤ w.heap.size + 1 + 1; omega) (.slice a1 xs.length cap1)
        have f2 := f1.trans F2.out (fun _ _ x => x) (U := nob) (fun i hi x => by have := (hO.out.lt i x).1; omega)
        exact ((f2.setNew _ (by show _ ≤ w.heap.size + 1 + 1; omega) _).setNew _ (by show _ ≤ w.heap.size + 1; omega) _).setNew _ (by show _ ≤ w.heap.size + 1; omega) _

set_option maxRecDepth 100000 in
theorem rpop_none (most : Int) (a : Option Addr) (cap : Nat) (w : World) :
    Calls Try.prog 13 #[.agg #[.int .i64 most, .slice a 0 cap]] w fun e w' => e = .returned (.tuple #[.agg #[.int .i64 most, .slice a 0 cap], .int .i64 0, .bool false]) ∧ Fr nob w w' := by
  go_enter Try.func13, Try.ntmps13
  go_wp2_with (go_at_call 15; refine stop ?_)
  refine Stop.go ((rtop_none _ _ _ _).mono ?_)
  rintro e w1 ⟨rfl, F⟩
  have b0 : w1.heap[w.heap.size]? = some (.cells #[.int .i64 most, .slice a 0 cap] 28 (0, 0)) := F.heap_some (obj_alloc (obj_new rfl _) _) (fun x => x)
  have b1 : w1.heap[w.heap.size + 1]? = some (.cells #[.int .i64 0, .slice none 0 0] 28 (0, 0)) := F.heap_some (obj_new (by simp) _) (fun x => x)
  have c0 : w1.cell? ⟨w.heap.size, 0, none⟩ = some (.int .i64 most) := obj_cell b0 0
  have c1 : w1.cell? ⟨w.heap.size, 1, none⟩ = some (.slice a 0 cap) := obj_cell b0 1
  have d0 : w1.cell? ⟨w.heap.size + 1, 0, none⟩ = some (.int .i64 0) := obj_cell b1 0
  have d1 : w1.cell? ⟨w.heap.size + 1, 1, none⟩ = some (.slice none 0 0) := obj_cell b1 1
  have e0 := obj_free b1 0
  have e1 := obj_free b1 1
  have G := Lib.hid F
  clear b0 b1 F
  go_wp2
  refine bodyPost_ret (v := .tuple #[.agg #[.int .i64 most, .slice a 0 cap], .int .i64 0, .bool false]) (by simp [results, Try.results13, go_sem, d0, d1]) rfl ⟨rfl, ?_⟩
  exact (((((Fr.refl nob w).alloc _).alloc _).trans G.out (fun _ _ x => x) (fun _ _ x => x)).setNew _ (by show _ ≤ w.heap.size + 1; omega) _).setNew _ (by show _ ≤ w.heap.size + 1; omega) _

theorem owns_reads {w : World} {base : Nat} {a : Option Addr} {n c : Nat} {xs : List Int} (h : w.ownsRow base 3 1 (.slice a n c) n (xs.map (Value.int .i64))) : xs = [] ∨ ∃ g, a = some ⟨g, 0, none⟩ ∧ base ≤ g ∧ g < w.heap.size ∧ ∀ j (hj : j < xs.length), w.cell? ⟨g, j, none⟩ = some (.int .i64 xs[j]) := by
  rcases h.2 with ⟨hv, h0⟩ | ⟨g, cap, cur, hv, hb, hg, hx⟩
  · left
    have := h.1
    rw [h0] at this
    exact List.eq_nil_of_length_eq_zero (by simpa using this)
  · cases hv
    refine .inr ⟨g, rfl, hb, obj_lt hg, fun j hj => ?_⟩
    have := h.cells (g := g) rfl j (.int .i64 xs[j]) (by simp [hj])
    rw [Addr.add_lit] at this
    simpa using this

set_option maxRecDepth 100000 in
theorem rpop_some (most x : Int) (a : Option Addr) (cap base : Nat) (xs : List Int) (w : World) (h : w.ownsRow base 3 1 (.slice a (xs.length + 1) cap) (xs.length + 1) ((xs ++ [x]).map (Value.int .i64))) (hb : (xs.length + 1) * 8 ≤ 140737488355328) :
    Calls Try.prog 13 #[.agg #[.int .i64 most, .slice a (xs.length + 1) cap]] w fun e w' => ∃ v', e = .returned (.tuple #[.agg #[.int .i64 most, v'], .int .i64 x, .bool true]) ∧ w'.ownsRow w.heap.size 3 1 v' xs.length (xs.map (Value.int .i64)) ∧ Fr nob w w' := by
  obtain ⟨g, rfl, -, hg, hx⟩ := (owns_reads h).resolve_left (by simp)
  have hx1 := hx xs.length (by simp)
  simp only [List.getElem_concat_length] at hx1
  obtain ⟨_, _, he, hc1, hc2⟩ := owns_shape h
  cases he
  unfold maxLen at hc2
  have H := Lib.hid hx
  clear h hx
  have hx2 : ∀ o1 o2, ((w.alloc o1).alloc o2).cell? ⟨g, 0 + xs.length, none⟩ = some (.int .i64 x) := fun o1 o2 => by
    rw [Nat.zero_add, World.cell?_alloc_past _ _ _ (by simp; omega), World.cell?_alloc_past _ _ _ hg]; exact hx1
  have X := Lib.hid hx2
  clear hx2 hx1
  go_enter Try.func13, Try.ntmps13
  go_wp2_with (go_at_call 15; refine stop ?_)
  refine Stop.go ((rtop_some most x g 0 xs.length cap _ (by simp; omega) hc1 (by omega) (X.out _ _)).mono ?_)
  rintro e w1 ⟨rfl, F⟩
  have b0 : w1.heap[w.heap.size]? = some (.cells #[.int .i64 most, .slice (some ⟨g, 0, none⟩) (xs.length + 1) cap] 28 (0, 0)) := F.heap_some (obj_alloc (obj_new rfl _) _) (fun x => x)
  have b1 : w1.heap[w.heap.size + 1]? = some (.cells #[.int .i64 0, .slice none 0 0] 28 (0, 0)) := F.heap_some (obj_new (by simp) _) (fun x => x)
  have c0 : w1.cell? ⟨w.heap.size, 0, none⟩ = some (.int .i64 most) := obj_cell b0 0
  have c1 : w1.cell? ⟨w.heap.size, 1, none⟩ = some (.slice (some ⟨g, 0, none⟩) (xs.length + 1) cap) := obj_cell b0 1
  have sz : w.heap.size + 1 + 1 ≤ w1.heap.size := by have := F.size; simpa using this
  have B0 := Lib.hid b0
  have B1 := Lib.hid b1
  have G := Lib.hid F
  clear b0 b1 F
  have l0 : ∀ o, (w1.alloc o).cell? ⟨w.heap.size, 1, none⟩ = some (.slice (some ⟨g, 0, none⟩) (xs.length + 1) cap) := fun o => by rw [World.cell?_alloc_past _ _ _ (by show w.heap.size < _; omega)]; exact c1
  have hle : xs.length ≤ cap := by omega
  have hw1 : IntKind.i64.wrap (xs.length : Int) = xs.length := IntWalk.i64_in _ (by omega)
  go_wp2_with fail
  refine region_tail 9 (by kernel_rfl) (by kernel_rfl) ?_
  simp only [List.take_succ_cons, List.take_zero, List.drop_succ_cons, List.drop_zero]
  repeat still_step
  refine wpStill_nil ?_
  refine wpList_app rfl (.tmp 20) (.tmp 27) rfl appInt rfl (base := w1.heap.size + 1) (n := 0) (xs := []) (World.ownsRow_nil _ _ _ _) (m := xs.length) (news := xs.map (Value.int .i64)) rfl ?o2 ?o3 ?o4 ?o5 ?o6 ?o7
  case o2 => simp
  case o3 =>
    refine ⟨.inr ⟨_, rfl, fun j u hu => ?_⟩, ints_oneCell _ _⟩
    have hj : j < xs.length := by have := (List.getElem?_eq_some_iff.1 hu).1; simpa using this
    have h1 := H.out j (by simp; omega)
    have h2 : u = .int .i64 xs[j] := by simp [hj] at hu; exact hu.symm
    have h3 : (w1.alloc (.cells #[.int .i64 most, .slice none 0 0] 28)).drew.cell? ⟨g, j, none⟩ = some (.int .i64 xs[j]) := by
      have f : Fr nob w (w1.alloc (.cells #[.int .i64 most, .slice none 0 0] 28)).drew := ((((((Fr.refl nob w).alloc _).alloc _).trans G.out (fun _ _ x => x) (fun _ _ x => x)).alloc _)).drew
      refine f.cell_some ?_ (fun x => x)
      rw [h1, List.getElem_append_left hj]
    rw [Addr.add_lit, Nat.zero_add, h2]
    exact h3
  case o4 => omega
  case o5 => simp only [maxLen]; omega
  case o6 => simp
  case o7 =>
    intro v2 w2 ho2 hg2 _
    obtain ⟨a2, cap2, rfl, -, -⟩ := owns_shape ho2
    have hfr2 := (Fr.refl nob _).grown hg2 (fun k hk _ => by simp [Value.ownBlock, Act.eval] at hk)
    have k2 : w2.heap[w1.heap.size]? = some (.cells #[.int .i64 most, .slice none 0 0] 28 (0, 0)) := hfr2.heap_some (obj_new rfl _) (fun x => x)
    have k1 : w2.heap[w.heap.size + 1]? = some (.cells #[.int .i64 0, .slice none 0 0] 28 (0, 0)) := hfr2.heap_some (obj_alloc B1.out _) (fun x => x)
    have e0 : w2.cell? ⟨w1.heap.size, 0, none⟩ = some (.int .i64 most) := obj_cell k2 0
    have e1 : w2.cell? ⟨w1.heap.size, 1, none⟩ = some (.slice none 0 0) := obj_cell k2 1
    have g0 : w2.cell? ⟨w.heap.size + 1, 0, none⟩ = some (.int .i64 0) := obj_cell k1 0
    have g1 : w2.cell? ⟨w.heap.size + 1, 1, none⟩ = some (.slice none 0 0) := obj_cell k1 1
    have j1 := obj_free k2 1
    have l0 := obj_free k1 0
    have l1 := obj_free k1 1
    have hne : ¬ w1.heap.size = w.heap.size + 1 := by omega
    have O2 := Lib.hid ho2
    have F2 := Lib.hid hfr2
    clear k2 k1 ho2 hg2 hfr2
    go_wp2
    refine bodyPost_ret (v := .tuple #[.agg #[.int .i64 most, .slice a2 xs.length cap2], .int .i64 x, .bool true]) (by simp [results, Try.results13, go_sem, g0, g1]) rfl ⟨_, rfl, ?_, ?_⟩
    · have O3 : w2.ownsRow (w1.heap.size + 1) 3 1 (.slice a2 xs.length cap2) xs.length (xs.map (Value.int .i64)) := by simpa using O2.out
      refine ownsRow_base (b := w1.heap.size + 1) ?_ (fun k hk => by have := (O3.lt k hk).1; omega)
      exact ownsRow_setCell_below (ownsRow_setCell_below (ownsRow_setCell_below O3 (by show w1.heap.size < _; omega) _) (by show w.heap.size + 1 < _; omega) _) (by show w.heap.size + 1 < _; omega) _
    · have f : Fr nob w (w1.alloc (.cells #[.int .i64 most, .slice none 0 0] 28)).drew := ((((((Fr.refl nob w).alloc _).alloc _).trans G.out (fun _ _ x => x) (fun _ _ x => x)).alloc _)).drew
      have f2 := f.trans F2.out (fun _ _ x => x) (U := nob) (fun _ _ x => x)
      exact ((f2.setNew _ (by show _ ≤ w1.heap.size; omega) _).setNew _ (by show _ ≤ w.heap.size + 1; omega) _).setNew _ (by show _ ≤ w.heap.size + 1; omega) _

/-- The reference's Pop, whatever the stack. -/
theorem rpop_any (most : Int) (v : Value) (base : Nat) (xs : List Int) (w : World) (h : w.ownsRow base 3 1 v xs.length (xs.map (Value.int .i64))) (hb : xs.length * 8 ≤ 140737488355328) :
    Calls Try.prog 13 #[.agg #[.int .i64 most, v]] w fun e w' => ∃ v', e = .returned (.tuple #[.agg #[.int .i64 most, v'], .int .i64 (xs.getLast?.getD 0), .bool (!xs.isEmpty)]) ∧ w'.ownsRow (min base w.heap.size) 3 1 v' xs.dropLast.length (xs.dropLast.map (Value.int .i64)) ∧ (v' = v ∨ ∀ k, v'.ownBlock = some k → w.heap.size ≤ k) ∧ Fr nob w w' := by
  rcases list_end xs with rfl | ⟨ys, y, rfl⟩
  · obtain ⟨a, cap, rfl, -, -⟩ := owns_shape h
    refine (rpop_none most a cap w).mono ?_
    rintro e w' ⟨rfl, F⟩
    exact ⟨_, rfl, F.owns (ownsRow_base h (fun k hk => by have := (h.lt k hk).1; omega)) (fun _ _ x => x), .inl rfl, F⟩
  · simp only [List.length_append, List.length_singleton] at h hb
    obtain ⟨a, cap, rfl, -, -⟩ := owns_shape h
    refine (rpop_some most y a cap base ys w h hb).mono ?_
    rintro e w' ⟨v', rfl, O, F⟩
    refine ⟨v', by simp, ?_, .inr fun k hk => (O.lt k hk).1, F⟩
    simp only [List.dropLast_concat]
    exact ownsRow_base O (fun k hk => by have := (O.lt k hk).1; omega)

theorem rtop_any (most : Int) (v : Value) (base : Nat) (xs : List Int) (w : World) (h : w.ownsRow base 3 1 v xs.length (xs.map (Value.int .i64))) :
    Calls Try.prog 15 #[.agg #[.int .i64 most, v]] w fun e w' => e = .returned (.tuple #[.int .i64 (xs.getLast?.getD 0), .bool (!xs.isEmpty)]) ∧ Fr nob w w' := by
  obtain ⟨a, cap, rfl, hc, hm⟩ := owns_shape h
  unfold maxLen at hm
  rcases list_end xs with rfl | ⟨ys, y, rfl⟩
  · exact rtop_none most a cap w
  · simp only [List.length_append, List.length_singleton] at h hc ⊢
    obtain ⟨g, rfl, -, hg, hx⟩ := (owns_reads h).resolve_left (by simp)
    have hx1 := hx ys.length (by simp)
    simp only [List.getElem_concat_length] at hx1
    refine (rtop_some most y g 0 ys.length cap w hg hc (by omega) (by rw [Nat.zero_add]; exact hx1)).mono ?_
    rintro e w' ⟨rfl, F⟩
    exact ⟨by simp, F⟩

theorem rpush_any (most x : Int) (v : Value) (base : Nat) (xs : List Int) (w : World) (h : w.ownsRow base 3 1 v xs.length (xs.map (Value.int .i64))) (hb : (xs.length + 1) * 8 ≤ 140737488355328) :
    Calls Try.prog 11 #[.agg #[.int .i64 most, v], .int .i64 x] w fun e w' => ∃ v', e = .returned (.tuple #[.agg #[.int .i64 most, v'], .bool (decide (xs.length < most))]) ∧
      w'.ownsRow (min base w.heap.size) 3 1 v' (if xs.length < most then xs ++ [x] else xs).length ((if xs.length < most then xs ++ [x] else xs).map (Value.int .i64)) ∧ (v' = v ∨ ∀ k, v'.ownBlock = some k → w.heap.size ≤ k) ∧ Fr nob w w' := by
  obtain ⟨a, cap, rfl, -, -⟩ := owns_shape h
  by_cases hm : xs.length < most
  · refine (rpush_room most x a cap base xs w h hm hb).mono ?_
    rintro e w' ⟨v', rfl, O, F⟩
    refine ⟨v', by simp [hm], ?_, .inr fun k hk => (O.lt k hk).1, F⟩
    rw [if_pos hm]
    simp only [List.length_append, List.length_singleton]
    exact ownsRow_base O (fun k hk => by have := (O.lt k hk).1; omega)
  · refine (rpush_full most x a _ cap w (by omega)).mono ?_
    rintro e w' ⟨rfl, F⟩
    refine ⟨_, by simp [hm], ?_, .inl rfl, F⟩
    rw [if_neg hm]
    exact F.owns (ownsRow_base h (fun k hk => by have := (h.lt k hk).1; omega)) (fun _ _ x => x)

end Go.Proofs.Ytnbdomhikbfabaa
