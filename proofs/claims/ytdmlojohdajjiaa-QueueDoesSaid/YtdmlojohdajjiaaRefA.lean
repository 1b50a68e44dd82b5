/- The reference's queue: one and Push. -/
import Derived.Test.YtdmlojohdajjiaaTurnsA
namespace Go.Proofs.Ytdmlojohdajjiaa
open Go.RowKit

theorem appP : AppT Try.prog 28 39 2 16 := AppT.of Try.underlying28 (z := .agg #[.int .i64 0, .int .i64 0]) (by kernel_rfl) rfl (by decide)

/-- The cells of picks in a row. -/
def cp : List Pk → List Value
  | [] => []
  | x :: xs => .int .i64 x.1 :: .int .i64 x.2 :: cp xs
theorem cp_len (xs : List Pk) : (cp xs).length = xs.length * 2 := by
  induction xs with
  | nil => rfl
  | cons x xs ih => simp [cp, ih]; omega
theorem cp_app (xs ys : List Pk) : cp (xs ++ ys) = cp xs ++ cp ys := by
  induction xs with
  | nil => rfl
  | cons x xs ih => simp [cp, ih]
theorem cp_one (xs : List Pk) : ∀ u ∈ cp xs, u.oneCell' = true := by
  induction xs with
  | nil => intro u hu; cases hu
  | cons x xs ih =>
    intro u hu
    simp only [cp, List.mem_cons] at hu
    rcases hu with rfl | rfl | hu
    · rfl
    · rfl
    · exact ih u hu
theorem cp_get (xs : List Pk) (j : Nat) (x : Pk) (h : xs[j]? = some x) : (cp xs)[j * 2]? = some (.int .i64 x.1) ∧ (cp xs)[j * 2 + 1]? = some (.int .i64 x.2) := by
  induction xs generalizing j with
  | nil => simp at h
  | cons y ys ih =>
    cases j with
    | zero => obtain rfl := Option.some.inj h; exact ⟨rfl, rfl⟩
    | succ j =>
      have := ih j (by simpa using h)
      rw [show (j + 1) * 2 = j * 2 + 1 + 1 by omega]
      exact ⟨this.1, this.2⟩

/-- A slice value that reads as these picks. -/
def RP (w : World) (v : Value) (xs : List Pk) : Prop :=
  ∃ a b off cap, v = .slice a xs.length cap ∧ xs.length ≤ cap ∧ cap ≤ maxLen ∧ PAt w a b off xs
theorem RP.fr {w w' : World} {v : Value} {xs : List Pk} (h : RP w v xs) (f : Fr nob w w') : RP w' v xs := by
  obtain ⟨a, b, off, cap, h1, h2, h3, h4⟩ := h
  exact ⟨a, b, off, cap, h1, h2, h3, h4.fr f (fun _ x => x)⟩
theorem RP.nil (w : World) : RP w (.slice none 0 0) [] := ⟨none, 0, 0, 0, rfl, Nat.le_refl _, by simp [maxLen], .inl rfl, by simp⟩
theorem RP.of_owns {w : World} {base : Nat} {v : Value} {n : Nat} {xs : List Pk} (hn : n = xs.length) (h : w.ownsRow base 39 2 v n (cp xs)) : RP w v xs := by
  subst hn
  rcases h.2 with ⟨rfl, h0⟩ | ⟨g, cap, cur, rfl, hb, hg, hn, hc, hs, ht⟩
  · have : xs = [] := List.eq_nil_of_length_eq_zero h0
    subst this
    exact RP.nil w
  · refine ⟨_, g, 0, cap, rfl, hn, hc, .inr rfl, fun j x hj => ?_⟩
    have c := cp_get xs j x hj
    have c1 := h.cells (g := g) rfl _ _ c.1
    have c2 := h.cells (g := g) rfl _ _ c.2
    rw [Addr.add_lit] at c1 c2
    exact ⟨c1, c2⟩

/-- Picks that lie in a row can be appended. -/
theorem PAt.src {w : World} {a : Option Addr} {b off : Nat} {xs : List Pk} (h : PAt w a b off xs) : Src w a (cp xs) := by
  refine ⟨?_, cp_one xs⟩
  by_cases hx : xs = []
  · subst hx; exact .inl rfl
  · refine .inr ⟨_, h.1.resolve_left hx, ?_⟩
    have h2 := h.2
    clear h hx
    intro j u hu
    rw [Addr.add_lit]
    induction xs generalizing off j with
    | nil => simp [cp] at hu
    | cons x xs ih =>
      match j, hu with
      | 0, hu => obtain rfl := Option.some.inj hu; exact (h2 0 x rfl).1
      | 1, hu => obtain rfl := Option.some.inj hu; exact (h2 0 x rfl).2
      | j + 2, hu =>
        have := ih (off := off + 2) (j := j) (fun i y hy => by
          have := h2 (i + 1) y hy
          rw [show off + (i + 1) * 2 = off + 2 + i * 2 by omega] at this
          exact this) (by simpa [cp] using hu)
        rw [show off + (j + 2) = off + 2 + j by omega]
        exact this

set_option maxRecDepth 100000 in
theorem one_any (x : Pk) (w : World) : Calls Try.prog 10 #[pv x] w fun e w' => e = .returned (pv x) ∧ Fr nob w w' := by
  unfold pv
  go_enter Try.func10, Try.ntmps10
  go_wp2
  exact bodyPost_ret (v := .agg #[.int .i64 x.1, .int .i64 x.2]) (by simp [results, Try.results10, go_sem]) rfl ⟨rfl, (((Fr.refl nob w).alloc _).alloc _)⟩

set_option maxRecDepth 100000 in
theorem rpush_full (room : Int) (x : Pk) (a : Option Addr) (n cap : Nat) (w : World) (hm : room ≤ n) :
    Calls Try.prog 9 #[.agg #[.int .i64 room, .slice a n cap], pv x] w fun e w' => e = .returned (.tuple #[.agg #[.int .i64 room, .slice a n cap], .bool false]) ∧ Fr nob w w' := by
  unfold pv
  go_enter Try.func9, Try.ntmps9
  go_wp2
  exact bodyPost_ret (v := .tuple #[.agg #[.int .i64 room, .slice a n cap], .bool false]) (by simp [results, Try.results9, go_sem]) rfl ⟨rfl, (((Fr.refl _ _).alloc _).alloc _).alloc _⟩

set_option maxRecDepth 100000 in
theorem rpush_room (room : Int) (x : Pk) (a : Option Addr) (b off cap : Nat) (xs : List Pk) (w : World) (h : PAt w a b off xs) (hm : xs.length < room) (hb : xs.length ≤ 1000) :
    Calls Try.prog 9 #[.agg #[.int .i64 room, .slice a xs.length cap], pv x] w fun e w' => ∃ v', e = .returned (.tuple #[.agg #[.int .i64 room, v'], .bool true]) ∧ RP w' v' (xs ++ [x]) ∧ Fr nob w w' := by
  have H := Lib.hid h
  clear h
  unfold pv
  go_enter Try.func9, Try.ntmps9
  go_wp2_with (at_builtin; refine stop ?_)
  refine Stop.go (wpList_app rfl (.tmp 18) (.tmp 20) rfl appP rfl (base := w.heap.size + 1 + 1 + 1 + 1) (n := 0) (xs := []) (World.ownsRow_nil _ _ _ _) (m := xs.length) (news := cp xs) rfl (cp_len xs) ?o3 ?o4 ?o5 ?o6 ?o7)
  case o3 => exact (H.out.fr (((((Fr.refl nob w).alloc _).alloc _).alloc _).alloc _) (fun _ x => x)).src
  case o4 => omega
  case o5 => simp only [maxLen]; omega
  case o6 => simp
  case o7 =>
    intro v1 w1 ho hg _
    simp only [Nat.zero_add, List.nil_append] at ho
    obtain ⟨a1, cap1, rfl, -, -⟩ := owns_shape ho
    have hfr := (Fr.refl nob _).grown hg (fun k hk _ => by simp [Value.ownBlock, Act.eval] at hk)
    have b3 : w1.heap[w.heap.size + 1 + 1 + 1]? = some (.cells #[.int .i64 room, .slice none 0 0] 30 (0, 0)) := hfr.heap_some (obj_new (by simp) _) (fun x => x)
    have b2 : w1.heap[w.heap.size + 1 + 1]? = some (.cells #[.int .i64 0, .slice none 0 0] 30 (0, 0)) := hfr.heap_some (obj_alloc (obj_new (by simp) _) _) (fun x => x)
    have b1 : w1.heap[w.heap.size + 1]? = some (.cells #[.int .i64 x.1, .int .i64 x.2] 39 (0, 0)) := hfr.heap_some (obj_alloc (obj_alloc (obj_new (by simp) _) _) _) (fun x => x)
    have c1 : w1.cell? ⟨w.heap.size + 1 + 1 + 1, 1, none⟩ = some (.slice none 0 0) := obj_cell b3 1
    have f1 := obj_free b3 1
    have d0 : w1.cell? ⟨w.heap.size + 1, 0, none⟩ = some (.int .i64 x.1) := obj_cell b1 0
    have d1 : w1.cell? ⟨w.heap.size + 1, 1, none⟩ = some (.int .i64 x.2) := obj_cell b1 1
    have B2 := Lib.hid b2
    have B3 := Lib.hid b3
    have F := Lib.hid hfr
    clear hfr b1 b2 b3
    have hO := Lib.hid ho
    clear ho
    have hsz : w.heap.size + 1 + 1 + 1 + 1 ≤ w1.heap.size := by have := F.out.size; simpa using this
    go_wp2_with (at_builtin; refine stop ?_)
    refine Stop.go (wpList_app rfl (.tmp 24) (.tmp 26) rfl appP rfl (base := w.heap.size + 1 + 1 + 1 + 1) (n := xs.length) (xs := cp xs) ?p1 (m := 1) (news := cp [x]) rfl rfl ?p3 ?p4 ?p5 ?p6 ?p7)
    case p1 => exact (ownsRow_setCell_below hO.out (by show w.heap.size + 1 + 1 + 1 < _; omega) _).alloc _
    case p3 => exact Src.block (cs := #[.int .i64 x.1, .int .i64 x.2]) (obj_new (by simp) _) (cp_one [x])
    case p4 => omega
    case p5 => simp only [maxLen]; omega
    case p6 => simp; omega
    case p7 =>
      intro v2 w2 ho2 hg2 _
      obtain ⟨a2, cap2, rfl, -, -⟩ := owns_shape ho2
      have hfr2 := ((Fr.refl (fun k => (Value.slice a1 (xs.length) cap1).ownBlock = some k) (w1.setCell ⟨w.heap.size + 1 + 1 + 1, 1, none⟩ (.slice a1 (xs.length) cap1))).alloc _).grown hg2 (fun k hk _ => hk)
      have n1 : ¬ (Value.slice a1 (xs.length) cap1).ownBlock = some (w.heap.size + 1 + 1) := fun h => by have := hO.out.lt _ h; omega
      have n2 : ¬ (Value.slice a1 (xs.length) cap1).ownBlock = some (w.heap.size + 1 + 1 + 1) := fun h => by have := hO.out.lt _ h; omega
      have k2 : w2.heap[w.heap.size + 1 + 1 + 1]? = some (.cells #[.int .i64 room, .slice a1 (xs.length) cap1] 30 (0, 0)) := hfr2.heap_some (obj_set B3.out 1 _) n2
      have k1 : w2.heap[w.heap.size + 1 + 1]? = some (.cells #[.int .i64 0, .slice none 0 0] 30 (0, 0)) := hfr2.heap_some (obj_setNe B2.out _ (by simp) _) n1
      have e0 : w2.cell? ⟨w.heap.size + 1 + 1 + 1, 0, none⟩ = some (.int .i64 room) := obj_cell k2 0
      have e1 : w2.cell? ⟨w.heap.size + 1 + 1 + 1, 1, none⟩ = some (.slice a1 (xs.length) cap1) := obj_cell k2 1
      have g0 : w2.cell? ⟨w.heap.size + 1 + 1, 0, none⟩ = some (.int .i64 0) := obj_cell k1 0
      have g1 : w2.cell? ⟨w.heap.size + 1 + 1, 1, none⟩ = some (.slice none 0 0) := obj_cell k1 1
      have j1 := obj_free k2 1
      have l0 := obj_free k1 0
      have l1 := obj_free k1 1
      have O2 := Lib.hid ho2
      have F2 := Lib.hid hfr2
      clear k2 k1 ho2 hg2 hfr2 n1 n2 hg
      go_wp2
      refine bodyPost_ret (v := .tuple #[.agg #[.int .i64 room, .slice a2 (xs.length + 1) cap2], .bool true]) (by simp [results, Try.results9, go_sem, g0, g1]) rfl ⟨_, rfl, ?_, ?_⟩
      · refine RP.of_owns (n := xs.length + 1) (base := w.heap.size + 1 + 1 + 1 + 1) (by simp) ?_
        rw [cp_app]
        exact ownsRow_setCell_below (ownsRow_setCell_below (ownsRow_setCell_below O2.out (by show w.heap.size + 1 + 1 + 1 < _; omega) _) (by show w.heap.size + 1 + 1 < _; omega) _) (by show w.heap.size + 1 + 1 < _; omega) _
      · have f0 : Fr nob w w1 := (((((Fr.refl nob w).alloc _).alloc _).alloc _).alloc _).trans F.out (fun _ _ x => x) (fun _ _ x => x)
        have f1 := f0.setNew ⟨w.heap.size + 1 + 1 + 1, 1, none⟩ (by show _ ≤ w.heap.size + 1 + 1 + 1; omega) (.slice a1 (xs.length) cap1)
        have f2 := f1.trans F2.out (fun _ _ x => x) (U := nob) (fun i hi x => by have := (hO.out.lt i x).1; omega)
        exact ((f2.setNew _ (by show _ ≤ w.heap.size + 1 + 1 + 1; omega) _).setNew _ (by show _ ≤ w.heap.size + 1 + 1; omega) _).setNew _ (by show _ ≤ w.heap.size + 1 + 1; omega) _

end Go.Proofs.Ytdmlojohdajjiaa
