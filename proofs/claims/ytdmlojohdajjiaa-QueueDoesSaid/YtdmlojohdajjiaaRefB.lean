/- The reference's queue: Pop. -/
import Derived.Test.YtdmlojohdajjiaaRefA
import Derived.Test.YtdmlojohdajjiaaFeedsA
namespace Go.Proofs.Ytdmlojohdajjiaa
open Go.RowKit
set_option linter.unusedVariables false

set_option maxRecDepth 100000 in
theorem rpop_none (room : Int) (a : Option Addr) (cap : Nat) (w : World) :
    Calls Try.prog 12 #[.agg #[.int .i64 room, .slice a 0 cap]] w fun e w' => e = .returned (.tuple #[.agg #[.int .i64 room, .slice a 0 cap], pv (0, 0), .bool false]) ∧ Fr nob w w' := by
  go_enter Try.func12, Try.ntmps12
  go_wp2
  refine bodyPost_ret (v := .tuple #[.agg #[.int .i64 room, .slice a 0 cap], pv (0, 0), .bool false]) (by simp [results, Try.results12, go_sem, pv]) rfl ⟨rfl, (((Fr.refl nob w).alloc _).alloc _).alloc _⟩

set_option maxRecDepth 100000 in
set_option maxHeartbeats 1000000 in
theorem rpop_some (room : Int) (x : Pk) (a : Option Addr) (b off cap : Nat) (xs : List Pk) (w : World) (h : PAt w a b off (x :: xs)) (hc : xs.length + 1 ≤ cap) (hm : cap ≤ maxLen) (hb : xs.length ≤ 1000) (hx2 : ¬ cap = 1) :
    Calls Try.prog 12 #[.agg #[.int .i64 room, .slice a (xs.length + 1) cap]] w fun e w' => ∃ v', e = .returned (.tuple #[.agg #[.int .i64 room, v'], pv x, .bool true]) ∧ RP w' v' xs ∧ Fr nob w w' := by
  obtain rfl := h.1.resolve_left (by simp)
  have H := Lib.hid h
  unfold maxLen at hm
  clear h
  go_enter Try.func12, Try.ntmps12
  go_wp2_with fail
  have hx1 : (1 : Int) ≤ (xs.length : Int) + 1 := by omega
  refine region_tail 5 (by kernel_rfl) (by kernel_rfl) ?_
  simp only [List.take_succ_cons, List.take_zero, List.drop_succ_cons, List.drop_zero]
  repeat still_step
  refine wpStill_nil ?_
  refine wpList_app rfl (.tmp 16) (.tmp 19) rfl appP rfl (base := w.heap.size + 1 + 1 + 1 + 1) (n := 0) (xs := []) (World.ownsRow_nil _ _ _ _) (m := xs.length) (news := cp xs) rfl (cp_len xs) ?o3 ?o4 ?o5 ?o6 ?o7
  case o3 =>
    exact ((H.out.fr (((((Fr.refl nob w).alloc _).alloc _).alloc _).alloc _).drew (fun _ x => x)).rest 1 (some ⟨b, off + 1 * 2, none⟩) (.inr rfl)).src
  case o4 => omega
  case o5 => simp only [maxLen]; omega
  case o6 => simp
  case o7 =>
    intro v2 w2 ho2 hg2 _
    simp only [Nat.zero_add, List.nil_append] at ho2
    obtain ⟨a2, cap2, rfl, -, -⟩ := owns_shape ho2
    have hfr2 := (Fr.refl nob _).grown hg2 (fun k hk _ => by simp [Value.ownBlock, Act.eval] at hk)
    have k3 : w2.heap[w.heap.size + 1 + 1 + 1]? = some (.cells #[.int .i64 room, .slice none 0 0] 30 (0, 0)) := hfr2.heap_some (obj_new (by simp) _) (fun x => x)
    have k2 : w2.heap[w.heap.size + 1 + 1]? = some (.cells #[.int .i64 0, .int .i64 0] 39 (0, 0)) := hfr2.heap_some (obj_alloc (obj_new (by simp) _) _) (fun x => x)
    have k1 : w2.heap[w.heap.size + 1]? = some (.cells #[.int .i64 0, .slice none 0 0] 30 (0, 0)) := hfr2.heap_some (obj_alloc (obj_alloc (obj_new (by simp) _) _) _) (fun x => x)
    have k0 : w2.heap[w.heap.size]? = some (.cells #[.int .i64 room, .slice (some ⟨b, off, none⟩) (xs.length + 1) cap] 30 (0, 0)) := hfr2.heap_some (obj_alloc (obj_alloc (obj_alloc (obj_new (by simp) _) _) _) _) (fun x => x)
    have c3 : w2.cell? ⟨w.heap.size + 1 + 1 + 1, 1, none⟩ = some (.slice none 0 0) := obj_cell k3 1
    have j3 := obj_free k3 1
    have f0 : Fr nob w _ := ((((((Fr.refl nob w).alloc _).alloc _).alloc _).alloc _).drew).trans hfr2 (fun _ _ x => x) (fun _ _ x => x)
    have hb' := World.block_lt_of_cell? _ _ ((H.out).2 0 x rfl).1
    simp only at hb'
    have K3 := Lib.hid k3
    have K2 := Lib.hid k2
    have K1 := Lib.hid k1
    have K0 := Lib.hid k0
    have O2 := Lib.hid ho2
    have F2 := Lib.hid f0
    clear k3 k2 k1 k0 ho2 hg2 hfr2 f0
    go_wp2_with fail
    have hx3 : (0 : Int) < (xs.length : Int) + 1 := by omega
    obtain ⟨w3, hw3⟩ : ∃ w3, w3 = w2.setCell ⟨w.heap.size + 1 + 1 + 1, 1, none⟩ (.slice a2 xs.length cap2) := ⟨_, rfl⟩
    rw [← hw3]
    have k3 : w3.heap[w.heap.size + 1 + 1 + 1]? = some (.cells #[.int .i64 room, .slice a2 xs.length cap2] 30 (0, 0)) := hw3 ▸ obj_set K3.out 1 _
    have k2 : w3.heap[w.heap.size + 1 + 1]? = some (.cells #[.int .i64 0, .int .i64 0] 39 (0, 0)) := hw3 ▸ obj_setNe K2.out _ (by simp) _
    have k1 : w3.heap[w.heap.size + 1]? = some (.cells #[.int .i64 0, .slice none 0 0] 30 (0, 0)) := hw3 ▸ obj_setNe K1.out _ (by simp) _
    have k0 : w3.heap[w.heap.size]? = some (.cells #[.int .i64 room, .slice (some ⟨b, off, none⟩) (xs.length + 1) cap] 30 (0, 0)) := hw3 ▸ obj_setNe K0.out _ (by show ¬ w.heap.size = _ + 1 + 1 + 1; omega) _
    have O3 : Hid (w3.ownsRow (w.heap.size + 1 + 1 + 1 + 1) 39 2 (Value.slice a2 xs.length cap2) xs.length (cp xs)) := by
      rw [hw3]; exact ownsRow_setCell_below O2.out (by show w.heap.size + 1 + 1 + 1 < _; omega) _
    have F3 : Hid (Fr nob w w3) := by rw [hw3]; exact F2.out.setNew _ (by show _ ≤ w.heap.size + 1 + 1 + 1; omega) _
    obtain ⟨m7, m8⟩ := (H.out.fr F3.out (fun _ x => x)).2 0 x rfl
    rw [Nat.zero_mul, Nat.add_zero] at m7 m8
    have m0 : w3.cell? ⟨w.heap.size + 1 + 1 + 1, 0, none⟩ = some (.int .i64 room) := obj_cell k3 0
    have m1 : w3.cell? ⟨w.heap.size + 1 + 1 + 1, 1, none⟩ = some (.slice a2 xs.length cap2) := obj_cell k3 1
    have m2 : w3.cell? ⟨w.heap.size + 1, 0, none⟩ = some (.int .i64 0) := obj_cell k1 0
    have m3 : w3.cell? ⟨w.heap.size + 1, 1, none⟩ = some (.slice none 0 0) := obj_cell k1 1
    have m4 : w3.cell? ⟨w.heap.size + 1 + 1, 0, none⟩ = some (.int .i64 0) := obj_cell k2 0
    have m5 : w3.cell? ⟨w.heap.size + 1 + 1, 1, none⟩ = some (.int .i64 0) := obj_cell k2 1
    have m6 : w3.cell? ⟨w.heap.size, 1, none⟩ = some (.slice (some ⟨b, off, none⟩) (xs.length + 1) cap) := obj_cell k0 1
    have n0 := obj_free k1 0
    have n1 := obj_free k1 1
    have n2 := obj_free k2 0
    have n3 := obj_free k2 1
    have hnb1 : ¬ b = w.heap.size + 1 := by omega
    have hnb2 : ¬ b = w.heap.size + 1 + 1 := by omega
    clear c3 j3 hw3 F2 O2 K3 K2 K1 K0 k3 k2 k1 k0
    go_region
    go_wp2
    refine bodyPost_ret (v := .tuple #[.agg #[.int .i64 room, .slice a2 xs.length cap2], pv x, .bool true]) (by simp [results, Try.results12, go_sem, m2, m3, m4, m5, pv]) rfl ⟨_, rfl, ?_, ?_⟩
    · refine RP.of_owns (n := xs.length) (base := w.heap.size + 1 + 1 + 1 + 1) rfl ?_
      exact ownsRow_setCell_below (ownsRow_setCell_below (ownsRow_setCell_below (ownsRow_setCell_below O3.out (by show w.heap.size + 1 < _; omega) _) (by show w.heap.size + 1 < _; omega) _) (by show w.heap.size + 1 + 1 < _; omega) _) (by show w.heap.size + 1 + 1 < _; omega) _
    · exact ((((F3.out.setNew _ (by show _ ≤ w.heap.size + 1; omega) _).setNew _ (by show _ ≤ w.heap.size + 1; omega) _).setNew _ (by show _ ≤ w.heap.size + 1 + 1; omega) _).setNew _ (by show _ ≤ w.heap.size + 1 + 1; omega) _).drew

set_option maxRecDepth 100000 in
set_option maxHeartbeats 1000000 in
theorem rpop_last (room : Int) (x : Pk) (a : Option Addr) (b off cap : Nat) (xs : List Pk) (w : World) (h : PAt w a b off (x :: xs)) (hc : xs.length + 1 ≤ cap) (hm : cap ≤ maxLen) (hb : xs.length ≤ 1000) (hx2 : cap = 1) (hxs : xs = []) :
    Calls Try.prog 12 #[.agg #[.int .i64 room, .slice a (xs.length + 1) cap]] w fun e w' => ∃ v', e = .returned (.tuple #[.agg #[.int .i64 room, v'], pv x, .bool true]) ∧ RP w' v' xs ∧ Fr nob w w' := by
  subst hx2
  obtain rfl := h.1.resolve_left (by simp)
  have H := Lib.hid h
  unfold maxLen at hm
  have HXS := Lib.hid hxs
  clear h hxs
  go_enter Try.func12, Try.ntmps12
  go_wp2_with fail
  have hx1 : (1 : Int) ≤ (xs.length : Int) + 1 := by omega
  refine region_tail 5 (by kernel_rfl) (by kernel_rfl) ?_
  simp only [List.take_succ_cons, List.take_zero, List.drop_succ_cons, List.drop_zero]
  repeat still_step
  refine wpStill_nil ?_
  refine wpList_app rfl (.tmp 16) (.tmp 19) rfl appP rfl (base := w.heap.size + 1 + 1 + 1 + 1) (n := 0) (xs := []) (World.ownsRow_nil _ _ _ _) (m := 0) (news := cp []) rfl rfl ?o3 ?o4 ?o5 ?o6 ?o7
  case o3 =>
    exact Src.nil _ _
  case o4 => omega
  case o5 => simp only [maxLen]; omega
  case o6 => simp
  case o7 =>
    intro v2 w2 ho2 hg2 _
    simp only [Nat.zero_add, List.nil_append] at ho2
    obtain ⟨a2, cap2, rfl, -, -⟩ := owns_shape ho2
    have hfr2 := (Fr.refl nob _).grown hg2 (fun k hk _ => by simp [Value.ownBlock, Act.eval] at hk)
    have k3 : w2.heap[w.heap.size + 1 + 1 + 1]? = some (.cells #[.int .i64 room, .slice none 0 0] 30 (0, 0)) := hfr2.heap_some (obj_new (by simp) _) (fun x => x)
    have k2 : w2.heap[w.heap.size + 1 + 1]? = some (.cells #[.int .i64 0, .int .i64 0] 39 (0, 0)) := hfr2.heap_some (obj_alloc (obj_new (by simp) _) _) (fun x => x)
    have k1 : w2.heap[w.heap.size + 1]? = some (.cells #[.int .i64 0, .slice none 0 0] 30 (0, 0)) := hfr2.heap_some (obj_alloc (obj_alloc (obj_new (by simp) _) _) _) (fun x => x)
    have k0 : w2.heap[w.heap.size]? = some (.cells #[.int .i64 room, .slice (some ⟨b, off, none⟩) (xs.length + 1) 1] 30 (0, 0)) := hfr2.heap_some (obj_alloc (obj_alloc (obj_alloc (obj_new (by simp) _) _) _) _) (fun x => x)
    have c3 : w2.cell? ⟨w.heap.size + 1 + 1 + 1, 1, none⟩ = some (.slice none 0 0) := obj_cell k3 1
    have j3 := obj_free k3 1
    have f0 : Fr nob w _ := ((((((Fr.refl nob w).alloc _).alloc _).alloc _).alloc _).drew).trans hfr2 (fun _ _ x => x) (fun _ _ x => x)
    have hb' := World.block_lt_of_cell? _ _ ((H.out).2 0 x rfl).1
    simp only at hb'
    have K3 := Lib.hid k3
    have K2 := Lib.hid k2
    have K1 := Lib.hid k1
    have K0 := Lib.hid k0
    have O2 := Lib.hid ho2
    have F2 := Lib.hid f0
    clear k3 k2 k1 k0 ho2 hg2 hfr2 f0
    go_wp2_with fail
    have hx3 : (0 : Int) < (xs.length : Int) + 1 := by omega
    obtain ⟨w3, hw3⟩ : ∃ w3, w3 = w2.setCell ⟨w.heap.size + 1 + 1 + 1, 1, none⟩ (.slice a2 0 cap2) := ⟨_, rfl⟩
    rw [← hw3]
    have k3 : w3.heap[w.heap.size + 1 + 1 + 1]? = some (.cells #[.int .i64 room, .slice a2 0 cap2] 30 (0, 0)) := hw3 ▸ obj_set K3.out 1 _
    have k2 : w3.heap[w.heap.size + 1 + 1]? = some (.cells #[.int .i64 0, .int .i64 0] 39 (0, 0)) := hw3 ▸ obj_setNe K2.out _ (by simp) _
    have k1 : w3.heap[w.heap.size + 1]? = some (.cells #[.int .i64 0, .slice none 0 0] 30 (0, 0)) := hw3 ▸ obj_setNe K1.out _ (by simp) _
    have k0 : w3.heap[w.heap.size]? = some (.cells #[.int .i64 room, .slice (some ⟨b, off, none⟩) (xs.length + 1) 1] 30 (0, 0)) := hw3 ▸ obj_setNe K0.out _ (by show ¬ w.heap.size = _ + 1 + 1 + 1; omega) _
    have O3 : Hid (w3.ownsRow (w.heap.size + 1 + 1 + 1 + 1) 39 2 (Value.slice a2 0 cap2) 0 (cp [])) := by
      rw [hw3]; exact ownsRow_setCell_below O2.out (by show w.heap.size + 1 + 1 + 1 < _; omega) _
    have F3 : Hid (Fr nob w w3) := by rw [hw3]; exact F2.out.setNew _ (by show _ ≤ w.heap.size + 1 + 1 + 1; omega) _
    obtain ⟨m7, m8⟩ := (H.out.fr F3.out (fun _ x => x)).2 0 x rfl
    rw [Nat.zero_mul, Nat.add_zero] at m7 m8
    have m0 : w3.cell? ⟨w.heap.size + 1 + 1 + 1, 0, none⟩ = some (.int .i64 room) := obj_cell k3 0
    have m1 : w3.cell? ⟨w.heap.size + 1 + 1 + 1, 1, none⟩ = some (.slice a2 0 cap2) := obj_cell k3 1
    have m2 : w3.cell? ⟨w.heap.size + 1, 0, none⟩ = some (.int .i64 0) := obj_cell k1 0
    have m3 : w3.cell? ⟨w.heap.size + 1, 1, none⟩ = some (.slice none 0 0) := obj_cell k1 1
    have m4 : w3.cell? ⟨w.heap.size + 1 + 1, 0, none⟩ = some (.int .i64 0) := obj_cell k2 0
    have m5 : w3.cell? ⟨w.heap.size + 1 + 1, 1, none⟩ = some (.int .i64 0) := obj_cell k2 1
    have m6 : w3.cell? ⟨w.heap.size, 1, none⟩ = some (.slice (some ⟨b, off, none⟩) (xs.length + 1) 1) := obj_cell k0 1
    have n0 := obj_free k1 0
    have n1 := obj_free k1 1
    have n2 := obj_free k2 0
    have n3 := obj_free k2 1
    have hnb1 : ¬ b = w.heap.size + 1 := by omega
    have hnb2 : ¬ b = w.heap.size + 1 + 1 := by omega
    clear c3 j3 hw3 F2 O2 K3 K2 K1 K0 k3 k2 k1 k0
    go_region
    go_wp2
    refine bodyPost_ret (v := .tuple #[.agg #[.int .i64 room, .slice a2 0 cap2], pv x, .bool true]) (by simp [results, Try.results12, go_sem, m2, m3, m4, m5, pv]) rfl ⟨_, rfl, ?_, ?_⟩
    · rw [HXS.out]
      refine RP.of_owns (n := 0) (base := w.heap.size + 1 + 1 + 1 + 1) rfl ?_
      exact ownsRow_setCell_below (ownsRow_setCell_below (ownsRow_setCell_below (ownsRow_setCell_below O3.out (by show w.heap.size + 1 < _; omega) _) (by show w.heap.size + 1 < _; omega) _) (by show w.heap.size + 1 + 1 < _; omega) _) (by show w.heap.size + 1 + 1 < _; omega) _
    · exact ((((F3.out.setNew _ (by show _ ≤ w.heap.size + 1; omega) _).setNew _ (by show _ ≤ w.heap.size + 1; omega) _).setNew _ (by show _ ≤ w.heap.size + 1 + 1; omega) _).setNew _ (by show _ ≤ w.heap.size + 1 + 1; omega) _).drew

theorem rpop_any (room : Int) (v : Value) (xs : List Pk) (w : World) (h : RP w v xs) (hb : xs.length ≤ 1000) :
    Calls Try.prog 12 #[.agg #[.int .i64 room, v]] w fun e w' => ∃ v', e = .returned (.tuple #[.agg #[.int .i64 room, v'], pv (xs.head?.getD (0, 0)), .bool (!xs.isEmpty)]) ∧ RP w' v' xs.tail ∧ Fr nob w w' := by
  obtain ⟨a, b, off, cap, rfl, h1, h2, h3⟩ := h
  cases xs with
  | nil =>
    refine (rpop_none room a cap w).mono ?_
    rintro e w' ⟨rfl, F⟩
    exact ⟨_, rfl, ⟨a, b, off, cap, rfl, h1, h2, h3.fr F (fun _ x => x)⟩, F⟩
  | cons x xs =>
    simp only [List.length_cons] at h1 hb
    have key : Calls Try.prog 12 #[.agg #[.int .i64 room, .slice a (xs.length + 1) cap]] w fun e w' => ∃ v', e = .returned (.tuple #[.agg #[.int .i64 room, v'], pv x, .bool true]) ∧ RP w' v' xs ∧ Fr nob w w' := by
      by_cases hc : cap = 1
      · exact rpop_last room x a b off cap xs w h3 h1 h2 (by omega) hc (List.eq_nil_of_length_eq_zero (by omega))
      · exact rpop_some room x a b off cap xs w h3 h1 h2 (by omega) hc
    refine key.mono ?_
    rintro e w' ⟨v', rfl, R, F⟩
    exact ⟨v', rfl, R, F⟩

end Go.Proofs.Ytdmlojohdajjiaa
