/- The stack of choices: what Top and Pop do. -/
import Derived.Test.YtnbdomhikbfabaaChoB
namespace Go.Proofs.Ytnbdomhikbfabaa
open Go.RowKit

def av (x : Ch) : Value := .agg #[.int .i64 x.1, .int .i64 x.2.1, .int .i64 x.2.2]

set_option maxRecDepth 100000 in
theorem topc_none (p : Nat) (v : Value) (most : Int) (w : World) (h : TC w p v most []) :
    Calls Try.prog 23 #[.pointer (some ⟨p, 0, none⟩)] w fun e w' => e = .returned (.tuple #[.agg #[.int .i64 0, .int .i64 0, .int .i64 0], .bool false]) ∧ Fr nob w w' := by
  obtain ⟨a, cap, rfl, -, -⟩ := owns_shape h.2
  have h1 : ∀ o, (w.alloc o).cell? ⟨p, 1, none⟩ = some (.slice a 0 cap) := fun o => obj_cell (obj_alloc h.1 o) 1
  clear h
  go_enter Try.func23, Try.ntmps23
  go_wp2
  refine bodyPost_ret (v := .tuple #[.agg #[.int .i64 0, .int .i64 0, .int .i64 0], .bool false]) (by simp [results, Try.results23, go_sem]) rfl ⟨rfl, ?_⟩
  exact ((Fr.refl _ _).alloc _).alloc _

set_option maxRecDepth 100000 in
theorem topc_some (p : Nat) (v : Value) (most : Int) (x : Ch) (xs : List Ch) (w : World) (h : TC w p v most (xs ++ [x])) :
    Calls Try.prog 23 #[.pointer (some ⟨p, 0, none⟩)] w fun e w' => e = .returned (.tuple #[.agg #[.int .i64 x.1, .int .i64 x.2.1, .int .i64 x.2.2], .bool true]) ∧ Fr nob w w' := by
  obtain ⟨a, cap, rfl, hl, hc⟩ := owns_shape h.2
  obtain ⟨g, rfl, -, hgl, hx⟩ := (owns_choices h.2).resolve_left (by simp)
  have hx1 := hx xs.length x (by simp)
  have c0 : w.cell? ⟨g, xs.length * 3, none⟩ = some (.int .i64 x.1) := by have := hx1 0 _ rfl; simpa using this
  have c1 : w.cell? ⟨g, xs.length * 3 + 1, none⟩ = some (.int .i64 x.2.1) := hx1 1 _ rfl
  have c2 : w.cell? ⟨g, xs.length * 3 + 2, none⟩ = some (.int .i64 x.2.2) := hx1 2 _ rfl
  have h1 : w.cell? ⟨p, 1, none⟩ = some (.slice (some ⟨g, 0, none⟩) (xs.length + 1) cap) := by have := obj_cell h.1 1; simpa using this
  simp only [List.length_append, List.length_singleton] at hl
  unfold maxLen at hc
  have hp := h.lt
  clear h hx hx1
  have g1 : ∀ o, (w.alloc o).cell? ⟨p, 1, none⟩ = some (.slice (some ⟨g, 0, none⟩) (xs.length + 1) cap) := fun o => by rw [World.cell?_alloc_past _ _ _ hp]; exact h1
  have k0 : ∀ o, (w.alloc o).cell? ⟨g, xs.length * 3, none⟩ = some (.int .i64 x.1) := fun o => by rw [World.cell?_alloc_past _ _ _ hgl]; exact c0
  have k1 : ∀ o, (w.alloc o).cell? ⟨g, xs.length * 3 + 1, none⟩ = some (.int .i64 x.2.1) := fun o => by rw [World.cell?_alloc_past _ _ _ hgl]; exact c1
  have k2 : ∀ o, (w.alloc o).cell? ⟨g, xs.length * 3 + 2, none⟩ = some (.int .i64 x.2.2) := fun o => by rw [World.cell?_alloc_past _ _ _ hgl]; exact c2
  have hne : ((xs.length : Int) + 1 == 0) = false := by simp; omega
  have hw1 : IntKind.i64.wrap (xs.length : Int) = xs.length := IntWalk.i64_in _ (by omega)
  have hidx : 0 ≤ (xs.length : Int) ∧ (xs.length : Int) < (xs.length : Int) + 1 := ⟨by omega, by omega⟩
  go_enter Try.func23, Try.ntmps23
  go_wp2
  refine region_tail 12 (by kernel_rfl) (by kernel_rfl) ?_
  simp only [List.take_succ_cons, List.take_zero, List.drop_succ_cons, List.drop_zero]
  repeat still_step
  refine wpStill_nil ?_
  go_wp2
  refine bodyPost_ret (v := .tuple #[.agg #[.int .i64 x.1, .int .i64 x.2.1, .int .i64 x.2.2], .bool true]) (by simp [results, Try.results23, go_sem]) rfl ⟨rfl, ?_⟩
  exact ((Fr.refl _ _).alloc _).drew

/-- One less: the slice is cut, its block stays. -/
theorem TC.cut {w : World} {p g cap : Nat} {most : Int} {x : Ch} {xs : List Ch} (h : TC w p (.slice (some ⟨g, 0, none⟩) (xs.length + 1) cap) most (xs ++ [x])) :
    w.ownsRow (p + 1) 50 3 (.slice (some ⟨g, 0, none⟩) xs.length cap) xs.length (cl xs) := by
  refine ⟨cl_len _, ?_⟩
  rcases h.2.2 with ⟨h1, _⟩ | ⟨g', cap', cur, hv, hb, hg, hn, hc, hs, ht⟩
  · cases h1
  · simp only [Value.slice.injEq, Option.some.injEq, Addr.mk.injEq, and_true] at hv
    obtain ⟨rfl, hl, rfl⟩ := hv
    refine .inr ⟨g, cap, cur, rfl, hb, hg, by simp at hn; omega, hc, hs, ?_⟩
    have h2 := congrArg (List.take (xs.length * 3)) ht
    simp only [List.length_append, List.length_singleton, List.take_take, cl_app] at h2
    rw [Nat.min_eq_left (by omega)] at h2
    rw [h2, ← cl_len, List.take_left]

set_option maxRecDepth 100000 in
theorem popc_none (p : Nat) (v : Value) (most : Int) (w : World) (h : TC w p v most []) :
    Calls Try.prog 24 #[.pointer (some ⟨p, 0, none⟩)] w fun e w' => e = .returned (.tuple #[.agg #[.int .i64 0, .int .i64 0, .int .i64 0], .bool false]) ∧ Fr nob w w' := by
  have H := Lib.hid h
  clear h
  go_enter Try.func24, Try.ntmps24
  go_wp2_with (go_at_call 23; refine stop ?_)
  refine Stop.go ((topc_none p v most (w.alloc (.cells #[.int .i64 0, .int .i64 0, .int .i64 0] 50)) (H.out.fr ((Fr.refl nob w).alloc _) (fun x => x) (fun _ _ x => x))).mono ?_)
  rintro e w1 ⟨rfl, f⟩
  have F := Lib.hid (((Fr.refl nob w).alloc (.cells #[.int .i64 0, .int .i64 0, .int .i64 0] 50)).trans f (U := nob) (fun _ _ x => x) (fun _ _ x => x))
  have b0 : w1.heap[w.heap.size]? = some (.cells #[.int .i64 0, .int .i64 0, .int .i64 0] 50 (0, 0)) := f.heap_some (obj_new rfl _) (fun x => x)
  have c0 : w1.cell? ⟨w.heap.size, 0, none⟩ = some (.int .i64 0) := obj_cell b0 0
  have c1 : w1.cell? ⟨w.heap.size, 1, none⟩ = some (.int .i64 0) := obj_cell b0 1
  have c2 : w1.cell? ⟨w.heap.size, 2, none⟩ = some (.int .i64 0) := obj_cell b0 2
  have f0 := obj_free b0 0
  have f1 := obj_free b0 1
  have f2 := obj_free b0 2
  have hlt := obj_lt b0
  have b1 : ((((w1.setCell ⟨w.heap.size, 0, none⟩ (.int .i64 0)).setCell ⟨w.heap.size, 1, none⟩ (.int .i64 0)).setCell ⟨w.heap.size, 2, none⟩ (.int .i64 0)).alloc (.cells #[.int .i64 0, .int .i64 0, .int .i64 0] 50)).heap[w.heap.size]? = some (.cells #[.int .i64 0, .int .i64 0, .int .i64 0] 50 (0, 0)) := obj_alloc (obj_set (obj_set (obj_set b0 0 _) 1 _) 2 _) _
  have d0 := obj_cell b1 0
  have d1 := obj_cell b1 1
  have d2 := obj_cell b1 2
  have D0 := Lib.hid d0
  have D1 := Lib.hid d1
  have D2 := Lib.hid d2
  clear b0 b1 f d0 d1 d2
  go_wp2
  refine bodyPost_ret (v := .tuple #[.agg #[.int .i64 0, .int .i64 0, .int .i64 0], .bool false]) (by simp [results, Try.results24, go_sem, D0.out, D1.out, D2.out]) rfl ⟨rfl, ?_⟩
  exact (((F.out.setNew _ (Nat.le_refl _) _).setNew _ (Nat.le_refl _) _).setNew _ (Nat.le_refl _) _).alloc _

set_option maxRecDepth 100000 in
set_option maxHeartbeats 400000 in
theorem popc_some (p : Nat) (v : Value) (most : Int) (x : Ch) (xs : List Ch) (w : World) (h : TC w p v most (xs ++ [x])) :
    Calls Try.prog 24 #[.pointer (some ⟨p, 0, none⟩)] w fun e w' => e = .returned (.tuple #[.agg #[.int .i64 x.1, .int .i64 x.2.1, .int .i64 x.2.2], .bool true]) ∧ ∃ v', TC w' p v' most xs ∧ Fr (fun k => k = p) w w' := by
  obtain ⟨a, cap, rfl, hl, hc⟩ := owns_shape h.2
  obtain ⟨g, rfl, -, hgl, -⟩ := (owns_choices h.2).resolve_left (by simp)
  simp only [List.length_append, List.length_singleton] at hl h
  have H := Lib.hid h
  clear h
  unfold maxLen at hc
  have hidx : 0 ≤ (xs.length : Int) ∧ (xs.length : Int) < (xs.length : Int) + 1 := ⟨by omega, by omega⟩
  have hle : xs.length ≤ cap := by omega
  go_enter Try.func24, Try.ntmps24
  go_wp2_with (go_at_call 23; refine stop ?_)
  have h1 := H.out.fr ((Fr.refl nob w).alloc (.cells #[.int .i64 0, .int .i64 0, .int .i64 0] 50)) (fun x => x) (fun _ _ x => x)
  refine Stop.go ((topc_some p _ most x xs (w.alloc (.cells #[.int .i64 0, .int .i64 0, .int .i64 0] 50)) h1).mono ?_)
  rintro e w1 ⟨rfl, f⟩
  have H1 := Lib.hid (h1.fr f (fun x => x) (fun _ _ x => x))
  have F := Lib.hid (((Fr.refl nob w).alloc (.cells #[.int .i64 0, .int .i64 0, .int .i64 0] 50)).trans f (U := nob) (fun _ _ x => x) (fun _ _ x => x))
  have b0 : w1.heap[w.heap.size]? = some (.cells #[.int .i64 0, .int .i64 0, .int .i64 0] 50 (0, 0)) := f.heap_some (obj_new rfl _) (fun x => x)
  have B0 := Lib.hid b0
  have hp := H.out.lt
  clear h1 f b0
  obtain ⟨w2, hw2⟩ : ∃ w2 : World, w2 = w1.alloc (.cells #[.int .i64 x.1, .int .i64 x.2.1, .int .i64 x.2.2] 50) := ⟨_, rfl⟩
  go_wp2_with fail
  rw [← hw2]
  have G2 : Hid (TC w2 p (.slice (some ⟨g, 0, none⟩) (xs.length + 1) cap) most (xs ++ [x])) := by rw [hw2]; exact H1.out.fr ((Fr.refl nob w1).alloc _) (fun x => x) (fun _ _ x => x)
  have E2 : Hid (w2.heap[w.heap.size]? = some (.cells #[.int .i64 0, .int .i64 0, .int .i64 0] 50 (0, 0))) := by rw [hw2]; exact obj_alloc B0.out _
  have X2 : Hid (w2.heap[w1.heap.size]? = some (.cells #[.int .i64 x.1, .int .i64 x.2.1, .int .i64 x.2.2] 50 (0, 0))) := by rw [hw2]; exact obj_new rfl _
  have F2 : Hid (Fr nob w w2) := by rw [hw2]; exact F.out.alloc _
  clear hw2 H1 B0 F
  have h1 : w2.cell? ⟨p, 1, none⟩ = some (.slice (some ⟨g, 0, none⟩) (xs.length + 1) cap) := obj_cell G2.out.1 1
  have hf := obj_free G2.out.1 1
  have c0 : w2.cell? ⟨w1.heap.size, 0, none⟩ = some (.int .i64 x.1) := obj_cell X2.out 0
  have c1 : w2.cell? ⟨w1.heap.size, 1, none⟩ = some (.int .i64 x.2.1) := obj_cell X2.out 1
  have c2 : w2.cell? ⟨w1.heap.size, 2, none⟩ = some (.int .i64 x.2.2) := obj_cell X2.out 2
  have d0 : w2.cell? ⟨w.heap.size, 0, none⟩ = some (.int .i64 0) := obj_cell E2.out 0
  have d1 : w2.cell? ⟨w.heap.size, 1, none⟩ = some (.int .i64 0) := obj_cell E2.out 1
  have d2 : w2.cell? ⟨w.heap.size, 2, none⟩ = some (.int .i64 0) := obj_cell E2.out 2
  have f0 := obj_free E2.out 0
  have f1 := obj_free E2.out 1
  have f2 := obj_free E2.out 2
  have n1 : ¬ p = w1.heap.size := fun h => by have h3 := G2.out.1; rw [h, X2.out] at h3; simp at h3
  have n2 : ¬ p = w.heap.size := by omega
  have n3 : ¬ w1.heap.size = p := fun h => n1 h.symm
  have n4 : ¬ w.heap.size = p := by omega
  have K := G2.out.stored (w1 := w2) (S := nob) (ys := xs) (v' := .slice (some ⟨g, 0, none⟩) xs.length cap) (Fr.refl _ _) (fun x => x) (TC.cut G2.out)
  have e4 : (w2.setCell ⟨p, 1, none⟩ (.slice (some ⟨g, 0, none⟩) xs.length cap)).heap[w.heap.size]? = some (.cells #[.int .i64 0, .int .i64 0, .int .i64 0] 50 (0, 0)) := obj_setNe E2.out _ n4 _
  have r0 := obj_set (obj_set (obj_set e4 0 (.int .i64 x.1)) 1 (.int .i64 x.2.1)) 2 (.int .i64 x.2.2)
  have R0 := Lib.hid (obj_cell r0 0)
  have R1 := Lib.hid (obj_cell r0 1)
  have R2 := Lib.hid (obj_cell r0 2)
  have KA := Lib.hid K.1
  have KB := Lib.hid K.2
  clear K e4 r0
  go_region
  all_goals
    go_wp2
    refine bodyPost_ret (v := .tuple #[.agg #[.int .i64 x.1, .int .i64 x.2.1, .int .i64 x.2.2], .bool true]) (by simp [results, Try.results24, go_sem, R0.out, R1.out, R2.out]) rfl ⟨rfl, .slice (some ⟨g, 0, none⟩) xs.length cap, ?_, ?_⟩
    · have f : Fr (fun k => k = w.heap.size) (w2.setCell ⟨p, 1, none⟩ (.slice (some ⟨g, 0, none⟩) xs.length cap)) _ := (((Fr.refl _ _).setIn 0 (.int .i64 x.1)).setIn 1 (.int .i64 x.2.1)).setIn 2 (.int .i64 x.2.2)
      exact KA.out.fr f.drew (fun x => n2 x) (fun k hk x => by have := (H.out.own_ne k hk).2; omega)
    · have f := F2.out.trans KB.out (U := fun k => k = p) (fun _ _ x => x.elim) (fun _ _ x => x.elim id (fun y => y.elim))
      exact (((f.setNew _ (Nat.le_refl _) _).setNew _ (Nat.le_refl _) _).setNew _ (Nat.le_refl _) _).drew

end Go.Proofs.Ytnbdomhikbfabaa
