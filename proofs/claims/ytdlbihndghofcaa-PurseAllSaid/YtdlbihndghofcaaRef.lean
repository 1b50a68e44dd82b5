/- The reference's purse: Right, May, All. -/
import Derived.Test.YtdlbihndghofcaaNew
namespace Go.Proofs.Ytdlbihndghofcaa
open Go.RowKit
set_option linter.unusedVariables false

/-- The first k of each four may be. -/
def pre (p : Pu) (k : Nat) : Prop := inN p.l ∧ (0 < k → inN p.e.a ∧ inN p.s.a) ∧ (1 < k → inN p.e.b ∧ inN p.s.b) ∧ (2 < k → inN p.e.c ∧ inN p.s.c) ∧ (3 < k → inN p.e.d ∧ inN p.s.d)
instance (p : Pu) (k : Nat) : Decidable (pre p k) := by unfold pre; exact inferInstance
theorem pre_zero (p : Pu) : pre p 0 ↔ inN p.l := by unfold pre; simp
theorem pre_one (p : Pu) : pre p 1 ↔ (pre p 0 ∧ inN p.e.a) ∧ inN p.s.a := by unfold pre; simp [and_assoc]
theorem pre_two (p : Pu) : pre p 2 ↔ (pre p 1 ∧ inN p.e.b) ∧ inN p.s.b := by unfold pre; simp [and_assoc]
theorem pre_three (p : Pu) : pre p 3 ↔ (pre p 2 ∧ inN p.e.c) ∧ inN p.s.c := by unfold pre; simp [and_assoc]
theorem pre_four (p : Pu) : pre p 4 ↔ (pre p 3 ∧ inN p.e.d) ∧ inN p.s.d := by unfold pre; simp [and_assoc]
theorem pre_all (p : Pu) : pre p 4 ↔ p.ok := by
  unfold pre Pu.ok Q4.ok
  simp
  intro _
  constructor
  · rintro ⟨⟨h1, h2⟩, ⟨h3, h4⟩, ⟨h5, h6⟩, h7, h8⟩; exact ⟨⟨h1, h3, h5, h7⟩, h2, h4, h6, h8⟩
  · rintro ⟨⟨h1, h3, h5, h7⟩, h2, h4, h6, h8⟩; exact ⟨⟨h1, h2⟩, ⟨h3, h4⟩, ⟨h5, h6⟩, h7, h8⟩
theorem and3 {A B C D : Prop} [Decidable A] [Decidable B] [Decidable C] [Decidable D] (h : D ↔ (A ∧ B) ∧ C) : decide D = (decide A && decide B && decide C) := by
  by_cases hA : A <;> by_cases hB : B <;> by_cases hC : C <;> simp [h, hA, hB, hC]

set_option maxRecDepth 100000 in
set_option maxHeartbeats 1000000 in
theorem rright_any (p : Pu) (w : World) : Calls Try.prog 12 #[p.v] w fun e w' => e = .returned (.bool (decide p.ok)) ∧ Fr nob w w' := by
  rw [← decide_eq_decide.2 (pre_all p)]
  obtain ⟨P, hP⟩ : ∃ P : Nat → Bool, P = fun k => decide (pre p k) := ⟨_, rfl⟩
  have s0 : P 0 = decide (inN p.l) := by rw [hP]; exact decide_eq_decide.2 (pre_zero p)
  have s1 : P 1 = (P 0 && decide (inN p.e.a) && decide (inN p.s.a)) := by rw [hP]; exact and3 (pre_one p)
  have s2 : P 2 = (P 1 && decide (inN p.e.b) && decide (inN p.s.b)) := by rw [hP]; exact and3 (pre_two p)
  have s3 : P 3 = (P 2 && decide (inN p.e.c) && decide (inN p.s.c)) := by rw [hP]; exact and3 (pre_three p)
  have s4 : P 4 = (P 3 && decide (inN p.e.d) && decide (inN p.s.d)) := by rw [hP]; exact and3 (pre_four p)
  have S0 := Lib.hid s0
  have S1 := Lib.hid s1
  have S2 := Lib.hid s2
  have S3 := Lib.hid s3
  have S4 := Lib.hid s4
  rw [show decide (pre p 4) = P 4 by rw [hP]]
  clear s0 s1 s2 s3 s4 hP
  obtain ⟨l, ⟨a, b, c, d⟩, ⟨s, t, u, v⟩⟩ := p
  unfold Pu.v
  simp only at *
  go_enter Try.func12, Try.ntmps12
  go_wp2_with (go_at_call 20; refine stop ?_)
  refine Stop.go ((is_any l _).mono ?_)
  rintro e w0 ⟨rfl, rfl⟩
  obtain ⟨g0, hg0⟩ : ∃ g0, g0 = decide (inN l) := ⟨_, rfl⟩
  rw [← hg0]
  have G0 : Hid (P 0 = g0) := Lib.hid (S0.out.trans hg0.symm)
  clear hg0
  obtain ⟨w1, hw1⟩ : ∃ w1, w1 = w.alloc (.cells #[.int .i64 l, .int .i64 a, .int .i64 b, .int .i64 c, .int .i64 d, .int .i64 s, .int .i64 t, .int .i64 u, .int .i64 v] 26) := ⟨_, rfl⟩
  simp only [← hw1]
  have F := Lib.hid (hw1 ▸ (Fr.refl nob w).alloc _ : Fr nob w w1)
  have b1 : w1.heap[w.heap.size]? = some (.cells #[.int .i64 l, .int .i64 a, .int .i64 b, .int .i64 c, .int .i64 d, .int .i64 s, .int .i64 t, .int .i64 u, .int .i64 v] 26 (0, 0)) := hw1 ▸ obj_new rfl _
  have k0 : w1.cell? ⟨w.heap.size, 0, none⟩ = some (.int .i64 l) := obj_cell b1 0
  have k1 : w1.cell? ⟨w.heap.size, 1, none⟩ = some (.int .i64 a) := obj_cell b1 1
  have k2 : w1.cell? ⟨w.heap.size, 2, none⟩ = some (.int .i64 b) := obj_cell b1 2
  have k3 : w1.cell? ⟨w.heap.size, 3, none⟩ = some (.int .i64 c) := obj_cell b1 3
  have k4 : w1.cell? ⟨w.heap.size, 4, none⟩ = some (.int .i64 d) := obj_cell b1 4
  have k5 : w1.cell? ⟨w.heap.size, 5, none⟩ = some (.int .i64 s) := obj_cell b1 5
  have k6 : w1.cell? ⟨w.heap.size, 6, none⟩ = some (.int .i64 t) := obj_cell b1 6
  have k7 : w1.cell? ⟨w.heap.size, 7, none⟩ = some (.int .i64 u) := obj_cell b1 7
  have k8 : w1.cell? ⟨w.heap.size, 8, none⟩ = some (.int .i64 v) := obj_cell b1 8
  clear hw1 b1
  go_wp2_with fail
  go_loopg [3, 4] 4 (fun gk s3 s4 wr => ∃ k : Nat, k + gk = 4 ∧ s3 = .bool (P k) ∧ s4 = .int .i64 (k : Nat) ∧ wr = w1)
  case atStart => exact ⟨0, rfl, by rw [G0.out], rfl, rfl⟩
  case round =>
    obtain ⟨k, hk, rfl, rfl, rfl⟩ := hrel
    obtain rfl | rfl | rfl | rfl | rfl : k = 0 ∨ k = 1 ∨ k = 2 ∨ k = 3 ∨ k = 4 := by omega
    · have HS := S1
      obtain ⟨g, hg⟩ : ∃ g, g = P 0 := ⟨_, rfl⟩
      obtain ⟨x, hx⟩ : ∃ x, x = decide (inN a) := ⟨_, rfl⟩
      obtain ⟨y, hy⟩ : ∃ y, y = decide (inN s) := ⟨_, rfl⟩
      rw [← hg, ← hx, ← hy] at HS
      rw [← hg]
      have HX := Lib.hid hx
      have HY := Lib.hid hy
      clear hg hx hy
      go_wp2_with (go_at_call 20; refine stop ?_)
      refine Stop.go ((is_any a _).mono ?_)
      rintro e w2 ⟨rfl, rfl⟩
      rw [← HX.out]
      go_wp2_with (go_at_call 20; refine stop ?_)
      refine Stop.go ((is_any s _).mono ?_)
      rintro e w2 ⟨rfl, rfl⟩
      rw [← HY.out]
      clear HX HY
      cases g <;> cases x
      all_goals
        go_wp2
        go_roundg (gk - 1)
        case measure => omega
        case rel => exact ⟨1, by omega, by rw [HS.out]; rfl, rfl, rfl⟩
    · have HS := S2
      obtain ⟨g, hg⟩ : ∃ g, g = P 1 := ⟨_, rfl⟩
      obtain ⟨x, hx⟩ : ∃ x, x = decide (inN b) := ⟨_, rfl⟩
      obtain ⟨y, hy⟩ : ∃ y, y = decide (inN t) := ⟨_, rfl⟩
      rw [← hg, ← hx, ← hy] at HS
      rw [← hg]
      have HX := Lib.hid hx
      have HY := Lib.hid hy
      clear hg hx hy
      go_wp2_with (go_at_call 20; refine stop ?_)
      refine Stop.go ((is_any b _).mono ?_)
      rintro e w2 ⟨rfl, rfl⟩
      rw [← HX.out]
      go_wp2_with (go_at_call 20; refine stop ?_)
      refine Stop.go ((is_any t _).mono ?_)
      rintro e w2 ⟨rfl, rfl⟩
      rw [← HY.out]
      clear HX HY
      cases g <;> cases x
      all_goals
        go_wp2
        go_roundg (gk - 1)
        case measure => omega
        case rel => exact ⟨2, by omega, by rw [HS.out]; rfl, rfl, rfl⟩
    · have HS := S3
      obtain ⟨g, hg⟩ : ∃ g, g = P 2 := ⟨_, rfl⟩
      obtain ⟨x, hx⟩ : ∃ x, x = decide (inN c) := ⟨_, rfl⟩
      obtain ⟨y, hy⟩ : ∃ y, y = decide (inN u) := ⟨_, rfl⟩
      rw [← hg, ← hx, ← hy] at HS
      rw [← hg]
      have HX := Lib.hid hx
      have HY := Lib.hid hy
      clear hg hx hy
      go_wp2_with (go_at_call 20; refine stop ?_)
      refine Stop.go ((is_any c _).mono ?_)
      rintro e w2 ⟨rfl, rfl⟩
      rw [← HX.out]
      go_wp2_with (go_at_call 20; refine stop ?_)
      refine Stop.go ((is_any u _).mono ?_)
      rintro e w2 ⟨rfl, rfl⟩
      rw [← HY.out]
      clear HX HY
      cases g <;> cases x
      all_goals
        go_wp2
        go_roundg (gk - 1)
        case measure => omega
        case rel => exact ⟨3, by omega, by rw [HS.out]; rfl, rfl, rfl⟩
    · have HS := S4
      obtain ⟨g, hg⟩ : ∃ g, g = P 3 := ⟨_, rfl⟩
      obtain ⟨x, hx⟩ : ∃ x, x = decide (inN d) := ⟨_, rfl⟩
      obtain ⟨y, hy⟩ : ∃ y, y = decide (inN v) := ⟨_, rfl⟩
      rw [← hg, ← hx, ← hy] at HS
      rw [← hg]
      have HX := Lib.hid hx
      have HY := Lib.hid hy
      clear hg hx hy
      go_wp2_with (go_at_call 20; refine stop ?_)
      refine Stop.go ((is_any d _).mono ?_)
      rintro e w2 ⟨rfl, rfl⟩
      rw [← HX.out]
      go_wp2_with (go_at_call 20; refine stop ?_)
      refine Stop.go ((is_any v _).mono ?_)
      rintro e w2 ⟨rfl, rfl⟩
      rw [← HY.out]
      clear HX HY
      cases g <;> cases x
      all_goals
        go_wp2
        go_roundg (gk - 1)
        case measure => omega
        case rel => exact ⟨4, by omega, by rw [HS.out]; rfl, rfl, rfl⟩
    · go_wp2
      go_ret
      exact ⟨rfl, F.out⟩

set_option maxRecDepth 100000 in
theorem rmay_zero (p : Pu) (who ask : Int) (h : ¬ (p.ok ∧ strat who ∧ 0 ≤ ask)) (w : World) : Calls Try.prog 15 #[p.v, .int .i64 who, .int .i64 ask] w fun e w' => e = .returned (.int .i64 0) ∧ Fr nob w w' := by
  have R := Lib.hid (fun w => rright_any p w)
  obtain ⟨r, hr⟩ : ∃ r, r = decide p.ok := ⟨_, rfl⟩
  rw [← hr] at R
  have key : Hid (r = false ∨ who < 0 ∨ 3 < who ∨ ask < 0) := by
    show _ ∨ _
    by_cases h1 : p.ok
    · right; unfold strat at h; have : ¬ ((0 ≤ who ∧ who < 4) ∧ 0 ≤ ask) := fun x => h ⟨h1, x.1, x.2⟩
      omega
    · left; rw [hr]; exact decide_eq_false h1
  clear h hr
  unfold Pu.v at *
  go_enter Try.func15, Try.ntmps15
  go_wp2_with (go_at_call 12; refine stop ?_)
  refine Stop.go ((R.out _).mono ?_)
  rintro e w1 ⟨rfl, f1⟩
  have F := Lib.hid (((Fr.refl nob w).alloc _).trans f1 (U := nob) (fun _ _ x => x) (fun _ _ x => x))
  clear f1 R
  cases r
  · go_wp2
    go_ret
    exact ⟨rfl, F.out⟩
  · have K := key.out.resolve_left (by simp)
    by_cases h1 : who < 0
    · go_wp2
      go_ret
      exact ⟨rfl, F.out⟩
    · have d1 : decide (who < 0) = false := decide_eq_false h1
      by_cases h2 : 3 < who
      · go_wp2
        go_ret
        exact ⟨rfl, F.out⟩
      · have d2 : decide (3 < who) = false := decide_eq_false h2
        have h3 : ask < 0 := by omega
        go_wp2
        go_ret
        exact ⟨rfl, F.out⟩

set_option maxRecDepth 100000 in
set_option maxHeartbeats 1000000 in
theorem rmay_good (p : Pu) (who ask : Int) (h : p.ok) (h2 : strat who) (h3 : 0 ≤ ask) (w : World) : Calls Try.prog 15 #[p.v, .int .i64 who, .int .i64 ask] w fun e w' => e = .returned (.int .i64 (min (min ask p.l) (p.e.get who))) ∧ Fr nob w w' := by
  have R := Lib.hid (fun w => rright_any p w)
  rw [decide_eq_true h] at R
  obtain ⟨m, hm⟩ : ∃ m, m = min (min ask p.l) (p.e.get who) := ⟨_, rfl⟩
  rw [← hm]
  obtain ⟨l, ⟨a, b, c, d⟩, ⟨s, t, u, v⟩⟩ := p
  unfold strat at h2
  have HM := Lib.hid hm
  have d1 : decide (who < 0) = false := decide_eq_false (by omega)
  have d2 : decide (3 < who) = false := decide_eq_false (by omega)
  have d3 : decide (ask < 0) = false := decide_eq_false (by omega)
  clear h hm
  unfold Pu.v at *
  simp only at *
  go_enter Try.func15, Try.ntmps15
  go_wp2_with (go_at_call 12; refine stop ?_)
  refine Stop.go ((R.out _).mono ?_)
  rintro e w1 ⟨rfl, f1⟩
  have b1 : w1.heap[w.heap.size]? = some (.cells #[.int .i64 l, .int .i64 a, .int .i64 b, .int .i64 c, .int .i64 d, .int .i64 s, .int .i64 t, .int .i64 u, .int .i64 v] 26 (0, 0)) := f1.heap_some (obj_new (w := w) rfl _) (fun x => x)
  have F := Lib.hid (((Fr.refl nob w).alloc _).trans f1 (U := nob) (fun _ _ x => x) (fun _ _ x => x))
  have k0 : w1.cell? ⟨w.heap.size, 0, none⟩ = some (.int .i64 l) := obj_cell b1 0
  have k1 : w1.cell? ⟨w.heap.size, 1, none⟩ = some (.int .i64 a) := obj_cell b1 1
  have k2 : w1.cell? ⟨w.heap.size, 2, none⟩ = some (.int .i64 b) := obj_cell b1 2
  have k3 : w1.cell? ⟨w.heap.size, 3, none⟩ = some (.int .i64 c) := obj_cell b1 3
  have k4 : w1.cell? ⟨w.heap.size, 4, none⟩ = some (.int .i64 d) := obj_cell b1 4
  have k5 : w1.cell? ⟨w.heap.size, 5, none⟩ = some (.int .i64 s) := obj_cell b1 5
  have k6 : w1.cell? ⟨w.heap.size, 6, none⟩ = some (.int .i64 t) := obj_cell b1 6
  have k7 : w1.cell? ⟨w.heap.size, 7, none⟩ = some (.int .i64 u) := obj_cell b1 7
  have k8 : w1.cell? ⟨w.heap.size, 8, none⟩ = some (.int .i64 v) := obj_cell b1 8
  clear f1 b1 R
  go_wp2_with fail
  clear d1 d2 d3
  obtain rfl | rfl | rfl | rfl : who = 0 ∨ who = 1 ∨ who = 2 ∨ who = 3 := by omega
  all_goals
    refine region_tail 7 (by kernel_rfl) (by kernel_rfl) ?_
    simp only [List.take_succ_cons, List.take_zero, List.drop_succ_cons, List.drop_zero]
    repeat still_step
    refine wpStill_nil ?_
    go_wp2
  all_goals
    go_ret
    refine ⟨?_, F.out.drew⟩
    have hm := HM.out
    simp [Q4.get] at hm
    rw [hm]
    simp
    try omega

theorem rmay_any (p : Pu) (who ask : Int) (w : World) : Calls Try.prog 15 #[p.v, .int .i64 who, .int .i64 ask] w fun e w' => e = .returned (.int .i64 (may p who ask)) ∧ Fr nob w w' := by
  by_cases h : p.ok ∧ strat who ∧ 0 ≤ ask
  · have e : may p who ask = min (min ask p.l) (p.e.get who) := by
      unfold may
      rw [if_pos ⟨h.1, h.2.1⟩]
      have h1 : 0 ≤ p.l := h.1.1.1
      have h2 : 0 ≤ p.e.get who := by
        obtain ⟨⟨x1, _⟩, ⟨x2, _⟩, ⟨x3, _⟩, x4, _⟩ := h.1.2.1
        unfold Q4.get
        split
        · exact x1
        · split
          · exact x2
          · split
            · exact x3
            · exact x4
      have := h.2.2
      omega
    rw [e]
    exact rmay_good p who ask h.1 h.2.1 h.2.2 w
  · have e : may p who ask = 0 := by
      unfold may
      split
      · rename_i h1
        have : ask < 0 := by
          have : ¬ 0 ≤ ask := fun x => h ⟨h1.1, h1.2, x⟩
          omega
        omega
      · rfl
    rw [e]
    exact rmay_zero p who ask h w

set_option maxRecDepth 100000 in
theorem rall_bad (p : Pu) (h : ¬ p.ok) (w : World) : Calls Try.prog 17 #[p.v] w fun e w' => e = .returned (.int .i64 0) ∧ Fr nob w w' := by
  have R := Lib.hid (fun w => rright_any p w)
  rw [decide_eq_false h] at R
  clear h
  unfold Pu.v at *
  go_enter Try.func17, Try.ntmps17
  go_wp2_with (go_at_call 12; refine stop ?_)
  refine Stop.go ((R.out _).mono ?_)
  rintro e w1 ⟨rfl, f1⟩
  have F := Lib.hid (((Fr.refl nob w).alloc _).trans f1 (U := nob) (fun _ _ x => x) (fun _ _ x => x))
  clear f1
  go_wp2
  go_ret
  exact ⟨rfl, F.out⟩

set_option maxRecDepth 100000 in
set_option maxHeartbeats 1000000 in
theorem rall_good (l a b c d s t u v m : Int) (h : Pu.ok ⟨l, ⟨a, b, c, d⟩, ⟨s, t, u, v⟩⟩) (hm : m = min (s + t + u + v) 2147483647) (w : World) : Calls Try.prog 17 #[.agg #[.int .i64 l, .int .i64 a, .int .i64 b, .int .i64 c, .int .i64 d, .int .i64 s, .int .i64 t, .int .i64 u, .int .i64 v]] w fun e w' => e = .returned (.int .i64 m) ∧ Fr nob w w' := by
  have R := Lib.hid (fun w => rright_any ⟨l, ⟨a, b, c, d⟩, ⟨s, t, u, v⟩⟩ w)
  rw [decide_eq_true h] at R
  have HM := Lib.hid hm
  obtain ⟨hs, ht, hu, hv⟩ : (0 ≤ s ∧ s ≤ 2147483647) ∧ (0 ≤ t ∧ t ≤ 2147483647) ∧ (0 ≤ u ∧ u ≤ 2147483647) ∧ (0 ≤ v ∧ v ≤ 2147483647) := h.2.2
  clear h hm
  unfold Pu.v at *
  simp only at *
  go_enter Try.func17, Try.ntmps17
  go_wp2_with (go_at_call 12; refine stop ?_)
  refine Stop.go ((R.out _).mono ?_)
  rintro e w1 ⟨rfl, f1⟩
  have b1 : w1.heap[w.heap.size]? = some (.cells #[.int .i64 l, .int .i64 a, .int .i64 b, .int .i64 c, .int .i64 d, .int .i64 s, .int .i64 t, .int .i64 u, .int .i64 v] 26 (0, 0)) := f1.heap_some (obj_new rfl _) (fun x => x)
  have F := Lib.hid (((Fr.refl nob w).alloc _).trans f1 (U := nob) (fun _ _ x => x) (fun _ _ x => x))
  have k0 : w1.cell? ⟨w.heap.size, 0, none⟩ = some (.int .i64 l) := obj_cell b1 0
  have k1 : w1.cell? ⟨w.heap.size, 1, none⟩ = some (.int .i64 a) := obj_cell b1 1
  have k2 : w1.cell? ⟨w.heap.size, 2, none⟩ = some (.int .i64 b) := obj_cell b1 2
  have k3 : w1.cell? ⟨w.heap.size, 3, none⟩ = some (.int .i64 c) := obj_cell b1 3
  have k4 : w1.cell? ⟨w.heap.size, 4, none⟩ = some (.int .i64 d) := obj_cell b1 4
  have k5 : w1.cell? ⟨w.heap.size, 5, none⟩ = some (.int .i64 s) := obj_cell b1 5
  have k6 : w1.cell? ⟨w.heap.size, 6, none⟩ = some (.int .i64 t) := obj_cell b1 6
  have k7 : w1.cell? ⟨w.heap.size, 7, none⟩ = some (.int .i64 u) := obj_cell b1 7
  have k8 : w1.cell? ⟨w.heap.size, 8, none⟩ = some (.int .i64 v) := obj_cell b1 8
  clear f1 b1 R
  go_wp2
  all_goals
    go_ret
    refine ⟨?_, F.out⟩
    rw [HM.out]
    simp
    try omega

theorem rall_any (p : Pu) (w : World) : Calls Try.prog 17 #[p.v] w fun e w' => e = .returned (.int .i64 (all p)) ∧ Fr nob w w' := by
  unfold all
  by_cases h : p.ok
  · rw [if_pos h]; exact rall_good p.l p.e.a p.e.b p.e.c p.e.d p.s.a p.s.b p.s.c p.s.d _ h rfl w
  · rw [if_neg h]; exact rall_bad p h w

end Go.Proofs.Ytdlbihndghofcaa
