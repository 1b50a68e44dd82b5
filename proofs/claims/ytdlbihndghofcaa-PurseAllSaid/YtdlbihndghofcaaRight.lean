/- The purse: Right, strategy. -/
import Derived.Test.YtdlbihndghofcaaEq
import Derived.Test.YtdlbihndghofcaaGrow
namespace Go.Proofs.Ytdlbihndghofcaa
open Go.RowKit
set_option linter.unusedSimpArgs false

/-- A number. -/
def inN (x : Int) : Prop := 0 ≤ x ∧ x ≤ 2147483647
instance (x : Int) : Decidable (inN x) := by unfold inN; exact inferInstance
theorem kp_iff (x : Int) : kp x = x ↔ inN x := by unfold kp inN; omega
def Q4.ok (q : Q4) : Prop := inN q.a ∧ inN q.b ∧ inN q.c ∧ inN q.d
instance (q : Q4) : Decidable q.ok := by unfold Q4.ok; exact inferInstance
def Pu.ok (p : Pu) : Prop := inN p.l ∧ p.e.ok ∧ p.s.ok
instance (p : Pu) : Decidable p.ok := by unfold Pu.ok; exact inferInstance

set_option maxRecDepth 100000 in
theorem strategy_any (who : Int) (w : World) : Calls Try.prog 18 #[.int .i64 who] w fun e w' => e = .returned (.bool (decide (0 ≤ who ∧ who < 4))) ∧ w = w' := by
  by_cases h0 : 0 ≤ who
  · by_cases h2 : who < 4
    · rw [show decide (0 ≤ who ∧ who < 4) = true from decide_eq_true ⟨h0, h2⟩]
      go_enter Try.func18, Try.ntmps18
      go_wp2
      go_ret
      exact ⟨rfl, rfl⟩
    · rw [show decide (0 ≤ who ∧ who < 4) = false from decide_eq_false (fun h => h2 h.2)]
      have h3 : decide (who < 4) = false := decide_eq_false h2
      go_enter Try.func18, Try.ntmps18
      go_wp2
      go_ret
      exact ⟨rfl, rfl⟩
  · rw [show decide (0 ≤ who ∧ who < 4) = false from decide_eq_false (fun h => h0 h.1)]
    have h1 : decide (0 ≤ who) = false := decide_eq_false h0
    go_enter Try.func18, Try.ntmps18
    go_wp2
    go_ret
    exact ⟨rfl, rfl⟩

set_option maxRecDepth 100000 in
theorem is_any (x : Int) (w : World) : Calls Try.prog 20 #[.int .i64 x] w fun e w' => e = .returned (.bool (decide (inN x))) ∧ w = w' := by
  by_cases h0 : 0 ≤ x
  · by_cases h2 : x ≤ 2147483647
    · rw [show decide (inN x) = true from decide_eq_true ⟨h0, h2⟩]
      go_enter Try.func20, Try.ntmps20
      go_wp2
      go_ret
      exact ⟨rfl, rfl⟩
    · rw [show decide (inN x) = false from decide_eq_false (fun h => h2 h.2)]
      have h3 : decide (x ≤ 2147483647) = false := decide_eq_false h2
      go_enter Try.func20, Try.ntmps20
      go_wp2
      go_ret
      exact ⟨rfl, rfl⟩
  · rw [show decide (inN x) = false from decide_eq_false (fun h => h0 h.1)]
    have h1 : decide (0 ≤ x) = false := decide_eq_false h0
    go_enter Try.func20, Try.ntmps20
    go_wp2
    go_ret
    exact ⟨rfl, rfl⟩

theorem kept_at (a b c d : Int) (w : World) : Calls Try.prog 19 #[.agg #[.int .i64 a, .int .i64 b, .int .i64 c, .int .i64 d]] w fun e w' => e = .returned (.agg #[.int .i64 (kp a), .int .i64 (kp b), .int .i64 (kp c), .int .i64 (kp d)]) ∧ Fr nob w w' := kept_any ⟨a, b, c, d⟩ w
theorem kept_eq (a b c d : Int) (h : inN a ∧ inN b ∧ inN c ∧ inN d) (w : World) : (Op.equalIn 10000 22 (.agg #[.int .i64 (kp a), .int .i64 (kp b), .int .i64 (kp c), .int .i64 (kp d)]) (.agg #[.int .i64 a, .int .i64 b, .int .i64 c, .int .i64 d])).run Try.prog w = .ok true w := by
  rw [eq4, decide_eq_true (by rw [(kp_iff a).2 h.1, (kp_iff b).2 h.2.1, (kp_iff c).2 h.2.2.1, (kp_iff d).2 h.2.2.2])]
theorem kept_ne (a b c d : Int) (h : ¬ (inN a ∧ inN b ∧ inN c ∧ inN d)) (w : World) : (Op.equalIn 10000 22 (.agg #[.int .i64 (kp a), .int .i64 (kp b), .int .i64 (kp c), .int .i64 (kp d)]) (.agg #[.int .i64 a, .int .i64 b, .int .i64 c, .int .i64 d])).run Try.prog w = .ok false w := by
  rw [eq4, decide_eq_false (fun e => h (by simp only [Q4.mk.injEq, kp_iff] at e; exact e))]

set_option maxRecDepth 100000 in
theorem right_e (l a b c d s t u v : Int) (h0 : 0 ≤ l) (h1 : l ≤ 2147483647) (E1 : ∀ w, (Op.equalIn 10000 22 (.agg #[.int .i64 (kp a), .int .i64 (kp b), .int .i64 (kp c), .int .i64 (kp d)]) (.agg #[.int .i64 a, .int .i64 b, .int .i64 c, .int .i64 d])).run Try.prog w = .ok false w) (w : World) :
    Calls Try.prog 13 #[.agg #[.int .i64 l, .int .i64 a, .int .i64 b, .int .i64 c, .int .i64 d, .int .i64 s, .int .i64 t, .int .i64 u, .int .i64 v]] w fun e w' => e = .returned (.bool false) ∧ Fr nob w w' := by
  go_enter Try.func13, Try.ntmps13
  go_wp2_with fail
  obtain ⟨w1, hw1⟩ : ∃ w1, w1 = w.alloc (.cells #[.int .i64 l, .int .i64 a, .int .i64 b, .int .i64 c, .int .i64 d, .int .i64 s, .int .i64 t, .int .i64 u, .int .i64 v] 24) := ⟨_, rfl⟩
  rw [← hw1]
  have F := Lib.hid (hw1 ▸ (Fr.refl nob w).alloc _ : Fr nob w w1)
  have b1 : w1.heap[w.heap.size]? = some (.cells #[.int .i64 l, .int .i64 a, .int .i64 b, .int .i64 c, .int .i64 d, .int .i64 s, .int .i64 t, .int .i64 u, .int .i64 v] 24 (0, 0)) := hw1 ▸ obj_new rfl _
  have m0 : ∀ x : Grown w1, x.w.cell? ⟨w.heap.size, 0, none⟩ = some (.int .i64 l) := Grown.cell (obj_cell b1 0)
  have m1 : ∀ x : Grown w1, x.w.cell? ⟨w.heap.size, 1, none⟩ = some (.int .i64 a) := Grown.cell (obj_cell b1 1)
  have m2 : ∀ x : Grown w1, x.w.cell? ⟨w.heap.size, 2, none⟩ = some (.int .i64 b) := Grown.cell (obj_cell b1 2)
  have m3 : ∀ x : Grown w1, x.w.cell? ⟨w.heap.size, 3, none⟩ = some (.int .i64 c) := Grown.cell (obj_cell b1 3)
  have m4 : ∀ x : Grown w1, x.w.cell? ⟨w.heap.size, 4, none⟩ = some (.int .i64 d) := Grown.cell (obj_cell b1 4)
  have m5 : ∀ x : Grown w1, x.w.cell? ⟨w.heap.size, 5, none⟩ = some (.int .i64 s) := Grown.cell (obj_cell b1 5)
  have m6 : ∀ x : Grown w1, x.w.cell? ⟨w.heap.size, 6, none⟩ = some (.int .i64 t) := Grown.cell (obj_cell b1 6)
  have m7 : ∀ x : Grown w1, x.w.cell? ⟨w.heap.size, 7, none⟩ = some (.int .i64 u) := Grown.cell (obj_cell b1 7)
  have m8 : ∀ x : Grown w1, x.w.cell? ⟨w.heap.size, 8, none⟩ = some (.int .i64 v) := Grown.cell (obj_cell b1 8)
  clear hw1 b1
  refine region_grown (by kernel_rfl) (by kernel_rfl) ?_
  repeat (go_big_quiet_step ((go_at_call 19; exact Grown.call _ (kept_at _ _ _ _ _))))
  refine wpQuiet_nil ?_
  rintro _ ⟨⟨w9, f9⟩, rfl⟩
  have F9 := Lib.hid (F.out.step f9)
  clear f9
  go_wp2
  go_ret
  exact ⟨rfl, F9.out⟩

set_option maxRecDepth 100000 in
theorem right_s (l a b c d s t u v : Int) (h0 : 0 ≤ l) (h1 : l ≤ 2147483647) (E1 : ∀ w, (Op.equalIn 10000 22 (.agg #[.int .i64 (kp a), .int .i64 (kp b), .int .i64 (kp c), .int .i64 (kp d)]) (.agg #[.int .i64 a, .int .i64 b, .int .i64 c, .int .i64 d])).run Try.prog w = .ok true w) (E2 : ∀ w, (Op.equalIn 10000 22 (.agg #[.int .i64 (kp s), .int .i64 (kp t), .int .i64 (kp u), .int .i64 (kp v)]) (.agg #[.int .i64 s, .int .i64 t, .int .i64 u, .int .i64 v])).run Try.prog w = .ok false w) (w : World) :
    Calls Try.prog 13 #[.agg #[.int .i64 l, .int .i64 a, .int .i64 b, .int .i64 c, .int .i64 d, .int .i64 s, .int .i64 t, .int .i64 u, .int .i64 v]] w fun e w' => e = .returned (.bool false) ∧ Fr nob w w' := by
  go_enter Try.func13, Try.ntmps13
  go_wp2_with fail
  obtain ⟨w1, hw1⟩ : ∃ w1, w1 = w.alloc (.cells #[.int .i64 l, .int .i64 a, .int .i64 b, .int .i64 c, .int .i64 d, .int .i64 s, .int .i64 t, .int .i64 u, .int .i64 v] 24) := ⟨_, rfl⟩
  rw [← hw1]
  have F := Lib.hid (hw1 ▸ (Fr.refl nob w).alloc _ : Fr nob w w1)
  have b1 : w1.heap[w.heap.size]? = some (.cells #[.int .i64 l, .int .i64 a, .int .i64 b, .int .i64 c, .int .i64 d, .int .i64 s, .int .i64 t, .int .i64 u, .int .i64 v] 24 (0, 0)) := hw1 ▸ obj_new rfl _
  have m0 : ∀ x : Grown w1, x.w.cell? ⟨w.heap.size, 0, none⟩ = some (.int .i64 l) := Grown.cell (obj_cell b1 0)
  have m1 : ∀ x : Grown w1, x.w.cell? ⟨w.heap.size, 1, none⟩ = some (.int .i64 a) := Grown.cell (obj_cell b1 1)
  have m2 : ∀ x : Grown w1, x.w.cell? ⟨w.heap.size, 2, none⟩ = some (.int .i64 b) := Grown.cell (obj_cell b1 2)
  have m3 : ∀ x : Grown w1, x.w.cell? ⟨w.heap.size, 3, none⟩ = some (.int .i64 c) := Grown.cell (obj_cell b1 3)
  have m4 : ∀ x : Grown w1, x.w.cell? ⟨w.heap.size, 4, none⟩ = some (.int .i64 d) := Grown.cell (obj_cell b1 4)
  have m5 : ∀ x : Grown w1, x.w.cell? ⟨w.heap.size, 5, none⟩ = some (.int .i64 s) := Grown.cell (obj_cell b1 5)
  have m6 : ∀ x : Grown w1, x.w.cell? ⟨w.heap.size, 6, none⟩ = some (.int .i64 t) := Grown.cell (obj_cell b1 6)
  have m7 : ∀ x : Grown w1, x.w.cell? ⟨w.heap.size, 7, none⟩ = some (.int .i64 u) := Grown.cell (obj_cell b1 7)
  have m8 : ∀ x : Grown w1, x.w.cell? ⟨w.heap.size, 8, none⟩ = some (.int .i64 v) := Grown.cell (obj_cell b1 8)
  clear hw1 b1
  refine region_grown (by kernel_rfl) (by kernel_rfl) ?_
  repeat (go_big_quiet_step ((go_at_call 19; exact Grown.call _ (kept_at _ _ _ _ _))))
  refine wpQuiet_nil ?_
  rintro _ ⟨⟨w9, f9⟩, rfl⟩
  have F9 := Lib.hid (F.out.step f9)
  clear f9
  go_wp2
  go_ret
  exact ⟨rfl, F9.out⟩

set_option maxRecDepth 100000 in
theorem right_t (l a b c d s t u v : Int) (h0 : 0 ≤ l) (h1 : l ≤ 2147483647) (E1 : ∀ w, (Op.equalIn 10000 22 (.agg #[.int .i64 (kp a), .int .i64 (kp b), .int .i64 (kp c), .int .i64 (kp d)]) (.agg #[.int .i64 a, .int .i64 b, .int .i64 c, .int .i64 d])).run Try.prog w = .ok true w) (E2 : ∀ w, (Op.equalIn 10000 22 (.agg #[.int .i64 (kp s), .int .i64 (kp t), .int .i64 (kp u), .int .i64 (kp v)]) (.agg #[.int .i64 s, .int .i64 t, .int .i64 u, .int .i64 v])).run Try.prog w = .ok true w) (w : World) :
    Calls Try.prog 13 #[.agg #[.int .i64 l, .int .i64 a, .int .i64 b, .int .i64 c, .int .i64 d, .int .i64 s, .int .i64 t, .int .i64 u, .int .i64 v]] w fun e w' => e = .returned (.bool true) ∧ Fr nob w w' := by
  go_enter Try.func13, Try.ntmps13
  go_wp2_with fail
  obtain ⟨w1, hw1⟩ : ∃ w1, w1 = w.alloc (.cells #[.int .i64 l, .int .i64 a, .int .i64 b, .int .i64 c, .int .i64 d, .int .i64 s, .int .i64 t, .int .i64 u, .int .i64 v] 24) := ⟨_, rfl⟩
  rw [← hw1]
  have F := Lib.hid (hw1 ▸ (Fr.refl nob w).alloc _ : Fr nob w w1)
  have b1 : w1.heap[w.heap.size]? = some (.cells #[.int .i64 l, .int .i64 a, .int .i64 b, .int .i64 c, .int .i64 d, .int .i64 s, .int .i64 t, .int .i64 u, .int .i64 v] 24 (0, 0)) := hw1 ▸ obj_new rfl _
  have m0 : ∀ x : Grown w1, x.w.cell? ⟨w.heap.size, 0, none⟩ = some (.int .i64 l) := Grown.cell (obj_cell b1 0)
  have m1 : ∀ x : Grown w1, x.w.cell? ⟨w.heap.size, 1, none⟩ = some (.int .i64 a) := Grown.cell (obj_cell b1 1)
  have m2 : ∀ x : Grown w1, x.w.cell? ⟨w.heap.size, 2, none⟩ = some (.int .i64 b) := Grown.cell (obj_cell b1 2)
  have m3 : ∀ x : Grown w1, x.w.cell? ⟨w.heap.size, 3, none⟩ = some (.int .i64 c) := Grown.cell (obj_cell b1 3)
  have m4 : ∀ x : Grown w1, x.w.cell? ⟨w.heap.size, 4, none⟩ = some (.int .i64 d) := Grown.cell (obj_cell b1 4)
  have m5 : ∀ x : Grown w1, x.w.cell? ⟨w.heap.size, 5, none⟩ = some (.int .i64 s) := Grown.cell (obj_cell b1 5)
  have m6 : ∀ x : Grown w1, x.w.cell? ⟨w.heap.size, 6, none⟩ = some (.int .i64 t) := Grown.cell (obj_cell b1 6)
  have m7 : ∀ x : Grown w1, x.w.cell? ⟨w.heap.size, 7, none⟩ = some (.int .i64 u) := Grown.cell (obj_cell b1 7)
  have m8 : ∀ x : Grown w1, x.w.cell? ⟨w.heap.size, 8, none⟩ = some (.int .i64 v) := Grown.cell (obj_cell b1 8)
  clear hw1 b1
  refine region_grown (by kernel_rfl) (by kernel_rfl) ?_
  repeat (go_big_quiet_step ((go_at_call 19; exact Grown.call _ (kept_at _ _ _ _ _))))
  refine wpQuiet_nil ?_
  rintro _ ⟨⟨w9, f9⟩, rfl⟩
  have F9 := Lib.hid (F.out.step f9)
  clear f9
  go_wp2
  go_ret
  exact ⟨rfl, F9.out⟩

set_option maxRecDepth 100000 in
theorem right_any (p : Pu) (w : World) : Calls Try.prog 13 #[p.v] w fun e w' => e = .returned (.bool (decide p.ok)) ∧ Fr nob w w' := by
  obtain ⟨l, ⟨a, b, c, d⟩, ⟨s, t, u, v⟩⟩ := p
  by_cases h0 : 0 ≤ l
  · by_cases h1 : l ≤ 2147483647
    · by_cases he : inN a ∧ inN b ∧ inN c ∧ inN d
      · by_cases hs : inN s ∧ inN t ∧ inN u ∧ inN v
        · have hk : Pu.ok (⟨l, ⟨a, b, c, d⟩, ⟨s, t, u, v⟩⟩ : Pu) := ⟨⟨h0, h1⟩, he, hs⟩
          rw [decide_eq_true hk]
          exact right_t l a b c d s t u v h0 h1 (kept_eq a b c d he) (kept_eq s t u v hs) w
        · have hk : ¬ Pu.ok (⟨l, ⟨a, b, c, d⟩, ⟨s, t, u, v⟩⟩ : Pu) := fun h => hs h.2.2
          rw [decide_eq_false hk]
          exact right_s l a b c d s t u v h0 h1 (kept_eq a b c d he) (kept_ne s t u v hs) w
      · have hk : ¬ Pu.ok (⟨l, ⟨a, b, c, d⟩, ⟨s, t, u, v⟩⟩ : Pu) := fun h => he h.2.1
        rw [decide_eq_false hk]
        exact right_e l a b c d s t u v h0 h1 (kept_ne a b c d he) w
    · have hk : ¬ Pu.ok (⟨l, ⟨a, b, c, d⟩, ⟨s, t, u, v⟩⟩ : Pu) := fun h => h1 h.1.2
      rw [decide_eq_false hk]
      unfold Pu.v
      simp only
      have hd : decide (l ≤ 2147483647) = false := by simpa using h1
      go_enter Try.func13, Try.ntmps13
      go_wp2_with fail
      go_quiet (fail)
      go_wp2
      go_ret
      exact ⟨rfl, ((Fr.refl nob w).alloc _).drewN _⟩
  · have hk : ¬ Pu.ok (⟨l, ⟨a, b, c, d⟩, ⟨s, t, u, v⟩⟩ : Pu) := fun h => h0 h.1.1
    rw [decide_eq_false hk]
    unfold Pu.v
    simp only
    have hd : decide (0 ≤ l) = false := by simpa using h0
    go_enter Try.func13, Try.ntmps13
    go_wp2_with fail
    go_quiet (fail)
    go_wp2
    go_ret
    exact ⟨rfl, ((Fr.refl nob w).alloc _).drewN _⟩

end Go.Proofs.Ytdlbihndghofcaa
