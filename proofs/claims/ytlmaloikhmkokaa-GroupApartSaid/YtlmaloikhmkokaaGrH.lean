/- Plain, One, Same. -/
import Derived.Test.YtlmaloikhmkokaaGrE
namespace Go.Proofs.Ytlmaloikhmkokaa
open Go.RowKit

theorem appTx40' : AppT Try.prog 30 40 4 48 := AppT.of Try.underlying30 (z := .agg #[.int .i64 0, .bool false, .int .i64 0, .slice none 0 0]) (by kernel_rfl) rfl (by decide)
/-- Are two the same, but for where they begin? -/
def oneB (a b : Tx) : Bool := a.s == b.s && a.d == b.d && decide (a.o = b.o)

set_option maxRecDepth 100000 in
set_option maxHeartbeats 1000000 in
theorem one_any (x y : Tx) (sx sy : Value) (w : World) (h : RE w sx x.o) (h' : RE w sy y.o) :
    Calls Try.prog 15 #[.agg #[.int .i64 x.s, .bool x.d, .int .i64 x.f, sx], .agg #[.int .i64 y.s, .bool y.d, .int .i64 y.f, sy]] w fun e w' => e = .returned (.bool (oneB x y)) ∧ Fr nob w w' := by
  obtain ⟨a1, n1, rfl, hb1⟩ := h.slice
  obtain ⟨a2, n2, rfl, hb2⟩ := h'.slice
  obtain ⟨xs, xd, xf, xo⟩ := x
  obtain ⟨ys, yd, yf, yo⟩ := y
  simp only at *
  have H := Lib.hid (h.fr (((Fr.refl nob w).alloc (.cells #[.int .i64 xs, .bool xd, .int .i64 xf, .slice a1 xo.length n1] 40)).alloc (.cells #[.int .i64 ys, .bool yd, .int .i64 yf, .slice a2 yo.length n2] 40)))
  have H' := Lib.hid (h'.fr (((Fr.refl nob w).alloc (.cells #[.int .i64 xs, .bool xd, .int .i64 xf, .slice a1 xo.length n1] 40)).alloc (.cells #[.int .i64 ys, .bool yd, .int .i64 yf, .slice a2 yo.length n2] 40)))
  obtain ⟨O, hO⟩ : ∃ O, O = decide (xo = yo) := ⟨_, rfl⟩
  have HO := Lib.hid hO
  clear h h' hO
  go_enter Try.func15, Try.ntmps15
  go_wp2_with (go_at_call 12; refine stop ?_)
  refine Stop.go ((same_any _ _ xo yo _ H.out H'.out).mono ?_)
  rintro e w1 ⟨rfl, f1⟩
  rw [← HO.out]
  have o1 : w1.heap[w.heap.size]? = some (.cells #[.int .i64 xs, .bool xd, .int .i64 xf, .slice a1 xo.length n1] 40 (0, 0)) := f1.heap_some (obj_alloc (obj_new rfl _) _) (fun x => x)
  have o2 : w1.heap[w.heap.size + 1]? = some (.cells #[.int .i64 ys, .bool yd, .int .i64 yf, .slice a2 yo.length n2] 40 (0, 0)) := f1.heap_some (obj_new (by simp) _) (fun x => x)
  have c0 : w1.cell? ⟨w.heap.size, 0, none⟩ = some (.int .i64 xs) := obj_cell o1 0
  have c1 : w1.cell? ⟨w.heap.size, 1, none⟩ = some (.bool xd) := obj_cell o1 1
  have e0 : w1.cell? ⟨w.heap.size + 1, 0, none⟩ = some (.int .i64 ys) := obj_cell o2 0
  have e1 : w1.cell? ⟨w.heap.size + 1, 1, none⟩ = some (.bool yd) := obj_cell o2 1
  have F1 := Lib.hid ((((Fr.refl nob w).alloc _).alloc _).step f1)
  clear o1 o2 f1 H H'
  by_cases q : xs = ys
  · have q' : (xs == ys) = true := by simpa using q
    have RES : Hid (oneB ⟨xs, xd, xf, xo⟩ ⟨ys, yd, yf, yo⟩ = (xd == yd && O)) := Lib.hid (by simp [oneB, q, HO.out])
    clear q
    cases xd <;> cases yd
    all_goals
      go_wp2
      go_ret
      exact ⟨ret_bool (by rw [RES.out]; rfl), F1.out⟩
  · have q' : (xs == ys) = false := by simpa using q
    have RES : Hid (oneB ⟨xs, xd, xf, xo⟩ ⟨ys, yd, yf, yo⟩ = false) := Lib.hid (by simp [oneB, q])
    clear q
    go_wp2
    go_ret
    exact ⟨ret_bool (by rw [RES.out]), F1.out⟩

theorem RT.of_row {w : World} {B : Nat} {te : TypeId} {v : Value} {n : Nat} {L : List (Tx × Value)} (hn : n = L.length) (h : w.ownsRow B te 4 v n (tc L)) (ho : ∀ x ∈ L, RE w x.2 x.1.o) : RT w v (L.map Prod.fst) := by
  subst hn
  rcases h.2 with ⟨rfl, h0⟩ | ⟨g, cap, cur, rfl, hb, hg, hn, hc, hs, ht⟩
  · have : L = [] := List.eq_nil_of_length_eq_zero h0
    subst this
    exact RT.nil w
  · refine ⟨_, g, 0, cap, by simp, by simpa using hn, hc, .inr rfl, fun j t hj => ?_⟩
    rw [List.getElem?_map, Option.map_eq_some_iff] at hj
    obtain ⟨x, hx, rfl⟩ := hj
    have key : ∀ i u, i < 4 → (Tx.cells x)[i]? = some u → w.cell? ⟨g, 0 + j * 4 + i, none⟩ = some u := fun i u hi hu => by
      have c1 := h.cells (g := g) rfl (j * 4 + i) u (by rw [tc, flat4 Tx.cells (fun _ => rfl) L j i x hx hi]; exact hu)
      rw [Addr.add_lit] at c1
      rw [Nat.add_assoc]
      exact c1
    exact ⟨x.2, by have := key 0 _ (by omega) rfl; simpa using this, key 1 _ (by omega) rfl, key 2 _ (by omega) rfl, key 3 _ (by omega) rfl, ho x (List.mem_of_getElem? hx)⟩


end Go.Proofs.Ytlmaloikhmkokaa
