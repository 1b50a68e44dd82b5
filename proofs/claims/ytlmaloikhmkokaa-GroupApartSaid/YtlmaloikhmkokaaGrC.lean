/- Rows of events in memory; two of them compared. -/
import Derived.Test.YtlmaloikhmkokaaGrA
import Derived.Test.YtlmaloikhmkokaaOpen
import Derived.Laws.StructEq
namespace Go.Proofs.Ytlmaloikhmkokaa
open Go.RowKit

/-- Events that lie in memory. -/
def EAt (w : World) (a : Option Addr) (b off : Nat) (es : List Ev) : Prop :=
  (es = [] ∨ a = some ⟨b, off, none⟩) ∧ ∀ j e, es[j]? = some e → w.cell? ⟨b, off + j * 4, none⟩ = some (.int .i64 e.k) ∧ w.cell? ⟨b, off + j * 4 + 1, none⟩ = some (.int .i64 e.s) ∧ w.cell? ⟨b, off + j * 4 + 2, none⟩ = some (.int .i64 e.y) ∧ w.cell? ⟨b, off + j * 4 + 3, none⟩ = some (.int .i64 e.v)
theorem EAt.nob {w w' : World} {a : Option Addr} {b off : Nat} {es : List Ev} (h : EAt w a b off es) (f : Fr nob w w') : EAt w' a b off es :=
  ⟨h.1, fun j e hj => by
    obtain ⟨h1, h2, h3, h4⟩ := h.2 j e hj
    exact ⟨f.cell_some h1 (fun x => x), f.cell_some h2 (fun x => x), f.cell_some h3 (fun x => x), f.cell_some h4 (fun x => x)⟩⟩
theorem EAt.addr {w : World} {a : Option Addr} {b off k : Nat} {es : List Ev} {e : Ev} (h : EAt w a b off es) (hx : es[k]? = some e) : a = some ⟨b, off, none⟩ :=
  h.1.resolve_left (fun x => by rw [x] at hx; simp at hx)
/-- A slice value that reads as these events. -/
def RE (w : World) (v : Value) (es : List Ev) : Prop :=
  ∃ a b off cap, v = .slice a es.length cap ∧ es.length ≤ cap ∧ cap ≤ maxLen ∧ EAt w a b off es
theorem RE.fr {w w' : World} {v : Value} {es : List Ev} (h : RE w v es) (f : Fr nob w w') : RE w' v es := by
  obtain ⟨a, b, off, cap, h1, h2, h3, h4⟩ := h
  exact ⟨a, b, off, cap, h1, h2, h3, h4.nob f⟩
theorem RE.nil (w : World) : RE w (.slice none 0 0) [] := ⟨none, 0, 0, 0, rfl, Nat.le_refl _, by simp [maxLen], .inl rfl, by simp⟩
theorem RE.slice {w : World} {v : Value} {es : List Ev} (h : RE w v es) : ∃ a cap, v = .slice a es.length cap ∧ es.length ≤ maxLen := by
  obtain ⟨a, b, off, cap, rfl, h1, h2, _⟩ := h
  exact ⟨_, _, rfl, by omega⟩

def ec (es : List Ev) : List Value := es.flatMap Ev.cells
theorem ec_one (es : List Ev) : ∀ u ∈ ec es, u.oneCell' = true := by
  intro u hu
  simp only [ec, List.mem_flatMap, Ev.cells, List.mem_cons, List.not_mem_nil, or_false] at hu
  obtain ⟨e, _, rfl | rfl | rfl | rfl⟩ := hu <;> rfl
theorem ec_app (xs ys : List Ev) : ec (xs ++ ys) = ec xs ++ ec ys := by simp [ec]
theorem ec_len (xs : List Ev) : (ec xs).length = xs.length * 4 := by
  induction xs with
  | nil => rfl
  | cons e l ih => simp [ec, Ev.cells] at ih ⊢; omega
/-- Rows of four cells each. -/
theorem flat4 {α : Type} (f : α → List Value) (hf : ∀ x, (f x).length = 4) (l : List α) (j i : Nat) (x : α) (hj : l[j]? = some x) (hi : i < 4) : (l.flatMap f)[j * 4 + i]? = (f x)[i]? := by
  induction l generalizing j with
  | nil => simp at hj
  | cons y r ih =>
    rw [List.flatMap_cons]
    cases j with
    | zero =>
      simp at hj
      subst hj
      rw [Nat.zero_mul, Nat.zero_add, List.getElem?_append_left (by rw [hf]; exact hi)]
    | succ j =>
      rw [List.getElem?_append_right (by rw [hf]; omega), hf]
      rw [show (j + 1) * 4 + i - 4 = j * 4 + i from by omega]
      exact ih j (by simpa using hj)
theorem RE.of_owns {w : World} {base : Nat} {t : TypeId} {v : Value} {n : Nat} {es : List Ev} (hn : n = es.length) (h : w.ownsRow base t 4 v n (ec es)) : RE w v es := by
  subst hn
  rcases h.2 with ⟨rfl, h0⟩ | ⟨g, cap, cur, rfl, hb, hg, hn, hc, hs, ht⟩
  · have : es = [] := List.eq_nil_of_length_eq_zero h0
    subst this
    exact RE.nil w
  · refine ⟨_, g, 0, cap, rfl, hn, hc, .inr rfl, fun j e hj => ?_⟩
    have key : ∀ i u, i < 4 → e.cells[i]? = some u → w.cell? ⟨g, 0 + j * 4 + i, none⟩ = some u := fun i u hi hu => by
      have c1 := h.cells (g := g) rfl (j * 4 + i) u (by rw [ec, flat4 Ev.cells (fun _ => rfl) es j i e hj hi]; exact hu)
      rw [Addr.add_lit] at c1
      rw [Nat.add_assoc]
      exact c1
    exact ⟨by have := key 0 _ (by omega) rfl; simpa using this, key 1 _ (by omega) rfl, key 2 _ (by omega) rfl, key 3 _ (by omega) rfl⟩
theorem NumsAt.evs {w : World} {a : Option Addr} {len cap : Nat} {X : Nat → Nat → Int} (h : NumsAt w a len cap [.i64, .i64, .i64, .i64] X) : ∃ es : List Ev, es.length = len ∧ RE w (.slice a len cap) es := by
  obtain ⟨h1, h2, h3⟩ := h
  rcases h3 with rfl | ⟨b, off, rfl, _, h4⟩
  · exact ⟨[], rfl, a, 0, 0, cap, rfl, h1, h2, .inl rfl, by simp⟩
  · refine ⟨(List.range len).map fun i => ⟨X i 0, X i 1, X i 2, X i 3⟩, by simp, _, b, off, cap, by simp, by simpa using h1, h2, .inr rfl, fun j x hj => ?_⟩
    simp only [List.getElem?_map, Option.map_eq_some_iff] at hj
    obtain ⟨i, hi, rfl⟩ := hj
    obtain ⟨hj, hi'⟩ := List.getElem?_eq_some_iff.1 hi
    simp at hi' hj
    subst hi'
    exact ⟨by simpa using (h4 j hj 0 .i64 rfl).1, by simpa using (h4 j hj 1 .i64 rfl).1, by simpa using (h4 j hj 2 .i64 rfl).1, by simpa using (h4 j hj 3 .i64 rfl).1⟩
theorem take_snoc {α : Type} {xs : List α} {k : Nat} {x : α} (h : xs[k]? = some x) : xs.take (k + 1) = xs.take k ++ [x] := by
  rw [List.take_add_one, h]; rfl
theorem appEv : AppT Try.prog 22 44 4 32 := AppT.of Try.underlying22 (z := .agg #[.int .i64 0, .int .i64 0, .int .i64 0, .int .i64 0]) (by kernel_rfl) rfl (by decide)

theorem held44 : Try.prog.stoodInHeld 44 = false := by kernel_rfl
theorem guard44 : Try.prog.eqGuardType Try.prog.depth 44 = false := by kernel_rfl
theorem ev_eq (x y : Ev) : (x.k == y.k && (x.s == y.s && (x.y == y.y && x.v == y.v))) = decide (x = y) := by
  obtain ⟨a, b, c, d⟩ := x
  obtain ⟨a', b', c', d'⟩ := y
  rw [Bool.eq_iff_iff]
  simp
theorem run_neq_ev (w : World) (x y : Ev) : (binOp .neq 44 (.agg #[.int .i64 x.k, .int .i64 x.s, .int .i64 x.y, .int .i64 x.v]) (.agg #[.int .i64 y.k, .int .i64 y.s, .int .i64 y.y, .int .i64 y.v])).run Try.prog w = .ok (.bool (!decide (x = y))) w := by
  rw [run_neq_struct]
  have h1 := Try.underlying44
  have h2 := Try.underlying3
  have h3 := held44
  rw [run_equalIn_agg (d := 9999) _ _ _ _ (by simp only [Program.fieldsOf, h1]) h3]
  rw [← ev_eq]
  simp only [Program.fieldsOf, h1]
  cases q1 : (x.k == y.k)
  · simp [Op.eqFields, go_sem, h2, q1]
  cases q2 : (x.s == y.s)
  · simp [Op.eqFields, go_sem, h2, q1, q2]
  cases q3 : (x.y == y.y)
  · simp [Op.eqFields, go_sem, h2, q1, q2, q3]
  cases q4 : (x.v == y.v)
  · simp [Op.eqFields, go_sem, h2, q1, q2, q3, q4]
  · simp [Op.eqFields, go_sem, h2, q1, q2, q3, q4]

set_option maxRecDepth 100000 in
set_option maxHeartbeats 1000000 in
theorem same_any (v v' : Value) (xs ys : List Ev) (w : World) (h : RE w v xs) (h' : RE w v' ys) :
    Calls Try.prog 12 #[v, v'] w fun e w' => e = .returned (.bool (decide (xs = ys))) ∧ Fr nob w w' := by
  obtain ⟨a, b, off, cap, rfl, h1, h2, h3⟩ := h
  obtain ⟨a', b', off', cap', rfl, h1', h2', h3'⟩ := h'
  unfold maxLen at h2 h2'
  have H := Lib.hid h3
  have H' := Lib.hid h3'
  clear h3 h3'
  by_cases hl : xs.length = ys.length
  · obtain ⟨n, hn⟩ : ∃ n, n = xs.length := ⟨_, rfl⟩
    rw [← hl, ← hn]
    have HN := Lib.hid hn
    have HL := Lib.hid (hn.trans hl)
    have hn63 : n ≤ 9223372036854775807 := by omega
    clear hl hn h1 h2 h1' h2'
    go_enter Try.func12, Try.ntmps12
    go_wp2_with fail
    go_loopg [5] n (fun gk i wr => ∃ k : Nat, k + gk = n ∧ i = .int .i64 k ∧ xs.take k = ys.take k ∧ Fr nob w wr)
    case atStart => exact ⟨0, Nat.zero_add _, rfl, rfl, Fr.refl _ _⟩
    case round =>
      obtain ⟨k, hk, rfl, ht, hf⟩ := hrel
      have F := Lib.hid hf
      have HK := Lib.hid hk
      have HT := Lib.hid ht
      have hkl : k ≤ n := by omega
      clear ht hf hk
      by_cases hlt : k < n
      · obtain ⟨x, hx⟩ : ∃ x, xs[k]? = some x := ⟨_, List.getElem?_eq_getElem (by have := HN.out; omega)⟩
        obtain ⟨y, hy⟩ : ∃ y, ys[k]? = some y := ⟨_, List.getElem?_eq_getElem (by have := HL.out; omega)⟩
        obtain rfl := H.out.addr hx
        obtain rfl := H'.out.addr hy
        obtain ⟨d0, d1, d2, d3⟩ := (H.out.nob F.out).2 k x hx
        obtain ⟨e0, e1, e2, e3⟩ := (H'.out.nob F.out).2 k y hy
        have HX := Lib.hid hx
        have HY := Lib.hid hy
        clear hx hy
        have hidx0 : (0 : Int) ≤ (k : Int) := Int.natCast_nonneg _
        have hidx1 : (k : Int) < (n : Int) := by omega
        have hg := guard44
        have hne := fun w => run_neq_ev w x y
        by_cases q1 : x = y
        · have hq : decide (x = y) = true := by simp [q1]
          rw [hq] at hne
          clear hq
          go_wp2_with fail
          go_quiet (fail)
          have F1 := Lib.hid (F.out.drewN nq)
          clear d0 e0 d1 e1 d2 e2 d3 e3 hne
          go_wp2
          go_roundg (gk - 1)
          case measure => have := HK.out; omega
          case rel => exact ⟨k + 1, by have := HK.out; omega, by go_num, by rw [take_snoc HX.out, take_snoc HY.out, HT.out, q1], F1.out⟩
        · have hq : decide (x = y) = false := by simp [q1]
          rw [hq] at hne
          have NE : Hid (¬ xs = ys) := Lib.hid (fun e => by have := HX.out; rw [e, HY.out] at this; simp at this; exact q1 this.symm)
          clear hq q1
          go_wp2_with fail
          go_quiet (fail)
          have F1 := Lib.hid (F.out.drewN nq)
          clear d0 e0 d1 e1 d2 e2 d3 e3 hne
          go_wp2
          go_ret
          exact ⟨ret_bool (by simp [NE.out]), F1.out⟩
      · have EQ : Hid (xs = ys) := Lib.hid (by
          have hkn : k = n := by omega
          have := HT.out
          rw [hkn] at this
          rw [List.take_of_length_le (by have := HN.out; omega), List.take_of_length_le (by have := HL.out; omega)] at this
          exact this)
        go_wp2
        go_ret
        exact ⟨ret_bool (by simp [EQ.out]), F.out⟩
  · have NE : Hid (¬ xs = ys) := Lib.hid (fun e => hl (by rw [e]))
    have hl' : ((xs.length : Int) == (ys.length : Int)) = false := by simp; omega
    have hl'' : ((xs.length : Int) != (ys.length : Int)) = true := by simp; omega
    go_enter Try.func12, Try.ntmps12
    go_wp2
    go_ret
    exact ⟨ret_bool (by simp [NE.out]), Fr.refl _ _⟩

end Go.Proofs.Ytlmaloikhmkokaa
