/- Plain facts on worlds, used by all proofs of this seat: which blocks a call may turn. No program in sight. -/
import Derived.WalkKit
import Derived.Deep.Draws
import Derived.Maps.AppendAt
import Derived.StillTailTactics
namespace Go.Proofs.Ytlmaloikhmkokaa
open Go.RowKit

/-- Of the blocks that were there, those outside S are as they were. -/
structure Fr (S : Nat → Prop) (w w' : World) : Prop where
  os : w'.os = w.os
  tape : w'.tape = w.tape
  output : w'.output = w.output
  size : w.heap.size ≤ w'.heap.size
  block : ∀ k, k < w.heap.size → ¬ S k → w'.heap[k]? = w.heap[k]?

def nob (_ : Nat) : Prop := False

theorem Fr.refl (S : Nat → Prop) (w : World) : Fr S w w := ⟨rfl, rfl, rfl, Nat.le_refl _, fun _ _ _ => rfl⟩
theorem Fr.trans {S T U : Nat → Prop} {a b c : World} (h : Fr S a b) (k : Fr T b c) (hS : ∀ i, i < a.heap.size → S i → U i) (hT : ∀ i, i < a.heap.size → T i → U i) : Fr U a c :=
  ⟨k.os.trans h.os, k.tape.trans h.tape, k.output.trans h.output, Nat.le_trans h.size k.size, fun i hi hn =>
    (k.block i (Nat.lt_of_lt_of_le hi h.size) (fun x => hn (hT i hi x))).trans (h.block i hi (fun x => hn (hS i hi x)))⟩
theorem Fr.step {S : Nat → Prop} {a b c : World} (h : Fr S a b) (k : Fr nob b c) : Fr S a c := h.trans k (fun _ _ x => x) (fun _ _ x => x.elim)
theorem Fr.keep {T : Nat → Prop} {a b c : World} (h : Fr nob a b) (k : Fr T b c) (hT : ∀ i, T i → a.heap.size ≤ i) : Fr nob a c := h.trans k (fun _ _ x => x) (fun i hi x => by have := hT i x; omega)
theorem Fr.mono {S U : Nat → Prop} {a b : World} (h : Fr S a b) (hS : ∀ i, i < a.heap.size → S i → U i) : Fr U a b :=
  ⟨h.os, h.tape, h.output, h.size, fun i hi hn => h.block i hi (fun x => hn (hS i hi x))⟩
theorem Fr.alloc {S : Nat → Prop} {a w : World} (h : Fr S a w) (o : Obj) : Fr S a (w.alloc o) :=
  h.trans (T := nob) ⟨rfl, rfl, rfl, by simp, fun k hk _ => Below.heap_alloc _ _ _ hk⟩ (fun _ _ x => x) (fun _ _ x => x.elim)
theorem Fr.drew {S : Nat → Prop} {a w : World} (h : Fr S a w) : Fr S a w.drew := ⟨h.os, h.tape, h.output, h.size, h.block⟩
theorem Fr.drewN {S : Nat → Prop} {a w : World} (h : Fr S a w) (n : Nat) : Fr S a (w.drewN n) := ⟨h.os, h.tape, h.output, h.size, h.block⟩
theorem Fr.undrew {S : Nat → Prop} {a w : World} (h : Fr S a w) : Fr S a.drew w := ⟨h.os, h.tape, h.output, h.size, h.block⟩
theorem Fr.setCell {S : Nat → Prop} {a w : World} (h : Fr S a w) (p : Addr) (hp : p.block < a.heap.size → S p.block) (u : Value) : Fr S a (w.setCell p u) :=
  ⟨h.os, h.tape, h.output, by simpa [World.setCell] using h.size, fun k hk hn => by
    rw [Below.heap_setCell _ _ _ _ (fun e => hn (by subst e; exact hp hk))]; exact h.block k hk hn⟩
theorem Fr.grown {S : Nat → Prop} {a w w' : World} {row : Option Nat} (h : Fr S a w) (hg : w.grownBy w' row) (hr : ∀ k, row = some k → k < a.heap.size → S k) : Fr S a w' :=
  ⟨hg.os.trans h.os, hg.tape.trans h.tape, hg.output.trans h.output, Nat.le_trans h.size hg.size, fun k hk hn =>
    (hg.block k (Nat.lt_of_lt_of_le hk h.size) (fun e => hn (hr k e.symm hk))).trans (h.block k hk hn)⟩
theorem Fr.below {S : Nat → Prop} {B : Nat} {w w' : World} (h : Fr S w w') (hB : B ≤ w.heap.size) (hS : ∀ k, k < B → ¬ S k) : Below B w w' :=
  ⟨h.os, h.tape, h.output, h.size, fun k hk => h.block k (by omega) (hS k hk)⟩
theorem Fr.below0 {w w' : World} (h : Fr nob w w') : Below w.heap.size w w' := h.below (Nat.le_refl _) (fun _ _ x => x.elim)
theorem Fr.of_below {w w' : World} (h : Below w.heap.size w w') : Fr nob w w' := ⟨h.os, h.tape, h.output, h.size, fun k hk _ => h.block k hk⟩
theorem Fr.cell {S : Nat → Prop} {w w' : World} (h : Fr S w w') {p : Addr} (hp : p.block < w.heap.size) (hn : ¬ S p.block) : w'.cell? p = w.cell? p := World.cell?_of_block (w := w) (h.block _ hp hn)
theorem Fr.cell_some {S : Nat → Prop} {w w' : World} (h : Fr S w w') {p : Addr} {v : Value} (hc : w.cell? p = some v) (hn : ¬ S p.block) : w'.cell? p = some v := (h.cell (World.block_lt_of_cell? w p hc) hn).trans hc
theorem Fr.frozen {S : Nat → Prop} {w w' : World} (h : Fr S w w') {p : Addr} (hp : p.block < w.heap.size) (hn : ¬ S p.block) : w'.frozen? p = w.frozen? p := World.frozen?_of_block (w := w) (h.block _ hp hn)
theorem Fr.heap_some {S : Nat → Prop} {w w' : World} (h : Fr S w w') {k : Nat} {o : Obj} (hc : w.heap[k]? = some o) (hn : ¬ S k) : w'.heap[k]? = some o :=
  (h.block k (Array.getElem?_eq_some_iff.1 hc).1 hn).trans hc
theorem Fr.owns {S : Nat → Prop} {w w' : World} (h : Fr S w w') {base : Nat} {e : TypeId} {size : Nat} {v : Value} {n : Nat} {xs : List Value} (ho : w.ownsRow base e size v n xs) (hn : ∀ k, v.ownBlock = some k → ¬ S k) : w'.ownsRow base e size v n xs := by
  refine ⟨ho.1, ?_⟩
  rcases ho.2 with hx | ⟨g, cap, cur, rfl, hb, hg, rest⟩
  · exact .inl hx
  · exact .inr ⟨g, cap, cur, rfl, hb, h.heap_some hg (hn g rfl), rest⟩
theorem ownsRow_base {w : World} {b b' : Nat} {e : TypeId} {size : Nat} {v : Value} {n : Nat} {xs : List Value} (ho : w.ownsRow b e size v n xs) (h : ∀ k, v.ownBlock = some k → b' ≤ k) : w.ownsRow b' e size v n xs := by
  refine ⟨ho.1, ?_⟩
  rcases ho.2 with hx | ⟨g, cap, cur, rfl, hb, hg, rest⟩
  · exact .inl hx
  · exact .inr ⟨g, cap, cur, rfl, h g rfl, hg, rest⟩

theorem owns_shape {w : World} {b : Nat} {e : TypeId} {size : Nat} {v : Value} {n : Nat} {xs : List Value} (ho : w.ownsRow b e size v n xs) : ∃ a cap, v = .slice a n cap ∧ n ≤ cap ∧ cap ≤ maxLen := by
  rcases ho.2 with ⟨rfl, rfl⟩ | ⟨g, cap, cur, rfl, hb, hg, hn, hc, rest⟩
  · exact ⟨none, 0, rfl, Nat.le_refl _, by simp [maxLen]⟩
  · exact ⟨_, cap, rfl, hn, hc⟩

/-- A slice value reads as these one-cell values, wherever they lie. -/
def Rd (w : World) (v : Value) (xs : List Value) : Prop :=
  ∃ a cap, v = .slice a xs.length cap ∧ xs.length ≤ cap ∧ cap ≤ maxLen ∧ (xs = [] ∨ ∃ b o, a = some ⟨b, o, none⟩ ∧ ∀ j u, xs[j]? = some u → w.cell? ⟨b, o + j, none⟩ = some u)

theorem Rd.of_owns {w : World} {base : Nat} {e : TypeId} {v : Value} {n : Nat} {xs : List Value} (h : w.ownsRow base e 1 v n xs) : Rd w v xs := by
  have hl : xs.length = n := by simpa using h.1
  rcases h.2 with ⟨rfl, rfl⟩ | ⟨g, cap, cur, rfl, hb, hg, hn, hc, hs, ht⟩
  · have : xs = [] := List.eq_nil_of_length_eq_zero hl
    subst this
    exact ⟨none, 0, rfl, Nat.le_refl _, by simp [maxLen], .inl rfl⟩
  · refine ⟨_, cap, by rw [hl], by omega, hc, .inr ⟨g, 0, rfl, fun j u hu => ?_⟩⟩
    have := h.cells (g := g) rfl j u hu
    rw [Addr.add_lit] at this
    exact this
theorem Fr.rd {S : Nat → Prop} {w w' : World} (h : Fr S w w') {v : Value} {xs : List Value} (hr : Rd w v xs) (hn : ∀ k, v.ownBlock = some k → ¬ S k) : Rd w' v xs := by
  obtain ⟨a, cap, rfl, h1, h2, h3⟩ := hr
  refine ⟨a, cap, rfl, h1, h2, h3.imp id ?_⟩
  rintro ⟨b, o, rfl, h4⟩
  exact ⟨b, o, rfl, fun j u hu => h.cell_some (h4 j u hu) (hn b rfl)⟩

/-- A new block. -/
theorem heap_new (w : World) (o : Obj) : (w.alloc o).heap[w.heap.size]? = some o := heap_alloc_new w o

/-! ### append onto a slice of the call's own, whatever is appended -/
/-- What the laws on append want to know of a slice type t, its element type e (size cells, bytes bytes each). -/
structure AppT (P : Program) (t e : TypeId) (size bytes : Nat) : Prop where
  under : P.underlying t = some (.slice e)
  info : ∃ i z, P.info? e = some i ∧ i.zero = some z ∧ i.size = size ∧ i.bytes = bytes ∧ z.cells.size = size
  pos : 0 < size
theorem AppT.of {P : Program} {t e : TypeId} {z : Value} {size bytes : Nat} (h1 : P.underlying t = some (.slice e)) (h2 : (P.info? e).map (fun i => (i.zero, i.size, i.bytes)) = some (some z, size, bytes)) (h3 : z.cells.size = size) (h4 : 0 < size) : AppT P t e size bytes := by
  obtain ⟨i, a, b, c, d⟩ := info_parts h2
  exact ⟨h1, ⟨i, z, a, b, c, d, h3⟩, h4⟩

/-- What is appended: nothing, or cells that lie in a row. -/
def Src (w : World) (ao : Option Addr) (news : List Value) : Prop :=
  (news = [] ∨ ∃ ad, ao = some ad ∧ ∀ j u, news[j]? = some u → w.cell? (ad.add j) = some u) ∧ ∀ u ∈ news, u.oneCell' = true

theorem run_app {P : Program} {w : World} {t ty e : TypeId} {size bytes base : Nat} (A : AppT P t e size bytes) {v : Value} {n : Nat} {xs : List Value} (hown : w.ownsRow base e size v n xs)
    {ao : Option Addr} {m c : Nat} {news : List Value} (hl : news.length = m * size) (hsrc : Src w ao news) (hb : (n + m) * bytes ≤ 140737488355328) (h63 : n + m ≤ maxLen) (hbase : base ≤ w.heap.size) :
    ∃ v' w', (Builtin.append_ #[t, t] ty #[v, .slice ao m c]).run P w = .ok v' w' ∧ w'.ownsRow base e size v' (n + m) (xs ++ news) ∧ w.grownBy w' v.ownBlock ∧
      (v'.ownBlock = v.ownBlock ∨ ∀ k, v'.ownBlock = some k → w.heap.size ≤ k) := by
  obtain ⟨i, z, hi, hz, hs, hby, hzs⟩ := A.info
  by_cases hne : news = []
  · subst hne
    have hm : m = 0 := by
      have := A.pos
      rcases Nat.eq_zero_or_pos m with h | h
      · exact h
      · have := Nat.mul_pos h A.pos
        simp at hl
        omega
    subst hm
    cases ao with
    | none =>
      rcases hown.2 with ⟨rfl, rfl⟩ | ⟨g, cap, cur, rfl, hbg, hg, hnc, hcm, hcs, ht⟩
      · refine ⟨.slice none 0 0, w, ?_, by simpa using hown, World.grownBy.refl _ _, .inl rfl⟩
        simp [Builtin.append_, run_underlying A.under, sizeOf, typeInfo, hi, Builtin.lenOf, Builtin.firstCells]
      · refine ⟨.slice (some ⟨g, 0, none⟩) n cap, w, ?_, by simpa using hown, World.grownBy.refl _ _, .inl rfl⟩
        simp [Builtin.append_, run_underlying A.under, sizeOf, typeInfo, hi, Builtin.lenOf, Builtin.firstCells, hnc, storeCells]
    | some ad =>
      rcases hown.2 with ⟨rfl, rfl⟩ | ⟨g, cap, cur, rfl, hbg, hg, hnc, hcm, hcs, ht⟩
      · obtain ⟨v', w', r1, r2, r3, r4⟩ := run_append_own (P := P) w base t ty e i z size bytes A.under hi hz hs hby hzs A.pos _ 0 xs hown ad 0 c [] (by simp) (by simp) (by simp) h63 hb hbase
        obtain rfl := r4.2 ⟨rfl, rfl⟩
        exact ⟨_, w', r1, r2, r3, .inl rfl⟩
      · obtain ⟨w', r1, r2, r3⟩ := run_append_fits (P := P) w base t ty e i size A.under hi hs g n cap xs hown ad 0 c [] (by simp) (by simp) (by simp) (by omega)
        exact ⟨_, w', r1, r2, r3, .inl rfl⟩
  · obtain ⟨ad, rfl, hc⟩ := hsrc.1.resolve_left hne
    rcases hown.2 with ⟨rfl, rfl⟩ | ⟨g, cap, cur, rfl, hbg, hg, hnc, hcm, hcs, ht⟩
    · have hx : xs = [] := List.eq_nil_of_length_eq_zero (by simpa using hown.1)
      subst hx
      obtain ⟨v', w', r1, r2, r3, r4⟩ := run_append_own (P := P) w w.heap.size t ty e i z size bytes A.under hi hz hs hby hzs A.pos (.slice none 0 0) 0 [] (World.ownsRow_nil w _ e size) ad m c news hl hc hsrc.2 h63 hb (Nat.le_refl _)
      exact ⟨v', w', r1, ownsRow_base r2 (fun k hk => Nat.le_trans hbase (r2.lt k hk).1), r3, .inr fun k hk => (r2.lt k hk).1⟩
    · by_cases hroom : n + m ≤ cap
      · obtain ⟨w', r1, r2, r3⟩ := run_append_fits (P := P) w base t ty e i size A.under hi hs g n cap xs hown ad m c news hl hc hsrc.2 hroom
        exact ⟨_, w', r1, r2, r3, .inl rfl⟩
      · obtain ⟨v', w', r1, r2, r3⟩ := run_append_arg_grows (P := P) w t ty e i z size bytes A.under hi hz hs hby hzs A.pos ⟨g, 0, none⟩ n cap xs hown.1 (hown.cells (g := g) rfl) ad m c news hl hc (by omega) h63 hb
        refine ⟨v', w', r1, ownsRow_base r2 (fun k hk => Nat.le_trans hbase (r2.lt k hk).1), ?_, .inr fun k hk => (r2.lt k hk).1⟩
        exact ⟨r3.os, r3.tape, r3.output, r3.size, fun k hk _ => r3.block k hk (by simp)⟩

/-- The same for the walk. -/
theorem wpList_app {P : Program} {w : World} {ops : Array Oper} {rest : List Oper} {o : Oper} {a : Act} {Q : Exit → Act → World → Prop}
    (hg : o.guard = none) (s x : Operand) {t : TypeId} (hop : o.op = Op.call { callee := Callee.builtin Builtin.append, args := #[s, x], argTypes := #[t, t] })
    {e : TypeId} {size bytes base : Nat} (A : AppT P t e size bytes) {v : Value} {n : Nat} {xs : List Value} (hs : a.eval s = v) (hown : w.ownsRow base e size v n xs)
    {ao : Option Addr} {m c : Nat} {news : List Value} (hx : a.eval x = .slice ao m c) (hl : news.length = m * size) (hsrc : Src w ao news) (hb : (n + m) * bytes ≤ 140737488355328) (h63 : n + m ≤ maxLen) (hbase : base ≤ w.heap.size)
    (hK : ∀ v' w', w'.ownsRow base e size v' (n + m) (xs ++ news) → w.grownBy w' v.ownBlock → (v'.ownBlock = v.ownBlock ∨ ∀ k, v'.ownBlock = some k → w.heap.size ≤ k) → wpList P ops Q rest (a.put o.dst v') w') :
    wpList P ops Q (o :: rest) a w := by
  refine wpList_plain hg fun K hK' => ?_
  obtain ⟨v', w', hrun, r1, r2, r3⟩ := run_app (ty := o.type) A hown hl hsrc hb h63 hbase (c := c)
  unfold Oper.wp
  simp [execOp, hop, resolve, invoke, builtin, hs, hx, hrun, Result.andThen]
  exact hK' _ _ (hK v' w' r1 r2 r3)

/-- The same as one step of a region that draws its order. -/
theorem step_app {P : Program} {w : World} {ops : Array Oper} {o : Oper} {a : Act} {K : Act → World → Prop} {Q : Exit → Act → World → Prop} {E : Prop}
    (hg : o.guard = none) (s x : Operand) {t : TypeId} (hop : o.op = Op.call { callee := Callee.builtin Builtin.append, args := #[s, x], argTypes := #[t, t] })
    {e : TypeId} {size bytes base : Nat} (A : AppT P t e size bytes) {v : Value} {n : Nat} {xs : List Value} (hs : a.eval s = v) (hown : w.ownsRow base e size v n xs)
    {ao : Option Addr} {m c : Nat} {news : List Value} (hx : a.eval x = .slice ao m c) (hl : news.length = m * size) (hsrc : Src w ao news) (hb : (n + m) * bytes ≤ 140737488355328) (h63 : n + m ≤ maxLen) (hbase : base ≤ w.heap.size)
    (hK : ∀ v' w', w'.ownsRow base e size v' (n + m) (xs ++ news) → w.grownBy w' v.ownBlock → (v'.ownBlock = v.ownBlock ∨ ∀ k, v'.ownBlock = some k → w.heap.size ≤ k) → K (a.put o.dst v') w') :
    if Region.wanted o (yielded ops a.tmps) = true then Oper.wp P o a w K Q else E := by
  have hw : Region.wanted o (yielded ops a.tmps) = true := by simp [Region.wanted, hg]
  rw [if_pos hw]
  obtain ⟨v', w', hrun, r1, r2, r3⟩ := run_app (ty := o.type) A hown hl hsrc hb h63 hbase (c := c)
  unfold Oper.wp
  simp [execOp, hop, resolve, invoke, builtin, hs, hx, hrun, Result.andThen]
  exact hK v' w' r1 r2 r3

theorem Src.block {w : World} {B : Nat} {cs : Array Value} {t : TypeId} {f : Nat × Nat} (h : w.heap[B]? = some (.cells cs t f)) (h1 : ∀ u ∈ cs.toList, u.oneCell' = true) : Src w (some ⟨B, 0, none⟩) cs.toList :=
  ⟨.inr ⟨_, rfl, fun j u hu => by rw [Addr.add_lit, Nat.zero_add]; simp [World.cell?, h]; simpa using hu⟩, h1⟩
theorem Src.nil (w : World) (ao : Option Addr) : Src w ao [] := ⟨.inl rfl, by simp⟩
theorem Src.new (w : World) (v : Value) (t : TypeId) {B : Nat} (hB : B = w.heap.size) (h : v.oneCell' = true) : Src (w.alloc (.cells #[v] t)) (some ⟨B, 0, none⟩) [v] :=
  ⟨.inr ⟨_, rfl, hB ▸ cell_one_new _ _ _⟩, by simpa using h⟩
theorem Src.one (w : World) (v : Value) (t : TypeId) (h : v.oneCell' = true) : Src (w.alloc (.cells #[v] t)) (some ⟨w.heap.size, 0, none⟩) [v] :=
  ⟨.inr ⟨_, rfl, cell_one_new _ _ _⟩, by simpa using h⟩

theorem Fr.setNew {S : Nat → Prop} {a w : World} (h : Fr S a w) (p : Addr) (hp : a.heap.size ≤ p.block) (u : Value) : Fr S a (w.setCell p u) := h.setCell p (fun x => by omega) u

theorem Fr.setIn {q : Nat} {a w : World} (h : Fr (fun k => k = q) a w) (o : Nat) (v : Value) : Fr (fun k => k = q) a (w.setCell ⟨q, o, none⟩ v) := Fr.setCell (S := fun k => k = q) h ⟨q, o, none⟩ (fun _ => rfl) v

/-! ### a block known whole -/
theorem obj_set {w : World} {B : Nat} {cs : Array Value} {T : TypeId} {f : Nat × Nat} (h : w.heap[B]? = some (.cells cs T f)) (o : Nat) (v : Value) : (w.setCell ⟨B, o, none⟩ v).heap[B]? = some (.cells (cs.setIfInBounds o v) T f) := by
  simp [World.setCell, Array.getElem?_modify, h]
theorem obj_cell {w : World} {B : Nat} {cs : Array Value} {T : TypeId} {f : Nat × Nat} (h : w.heap[B]? = some (.cells cs T f)) (o : Nat) : w.cell? ⟨B, o, none⟩ = cs[o]? := by simp [World.cell?, h]
theorem obj_free {w : World} {B : Nat} {cs : Array Value} {T : TypeId} (h : w.heap[B]? = some (.cells cs T (0, 0))) (o : Nat) : w.frozen? ⟨B, o, none⟩ = false := by simp [World.frozen?, h]
theorem obj_lt {w : World} {B : Nat} {o : Obj} (h : w.heap[B]? = some o) : B < w.heap.size := (Array.getElem?_eq_some_iff.1 h).1
theorem obj_alloc {w : World} {B : Nat} {o : Obj} (h : w.heap[B]? = some o) (o' : Obj) : (w.alloc o').heap[B]? = some o := (Below.heap_alloc w o' B (obj_lt h)).trans h
theorem obj_new {w : World} {B : Nat} (hB : B = w.heap.size) (o : Obj) : (w.alloc o).heap[B]? = some o := hB ▸ heap_alloc_new w o
theorem obj_setNe {w : World} {B : Nat} {o : Obj} (h : w.heap[B]? = some o) (p : Addr) (hp : B ≠ p.block) (v : Value) : (w.setCell p v).heap[B]? = some o := (Below.heap_setCell w p v B hp).trans h

/-- A region that draws its order: reads, then from operation n on a chain: walked in the text's order, in the world behind the draw. -/
theorem region_tail {P : Program} {id : Nat} {Q : Exit → Act → World → Prop} {a : Act} {w : World} {l : List Oper} (n : Nat) (hm : P.follows .mixedOrders = true) (hB : Region.lexTailB .any l.toArray n = true)
    (h : wpStill P l.toArray w.drew (fun a' => wpList P l.toArray Q (l.drop n) a' w.drew) (l.take n) a) : (Code.region id l.toArray true).wp P Q a w :=
  wp_region_still_tail n hm hB h

/-- A goal at which the walk is to stand still. -/
def Stop (p : Prop) : Prop := p
theorem stop {p : Prop} (h : Stop p) : p := h
theorem Stop.go {p : Prop} (h : p) : Stop p := h

end Go.Proofs.Ytlmaloikhmkokaa
