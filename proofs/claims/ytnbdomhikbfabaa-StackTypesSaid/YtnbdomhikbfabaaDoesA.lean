/- StackDoes: what holds between two rounds, and what each call does to it. -/
import Derived.Test.YtnbdomhikbfabaaAwk
import Derived.Deep.LoopGhost
import Derived.Deep.DeepCutAuto
import Derived.Deep.CutBlock
namespace Go.Proofs.Ytnbdomhikbfabaa
open Go.RowKit

/-- Between two calls: the program's stack lies in block p, the reference's in the variable at block q; both hold xs; they share no memory. -/
structure SI (w wr : World) (p q : Nat) (most : Int) (xs : List Int) (v vr : Value) : Prop where
  s : ST wr p v most xs
  r : wr.heap[q]? = some (.cells #[.int .i64 most, vr] 28 (0, 0))
  o : wr.ownsRow (q + 1) 3 1 vr xs.length (xs.map (Value.int .i64))
  pq : p < q
  d : ∀ k, v.ownBlock = some k → k ≠ q ∧ vr.ownBlock ≠ some k
  lo : w.heap.size ≤ p
  fr : Fr nob w wr

/-- The program's half is done: its stack holds ys, the reference's still xs. -/
structure SH (w wr : World) (p q : Nat) (most : Int) (xs ys : List Int) (v vr : Value) : Prop where
  s : ST wr p v most ys
  r : wr.heap[q]? = some (.cells #[.int .i64 most, vr] 28 (0, 0))
  o : wr.ownsRow (q + 1) 3 1 vr xs.length (xs.map (Value.int .i64))
  pq : p < q
  d : ∀ k, v.ownBlock = some k → k ≠ q ∧ vr.ownBlock ≠ some k
  lo : w.heap.size ≤ p
  fr : Fr nob w wr

theorem SI.half {w wr w1 : World} {p q : Nat} {most : Int} {xs ys : List Int} {v v' vr : Value} (h : SI w wr p q most xs v vr) (hs : ST w1 p v' most ys) (hf : Fr (fun k => k = p ∨ v.ownBlock = some k) wr w1) (hv : v'.ownBlock = v.ownBlock ∨ ∀ k, v'.ownBlock = some k → wr.heap.size ≤ k) :
    SH w w1 p q most xs ys v' vr := by
  have hq : ¬ (q = p ∨ v.ownBlock = some q) := fun x => by
    rcases x with x | x
    · have := h.pq; omega
    · exact (h.d _ x).1 rfl
  have hr : ∀ k, vr.ownBlock = some k → ¬ (k = p ∨ v.ownBlock = some k) := fun k hk x => by
    have := (h.o.lt k hk).1
    have := h.pq
    rcases x with x | x
    · omega
    · exact (h.d _ x).2 hk
  refine ⟨hs, hf.heap_some h.r hq, hf.owns h.o hr, h.pq, fun k hk => ?_, h.lo, h.fr.keep hf fun i hi => ?_⟩
  · rcases hv with hv | hv
    · exact h.d k (by rw [← hv]; exact hk)
    · have h1 := hv k hk
      have h2 := obj_lt h.r
      exact ⟨by omega, fun x => by have := (h.o.lt k x).2; omega⟩
  · have := h.lo
    rcases hi with rfl | hi
    · exact this
    · have := (h.s.own_ne _ hi).1; omega

/-- The reference's half: its answer lies in a new slice, and in the variable's block. -/
theorem SH.both {w wr w1 : World} {p q : Nat} {most : Int} {xs ys : List Int} {v vr vr' : Value} (h : SH w wr p q most xs ys v vr) (hf : Fr nob wr w1) (o : w1.ownsRow (min (q + 1) wr.heap.size) 3 1 vr' ys.length (ys.map (Value.int .i64))) (hv : vr' = vr ∨ ∀ k, vr'.ownBlock = some k → wr.heap.size ≤ k) :
    ST w1 p v most ys ∧ w1.ownsRow (q + 1) 3 1 vr' ys.length (ys.map (Value.int .i64)) ∧ (∀ k, v.ownBlock = some k → k ≠ q ∧ vr'.ownBlock ≠ some k) ∧ w1.heap[q]? = some (.cells #[.int .i64 most, vr] 28 (0, 0)) := by
  have hq := obj_lt h.r
  refine ⟨h.s.fr hf (fun x => x) (fun _ _ x => x), ownsRow_base o (fun k hk => ?_), fun k hk => ⟨(h.d k hk).1, fun x => ?_⟩, hf.heap_some h.r (fun x => x)⟩
  · rcases hv with rfl | hv
    · exact (h.o.lt k hk).1
    · have := hv k hk; omega
  · rcases hv with rfl | hv
    · exact (h.d k hk).2 x
    · have := hv k x
      have := (h.s.own_ne k hk).2
      omega

/-- Both halves are done, and the variable holds the reference's new stack. -/
theorem SI.done {w w1 w2 : World} {p q : Nat} {most : Int} {ys : List Int} {v vr' : Value} (s : ST w1 p v most ys) (o : w1.ownsRow (q + 1) 3 1 vr' ys.length (ys.map (Value.int .i64))) (d : ∀ k, v.ownBlock = some k → k ≠ q ∧ vr'.ownBlock ≠ some k)
    (pq : p < q) (lo : w.heap.size ≤ p) (fr : Fr nob w w1) (hf : Fr (fun k => k = q) w1 w2) (r : w2.heap[q]? = some (.cells #[.int .i64 most, vr'] 28 (0, 0))) : SI w w2 p q most ys v vr' :=
  ⟨s.fr hf (fun x => by omega) (fun k hk => (d k hk).1), r, hf.owns o (fun k hk x => by have := (o.lt k hk).1; omega), pq, d, lo, fr.keep hf fun i hi => by omega⟩

/-- Both halves are done; the reference's new stack lies in block g, not yet in the variable. -/
structure SR (w wr : World) (p q g : Nat) (most : Int) (ys : List Int) (v vr vr' : Value) : Prop where
  s : ST wr p v most ys
  r : wr.heap[q]? = some (.cells #[.int .i64 most, vr] 28 (0, 0))
  t : wr.heap[g]? = some (.cells #[.int .i64 most, vr'] 28 (0, 0))
  o : wr.ownsRow (q + 1) 3 1 vr' ys.length (ys.map (Value.int .i64))
  pq : p < q
  d : ∀ k, v.ownBlock = some k → k ≠ q ∧ vr'.ownBlock ≠ some k
  lo : w.heap.size ≤ p
  fr : Fr nob w wr

theorem SR.stored {w wr : World} {p q g : Nat} {most : Int} {ys : List Int} {v vr vr' : Value} (h : SR w wr p q g most ys v vr vr') :
    SI w ((wr.setCell ⟨q, 0, none⟩ (.int .i64 most)).setCell ⟨q, 1, none⟩ vr') p q most ys v vr' := by
  have hf : Fr (fun k => k = q) wr ((wr.setCell ⟨q, 0, none⟩ (.int .i64 most)).setCell ⟨q, 1, none⟩ vr') := ((Fr.refl _ wr).setIn 0 _).setIn 1 _
  exact SI.done h.s h.o h.d h.pq h.lo h.fr hf (obj_set (obj_set h.r 0 _) 1 _)

/-- The reference's call first, then a new block for its answer. -/
theorem SH.sr1 {w wr w1 : World} {p q : Nat} {most : Int} {xs ys : List Int} {v vr vr' : Value} (h : SH w wr p q most xs ys v vr) (hf : Fr nob wr.drew w1) (o : w1.ownsRow (min (q + 1) wr.heap.size) 3 1 vr' ys.length (ys.map (Value.int .i64))) (hv : vr' = vr ∨ ∀ k, vr'.ownBlock = some k → wr.heap.size ≤ k) :
    SR w (w1.alloc (.cells #[.int .i64 most, vr'] 28)) p q w1.heap.size most ys v vr vr' := by
  obtain ⟨a, b, c, d⟩ := h.both ((Fr.refl nob wr).drew.trans hf (fun _ _ x => x) (fun _ _ x => x)) o hv
  have f := (Fr.refl nob w1).alloc (.cells #[.int .i64 most, vr'] 28)
  exact ⟨a.fr f (fun x => x) (fun _ _ x => x), obj_alloc d _, obj_new rfl _, f.owns b (fun _ _ x => x), h.pq, c, h.lo, (h.fr.drew.trans hf (fun _ _ x => x) (fun _ _ x => x)).alloc _⟩

/-- The new block first, then the reference's call. -/
theorem SH.sr2 {w wr w1 : World} {p q : Nat} {most : Int} {xs ys : List Int} {v vr vr' u1 u2 : Value} {o : Obj} (h : SH w wr p q most xs ys v vr) (ho : o = .cells #[u1, u2] 28) (hf : Fr nob (wr.drew.alloc o) w1) (hw : w1.ownsRow (min (q + 1) (wr.heap.size + 1)) 3 1 vr' ys.length (ys.map (Value.int .i64))) (hv : vr' = vr ∨ ∀ k, vr'.ownBlock = some k → wr.heap.size + 1 ≤ k) :
    SR w ((w1.setCell ⟨wr.heap.size, 0, none⟩ (.int .i64 most)).setCell ⟨wr.heap.size, 1, none⟩ vr') p q wr.heap.size most ys v vr vr' := by
  subst ho
  have hq := obj_lt h.r
  have f0 : Fr nob wr w1 := ((Fr.refl nob wr).drew.alloc _).trans hf (fun _ _ x => x) (fun _ _ x => x)
  obtain ⟨a, b, c, d⟩ := h.both f0 (ownsRow_base hw (fun k hk => by have := (hw.lt k hk).1; omega)) (hv.imp id (fun z k hk => by have := z k hk; omega))
  have e : w1.heap[wr.heap.size]? = some (.cells #[u1, u2] 28 (0, 0)) := hf.heap_some (obj_new (w := wr.drew) rfl _) (fun x => x)
  have f : Fr (fun k => k = wr.heap.size) w1 ((w1.setCell ⟨wr.heap.size, 0, none⟩ (.int .i64 most)).setCell ⟨wr.heap.size, 1, none⟩ vr') := ((Fr.refl _ w1).setIn 0 _).setIn 1 _
  have hp := h.s.lt
  refine ⟨a.fr f (fun x => by omega) (fun k hk x => by have := (h.s.own_ne k hk).2; omega), f.heap_some d (fun x => by omega), obj_set (obj_set e 0 _) 1 _, f.owns b (fun k hk x => ?_), h.pq, c, h.lo, ?_⟩
  · rcases hv with rfl | hv
    · have := (h.o.lt k hk).2; omega
    · have := hv k hk; omega
  · have := h.fr.size
    exact ((h.fr.trans f0 (fun _ _ x => x) (fun _ _ x => x)).setNew _ (by show _ ≤ wr.heap.size; omega) _).setNew _ (by show _ ≤ wr.heap.size; omega) _

theorem SI.keep {w wr w1 : World} {p q : Nat} {most : Int} {xs : List Int} {v vr : Value} (h : SI w wr p q most xs v vr) (hf : Fr nob wr w1) : SI w w1 p q most xs v vr :=
  ⟨h.s.fr hf (fun x => x) (fun _ _ x => x), hf.heap_some h.r (fun x => x), hf.owns h.o (fun _ _ x => x), h.pq, h.d, h.lo, h.fr.trans hf (fun _ _ x => x) (fun _ _ x => x)⟩

/-- What a push leaves. -/
def pushed (most x : Int) (xs : List Int) : List Int := if (xs.length : Int) < most then xs ++ [x] else xs
theorem pushed_le (most x : Int) (xs : List Int) : (pushed most x xs).length ≤ xs.length + 1 := by unfold pushed; split <;> simp

theorem push_as (p : Nat) (v : Value) (most x : Int) (xs ys : List Int) (hy : pushed most x xs = ys) (w : World) (h : ST w p v most xs) (hb : (xs.length + 1) * 8 ≤ 140737488355328) :
    Calls Try.prog 10 #[.pointer (some ⟨p, 0, none⟩), .int .i64 x] w fun e w' => e = .returned (.bool (decide (xs.length < most))) ∧ ∃ v', ST w' p v' most ys ∧
      Fr (fun k => k = p ∨ v.ownBlock = some k) w w' ∧ (v'.ownBlock = v.ownBlock ∨ ∀ k, v'.ownBlock = some k → w.heap.size ≤ k) := by
  subst hy
  exact push_any p v most x xs w h hb
theorem rpush_as (most x : Int) (v : Value) (base : Nat) (xs ys : List Int) (hy : pushed most x xs = ys) (w : World) (h : w.ownsRow base 3 1 v xs.length (xs.map (Value.int .i64))) (hb : (xs.length + 1) * 8 ≤ 140737488355328) :
    Calls Try.prog 11 #[.agg #[.int .i64 most, v], .int .i64 x] w fun e w' => ∃ v', e = .returned (.tuple #[.agg #[.int .i64 most, v'], .bool (decide (xs.length < most))]) ∧
      w'.ownsRow (min base w.heap.size) 3 1 v' ys.length (ys.map (Value.int .i64)) ∧ (v' = v ∨ ∀ k, v'.ownBlock = some k → w.heap.size ≤ k) ∧ Fr nob w w' := by
  subst hy
  exact rpush_any most x v base xs w h hb

theorem pop_as (p : Nat) (v : Value) (most x : Int) (is : Bool) (xs ys : List Int) (hx : xs.getLast?.getD 0 = x) (hi : (!xs.isEmpty) = is) (hy : xs.dropLast = ys) (w : World) (h : ST w p v most xs) :
    Calls Try.prog 12 #[.pointer (some ⟨p, 0, none⟩)] w fun e w' => e = .returned (.tuple #[.int .i64 x, .bool is]) ∧ ∃ v', ST w' p v' most ys ∧ Fr (fun k => k = p) w w' ∧ v'.ownBlock = v.ownBlock := by
  subst hx hi hy
  exact pop_any p v most xs w h
theorem rpop_as (most x : Int) (is : Bool) (v : Value) (base : Nat) (xs ys : List Int) (hx : xs.getLast?.getD 0 = x) (hi : (!xs.isEmpty) = is) (hy : xs.dropLast = ys) (w : World) (h : w.ownsRow base 3 1 v xs.length (xs.map (Value.int .i64))) (hb : xs.length * 8 ≤ 140737488355328) :
    Calls Try.prog 13 #[.agg #[.int .i64 most, v]] w fun e w' => ∃ v', e = .returned (.tuple #[.agg #[.int .i64 most, v'], .int .i64 x, .bool is]) ∧ w'.ownsRow (min base w.heap.size) 3 1 v' ys.length (ys.map (Value.int .i64)) ∧ (v' = v ∨ ∀ k, v'.ownBlock = some k → w.heap.size ≤ k) ∧ Fr nob w w' := by
  subst hx hi hy
  exact rpop_any most v base xs w h hb
theorem top_as (p : Nat) (v : Value) (most x : Int) (is : Bool) (xs : List Int) (hx : xs.getLast?.getD 0 = x) (hi : (!xs.isEmpty) = is) (w : World) (h : ST w p v most xs) :
    Calls Try.prog 14 #[.pointer (some ⟨p, 0, none⟩)] w fun e w' => e = .returned (.tuple #[.int .i64 x, .bool is]) ∧ ∃ n, w' = w.drewN n := by
  subst hx hi
  exact top_any p v most xs w h
theorem rtop_as (most x : Int) (is : Bool) (v : Value) (base : Nat) (xs : List Int) (hx : xs.getLast?.getD 0 = x) (hi : (!xs.isEmpty) = is) (w : World) (h : w.ownsRow base 3 1 v xs.length (xs.map (Value.int .i64))) :
    Calls Try.prog 15 #[.agg #[.int .i64 most, v]] w fun e w' => e = .returned (.tuple #[.int .i64 x, .bool is]) ∧ Fr nob w w' := by
  subst hx hi
  exact rtop_any most v base xs w h

end Go.Proofs.Ytnbdomhikbfabaa
