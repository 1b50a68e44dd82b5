/- StackBack: the walk. -/
import Derived.Test.YtnbdomhikbfabaaTurnsA
namespace Go.Proofs.Ytnbdomhikbfabaa
open Go.RowKit

/-- The stack, and beside it a row of numbers of the call's own, apart from it. -/
structure SG (w wr : World) (p : Nat) (most : Int) (xs : List Int) (v gone : Value) (ys : List Int) : Prop where
  so : SO w wr p most xs v
  g : wr.ownsRow (p + 1) 3 1 gone ys.length (ys.map (Value.int .i64))
  d : ∀ k, v.ownBlock = some k → gone.ownBlock ≠ some k

theorem SG.step {w wr w1 : World} {p : Nat} {most : Int} {xs xs' ys : List Int} {v v' gone : Value} (h : SG w wr p most xs v gone ys) (hs : ST w1 p v' most xs') (hf : Fr (fun k => k = p ∨ v.ownBlock = some k) wr w1) (hv : v'.ownBlock = v.ownBlock ∨ ∀ k, v'.ownBlock = some k → wr.heap.size ≤ k) : SG w w1 p most xs' v' gone ys := by
  refine ⟨h.so.step hs hf, hf.owns h.g (fun k hk x => ?_), fun k hk x => ?_⟩
  · have := (h.g.lt k hk).1
    rcases x with x | x
    · omega
    · exact h.d k x hk
  · rcases hv with hv | hv
    · exact h.d k (by rw [← hv]; exact hk) x
    · have := hv k hk
      have := (h.g.lt k x).2
      omega
theorem SG.keep {w wr w1 : World} {p : Nat} {most : Int} {xs ys : List Int} {v gone : Value} (h : SG w wr p most xs v gone ys) (hf : Fr nob wr w1) : SG w w1 p most xs v gone ys :=
  ⟨h.so.keep hf, hf.owns h.g (fun _ _ x => x), h.d⟩
theorem SG.more {w wr w1 : World} {p : Nat} {most y : Int} {xs ys : List Int} {v gone gone' : Value} {o : Obj} (h : SG w wr p most xs v gone ys) (ho : w1.ownsRow (p + 1) 3 1 gone' (ys.length + 1) (ys.map (Value.int .i64) ++ [.int .i64 y])) (hg : (wr.alloc o).grownBy w1 gone.ownBlock) (hv : gone'.ownBlock = gone.ownBlock ∨ ∀ k, gone'.ownBlock = some k → wr.heap.size + 1 ≤ k) : SG w w1 p most xs v gone' (ys ++ [y]) := by
  have hf : Fr (fun k => gone.ownBlock = some k) wr w1 := ((Fr.refl _ wr).alloc o).grown hg (fun k hk _ => hk)
  have hp := h.so.s.lt
  have hb : ∀ k, gone.ownBlock = some k → p + 1 ≤ k := fun k hk => (h.g.lt k hk).1
  refine ⟨⟨h.so.s.fr hf (fun x => by have := hb _ x; omega) (fun k hk x => h.d k hk x), h.so.lo, h.so.fr.keep hf (fun i hi => by have := hb i hi; have := h.so.lo; omega)⟩, by simpa using ho, fun k hk x => ?_⟩
  rcases hv with hv | hv
  · exact h.d k hk (by rw [← hv]; exact x)
  · have := hv k x
    have := (h.so.s.own_ne k hk).2
    omega

/-- Whatever is written into a row that lies above all of the stack leaves the stack as it was. -/
theorem SO.poke {w wr : World} {p B : Nat} {most : Int} {xs zs : List Int} {v va : Value} (h : SO w wr p most xs v) (_ho : wr.ownsRow B 3 1 va zs.length (zs.map (Value.int .i64))) (hB : p < B) (hv : ∀ k, v.ownBlock = some k → k < B) (a : Addr) (ha : B ≤ a.block) (u : Value) : SO w (wr.setCell a u) p most xs v := by
  have hf : Fr (fun k => k = a.block) wr (wr.setCell a u) := Fr.setCell (S := fun k => k = a.block) (Fr.refl _ wr) a (fun _ => rfl) u
  exact ⟨h.s.fr hf (fun x => by omega) (fun k hk x => by have := hv k hk; omega), h.lo, h.fr.keep hf (fun i hi => by have := h.lo; omega)⟩

end Go.Proofs.Ytnbdomhikbfabaa
