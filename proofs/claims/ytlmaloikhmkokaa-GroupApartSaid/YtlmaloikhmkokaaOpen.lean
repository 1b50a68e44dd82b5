/- What the reading of an argument tells of memory: slices of numbers, slices of structs of numbers. -/
import Derived.ProofKit
import Derived.OpenShut
import Derived.ShutString
import Derived.ChangeOld
import Derived.Deep.Slices
import Derived.Below
namespace Go.Proofs.Ytlmaloikhmkokaa
open Go.ChangeShapes Go.WideShapes Go.ChangeAt Go.RowKit

/-- A slice value, its length n: every cell of its elements (m cells each) is a number: element i's cell j is X i j, of kind ks j. -/
def NumsAt (w : World) (a : Option Addr) (n cap : Nat) (ks : List IntKind) (X : Nat → Nat → Int) : Prop :=
  n ≤ cap ∧ cap ≤ maxLen ∧ (n = 0 ∨ ∃ b off, a = some ⟨b, off, none⟩ ∧ b < w.heap.size ∧ ∀ i, i < n → ∀ j k, ks[j]? = some k → w.cell? ⟨b, off + i * ks.length + j, none⟩ = some (.int k (X i j)) ∧ (Lit.int k (X i j)).wf = true)

section
variable {H : Type} {enc : TypeId × Value → H} {P : Program} {W : World} {t e : TypeId} {a : Option Addr} {len cap : Nat} {d : DataW H} {p : List MemPlace}

theorem addr_plain {x : Addr} {v : Value} {W : World} {i : Nat} (h : W.cell? (x.add i) = some v) (h0 : W.cell? (x.add 0) ≠ none) : ∃ b off, x = ⟨b, off, none⟩ := by
  obtain ⟨u, hu⟩ := Option.ne_none_iff_exists'.1 h0
  have hs : x.spot = none := World.cell?_spot (by simpa [Addr.add] using hu)
  obtain ⟨b, off, s⟩ := x
  exact ⟨b, off, by simpa using hs⟩

/-- A slice of numbers. -/
theorem nums_of_ints {k : IntKind} (ht : P.underlying t = some (.slice e)) (he : P.underlying e = some (.int k)) (hc : P.cellsOf e = 1)
    (h : DataW.Trod enc P W 0 (fun _ => true) true t (.slice a len cap) d p) : ∃ X, NumsAt W a len cap [k] X := by
  obtain ⟨fuel, hf⟩ := h
  rcases open_ints ht he hc hf with ⟨hcs, _⟩ | ⟨x, l, c, zs, hcs, _, hl, hm, hz, _, hcell, hwz⟩
  · simp [Value.cells] at hcs
    obtain ⟨rfl, rfl, rfl⟩ := hcs
    exact ⟨fun _ _ => 0, Nat.le_refl _, by simp [maxLen], .inl rfl⟩
  · simp [Value.cells] at hcs
    obtain ⟨rfl, rfl, rfl⟩ := hcs
    refine ⟨fun i _ => zs.getD i 0, hl, hm, ?_⟩
    by_cases h0 : len = 0
    · exact .inl h0
    right
    simp only [if_true] at hz
    have hcz : 0 < zs.length := by omega
    obtain ⟨b, off, rfl⟩ := addr_plain (hcell 0 hcz) (by rw [hcell 0 hcz]; simp)
    have hb := World.block_lt_of_cell? W _ (hcell 0 hcz)
    refine ⟨b, off, rfl, by simpa [Addr.add] using hb, fun i hi j k' hk => ?_⟩
    match j, hk with
    | 0, hk =>
      simp at hk
      subst hk
      have hiz : i < zs.length := by omega
      have := hcell i hiz
      rw [Addr.add_lit] at this
      refine ⟨by simpa using this, hwz _ ?_⟩
      simp [List.getD, hiz]
    | j + 1, hk => simp at hk

/-- A slice of structs, each field a number. -/
theorem nums_of_structs {fs : Array Field} {ks : List IntKind} (ht : P.underlying t = some (.slice e)) (he : P.underlying e = some (.struct fs)) (hce : P.cellsOf e = ks.length) (hfs : fs.size = ks.length) (hk0 : 0 < ks.length)
    (hks : ∀ j k, ks[j]? = some k → ∃ f : Field, fs[j]? = some f ∧ f.offset = j ∧ P.cellsOf f.type = 1 ∧ P.underlying f.type = some (.int k))
    (h : DataW.Trod enc P W 0 (fun _ => true) true t (.slice a len cap) d p) : ∃ X, NumsAt W a len cap ks X := by
  obtain ⟨fuel, hf⟩ := h
  rcases Go.Deep.open_slice ht hf with ⟨hcs, _⟩ | ⟨x, l, c, m, n, D, Pl, hcs, _, hl, hm, hmm, _, hx⟩
  · simp [Value.cells] at hcs
    obtain ⟨rfl, rfl, rfl⟩ := hcs
    exact ⟨fun _ _ => 0, Nat.le_refl _, by simp [maxLen], .inl rfl⟩
  · simp [Value.cells] at hcs
    obtain ⟨rfl, rfl, rfl⟩ := hcs
    by_cases h0 : len = 0
    · exact ⟨fun _ _ => 0, hl, hm, .inl h0⟩
    have hlm : len ≤ m := by rw [hmm]; split <;> omega
    have each : ∀ i, i < m → ∃ Y : Nat → Int, ∀ j k, ks[j]? = some k → W.cell? (x.add (i * ks.length + j)) = some (.int k (Y j)) ∧ (Lit.int k (Y j)).wf = true := by
      intro i hi
      obtain ⟨cs', h1, h2⟩ := hx i hi
      rw [hce] at h1
      obtain ⟨_, hlen, hcell⟩ := World.cells?_some h1
      obtain ⟨xs, n', hn, hxy, _, hxl, hfld⟩ := DataW.trod_struct he h2
      have one : ∀ j, j < ks.length → ∃ y : Int, ∀ k, ks[j]? = some k → W.cell? (x.add (i * ks.length + j)) = some (.int k y) ∧ (Lit.int k y).wf = true := by
        intro j hj
        obtain ⟨f, hf, ho, hc1, hu⟩ := hks j ks[j] (List.getElem?_eq_getElem hj)
        have g := hfld j f hf
        rw [ho, hc1] at g
        have hjx : j < xs.length := by rw [hxl, hfs]; exact hj
        rw [List.getElem?_eq_getElem hjx] at g
        obtain ⟨y, hy, _, hw⟩ := DataW.trod_int hu g
        refine ⟨y, fun k hk => ?_⟩
        rw [List.getElem?_eq_getElem hj] at hk
        obtain rfl := Option.some.inj hk
        have hc := hcell j hj
        rw [Go.Deep.add_add] at hc
        refine ⟨?_, hw⟩
        rw [hc]
        have hjc : j < cs'.length := by omega
        have h3 : (cs'.drop j).take 1 = [cs'[j]] := by
          rw [List.drop_eq_getElem_cons hjc]; rfl
        rw [h3] at hy
        rw [List.getElem?_eq_getElem hjc]
        exact congrArg some (List.cons.inj hy).1
      obtain ⟨Y, hY⟩ := Go.Deep.choose_lt one
      exact ⟨Y, fun j k hk => hY j (List.getElem?_eq_some_iff.1 hk).1 k hk⟩
    obtain ⟨X, hX⟩ := Go.Deep.choose_lt each
    have hk00 : ks[0]? = some ks[0] := List.getElem?_eq_getElem hk0
    have hc0 := (hX 0 (by omega) 0 _ hk00).1
    rw [Nat.zero_mul, Nat.add_zero] at hc0
    obtain ⟨b, off, rfl⟩ := addr_plain hc0 (by rw [hc0]; simp)
    have hb := World.block_lt_of_cell? W _ hc0
    refine ⟨X, hl, hm, .inr ⟨b, off, rfl, by simpa [Addr.add] using hb, fun i hi j k hk => ?_⟩⟩
    have := hX i (by omega) j k hk
    rw [Addr.add_lit] at this
    exact ⟨by rw [Nat.add_assoc]; exact this.1, this.2⟩
end

end Go.Proofs.Ytlmaloikhmkokaa
