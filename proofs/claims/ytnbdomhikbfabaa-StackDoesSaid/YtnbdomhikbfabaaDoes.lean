/- StackDoes answers true, whatever the greatest size and the calls, and leaves its arguments as they were. No condition. -/
import Derived.Test.YtnbdomhikbfabaaDoesB
import Derived.ProofKit
import Derived.OpenShut
import Derived.ShutString
import Derived.ChangeOld
import Derived.Deep.SlicePairs
namespace Go.Proofs.Ytnbdomhikbfabaa.stackDoes
open Go.ChangeShapes Go.WideShapes Go.ChangeAt Go.RowKit
open Go.Deep (open_slice_pairs)
set_option linter.unusedVariables false

theorem own : ownKnob Try.prog.godebug = none := by kernel_rfl
theorem laidOut : laidOutB Try.prog = true := by kernel_rfl

theorem walk (most : Int) (a : Option Addr) (len cap : Nat) (w : World)
    (h : len = 0 ∨ ∃ b off, a = some ⟨b, off, none⟩ ∧ ∃ K N : Nat → Int, (∀ j, j < len → w.cell? ⟨b, off + j * 2, none⟩ = some (.int .u8 (K j))) ∧ ∀ j, j < len → w.cell? ⟨b, off + j * 2 + 1, none⟩ = some (.int .i64 (N j))) :
    Calls Try.prog 3 #[.int .i64 most, .slice a len cap] w fun e w' => e = .returned (.bool true) ∧ Below w.heap.size w w' := by
  have key : Calls Try.prog 3 #[.int .i64 most, .slice a len cap] w fun e w' => e = .returned (.bool true) ∧ Fr nob w w' := by
    by_cases h2 : 200 < len
    · exact does_many most a len cap w h2
    · rcases h with rfl | ⟨b, off, rfl, K, N, hK, hN⟩
      · exact does_none most a cap w
      · exact does_some most b off len cap K N w (by omega) hK hN
  exact key.mono fun e w' ⟨he, hf⟩ => ⟨he, hf.below0⟩

set_option maxRecDepth 100000 in
theorem lifted (os : Os) (started : os.Started) (H : Type) (enc : TypeId × Value → H) :
    ReturnsInHanded {} Try.checked os 3 .any (Rows.stackDoesSpec.pre6 enc Try.prog Try.f3 Rows.stackDoesRow.domain false) (Rows.stackDoesSpec.post enc Try.prog Try.f3 false true false false) := by
  refine returnsInHanded_of_change (C := Try.checked) own started (by kernel_rfl) Try.func3
    (ChangeSpec.witness6 (enc := enc) (C := Try.checked) false ⟨#[], #[.int .i64 0, .slice none 0 0], []⟩ 8 (by kernel_rfl) (by kernel_rfl) (by kernel_rfl) (by kernel_rfl)) ?_
  intro W base args ds gs before hval0 hW hcnd _
  have hval : ∀ (j : Nat) t v, Try.f3.params[j]? = some t → args[j]? = some v → Value.okWide Try.prog W .any base t v := hval0
  have hW' := hW
  obtain ⟨p, q, hA0, hV, rfl, hfz, hnd⟩ := hW
  have hA : DataW.TrodAll enc Try.prog W 0 (fun _ => true) true Try.f3.params.toList args.toList ds p := hA0
  rw [Try.params3] at hA hval
  obtain ⟨v0, vs0, d0, ds0, p0, q0, hargs, rfl, rfl, h0, r0⟩ := trodAll_cons hA
  obtain ⟨v1, vs1, d1, ds1, p1, q1, rfl, rfl, rfl, h1, r1⟩ := trodAll_cons r0
  obtain ⟨rfl, rfl, rfl⟩ := trodAll_nil r1
  obtain rfl : args = #[v0, v1] := by cases args; simp_all
  obtain ⟨rfl, rfl⟩ := trodVars_none hV
  obtain ⟨a0, rfl, rfl, rfl, w0⟩ := open_int Try.underlying3 (hval 0 3 v0 rfl rfl) h0
  obtain ⟨a1, len1, cap1, rfl⟩ := okWide_slice Try.underlying22 (hval 1 22 v1 rfl rfl)
  have k1 := h1
  have lt1 : ∀ x ∈ p1, x.block < W.heap.size := by obtain ⟨m, hm⟩ := k1; exact DataW.trod_lt m _ _ _ hm
  have z1 : len1 = 0 ∨ ∃ b off, a1 = some ⟨b, off, none⟩ ∧ ∃ K N : Nat → Int, (∀ j, j < len1 → W.cell? ⟨b, off + j * 2, none⟩ = some (.int .u8 (K j))) ∧ ∀ j, j < len1 → W.cell? ⟨b, off + j * 2 + 1, none⟩ = some (.int .i64 (N j)) := by
    obtain ⟨fuel, hf⟩ := h1
    rcases open_slice_pairs Try.underlying22 Try.underlying31 (by kernel_rfl) rfl rfl (by kernel_rfl) (by kernel_rfl) hf with ⟨hcs, _⟩ | ⟨x, l, c, m, n, V0, V1, D0, D1, P0, P1, hcs, _, hl, hm, hmm, _, hx⟩
    · simp [Value.cells] at hcs
      exact .inl hcs.2.1
    · simp [Value.cells] at hcs
      obtain ⟨rfl, rfl, rfl⟩ := hcs
      by_cases hz : len1 = 0
      · exact .inl hz
      right
      have hlm : len1 ≤ m := by rw [hmm]; split <;> omega
      have hs : x.spot = none := World.cell?_spot (by simpa [Addr.add] using (hx 0 (by omega)).1)
      obtain ⟨b, off, spot⟩ := x
      simp only at hs
      subst hs
      have e0 : ∀ i, i < len1 → ∃ k, V0 i = .int .u8 k := fun i hi => by
        obtain ⟨k, h1, _⟩ := DataW.trod_int Try.underlying5 (hx i (by omega)).2.2.1
        exact ⟨k, by simpa using h1⟩
      have e1 : ∀ i, i < len1 → ∃ k, V1 i = .int .i64 k := fun i hi => by
        obtain ⟨k, h1, _⟩ := DataW.trod_int Try.underlying3 (hx i (by omega)).2.2.2
        exact ⟨k, by simpa using h1⟩
      obtain ⟨K, hK⟩ := Go.Deep.choose_lt e0
      obtain ⟨N, hN⟩ := Go.Deep.choose_lt e1
      refine ⟨b, off, rfl, K, N, fun j hj => ?_, fun j hj => ?_⟩
      · rw [← hK j hj, ← (hx j (by omega)).1, Addr.add_lit]
      · rw [← hN j hj, ← (hx j (by omega)).2.1, Addr.add_lit, Nat.add_assoc]
  clear hA0 hval0
  refine (walk a0 a1 len1 cap1 W z1).mono fun e W' ⟨he, bel⟩ => ?_
  subst he
  exact ⟨_, rfl, _, _, _, [], _, [], hW', trodAll_mk1 (shut_bool Try.underlying4 _), (trodAll_cons_mk (shut_int Try.underlying3 w0) (trodAll_cons_mk (Below.trod laidOut (by kernel_rfl) (of_decide_eq_true (by kernel_rfl)) k1 bel lt1) trodAll_mk0)), rfl, bel.frame _, fun h => by cases h⟩

theorem over : Rows.stackDoesRow.holds Try.pinned (OpenSpec.ofChange Rows.stackDoesSpec) :=
  OpenClaim.holds_of_wide 3 Try.f3 rfl rfl rfl rfl rfl rfl rfl ⟨rfl, rfl, rfl, rfl, rfl⟩ rfl rfl rfl rfl rfl (by kernel_rfl) Try.func3 (by kernel_rfl)
    (of_decide_eq_true (by kernel_rfl)) (by unfold Func.isWrapper; first | (rw [if_pos (by decide +kernel)]; kernel_rfl) | (rw [if_neg (by decide +kernel)]; exact ⟨rfl, rfl⟩))
    (fun os started H enc _ => lifted os started H enc)

/-- The statement. -/
theorem proved : Rows.StackDoesSaid := over
#print axioms proved
end Go.Proofs.Ytnbdomhikbfabaa.stackDoes
