/- awake. -/
import Derived.Test.YtlmaloikhmkokaaGrJ
namespace Go.Proofs.Ytlmaloikhmkokaa
open Go.RowKit

def Tr (w : World) (e : Ending) (w' : World) : Prop := e = .returned (.bool true) ∧ Fr nob w w'
theorem RE.block {w : World} {B n : Nat} {es : List Ev} {cs : Array Value} (hn : n = es.length) (hm : n ≤ maxLen) (hc : cs.toList = ec es) (h : w.heap[B]? = some (.cells cs 44 (0, 0))) : RE w (.slice (some ⟨B, 0, none⟩) n n) es :=
  RE.of_owns (base := 0) (t := 44) hn ⟨by rw [ec_len, hn], .inr ⟨B, n, cs, rfl, Nat.zero_le _, h, Nat.le_refl _, hm, by rw [← Array.length_toList, hc, ec_len, hn], by rw [hc, hn, ← ec_len, List.take_length]⟩⟩
def gA : List Ev := [⟨0, 1, 0, 0⟩, ⟨0, 2, 0, 0⟩, ⟨3, 1, 0, 0⟩]
def gB : List Ev := [⟨0, 3, 0, 0⟩, ⟨3, 1, 0, 0⟩]
theorem runA : grun gA 0 [] = ([(⟨1, true, 0, []⟩, false), (⟨2, false, 1, []⟩, true)], 0, 0) := by decide +kernel
theorem runB : grun gB 0 [] = ([], 1, 6) := by decide +kernel
theorem GO.a {w w' : World} {e : Ending} (h : GO gA w e w') : ∃ v, e = .returned (.tuple #[v, .int .i64 0, .int .i64 0]) ∧ RT w' v [⟨1, true, 0, []⟩, ⟨2, false, 1, []⟩] ∧ Fr nob w w' := by
  obtain ⟨v, h1, h2, h3⟩ := h
  rw [runA] at h1 h2
  exact ⟨v, h1, h2, h3⟩
theorem GO.b {w w' : World} {e : Ending} (h : GO gB w e w') : ∃ v, e = .returned (.tuple #[v, .int .i64 1, .int .i64 6]) ∧ Fr nob w w' := by
  obtain ⟨v, h1, h2, h3⟩ := h
  rw [runB] at h1
  exact ⟨v, h1, h3⟩

set_option maxRecDepth 100000 in
set_option maxHeartbeats 1000000 in
theorem awake_any (w : World) : Calls Try.prog 7 #[] w (Tr w) := by
  go_enter Try.func7, Try.ntmps7
  go_wp2_with (go_at_call 8; refine stop ?_)
  refine Stop.go ((group_any _ gA _ (RE.block rfl (by simp [maxLen, gA]) rfl (obj_new rfl _)) (by decide)).mono ?_)
  intro e w1 h1
  obtain ⟨v, rfl, hv, f1⟩ := h1.a
  have F1 := Lib.hid (((Fr.refl nob w).alloc _).step f1)
  have V1 := Lib.hid hv
  obtain ⟨a, b, off, cap, rfl, -, -, -⟩ := hv
  clear h1 f1
  go_wp2_with (go_at_call 8; refine stop ?_)
  refine Stop.go ((group_any _ gB _ (RE.block rfl (by simp [maxLen, gB]) rfl (obj_new rfl _)) (by decide)).mono ?_)
  intro e w2 h2
  obtain ⟨v2, rfl, f2⟩ := h2.b
  have f12 := ((Fr.refl nob w1).alloc _).step f2
  have F2 := Lib.hid (F1.out.step f12)
  have V2 := Lib.hid (V1.out.fr f12)
  clear h2 f2 f12 F1 V1
  obtain ⟨a', b', off', cap', he, -, -, ht⟩ := V2.out
  obtain ⟨rfl, rfl⟩ : a = a' ∧ cap = cap' := by simpa using he
  obtain rfl := ht.addr (k := 0) rfl
  obtain ⟨s0, x0, x1, x2, x3, -⟩ := ht.2 0 _ rfl
  obtain ⟨s1, y0, y1, y2, y3, -⟩ := ht.2 1 _ rfl
  have x0' : w2.cell? ⟨b', off', none⟩ = some (.int .i64 1) := by simpa using x0
  have x1' : w2.cell? ⟨b', off' + 1, none⟩ = some (.bool true) := by simpa using x1
  have y1' : w2.cell? ⟨b', off' + 4 + 1, none⟩ = some (.bool false) := by simpa using y1
  have y2' : w2.cell? ⟨b', off' + 4 + 2, none⟩ = some (.int .i64 1) := by simpa using y2
  clear he ht x0 x1 x2 x3 y0 y1 y2 y3
  go_wp2_with (go_at_call 13; refine stop ?_)
  refine Stop.go ((events_any _ _ _ V2.out (by decide) (by simp)).mono ?_)
  rintro e w3 ⟨v3, rfl, hv3, f3⟩
  obtain ⟨a3, b3, o3, c3, rfl, -⟩ := hv3
  have F3 := Lib.hid (F2.out.step f3)
  have hlen : (evs [(⟨1, true, 0, []⟩ : Tx), ⟨2, false, 1, []⟩]).length = 4 := rfl
  rw [hlen]
  clear f3 hlen
  go_wp2
  go_ret
  exact ⟨rfl, F3.out⟩

end Go.Proofs.Ytlmaloikhmkokaa
