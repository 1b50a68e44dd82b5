/- The iterator of a number's bytes; a range over it. -/
import Derived.Test.YtgjgonnlkponiaaPkF
import Derived.Test.YtgjgonnlkponiaaPkB
import Derived.RangeFuncNested
import Derived.RangeFuncBound
import Derived.RangeFuncCalls
import Derived.RangeFuncLeaves
import Derived.Shelf.Abstract
import Derived.Shelf.RegionOpen
import Derived.OwnWalkIn
import Derived.TacticsInMore
import Derived.LoopNIn
import Derived.LoopIn
namespace Go.Proofs.Ytgjgonnlkponiaa
open Go.RowKit Go.Shelf
attribute [local go_sem] Oper.semAt_some

/-- A number's bytes, as numbers. -/
def encI (n : Nat) : List Int := (enc7 n).map fun c => (c.toNat : Int)
theorem encI_small {n : Nat} (h : n < 128) : encI n = [(n : Int)] := by
  unfold encI
  rw [enc7_small h]
  simp; omega
theorem encI_big {n : Nat} (h : ¬ n < 128) : encI n = (((n % 128 : Nat) : Int) + 128) :: encI (n / 128) := by
  unfold encI
  rw [enc7_big h]
  simp; omega
theorem or128 (b : Nat) (hb : b < 128) : bits .or .u8 (b : Int) 128 = (b : Int) + 128 := by
  have h := (bits_nat .u8 8 (by decide) wraps_u8 b 128 (by omega) (by decide)).2
  rw [Nat.or_comm, nat_join 7 128 b (by decide) (by omega)] at h
  have h2 : bits .or .u8 (b : Int) 128 = ((128 + b : Nat) : Int) := h
  rw [h2]; omega
def boxN (B : Nat) (w : World) : Nat := match w.cell? ⟨B, 0, none⟩ with | some (.int _ u) => u.toNat | _ => 0

set_option maxRecDepth 100000 in
theorem groups_any (m : Int) (w : World) : Calls Try.prog 13 #[.int .i64 m] w fun e w' => e = .returned (.func (.func 17) #[] #[.pointer (some ⟨w.heap.size, 0, none⟩)]) ∧ w.alloc (.cells #[.int .i64 m] 3) = w' := by
  go_enter Try.func13, Try.ntmps13
  go_wp2
  go_ret
  exact ⟨rfl, rfl⟩

set_option maxRecDepth 100000 in
set_option maxHeartbeats 1000000 in
theorem groups_seq (n l Bn m : Nat) (hm : m ≤ 2147483648) (J : List Int → World → Prop)
    (hJ : ∀ pre W (u v : Int), J pre W → W.heap[Bn]? = some (.cells #[.int .i64 u] 3 (0, 0)) → J pre (W.setCell ⟨Bn, 0, none⟩ (.int .i64 v)))
    (hY : ∀ pre (x u : Int) W, J pre W → W.heap[Bn]? = some (.cells #[.int .i64 u] 3 (0, 0)) → 0 ≤ x → x < 256 → pre.length ≤ 5 → YieldAt Fence.wide (n - 1) Try.prog l #[.int .u8 x] W fun e W' => e = .returned (.bool true) ∧ J (pre ++ [x]) W' ∧ W'.heap[Bn]? = some (.cells #[.int .i64 u] 3 (0, 0)))
    (W : World) (hB : W.heap[Bn]? = some (.cells #[.int .i64 (m : Int)] 3 (0, 0))) (h0 : J [] W) :
    CallsIn Fence.wide n Try.prog 17 #[.func (.yield l) #[] #[], .pointer (some ⟨Bn, 0, none⟩)] W fun e W' => (∃ v, e = .returned v) ∧ J (encI m) W' := by
  have HJ := Lib.hid hJ
  have HY := Lib.hid hY
  have HB := Lib.hid hB
  have H0 := Lib.hid h0
  clear hJ hY hB h0
  refine callsIn_of_wp Try.func17 rfl trivial ?_ rfl
  simp only [Try.ntmps17, List.size_toArray, List.length_cons, List.length_nil, Nat.reduceAdd, Nat.reduceSub, Array.replicate_succ, Array.replicate_zero, List.push_toArray, List.append_toArray, List.nil_append, List.cons_append]
  gi_wp2
  gi_loopw [3] (fun _ wr => ∃ (pre : List Int) (u : Nat), J pre wr ∧ wr.heap[Bn]? = some (.cells #[.int .i64 (u : Int)] 3 (0, 0)) ∧ pre ++ encI u = encI m ∧ u ≤ 2147483648)
    (fun _ wr => boxN Bn wr)
  case atStart => exact ⟨[], m, H0.out, HB.out, rfl, hm⟩
  case round =>
    obtain ⟨pre, u, hj, hb, he, hu⟩ := hrel
    have c0 : wr.cell? ⟨Bn, 0, none⟩ = some (.int .i64 (u : Int)) := obj_cell hb 0
    have z0 := obj_free hb 0
    have BX := Lib.hid hb
    have JJ := Lib.hid hj
    have HE := Lib.hid he
    have hpl : pre.length ≤ 5 := by
      have h1 := congrArg List.length he
      have h2 := enc7_five hm
      simp [encI] at h1
      omega
    clear hj hb he
    by_cases h1 : u < 128
    · have h1' : ¬ (128 : Int) ≤ (u : Int) := by omega
      have hw : IntKind.u8.wrap (u : Int) = u := by unfold IntKind.wrap; simp [IntKind.bits, IntKind.signed]; omega
      obtain ⟨fn, tmps, assign, body, hy, hR⟩ := HY.out pre u u wr JJ.out BX.out (by omega) (by omega) hpl
      have RES := Lib.hid (encI_small h1)
      gi_wp2
      refine ⟨fun h => by simp [Fence.wide] at h, hR.mono ?_⟩
      rintro e W3 ⟨rfl, hJ3, hB3⟩
      have J3 := Lib.hid hJ3
      clear hJ3 hB3
      gi_wp2
      go_end0
      refine ⟨⟨_, rfl⟩, ?_⟩
      have := J3.out
      rw [← RES.out, HE.out] at this
      exact this
    · have h1' : (128 : Int) ≤ (u : Int) := by omega
      obtain ⟨q, hq⟩ : ∃ q, q = u / 128 := ⟨_, rfl⟩
      obtain ⟨b, hb⟩ : ∃ b, b = u % 128 := ⟨_, rfl⟩
      have hb2 : b < 128 := by omega
      have hq' : (u : Int) / 128 = (q : Int) := by omega
      have hm' : (u : Int) % 128 = (b : Int) := by omega
      have hm2 : (u : Int).tmod 128 = (b : Int) := by rw [Int.tmod_eq_emod_of_nonneg (by omega)]; exact hm'
      have hw : IntKind.u8.wrap (b : Int) = b := by unfold IntKind.wrap; simp [IntKind.bits, IntKind.signed]; omega
      have ho := or128 b hb2
      obtain ⟨x, hx⟩ : ∃ x : Int, x = (b : Int) + 128 := ⟨_, rfl⟩
      rw [← hx] at ho
      obtain ⟨fn, tmps, assign, body, hy, hR⟩ := HY.out pre x u wr JJ.out BX.out (by omega) (by omega) hpl
      have RES : Hid (encI u = x :: encI q) := Lib.hid (by rw [encI_big h1, ← hb, ← hq, ← hx])
      have hqu : q < u := by omega
      have hqb : q ≤ 2147483648 := by omega
      have HQ := Lib.hid hqu
      clear hq hb hx hqu
      gi_wp2
      refine ⟨fun h => by simp [Fence.wide] at h, hR.mono ?_⟩
      rintro e W3 ⟨rfl, hJ3, hB3⟩
      have c3 : W3.cell? ⟨Bn, 0, none⟩ = some (.int .i64 (u : Int)) := obj_cell hB3 0
      have z3 := obj_free hB3 0
      have J3 := Lib.hid (HJ.out _ _ u q hJ3 hB3)
      have B3 := Lib.hid (obj_set hB3 0 (.int .i64 (q : Int)))
      clear hJ3 hB3 c0 z0
      gi_wp2
      go_roundw
      case rel => exact ⟨pre ++ [x], q, J3.out, B3.out, by rw [List.append_assoc, List.singleton_append, ← RES.out]; exact HE.out, hqb⟩
      case measure =>
        have e1 := obj_cell B3.out 0
        have e2 := obj_cell BX.out 0
        have := HQ.out
        simp at e1 e2
        simp [boxN, e1, e2]
        omega

end Go.Proofs.Ytgjgonnlkponiaa
