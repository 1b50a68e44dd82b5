/- The document's example: awake is true. -/
import Derived.Test.YtlppphhgbfehcaaScC
import Derived.Test.YtlppphhgbfehcaaScG
import Derived.Test.YtlppphhgbfehcaaScH
import Derived.Test.YtlppphhgbfehcaaScI
import Derived.Test.YtlppphhgbfehcaaScE
namespace Go.Proofs.Ytlppphhgbfehcaa
open Go.RowKit

theorem RP.lit2 {w : World} {B : Nat} {t : TypeId} {f : Nat × Nat} {x1 x2 y1 y2 : Int} (h : w.heap[B]? = some (.cells #[.int .i64 x1, .int .i64 x2, .int .i64 y1, .int .i64 y2] t f)) :
    RP w (.slice (some ⟨B, 0, none⟩) 2 2) [(x1, x2), (y1, y2)] := by
  refine ⟨_, B, 0, 2, rfl, Nat.le_refl _, by simp [maxLen], .inr rfl, fun j x hj => ?_⟩
  match j, hj with
  | 0, hj => obtain rfl := Option.some.inj hj; exact ⟨obj_cell h 0, obj_cell h 1⟩
  | 1, hj => obtain rfl := Option.some.inj hj; exact ⟨obj_cell h 2, obj_cell h 3⟩
  | j + 2, hj => simp at hj

theorem RP.slice {w : World} {v : Value} {xs : List Pk} (h : RP w v xs) : ∃ a n cap, v = .slice a n cap := by
  obtain ⟨a, b, off, cap, rfl, _⟩ := h
  exact ⟨_, _, _, rfl⟩
theorem plain_rp (v : Value) (ps : List Pk) (w : World) (h : RP w v ps) (hb : ps.length ≤ 100000) :
    Calls Try.prog 8 #[v] w fun e w' => ∃ v', e = .returned v' ∧ RP w' v' ps ∧ Fr nob w w' := by
  obtain ⟨a, b, off, cap, rfl, h1, h2, h3⟩ := h
  exact plain_any a b off cap ps w h3 hb

theorem fair_ex2 : fairB [(3, 5), (4, 0)] 3 2 = true := fairB_yes (by
  refine ⟨by decide, fun i hi => ?_⟩
  obtain rfl : i = 0 := by simp at hi; omega
  exact ⟨0, Nat.le_refl _, by decide, (3, 5), rfl, rfl⟩)
theorem fair_ex1 : fairB [(3, 5), (4, 0)] 3 1 = false := fairB_no (fun h => by
  obtain ⟨k, a, b, x, c, d⟩ := h.2 1 (by decide)
  obtain rfl : k = 1 := by omega
  obtain rfl := Option.some.inj c
  exact absurd d (by decide))

set_option maxRecDepth 100000 in
set_option maxHeartbeats 1000000 in
theorem awake_any (w : World) : Calls Try.prog 7 #[] w fun e w' => e = .returned (.bool true) ∧ Fr nob w w' := by
  have A1 := Lib.hid (fun w => get_any ⟨#[3, 5, 4, 0]⟩ w (by decide))
  rw [show getE (⟨#[3, 5, 4, 0]⟩ : ByteArray).data.toList = 0 from by decide, show getP (⟨#[3, 5, 4, 0]⟩ : ByteArray).data.toList = [(3, 5), (4, 0)] from by decide] at A1
  have A2 := Lib.hid (fun w => get_any ⟨#[4, 1]⟩ w (by decide))
  rw [show getE (⟨#[4, 1]⟩ : ByteArray).data.toList = 2 from by decide] at A2
  have A3 := Lib.hid (fun v w h => put_any v [(3, 5), (4, 0)] w h)
  rw [show putE [(3, 5), (4, 0)] = 0 from by decide, show putS [(3, 5), (4, 0)] = ⟨#[3, 5, 4, 0]⟩ from by decide] at A3
  go_enter Try.func7, Try.ntmps7
  go_wp2_with (go_at_call 11; refine stop ?_)
  refine Stop.go ((A1.out w).mono ?_)
  rintro e w1 ⟨v1, rfl, r1, f1⟩
  obtain ⟨a1, n1, cap1, rfl⟩ := r1.slice
  have R1 := Lib.hid r1
  have F1 := Lib.hid f1
  clear r1 f1 A1
  go_wp2_with (go_at_call 9; refine stop ?_)
  refine Stop.go ((A3.out _ w1 R1.out).mono ?_)
  rintro e w2 ⟨rfl, f2⟩
  have R2 := Lib.hid (R1.out.fr f2)
  have F2 := Lib.hid (F1.out.step f2)
  clear f2 A3
  go_wp2_with (go_at_call 11; refine stop ?_)
  refine Stop.go ((A2.out w2).mono ?_)
  rintro e w3 ⟨v3, rfl, -, f3⟩
  have R3 := Lib.hid (R2.out.fr f3)
  have F3 := Lib.hid (F2.out.step f3)
  clear f3 A2
  go_wp2_with (go_at_call 8; refine stop ?_)
  refine Stop.go ((plain_rp _ [(3, 5), (4, 0)] w3 R3.out (by decide)).mono ?_)
  rintro e w4 ⟨v4, rfl, o4, f4⟩
  obtain ⟨a4, n4, cap4, rfl⟩ := o4.slice
  have O4 := Lib.hid o4
  have F4 := Lib.hid (F3.out.step f4)
  have R4 := Lib.hid (R3.out.fr f4)
  clear o4 f4
  go_wp2_with (go_at_call 13; refine stop ?_)
  refine Stop.go ((same_any _ _ [(3, 5), (4, 0)] [(3, 5), (4, 0)] (w4.alloc _) (O4.out.fr ((Fr.refl nob w4).alloc _)) (RP.lit2 (obj_new (w := w4) rfl _))).mono ?_)
  rintro e w5 ⟨rfl, f5⟩
  have F5 := Lib.hid ((F4.out.alloc _).step f5)
  have R5 := Lib.hid ((R4.out.fr ((Fr.refl nob w4).alloc _)).fr f5)
  clear f5
  rw [show decide (([(3, 5), (4, 0)] : List Pk) = [(3, 5), (4, 0)]) = true from by decide]
  go_wp2_with (go_at_call 16; refine stop ?_)
  refine Stop.go ((fair_any _ [(3, 5), (4, 0)] 3 2 w5 R5.out (by decide)).mono ?_)
  rintro e w6 ⟨rfl, f6⟩
  have F6 := Lib.hid (F5.out.step f6)
  have R6 := Lib.hid (R5.out.fr f6)
  clear f6
  rw [fair_ex2]
  go_wp2_with (go_at_call 16; refine stop ?_)
  refine Stop.go ((fair_any _ [(3, 5), (4, 0)] 3 1 w6 R6.out (by decide)).mono ?_)
  rintro e w7 ⟨rfl, f7⟩
  have F7 := Lib.hid (F6.out.step f7)
  clear f7
  rw [fair_ex1]
  go_wp2
  go_ret
  exact ⟨rfl, F7.out⟩

end Go.Proofs.Ytlppphhgbfehcaa
