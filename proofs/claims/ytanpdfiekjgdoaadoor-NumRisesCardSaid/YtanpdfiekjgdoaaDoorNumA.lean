/- Show, of the program and of the reference; a digit; a number. -/
import Derived.Test.YtanpdfiekjgdoaaDoorRows
import Derived.Test.YtanpdfiekjgdoaaDoorLaw
import Derived.Test.YtanpdfiekjgdoaaDoorOpen
import Derived.Test.YtanpdfiekjgdoaaDoorShelf
import Derived.Lib.AppendIntMem
import Derived.Lib.ItoaMem
import Derived.Laws.BytesArg
import Derived.Laws.Concat
import Derived.Outline
import Derived.Deep.QuietTactic
import Derived.BigQuiet
import Derived.Lib.Hide
import Derived.WalkSpells
import Derived.WalkLawsBesides
import Derived.Deep.LoopGhost
import Derived.Deep.DeepCutAuto
import Derived.Deep.CutBlock
import Derived.IntWalk
namespace Go.Proofs.YtanpdfiekjgdoaaDoor
open Go.RowKit Go.Lib

/-- The table of powers of ten reads as it was laid. -/
def Tb (w : World) : Prop := TabIs Tryd.prog w "internal/strconv.uint64pow10" .u64 pow10Tab
theorem Tb.fr {w w' : World} (h : Tb w) (f : Fr nob w w') : Tb w' := tabBelow_of_tabIs h w' f.below0
theorem fr_grow (w : World) (k : Nat) (os : Array Obj) : Fr nob w (Sort.grow (w.drewN k) os) :=
  ⟨rfl, rfl, rfl, by simp [Sort.grow, World.drewN], fun i hi _ => by simp [Sort.grow, World.drewN, Array.getElem?_append, hi]⟩

theorem itoa_ok (n : Int) (h0 : 0 ≤ n) (h1 : n ≤ 2147483647) (w : World) (h : Tb w) :
    Calls Tryd.prog 15 #[.int .i64 n] w fun e w' => e = .returned (.string ⟨(decDigits n.toNat).toArray⟩) ∧ Fr nob w w' := by
  refine (Tryd.strconv_Itoa n (by omega) (by omega) w h).mono ?_
  rintro e w' ⟨rfl, k, os, rfl⟩
  refine ⟨?_, fr_grow w k os⟩
  rw [show itoa n = decDigits n.toNat by unfold itoa; rw [if_neg (by omega)]]

set_option maxRecDepth 100000 in
theorem show_any (n : Int) (w : World) (h : Tb w) :
    Calls Tryd.prog 8 #[.int .i64 n] w fun e w' => e = .returned (.tuple #[.string (showS n), .int .i64 (showE n)]) ∧ Fr nob w w' := by
  by_cases h0 : n < 0
  · rw [showS_no (.inl h0), showE_no (.inl h0)]
    go_enter Tryd.func8, Tryd.ntmps8
    go_wp2
    go_ret2
    exact ⟨rfl, Fr.refl _ _⟩
  by_cases h1 : 2147483647 < n
  · rw [showS_no (.inr h1), showE_no (.inr h1)]
    go_enter Tryd.func8, Tryd.ntmps8
    go_wp2
    go_ret2
    exact ⟨rfl, Fr.refl _ _⟩
  rw [showS_ok (by omega) (by omega), showE_ok (by omega) (by omega)]
  have H := Lib.hid h
  clear h
  go_enter Tryd.func8, Tryd.ntmps8
  go_wp2_with (go_at_call 15; refine stop ?_)
  refine Stop.go ((itoa_ok n (by omega) (by omega) w H.out).mono ?_)
  rintro e w1 ⟨rfl, f1⟩
  have F1 := Lib.hid f1
  clear f1
  go_wp2
  go_ret2
  exact ⟨rfl, F1.out⟩

set_option maxRecDepth 100000 in
theorem digit_yes (c : Int) (w : World) (h0 : 48 ≤ c) (h1 : c ≤ 57) : Calls Tryd.prog 14 #[.int .u8 c] w fun e w' => e = .returned (.bool true) ∧ w = w' := by
  go_enter Tryd.func14, Tryd.ntmps14
  go_wp2
  go_ret
  exact ⟨rfl, rfl⟩
set_option maxRecDepth 100000 in
theorem digit_no (c : Int) (w : World) (h : c < 48 ∨ 57 < c) : Calls Tryd.prog 14 #[.int .u8 c] w fun e w' => e = .returned (.bool false) ∧ w = w' := by
  by_cases h0 : 48 ≤ c
  · have h1 : ¬ c ≤ 57 := by omega
    go_enter Tryd.func14, Tryd.ntmps14
    go_wp2
    go_ret
    exact ⟨rfl, rfl⟩
  · go_enter Tryd.func14, Tryd.ntmps14
    go_wp2
    go_ret
    exact ⟨rfl, rfl⟩
set_option maxRecDepth 100000 in
theorem is_yes (n : Int) (w : World) (h0 : 0 ≤ n) (h1 : n ≤ 2147483647) : Calls Tryd.prog 16 #[.int .i64 n] w fun e w' => e = .returned (.bool true) ∧ w = w' := by
  go_enter Tryd.func16, Tryd.ntmps16
  go_wp2
  go_ret
  exact ⟨rfl, rfl⟩
set_option maxRecDepth 100000 in
theorem is_no (n : Int) (w : World) (h : n < 0 ∨ 2147483647 < n) : Calls Tryd.prog 16 #[.int .i64 n] w fun e w' => e = .returned (.bool false) ∧ w = w' := by
  by_cases h0 : 0 ≤ n
  · have h1 : ¬ n ≤ 2147483647 := by omega
    go_enter Tryd.func16, Tryd.ntmps16
    go_wp2
    go_ret
    exact ⟨rfl, rfl⟩
  · go_enter Tryd.func16, Tryd.ntmps16
    go_wp2
    go_ret
    exact ⟨rfl, rfl⟩

theorem run_one (w : World) (x : Int) {B : Nat} (h : w.heap[B]? = some (.cells #[.int .u8 x] 5 (0, 0))) :
    (convert 37 9 (.slice (some ⟨B, 0, none⟩) 1 1)).run Tryd.prog w = .ok (.string ⟨[UInt8.ofNat x.toNat].toArray⟩) w := by
  refine run_convert_bytes_arg w 37 5 Tryd.underlying37 Tryd.underlying5 B 0 1 1 [x] rfl (fun i hi => ?_) 9 Tryd.underlying9
  rw [Nat.zero_add]
  match i, hi with
  | 0, _ => exact obj_cell h 0
theorem ret_str {s t : ByteArray} (h : s = t) : Ending.returned (.string s) = .returned (.string t) := by rw [h]

set_option maxRecDepth 100000 in
theorem digits_any (u : Nat) : ∀ (w : World), u ≤ 2147483647 → Calls Tryd.prog 17 #[.int .i64 u] w fun e w' => e = .returned (.string ⟨(decDigits u).toArray⟩) ∧ Fr nob w w' := by
  induction u using Nat.strongRecOn with
  | _ u ih =>
    intro w hu
    have hd0 : (0 : Int) ≤ (u : Int) % 10 := by omega
    have hd1 : (u : Int) % 10 ≤ 9 := by omega
    obtain ⟨d, hd⟩ : ∃ d : Int, d = 48 + (u : Int) % 10 := ⟨_, rfl⟩
    have hdn : d.toNat = 48 + u % 10 := by omega
    have v1 := run_one (w.alloc (.cells #[.int .u8 d] 5)) d (obj_new rfl _)
    rw [hdn] at v1
    obtain ⟨T, hT⟩ : ∃ T : ByteArray, T = ⟨[UInt8.ofNat (48 + u % 10)].toArray⟩ := ⟨_, rfl⟩
    rw [← hT] at v1
    have hTz : T.size ≤ 1 := by rw [hT]; exact Nat.le_refl _
    have c1 : 48 + (u : Int) % 10 = d := hd.symm
    have c2 : IntKind.u8.wrap d = d := by unfold IntKind.wrap; simp [IntKind.bits, IntKind.signed]; omega
    have HD := Lib.hid hd
    have HT := Lib.hid hT
    by_cases h : u < 10
    · have hlt : (u : Int) < 10 := by omega
      have RES : Hid (T = ⟨(decDigits u).toArray⟩) := Lib.hid (by rw [hT, dec_small h, show u % 10 = u by omega])
      clear ih hd hdn hT
      go_enter Tryd.func17, Tryd.ntmps17
      go_wp2
      go_ret
      exact ⟨ret_str RES.out, (Fr.refl nob w).alloc _⟩
    · have hge : ¬ (u : Int) < 10 := by omega
      have IH := Lib.hid (ih (u / 10) (by omega))
      obtain ⟨q, hq⟩ : ∃ q, q = u / 10 := ⟨_, rfl⟩
      have hq' : (u : Int) / 10 = (q : Int) := by omega
      have RES : Hid ((⟨(decDigits q).toArray⟩ : ByteArray) ++ T = ⟨(decDigits u).toArray⟩) := Lib.hid (by rw [hT, ByteArray.mk_append_mk, dec_big h, hq])
      rw [← hq] at IH
      have hq10 : q ≤ 2147483647 := by omega
      obtain ⟨S, hS⟩ : ∃ S : ByteArray, S = ⟨(decDigits q).toArray⟩ := ⟨_, rfl⟩
      have hSz : S.size ≤ 4611686018427387904 := by
        have h1 := decDigits_length q
        have h2 : nDigits q ≤ q + 1 := by
          have : ∀ m, nDigits m ≤ m + 1 := fun m => by
            induction m using Nat.strongRecOn with
            | _ m ihm =>
              by_cases hm : m < 10
              · rw [nDigits_small hm]; omega
              · rw [nDigits_big hm]; have := ihm (m / 10) (by omega); omega
          exact this q
        rw [hS]; simp [ByteArray.size]; omega
      rw [← hS] at RES IH
      clear ih hd hdn hT hq hS
      go_enter Tryd.func17, Tryd.ntmps17
      go_wp2_with (go_at_call 17; refine stop ?_)
      refine Stop.go ((IH.out _ hq10).mono ?_)
      rintro e w1 ⟨rfl, f1⟩
      have F1 := Lib.hid (((Fr.refl nob w).alloc _).step f1)
      clear f1 v1
      go_wp2
      go_ret
      exact ⟨ret_str RES.out, F1.out⟩

set_option maxRecDepth 100000 in
theorem rshow_any (n : Int) (w : World) :
    Calls Tryd.prog 9 #[.int .i64 n] w fun e w' => e = .returned (.tuple #[.string (showS n), .int .i64 (showE n)]) ∧ Fr nob w w' := by
  by_cases h0 : 0 ≤ n ∧ n ≤ 2147483647
  · rw [showS_ok h0.1 h0.2, showE_ok h0.1 h0.2]
    obtain ⟨u, rfl⟩ : ∃ u : Nat, n = u := ⟨n.toNat, by omega⟩
    rw [Int.toNat_natCast]
    go_enter Tryd.func9, Tryd.ntmps9
    go_wp2_with (go_at_call 16; refine stop ?_)
    refine Stop.go ((is_yes u w h0.1 h0.2).mono ?_)
    rintro e w1 ⟨rfl, rfl⟩
    go_wp2_with (go_at_call 17; refine stop ?_)
    refine Stop.go ((digits_any u w (by omega)).mono ?_)
    rintro e w1 ⟨rfl, f1⟩
    have F1 := Lib.hid f1
    clear f1
    go_wp2
    go_ret2
    exact ⟨rfl, F1.out⟩
  · have h1 : n < 0 ∨ 2147483647 < n := by omega
    rw [showS_no h1, showE_no h1]
    go_enter Tryd.func9, Tryd.ntmps9
    go_wp2_with (go_at_call 16; refine stop ?_)
    refine Stop.go ((is_no n w h1).mono ?_)
    rintro e w1 ⟨rfl, rfl⟩
    go_wp2
    go_ret2
    exact ⟨rfl, Fr.refl _ _⟩

end Go.Proofs.YtanpdfiekjgdoaaDoor
