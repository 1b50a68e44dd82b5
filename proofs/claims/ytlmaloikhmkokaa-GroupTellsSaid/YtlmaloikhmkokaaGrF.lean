/- The reference's last. -/
import Derived.Test.YtlmaloikhmkokaaGrE
import Derived.Test.YtlmaloikhmkokaaGrB
namespace Go.Proofs.Ytlmaloikhmkokaa
open Go.RowKit

def lastR (st : St) (s : Int) : Int := match lastF s st 0 with | some (k, _) => (k : Nat) | none => -1
theorem ret_int {a b : Int} (h : a = b) : Ending.returned (.int .i64 a) = .returned (.int .i64 b) := by rw [h]

set_option maxRecDepth 100000 in
set_option maxHeartbeats 1000000 in
theorem last_any (v : Value) (st : St) (s : Int) (w : World) (h : RT w v (st.map Prod.fst)) (hl : st.length ≤ 32) :
    Calls Try.prog 18 #[v, .int .i64 s] w fun e w' => e = .returned (.int .i64 (lastR st s)) ∧ w = w' := by
  obtain ⟨a, b, off, cap, rfl, -, -, h3⟩ := h
  have H := Lib.hid h3
  clear h3
  rw [List.length_map]
  obtain ⟨n, hn⟩ : ∃ n, n = st.length := ⟨_, rfl⟩
  rw [← hn]
  have HN := Lib.hid hn
  have hnb : n ≤ 32 := by omega
  clear hn hl
  go_enter Try.func18, Try.ntmps18
  go_wp2_with fail
  go_loopg [5] n (fun gk i wr => gk ≤ n ∧ i = .int .i64 ((gk : Int) - 1) ∧ (∀ (j : Nat) (x : Tx × Bool), gk ≤ j → st[j]? = some x → ¬ x.1.s = s) ∧ wr = w)
  case atStart => exact ⟨Nat.le_refl _, rfl, fun j x hj hx => by have := (List.getElem?_eq_some_iff.1 hx).1; have := HN.out; omega, rfl⟩
  case round =>
    obtain ⟨hgk, rfl, hno, rfl⟩ := hrel
    have HO := Lib.hid hno
    clear hno
    by_cases hz : gk = 0
    · subst hz
      have RES : Hid (lastR st s = -1) := Lib.hid (by
        unfold lastR
        rw [lastF_none 0 (fun j x hx => HO.out j x (Nat.zero_le _) hx)])
      go_wp2
      go_ret
      exact ⟨ret_int RES.out.symm, rfl⟩
    · obtain ⟨g, rfl⟩ : ∃ g, gk = g + 1 := ⟨gk - 1, by omega⟩
      obtain ⟨x, hx⟩ : ∃ x, st[g]? = some x := ⟨_, List.getElem?_eq_getElem (by have := HN.out; omega)⟩
      have hx' : (st.map Prod.fst)[g]? = some x.1 := by rw [List.getElem?_map, hx]; rfl
      obtain rfl := H.out.addr hx'
      obtain ⟨sv, d0, -⟩ := H.out.2 g x.1 hx'
      have hi : (((g + 1 : Nat) : Int) - 1) = (g : Int) := by omega
      rw [hi]
      have HX := Lib.hid hx
      have hidx0 : (0 : Int) ≤ (g : Int) := Int.natCast_nonneg _
      have hidx1 : (g : Int) < (n : Int) := by omega
      clear hx hx' hz hi
      by_cases hs : x.1.s = s
      · have RES : Hid (lastR st s = (g : Int)) := Lib.hid (by
          unfold lastR
          rw [lastF_is 0 g (t := x.1) (b := x.2) HX.out hs (fun j y hj hy => HO.out j y (by omega) hy)]
          simp)
        rw [hs] at d0
        clear hs
        go_wp2
        go_ret
        exact ⟨ret_int RES.out.symm, rfl⟩
      · have hs' : (x.1.s == s) = false := by simpa using hs
        have HS := Lib.hid hs
        clear hs
        go_wp2
        go_roundg g
        case measure => omega
        case rel => exact ⟨by omega, rfl, fun j y hj hy => by
          rcases Nat.eq_or_lt_of_le hj with e | e
          · subst e; rw [HX.out] at hy; cases hy; exact HS.out
          · exact HO.out j y e hy, rfl⟩

end Go.Proofs.Ytlmaloikhmkokaa
