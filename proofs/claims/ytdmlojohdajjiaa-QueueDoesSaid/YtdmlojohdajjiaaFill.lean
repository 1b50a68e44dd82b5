/- The queue: Fill. -/
import Derived.Test.YtdmlojohdajjiaaChanA
import Derived.Deep.LoopGhost
import Derived.Deep.DeepCutAuto
import Derived.Deep.CutBlock
namespace Go.Proofs.Ytdmlojohdajjiaa
open Go.RowKit

/-- A slice of picks that came in. -/
def PAt (w : World) (a : Option Addr) (b off : Nat) (ps : List Pk) : Prop :=
  (ps = [] ∨ a = some ⟨b, off, none⟩) ∧ ∀ j x, ps[j]? = some x → w.cell? ⟨b, off + j * 2, none⟩ = some (.int .i64 x.1) ∧ w.cell? ⟨b, off + j * 2 + 1, none⟩ = some (.int .i64 x.2)
theorem PAt.fr {S : Nat → Prop} {w w' : World} {a : Option Addr} {b off : Nat} {ps : List Pk} (h : PAt w a b off ps) (f : Fr S w w') (hn : ps ≠ [] → ¬ S b) : PAt w' a b off ps :=
  ⟨h.1, fun j x hj => by
    have hne : ps ≠ [] := fun e => by rw [e] at hj; simp at hj
    exact ⟨f.cell_some (h.2 j x hj).1 (hn hne), f.cell_some (h.2 j x hj).2 (hn hne)⟩⟩
theorem PAt.ne {w : World} {a : Option Addr} {b off : Nat} {ps : List Pk} (h : PAt w a b off ps) (hne : ps ≠ []) : ∃ cs t f, w.heap[b]? = some (.cells cs t f) := by
  cases ps with
  | nil => exact absurd rfl hne
  | cons x r =>
    have := (h.2 0 x rfl).1
    simp only [World.cell?] at this
    split at this
    · rename_i c t f hc
      exact ⟨_, _, _, hc⟩
    · simp at this
theorem PAt.ne_chan {w : World} {a : Option Addr} {b off p c room : Nat} {ps qs : List Pk} (h : PAt w a b off ps) (q : QC w p c room qs) : ps ≠ [] → ¬ b = c := fun hne e => by
  obtain ⟨cs, t, f, h1⟩ := h.ne hne
  obtain ⟨_, s, r, h2⟩ := q
  rw [e, h2] at h1
  cases h1

theorem take_snoc {xs : List Pk} {k : Nat} {x : Pk} (h : xs[k]? = some x) : xs.take (k + 1) = xs.take k ++ [x] := by
  rw [List.take_add_one, h]; rfl

/-- How many go in. -/
def fits (room n m : Nat) : Nat := min m (room - n)

set_option maxRecDepth 100000 in
set_option maxHeartbeats 400000 in
theorem fill_any (p c room cap : Nat) (a : Option Addr) (b off : Nat) (qs ps : List Pk) (w : World) (h : QC w p c room qs) (hp : PAt w a b off ps) (hb : ps.length ≤ 1000) (hq : qs.length ≤ room) :
    Calls Try.prog 13 #[.pointer (some ⟨p, 0, none⟩), .slice a ps.length cap] w fun e w' => e = .returned (.int .i64 (fits room qs.length ps.length : Nat)) ∧ QC w' p c room (qs ++ ps.take (fits room qs.length ps.length)) ∧ Fr (fun k => k = c) w w' := by
  have H := Lib.hid h
  have HP := Lib.hid hp
  clear h hp
  go_enter Try.func13, Try.ntmps13
  go_wp2_with fail
  go_loopg [5] ps.length (fun gk i wr => ∃ k : Nat, k + gk = ps.length ∧ qs.length + k ≤ room ∧ i = .int .i64 k ∧ QC wr p c room (qs ++ ps.take k) ∧ Fr (fun k => k = c) w wr)
  case atStart => exact ⟨0, Nat.zero_add _, by omega, rfl, by simpa using H.out, Fr.refl _ _⟩
  case round =>
    obtain ⟨k, hk, hkr, rfl, hq1, hf1⟩ := hrel
    have HG := Lib.hid hk
    have Q1 := Lib.hid hq1
    have F1 := Lib.hid hf1
    have hkl : k ≤ ps.length := by omega
    clear hk hq1 hf1
    by_cases hlt : k < ps.length
    · obtain ⟨x, hx⟩ : ∃ x, ps[k]? = some x := ⟨_, List.getElem?_eq_getElem hlt⟩
      have hne : ps ≠ [] := fun e => by rw [e] at hlt; simp at hlt
      obtain rfl := HP.out.1.resolve_left hne
      obtain ⟨d0, d1⟩ := (HP.out.fr F1.out (HP.out.ne_chan H.out)).2 k x hx
      have hl : (qs ++ ps.take k).length = qs.length + k := by simp; omega
      have HL := Lib.hid hl
      have HX := Lib.hid hx
      clear hx hl hne
      by_cases hroom : qs.length + k < room
      · go_wp2_with (go_at_call 8; refine stop ?_)
        refine Stop.go ((push_room p c room x (qs ++ ps.take k) wr Q1.out (by rw [HL.out]; exact hroom)).mono ?_)
        rintro e w2 ⟨rfl, q2, f2⟩
        have Q2 := Lib.hid q2
        have F2 := Lib.hid (F1.out.trans f2 (U := fun k => k = c) (fun _ _ x => x) (fun _ _ x => x))
        clear q2 f2 d0 d1
        go_wp2
        go_roundg (gk - 1)
        case measure => have := HG.out; omega
        case rel => exact ⟨k + 1, by have := HG.out; omega, by omega, by go_num, by rw [take_snoc HX.out, ← List.append_assoc]; exact Q2.out, F2.out⟩
      · go_wp2_with (go_at_call 8; refine stop ?_)
        refine Stop.go ((push_full p c room x (qs ++ ps.take k) wr Q1.out (by rw [HL.out]; omega)).mono ?_)
        rintro e w2 ⟨rfl, f2⟩
        have hk' : k = fits room qs.length ps.length := by unfold fits; omega
        have F2 := Lib.hid (F1.out.step f2)
        have Q2 := Lib.hid (Q1.out.fr f2 (fun x => x) (fun x => x))
        have HK := Lib.hid hk'
        clear f2 d0 d1 hk'
        go_wp2
        go_ret
        rw [← HK.out]
        exact ⟨rfl, Q2.out, F2.out⟩
    · have hk' : k = fits room qs.length ps.length := by unfold fits; omega
      have HK := Lib.hid hk'
      clear hk'
      go_wp2
      go_ret
      rw [← HK.out]
      exact ⟨rfl, Q1.out, F1.out⟩

end Go.Proofs.Ytdmlojohdajjiaa
