/- QueueFeeds: the walk. -/
import Derived.Test.YtdmlojohdajjiaaTurnsA
namespace Go.Proofs.Ytdmlojohdajjiaa
open Go.RowKit

/-- What waits: from k on, up to f. -/
def win (ps : List Pk) (k f : Nat) : List Pk := (ps.take f).drop k
theorem win_self (ps : List Pk) (k : Nat) : win ps k k = [] := by simp [win]
theorem win_len (ps : List Pk) (k f : Nat) (h : f ≤ ps.length) : (win ps k f).length = f - k := by simp [win]; omega
theorem win_cons {ps : List Pk} {k f : Nat} {x : Pk} (h : ps[k]? = some x) (hk : k < f) : win ps k f = x :: win ps (k + 1) f :=
  drop_cons (by rw [List.getElem?_take_of_lt hk]; exact h)
theorem win_fill (ps : List Pk) (k f m : Nat) (hk : k ≤ f) (hf : f ≤ ps.length) : win ps k f ++ (ps.drop f).take m = win ps k (f + m) := by
  unfold win
  rw [List.take_add, List.drop_append_of_le_length (by simp; omega)]

/-- A rest of the slice. -/
theorem PAt.rest {w : World} {a : Option Addr} {b off : Nat} {ps : List Pk} (h : PAt w a b off ps) (f : Nat) (a' : Option Addr) (ha : ps.drop f = [] ∨ a' = some ⟨b, off + f * 2, none⟩) : PAt w a' b (off + f * 2) (ps.drop f) :=
  ⟨ha, fun j x hj => by
    rw [List.getElem?_drop] at hj
    have := h.2 (f + j) x hj
    rw [show off + f * 2 + j * 2 = off + (f + j) * 2 by omega]
    exact this⟩

set_option maxRecDepth 100000 in
theorem feeds_bad (room : Int) (hr : room < 1 ∨ 256 < room) (a : Option Addr) (len cap : Nat) (w : World) : Calls Try.prog 5 #[.int .i64 room, .slice a len cap] w fun e w' => e = .returned (.bool true) ∧ Fr nob w w' := by
  by_cases h1 : room < 1
  · go_enter Try.func5, Try.ntmps5
    go_wp2_with (go_at_call 6; refine stop ?_)
    refine Stop.go ((awake_any w).mono ?_)
    rintro e w0 ⟨rfl, f0⟩
    go_wp2_with (go_at_call 7; refine stop ?_)
    refine Stop.go ((new_bad room w0 hr).mono ?_)
    rintro e w1 ⟨rfl, rfl⟩
    go_wp2
    go_ret
    exact ⟨rfl, f0⟩
  · have h2 : 256 < room := by omega
    go_enter Try.func5, Try.ntmps5
    go_wp2_with (go_at_call 6; refine stop ?_)
    refine Stop.go ((awake_any w).mono ?_)
    rintro e w0 ⟨rfl, f0⟩
    go_wp2_with (go_at_call 7; refine stop ?_)
    refine Stop.go ((new_bad room w0 hr).mono ?_)
    rintro e w1 ⟨rfl, rfl⟩
    go_wp2
    go_ret
    exact ⟨rfl, f0⟩

set_option maxRecDepth 100000 in
theorem feeds_many (room : Nat) (h1 : 1 ≤ room) (h2 : room ≤ 256) (a : Option Addr) (len cap : Nat) (w : World) (h : 300 < len) : Calls Try.prog 5 #[.int .i64 room, .slice a len cap] w fun e w' => e = .returned (.bool true) ∧ Fr nob w w' := by
  go_enter Try.func5, Try.ntmps5
  go_wp2_with (go_at_call 6; refine stop ?_)
  refine Stop.go ((awake_any w).mono ?_)
  rintro e w0 ⟨rfl, f0⟩
  go_wp2_with (go_at_call 7; refine stop ?_)
  refine Stop.go ((new_ok room w0 h1 h2).mono ?_)
  rintro e w1 ⟨rfl, -, f1⟩
  have F1 := Lib.hid (f0.step f1)
  clear f0 f1
  go_wp2
  go_ret
  exact ⟨rfl, F1.out⟩

set_option maxRecDepth 100000 in
set_option maxHeartbeats 1000000 in
theorem feeds_some (room : Nat) (h1 : 1 ≤ room) (h2 : room ≤ 256) (a : Option Addr) (b off cap : Nat) (ps : List Pk) (w : World) (h300 : ps.length ≤ 300) (hcap : ps.length ≤ cap) (hp : PAt w a b off ps) :
    Calls Try.prog 5 #[.int .i64 room, .slice a ps.length cap] w fun e w' => e = .returned (.bool true) ∧ Fr nob w w' := by
  have HP := Lib.hid hp
  have HC := Lib.hid hcap
  clear hp hcap
  go_enter Try.func5, Try.ntmps5
  go_wp2_with (go_at_call 6; refine stop ?_)
  refine Stop.go ((awake_any w).mono ?_)
  rintro e w0 ⟨rfl, f0⟩
  go_wp2_with (go_at_call 7; refine stop ?_)
  refine Stop.go ((new_ok room w0 h1 h2).mono ?_)
  rintro e w1 ⟨rfl, q1, f1⟩
  obtain ⟨c, hc⟩ : ∃ c, c = w0.heap.size := ⟨_, rfl⟩
  rw [← hc] at q1
  rw [← hc]
  have hs := f0.size
  have O1 := Lib.hid (⟨q1, by omega, by omega, f0.step f1⟩ : QO w w1 (c + 1) c room [])
  clear q1 f0 f1 hc hs
  go_wp2_with fail
  go_loopg [8, 9] ps.length (fun gk s8 i wr => ∃ (k f g : Nat) (a' : Option Addr) (cap' : Nat), k + gk = ps.length ∧ k ≤ f ∧ f + g = ps.length ∧ f - k ≤ room ∧ i = .int .i64 k ∧ s8 = .slice a' g cap' ∧ g ≤ cap' ∧
    (ps.drop f = [] ∨ a' = some ⟨b, off + f * 2, none⟩) ∧ QO w wr (c + 1) c room (win ps k f))
  case atStart => exact ⟨0, 0, ps.length, a, cap, Nat.zero_add _, Nat.le_refl _, Nat.zero_add _, by omega, rfl, rfl, HC.out, by simpa using HP.out.1, by rw [win_self]; exact O1.out⟩
  case round =>
    obtain ⟨k, f, g, a', cap', hk, hkf, hfg, hroom, rfl, rfl, hgc, ha', hO⟩ := hrel
    have O := Lib.hid hO
    have HK := Lib.hid hk
    have HA' := Lib.hid ha'
    have HGC := Lib.hid hgc
    have HFG := Lib.hid hfg
    have hkl : k ≤ ps.length := by omega
    have hg3 : g ≤ 300 := by omega
    have hgl : (ps.drop f).length = g := by simp; omega
    clear hO hk ha' hgc hfg
    by_cases hlt : k < ps.length
    · obtain ⟨x, hx⟩ : ∃ x, ps[k]? = some x := ⟨_, List.getElem?_eq_getElem hlt⟩
      have hne : ps ≠ [] := fun e => by rw [e] at hlt; simp at hlt
      obtain rfl := HP.out.1.resolve_left hne
      have HX := Lib.hid hx
      have hwl : (win ps k f).length = f - k := win_len _ _ _ (by have := HFG.out; omega)
      obtain ⟨ds, hds⟩ : ∃ ds, ds = ps.drop f := ⟨_, rfl⟩
      have hdl : ds.length = g := by rw [hds]; exact hgl
      have PD : Hid (PAt wr a' b (off + f * 2) ds) := by rw [hds]; exact (HP.out.fr O.out.fr (fun _ x => x)).rest f a' HA'.out
      have HW := Lib.hid hwl
      have HDS := Lib.hid hds
      clear hwl hx hne hds hgl
      subst hdl
      go_wp2_with (go_at_call 13; refine stop ?_)
      refine Stop.go ((fill_any (c + 1) c room cap' a' b (off + f * 2) (win ps k f) ds wr O.out.q PD.out (by omega) (by rw [HW.out]; exact hroom)).mono ?_)
      rintro e w2 ⟨rfl, q2, f2⟩
      obtain ⟨m, hm⟩ : ∃ m, m = fits room (win ps k f).length ds.length := ⟨_, rfl⟩
      rw [← hm] at q2
      rw [← hm]
      rw [HW.out] at hm
      unfold fits at hm
      rw [HDS.out, win_fill ps k f m hkf (by have := HFG.out; omega), win_cons HX.out (by have := HFG.out; omega)] at q2
      have O2 := Lib.hid (O.out.step q2 f2)
      have hmd : m ≤ ds.length := by omega
      have hmc : m ≤ cap' := by have := HGC.out; omega
      have HM := Lib.hid hm
      clear q2 f2 hm
      go_upto_region 14 with fail
      go_cut [8] (fun s8 wx => wx = w2 ∧ ∃ a'', s8 = .slice a'' (ds.length - m) (cap' - m) ∧ (ps.drop (f + m) = [] ∨ a'' = some ⟨b, off + (f + m) * 2, none⟩))
      case first =>
        go_wp2_with fail
        · rename_i h
          go_meet
          exact ⟨rfl, a', by simp [h], .inl (List.drop_eq_nil_of_le (by have := HGC.out; have := HFG.out; omega))⟩
        · go_meet
          refine ⟨rfl, _, rfl, HA'.out.imp (fun e => ?_) (fun e => ?_)⟩
          · rw [← List.drop_drop, e]; simp
          · rw [e]
            show some (Addr.add ⟨b, off + f * 2, none⟩ (m * 2)) = _
            rw [Addr.add_lit, show off + f * 2 + m * 2 = off + (f + m) * 2 by omega]
      case rest =>
        obtain ⟨rfl, a2, rfl, ha2⟩ := hcut
        have HA2 := Lib.hid ha2
        clear ha2
        go_wp2_with (go_at_call 11; refine stop ?_)
        refine Stop.go ((pop_some (c + 1) c room x (win ps (k + 1) (f + m)) _ O2.out.q).mono ?_)
        rintro e w3 ⟨rfl, q3, f3⟩
        have O3 := Lib.hid (O2.out.step q3 f3)
        clear q3 f3
        go_upto_region 16 with fail
        obtain ⟨w4, hw4⟩ : ∃ w4, w4 = w3.alloc (.cells #[.int .i64 x.1, .int .i64 x.2] 35) := ⟨_, rfl⟩
        simp only [← hw4]
        have A4 : Fr nob w3 w4 := hw4 ▸ (Fr.refl nob w3).alloc _
        have b4 : w4.heap[w3.heap.size]? = some (.cells #[.int .i64 x.1, .int .i64 x.2] 35 (0, 0)) := hw4 ▸ obj_new rfl _
        have O4 := Lib.hid (O3.out.keep A4)
        have e0 : w4.cell? ⟨w3.heap.size, 0, none⟩ = some (.int .i64 x.1) := obj_cell b4 0
        have e1 : w4.cell? ⟨w3.heap.size, 1, none⟩ = some (.int .i64 x.2) := obj_cell b4 1
        obtain ⟨d0, d1⟩ := (HP.out.fr O4.out.fr (fun _ x => x)).2 k x HX.out
        clear hw4 A4 b4 O3
        have hidx0 : (0 : Int) ≤ (k : Int) := Int.natCast_nonneg _
        have hidx1 : (k : Int) < (ps.length : Int) := by omega
        go_quiet (fail)
        have O5 := Lib.hid (O4.out.keep (w1 := w4.drewN nq) ((Fr.refl nob w4).drewN nq))
        clear e0 e1 d0 d1
        go_wp2
        go_roundg (gk - 1)
        case measure => have := HK.out; omega
        case rel => exact ⟨k + 1, f + m, ds.length - m, a2, cap' - m, by have := HK.out; omega, by have := HM.out; have := HFG.out; omega, by have := HFG.out; omega, by have := HM.out; omega, by go_num, rfl, by have := HGC.out; omega, HA2.out, O5.out⟩
    · have hkk : k = ps.length := by omega
      have hff : f = ps.length := by have := HFG.out; omega
      have hg0 : g = 0 := by have := HFG.out; omega
      have O' : Hid (QO w wr (c + 1) c room []) := by have := O.out; rw [hkk, hff, win_self] at this; exact this
      subst hg0
      clear O hff hgl
      go_wp2_with (go_at_call 16; refine stop ?_)
      refine Stop.go ((len_any (c + 1) c room [] wr O'.out.q).mono ?_)
      rintro e w3 ⟨rfl, rfl⟩
      go_wp2
      go_ret
      exact ⟨rfl, O'.out.fr⟩

theorem feeds_walk (room : Int) (a : Option Addr) (len cap : Nat) (X : Nat → Nat → Int) (w : World) (_ : (Lit.int .i64 room).wf = true) (h : NumsAt w a len cap [.i64, .i64] X) :
    Calls Try.prog 5 #[.int .i64 room, .slice a len cap] w fun e w' => e = .returned (.bool true) ∧ Below w.heap.size w w' := by
  have key : Calls Try.prog 5 #[.int .i64 room, .slice a len cap] w fun e w' => e = .returned (.bool true) ∧ Fr nob w w' := by
    by_cases hr : room < 1 ∨ 256 < room
    · exact feeds_bad room hr a len cap w
    · obtain ⟨r, rfl⟩ : ∃ r : Nat, room = r := ⟨room.toNat, by omega⟩
      by_cases h2 : 300 < len
      · exact feeds_many r (by omega) (by omega) a len cap w h2
      · obtain ⟨b, off, ps, rfl, h3, h4, h5⟩ := h.picks
        exact feeds_some r (by omega) (by omega) a b off cap ps w (by omega) h3 h5
  exact key.mono fun e w' ⟨he, hf⟩ => ⟨he, hf.below0⟩

end Go.Proofs.Ytdmlojohdajjiaa
