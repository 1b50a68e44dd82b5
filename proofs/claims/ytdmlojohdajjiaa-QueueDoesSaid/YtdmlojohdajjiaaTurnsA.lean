/- QueueTurns: the walk. -/
import Derived.Test.YtdmlojohdajjiaaAwk
import Derived.Test.YtdmlojohdajjiaaOpen
namespace Go.Proofs.Ytdmlojohdajjiaa
open Go.RowKit

/-- A slice of picks as a list. -/
theorem NumsAt.picks {w : World} {a : Option Addr} {len cap : Nat} {X : Nat → Nat → Int} (h : NumsAt w a len cap [.i64, .i64] X) :
    ∃ (b off : Nat) (ps : List Pk), ps.length = len ∧ len ≤ cap ∧ cap ≤ maxLen ∧ PAt w a b off ps := by
  obtain ⟨h1, h2, h3⟩ := h
  rcases h3 with rfl | ⟨b, off, rfl, _, h4⟩
  · exact ⟨0, 0, [], rfl, h1, h2, .inl rfl, by simp⟩
  · refine ⟨b, off, (List.range len).map fun i => (X i 0, X i 1), by simp, h1, h2, .inr rfl, fun j x hj => ?_⟩
    simp only [List.getElem?_map, Option.map_eq_some_iff] at hj
    obtain ⟨i, hi, rfl⟩ := hj
    obtain ⟨hj, hi'⟩ := List.getElem?_eq_some_iff.1 hi
    simp at hi' hj
    subst hi'
    exact ⟨(h4 j hj 0 .i64 rfl).1, (h4 j hj 1 .i64 rfl).1⟩

/-- The queue is one of the call's own, and nothing that was there has turned. -/
structure QO (w wr : World) (p c room : Nat) (xs : List Pk) : Prop where
  q : QC wr p c room xs
  lop : w.heap.size ≤ p
  lo : w.heap.size ≤ c
  fr : Fr nob w wr
theorem QO.step {w wr w1 : World} {p c room : Nat} {xs ys : List Pk} (h : QO w wr p c room xs) (hq : QC w1 p c room ys) (hf : Fr (fun k => k = c) wr w1) : QO w w1 p c room ys :=
  ⟨hq, h.lop, h.lo, h.fr.keep hf fun _ hi => hi ▸ h.lo⟩
theorem QO.keep {w wr w1 : World} {p c room : Nat} {xs : List Pk} (h : QO w wr p c room xs) (hf : Fr nob wr w1) : QO w w1 p c room xs :=
  ⟨h.q.fr hf (fun x => x) (fun x => x), h.lop, h.lo, h.fr.trans hf (fun _ _ x => x) (fun _ _ x => x)⟩

theorem drop_cons {xs : List Pk} {k : Nat} {x : Pk} (h : xs[k]? = some x) : xs.drop k = x :: xs.drop (k + 1) := by
  obtain ⟨h1, h2⟩ := List.getElem?_eq_some_iff.1 h
  rw [List.drop_eq_getElem_cons h1, h2]

theorem len_quiet {w : World} {p c room : Nat} {xs : List Pk} (h : QC w p c room xs) (n : Nat) : Calls Try.prog 16 #[.pointer (some ⟨p, 0, none⟩)] (w.drewN n) fun e w'' => e = .returned (.int .i64 xs.length) ∧ ∃ m, w'' = w.drewN m :=
  (len_any p c room xs (w.drewN n) h).mono fun _ _ ⟨he, hw⟩ => ⟨he, n, hw ▸ rfl⟩

set_option maxRecDepth 100000 in
theorem turns_bad (room : Int) (hr : room < 1 ∨ 256 < room) (a : Option Addr) (len cap : Nat) (w : World) : Calls Try.prog 4 #[.int .i64 room, .slice a len cap] w fun e w' => e = .returned (.bool true) ∧ Fr nob w w' := by
  by_cases h1 : room < 1
  · go_enter Try.func4, Try.ntmps4
    go_wp2_with (go_at_call 6; refine stop ?_)
    refine Stop.go ((awake_any w).mono ?_)
    rintro e w0 ⟨rfl, f0⟩
    go_wp2_with (go_at_call 7; refine stop ?_)
    refine Stop.go ((new_bad room w0 hr).mono ?_)
    rintro e w1 ⟨rfl, rfl⟩
    go_wp2
    go_ret
    exact ⟨rfl, f0⟩
  · have h2 : 256 < room := by omega
    go_enter Try.func4, Try.ntmps4
    go_wp2_with (go_at_call 6; refine stop ?_)
    refine Stop.go ((awake_any w).mono ?_)
    rintro e w0 ⟨rfl, f0⟩
    go_wp2_with (go_at_call 7; refine stop ?_)
    refine Stop.go ((new_bad room w0 hr).mono ?_)
    rintro e w1 ⟨rfl, rfl⟩
    go_wp2
    go_ret
    exact ⟨rfl, f0⟩

set_option maxRecDepth 100000 in
theorem turns_many (room : Nat) (h1 : 1 ≤ room) (h2 : room ≤ 256) (a : Option Addr) (len cap : Nat) (w : World) (h : 300 < len) : Calls Try.prog 4 #[.int .i64 room, .slice a len cap] w fun e w' => e = .returned (.bool true) ∧ Fr nob w w' := by
  go_enter Try.func4, Try.ntmps4
  go_wp2_with (go_at_call 6; refine stop ?_)
  refine Stop.go ((awake_any w).mono ?_)
  rintro e w0 ⟨rfl, f0⟩
  go_wp2_with (go_at_call 7; refine stop ?_)
  refine Stop.go ((new_ok room w0 h1 h2).mono ?_)
  rintro e w1 ⟨rfl, -, f1⟩
  have F1 := Lib.hid (f0.step f1)
  clear f0 f1
  go_wp2
  go_ret
  exact ⟨rfl, F1.out⟩

set_option maxRecDepth 100000 in
set_option maxHeartbeats 1000000 in
theorem turns_some (room : Nat) (h1 : 1 ≤ room) (h2 : room ≤ 256) (a : Option Addr) (b off cap : Nat) (ps : List Pk) (w : World) (h300 : ps.length ≤ 300) (hp : PAt w a b off ps) :
    Calls Try.prog 4 #[.int .i64 room, .slice a ps.length cap] w fun e w' => e = .returned (.bool true) ∧ Fr nob w w' := by
  have HP := Lib.hid hp
  clear hp
  go_enter Try.func4, Try.ntmps4
  go_wp2_with (go_at_call 6; refine stop ?_)
  refine Stop.go ((awake_any w).mono ?_)
  rintro e w0 ⟨rfl, f0⟩
  go_wp2_with (go_at_call 7; refine stop ?_)
  refine Stop.go ((new_ok room w0 h1 h2).mono ?_)
  rintro e w1 ⟨rfl, q1, f1⟩
  obtain ⟨c, hc⟩ : ∃ c, c = w0.heap.size := ⟨_, rfl⟩
  rw [← hc] at q1
  rw [← hc]
  have hs := f0.size
  have O1 := Lib.hid (⟨q1, by omega, by omega, f0.step f1⟩ : QO w w1 (c + 1) c room [])
  clear q1 f0 f1 hc hs
  go_wp2_with (go_at_call 13; refine stop ?_)
  refine Stop.go ((fill_any (c + 1) c room cap a b off [] ps w1 O1.out.q (HP.out.fr O1.out.fr (fun _ x => x)) (by omega) (by simp)).mono ?_)
  rintro e w2 ⟨rfl, q2, f2⟩
  obtain ⟨n, hn⟩ : ∃ n, n = fits room ([] : List Pk).length ps.length := ⟨_, rfl⟩
  rw [← hn] at q2
  rw [← hn]
  have hn' : n = min ps.length room := by rw [hn]; simp [fits]
  have O2 := Lib.hid (O1.out.step q2 f2)
  have hlen : (ps.take n).length = n := by simp; omega
  rw [List.nil_append] at O2
  obtain ⟨ts, hts⟩ : ∃ ts, ts = ps.take n := ⟨_, rfl⟩
  rw [← hts] at O2 hlen
  have hget : ∀ j, j < n → ts[j]? = ps[j]? := fun j hj => by rw [hts, List.getElem?_take_of_lt hj]
  have HG := Lib.hid hget
  have HL := Lib.hid hlen
  have HN := Lib.hid hn'
  clear q2 f2 hn hn' hlen hts hget O1
  go_upto_region 8 with fail
  go_cut [54] (fun s54 wx => s54 = .bool false ∧ wx = w2)
  case first =>
    by_cases hle : ps.length ≤ room
    · obtain rfl : n = ps.length := by have := HN.out; omega
      go_wp2_with (go_at_call 16; refine stop ?_)
      refine Stop.go ((len_any (c + 1) c room ts w2 O2.out.q).mono ?_)
      rintro e w7 ⟨rfl, rfl⟩
      rw [HL.out]
      go_wp2
      go_meet
      exact ⟨rfl, rfl⟩
    · obtain rfl : n = room := by have := HN.out; omega
      go_wp2_with (go_at_call 16; refine stop ?_)
      refine Stop.go ((len_any (c + 1) c n ts w2 O2.out.q).mono ?_)
      rintro e w7 ⟨rfl, rfl⟩
      rw [HL.out]
      go_wp2
      go_meet
      exact ⟨rfl, rfl⟩
  case rest =>
    obtain ⟨rfl, rfl⟩ := hcut
    go_wp2_with fail
    go_loopg [9] n (fun gk i wr => ∃ k : Nat, k + gk = n ∧ i = .int .i64 k ∧ QO w wr (c + 1) c room (ts.drop k))
    case atStart => exact ⟨0, Nat.zero_add _, rfl, O2.out⟩
    case round =>
      obtain ⟨k, hk, rfl, hO⟩ := hrel
      have O := Lib.hid hO
      have hkn : k ≤ n := by omega
      have HK := Lib.hid hk
      clear hO hk
      by_cases hlt : k < n
      · obtain ⟨x, hx⟩ : ∃ x, ts[k]? = some x := ⟨_, List.getElem?_eq_getElem (by have := HL.out; omega)⟩
        have hx' : ps[k]? = some x := by rw [← HG.out k hlt]; exact hx
        have hkp : k < ps.length := (List.getElem?_eq_some_iff.1 hx').1
        have hne : ps ≠ [] := fun e => by rw [e] at hkp; simp at hkp
        obtain rfl := HP.out.1.resolve_left hne
        obtain ⟨ys, hys⟩ : ∃ ys, ys = ts.drop (k + 1) := ⟨_, rfl⟩
        have O' : Hid (QO w wr (c + 1) c room (x :: ys)) := by rw [hys, ← drop_cons hx]; exact O
        have hdl : ys.length = n - k - 1 := by have := HL.out; rw [hys]; simp; omega
        have HYS := Lib.hid hys
        have HX := Lib.hid hx'
        have HD := Lib.hid hdl
        clear hx hx' hne hdl hys
        go_wp2_with (go_at_call 11; refine stop ?_)
        refine Stop.go ((pop_some (c + 1) c room x ys wr O'.out.q).mono ?_)
        rintro e w3 ⟨rfl, q3, f3⟩
        have O3 := Lib.hid (O'.out.step q3 f3)
        clear q3 f3
        go_upto_region 14 with fail
        obtain ⟨w4, hw4⟩ : ∃ w4, w4 = w3.alloc (.cells #[.int .i64 x.1, .int .i64 x.2] 35) := ⟨_, rfl⟩
        simp only [← hw4]
        have A4 : Fr nob w3 w4 := hw4 ▸ (Fr.refl nob w3).alloc _
        have b4 : w4.heap[w3.heap.size]? = some (.cells #[.int .i64 x.1, .int .i64 x.2] 35 (0, 0)) := hw4 ▸ obj_new rfl _
        have O4 := Lib.hid (O3.out.keep A4)
        have e0 : w4.cell? ⟨w3.heap.size, 0, none⟩ = some (.int .i64 x.1) := obj_cell b4 0
        have e1 : w4.cell? ⟨w3.heap.size, 1, none⟩ = some (.int .i64 x.2) := obj_cell b4 1
        obtain ⟨d0, d1⟩ := (HP.out.fr O4.out.fr (fun _ x => x)).2 k x HX.out
        clear hw4 A4 b4 O3
        have hidx0 : (0 : Int) ≤ (k : Int) := Int.natCast_nonneg _
        have hidx1 : (k : Int) < (ps.length : Int) := by omega
        go_quiet ((go_at_call 16; exact len_quiet O4.out.q _))
        have O5 := Lib.hid (O4.out.keep (w1 := w4.drewN nq) ((Fr.refl nob w4).drewN nq))
        have hsub : wrap64 (wrap64 ((n : Int) - (k : Int)) - 1) = (ys.length : Int) := by
          have := HD.out
          have := HN.out
          unfold wrap64
          omega
        clear e0 e1 d0 d1
        go_wp2
        go_roundg (gk - 1)
        case measure => have := HK.out; omega
        case rel => exact ⟨k + 1, by have := HK.out; omega, by go_num, by rw [← HYS.out]; exact O5.out⟩
      · have hnil : ts.drop k = [] := List.drop_eq_nil_of_le (by have := HL.out; omega)
        have O' : Hid (QO w wr (c + 1) c room []) := by rw [← hnil]; exact O
        clear hnil O
        go_wp2_with (go_at_call 11; refine stop ?_)
        refine Stop.go ((pop_none (c + 1) c room wr O'.out.q).mono ?_)
        rintro e w3 ⟨rfl, f3⟩
        have F3 := Lib.hid (O'.out.fr.step f3)
        clear f3
        go_wp2
        go_ret
        exact ⟨rfl, F3.out.alloc _⟩

theorem turns_walk (room : Int) (a : Option Addr) (len cap : Nat) (X : Nat → Nat → Int) (w : World) (_ : (Lit.int .i64 room).wf = true) (h : NumsAt w a len cap [.i64, .i64] X) :
    Calls Try.prog 4 #[.int .i64 room, .slice a len cap] w fun e w' => e = .returned (.bool true) ∧ Below w.heap.size w w' := by
  have key : Calls Try.prog 4 #[.int .i64 room, .slice a len cap] w fun e w' => e = .returned (.bool true) ∧ Fr nob w w' := by
    by_cases hr : room < 1 ∨ 256 < room
    · exact turns_bad room hr a len cap w
    · obtain ⟨r, rfl⟩ : ∃ r : Nat, room = r := ⟨room.toNat, by omega⟩
      by_cases h2 : 300 < len
      · exact turns_many r (by omega) (by omega) a len cap w h2
      · obtain ⟨b, off, ps, rfl, h3, h4, h5⟩ := h.picks
        exact turns_some r (by omega) (by omega) a b off cap ps w (by omega) h5
  exact key.mono fun e w' ⟨he, hf⟩ => ⟨he, hf.below0⟩

end Go.Proofs.Ytdmlojohdajjiaa

