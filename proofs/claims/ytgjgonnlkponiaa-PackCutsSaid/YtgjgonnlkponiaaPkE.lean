/- The reference's Get. -/
import Derived.Test.YtgjgonnlkponiaaPkD
namespace Go.Proofs.Ytgjgonnlkponiaa
open Go.RowKit

theorem nxT_zero {l : List UInt8} {at0 most : Nat} (h : nxE l most = 0) : ∃ t : Nat, nxT l at0 most = t ∧ at0 ≤ t ∧ t ≤ at0 + l.length ∧ nxR l most = l.drop (t - at0) := by
  refine ⟨at0 + (hiN l + 1), by simp [nxT, h], by omega, ?_, ?_⟩
  · have h1 := hiN_le l
    have : hiN l ≠ l.length := fun e => by
      unfold nxE at h
      split at h
      · cases h
      · cases h
        try rw [if_pos e] at *
        try contradiction
    omega
  · rw [Nat.add_sub_cancel_left]; simp [nxR, h]
theorem nxT_err {l : List UInt8} {at0 most : Nat} (h : nxE l most ≠ 0) : nxT l at0 most = 0 := by simp [nxT, h]

set_option maxRecDepth 100000 in
set_option maxHeartbeats 1000000 in
theorem rget_any (s : ByteArray) (w : World) (hs : s.size ≤ 4611686018427387904) : Calls Try.prog 11 #[.string s] w (GT s w) := by
  obtain ⟨L, hL⟩ : ∃ L, L = s.data.toList := ⟨_, rfl⟩
  have HLs := Lib.hid hL
  have hLl : L.length = s.size := by rw [hL, slen]
  have HLl := Lib.hid hLl
  have HG1 : Hid (getE s.data.toList = if nxE L 100000 = 0 then gtE (nxN L 100000).toNat (nxR L 100000) else nxE L 100000) := Lib.hid (by rw [hL]; rfl)
  have HG2 : Hid (getL s.data.toList = if getE s.data.toList = 0 then gtL (nxN L 100000).toNat (nxR L 100000) else []) := Lib.hid (by rw [hL]; rfl)
  have ONE := Lib.hid (fun at0 most mi hmi w h => one_any s at0 most mi hmi w hs h)
  rw [← hL] at ONE
  have O0 := Lib.hid (ONE.out 0 100000 100000 (by decide) w (Nat.zero_le _))
  rw [List.drop_zero] at O0
  clear hL hLl
  go_enter Try.func11, Try.ntmps11
  go_wp2_with (go_at_call 16; refine stop ?_)
  refine Stop.go (O0.out.mono ?_)
  rintro e w1 ⟨rfl, rfl⟩
  clear O0
  by_cases he : nxE L 100000 = 0
  · obtain ⟨many, hN, hM, -⟩ := nx_zero he
    obtain ⟨t0, hT0, -, ht0, hR0⟩ := nxT_zero (at0 := 0) he
    rw [Nat.sub_zero] at hR0
    rw [Nat.zero_add] at ht0
    have HE1 : Hid (getE s.data.toList = gtE many (L.drop t0)) := Lib.hid (by rw [HG1.out, if_pos he, hN, Int.toNat_natCast, hR0])
    have HE2 : Hid (getL s.data.toList = if getE s.data.toList = 0 then gtL many (L.drop t0) else []) := Lib.hid (by rw [HG2.out, hN, Int.toNat_natCast, hR0])
    have ht0s : t0 ≤ s.size := by have := HLl.out; omega
    rw [he, hN, hT0]
    clear he hN HG1 HG2 hT0 hR0 ht0
    go_wp2_with fail
    go_loopg [5, 7, 8] many (fun gk s5 s7 i wr => ∃ (k p : Nat) (acc : List Int), k + gk = many ∧ i = .int .i64 k ∧ s5 = .int .i64 p ∧ p ≤ s.size ∧ acc.length = k ∧ acc ++ gtL gk (L.drop p) = gtL many (L.drop t0) ∧ gtE gk (L.drop p) = gtE many (L.drop t0) ∧ wr.ownsRow w.heap.size 3 1 s7 k (ic acc) ∧ Fr nob w wr)
    case atStart => exact ⟨0, t0, [], Nat.zero_add _, rfl, rfl, ht0s, rfl, rfl, rfl, World.ownsRow_nil _ _ _ _, Fr.refl _ _⟩
    case round =>
      obtain ⟨k, p, acc, hk, rfl, rfl, hp, hal, hL, hE, ho, hf⟩ := hrel
      obtain ⟨a3, cap3, rfl, -, -⟩ := owns_shape ho
      have O := Lib.hid ho
      have F := Lib.hid hf
      have HK := Lib.hid hk
      have HA := Lib.hid hal
      have HL := Lib.hid hL
      have HE := Lib.hid hE
      have hkl : k ≤ many := by omega
      clear ho hf hk hal hL hE
      by_cases hlt : k < many
      · obtain ⟨g', hg'⟩ : ∃ g', gk = g' + 1 := ⟨gk - 1, by have := HK.out; omega⟩
        have HG := Lib.hid hg'
        clear hg'
        go_wp2_with (go_at_call 16; refine stop ?_)
        refine Stop.go ((ONE.out p top 2147483648 (by decide) wr hp).mono ?_)
        rintro e w2 ⟨rfl, rfl⟩
        by_cases he : nxE (L.drop p) top = 0
        · obtain ⟨n, hN, hM, -⟩ := nx_zero he
          obtain ⟨t, hT, htp, htl, hR⟩ := nxT_zero (at0 := p) he
          rw [List.drop_drop, show p + (t - p) = t by omega] at hR
          have hts : t ≤ s.size := by have := HLl.out; rw [List.length_drop] at htl; omega
          unfold top at hM
          have HE2' : Hid (gtE g' (L.drop t) = gtE many (L.drop t0)) := Lib.hid (by
            have h1 := HE.out
            rw [HG.out] at h1
            simp only [gtE, he, if_true, hR] at h1
            exact h1)
          have HL2 : Hid ((acc ++ [(n : Int) - 1]) ++ gtL g' (L.drop t) = gtL many (L.drop t0)) := Lib.hid (by
            have h1 := HL.out
            rw [HG.out] at h1
            simp only [gtL, hN, hR] at h1
            rw [List.append_assoc]; exact h1)
          rw [he, hN, hT]
          have hn1 : (n : Int) ≤ 2147483648 := by omega
          clear he hN HE HL hR hT htp htl
          go_wp2_with (at_builtin; refine stop ?_)
          refine Stop.go (wpList_app rfl (.tmp 36) (.tmp 39) rfl appInt rfl (base := w.heap.size) (n := k) (xs := ic acc) ?p1 (m := 1) (news := ic [(n : Int) - 1]) rfl rfl ?p3 ?p4 ?p5 ?p6 ?p7)
          case p1 => exact O.out.alloc _
          case p3 => exact Src.block (cs := #[.int .i64 ((n : Int) - 1)]) (obj_new rfl _) (ic_one [(n : Int) - 1])
          case p4 => omega
          case p5 => simp only [maxLen]; omega
          case p6 => have := F.out.size; simp; omega
          case p7 =>
            intro v4 w4 ho4 hg4 _
            rw [← ic_app] at ho4
            have F4 := Lib.hid ((F.out.alloc (.cells #[.int .i64 ((n : Int) - 1)] 3)).grown hg4 (fun i hi hl => by have := (O.out.lt i hi).1; omega))
            have O4 := Lib.hid ho4
            clear ho4 hg4
            go_wp2
            go_roundg (gk - 1)
            case measure => have := HG.out; omega
            case rel =>
              have hgk : gk - 1 = g' := by have := HG.out; omega
              rw [hgk]
              exact ⟨k + 1, t, acc ++ [(n : Int) - 1], by have := HG.out; have := HK.out; omega, by go_num, rfl, hts, by simp [HA.out], HL2.out, HE2'.out, O4.out, F4.out⟩
        · have RES : Hid (getE s.data.toList = nxE (L.drop p) top) := Lib.hid (by
            have h1 := HE.out
            rw [HG.out] at h1
            simp only [gtE, he, if_false] at h1
            rw [HE1.out]; exact h1.symm)
          rw [(nx_err he).1, nxT_err he]
          obtain ⟨E, hE⟩ : ∃ E, E = nxE (L.drop p) top := ⟨_, rfl⟩
          rw [← hE] at he RES ⊢
          have p1 : (E == 0) = false := by simpa using he
          have p2 : (E != 0) = true := by simpa using he
          have HNE := Lib.hid he
          clear hE he
          go_wp2
          go_ret2
          exact GT.err RES.out HNE.out F.out
      · have hkk : k = many := by omega
        have hg0 : gk = 0 := by have := HK.out; omega
        by_cases hT : p = s.size
        · have hd : L.drop p = [] := List.drop_eq_nil_of_le (by have := HLl.out; omega)
          have hE0 : getE s.data.toList = 0 := by
            have h1 := HE.out
            rw [hg0, hd] at h1
            rw [HE1.out, ← h1]; rfl
          have RES : Hid (getE s.data.toList = 0 ∧ getL s.data.toList = acc) := Lib.hid ⟨hE0, by
            have h1 := HL.out
            rw [hg0] at h1
            rw [HE2.out, if_pos hE0, ← h1]; simp [gtL]⟩
          have hem : ¬ (p : Int) < (s.size : Int) := by omega
          have R9 : Hid (RI wr (.slice a3 k cap3) acc) := Lib.hid (RI.of_owns HA.out.symm O.out)
          clear hT hE0 hkk hg0 hd
          go_wp2
          go_ret2
          exact GT.ok RES.out.1 RES.out.2 R9.out F.out
        · have hd : L.drop p ≠ [] := fun e => by
            have := congrArg List.length e
            have := HLl.out
            simp at *; omega
          have RES : Hid (getE s.data.toList = 2) := Lib.hid (by
            have h1 := HE.out
            rw [hg0] at h1
            rw [HE1.out, ← h1]
            simp only [gtE]; rw [if_neg hd])
          have hem : (p : Int) < (s.size : Int) := by omega
          clear hT hkk hg0 hd
          go_wp2
          go_ret2
          exact GT.err RES.out (by decide) F.out
  · have RES : Hid (getE s.data.toList = nxE L 100000) := Lib.hid (by rw [HG1.out, if_neg he])
    rw [(nx_err he).1, nxT_err he]
    obtain ⟨E, hE⟩ : ∃ E, E = nxE L 100000 := ⟨_, rfl⟩
    rw [← hE] at he RES ⊢
    have p1 : (E == 0) = false := by simpa using he
    have p2 : (E != 0) = true := by simpa using he
    have HNE := Lib.hid he
    clear hE he HG1 HG2
    go_wp2
    go_ret2
    exact GT.err RES.out HNE.out (Fr.refl _ _)

end Go.Proofs.Ytgjgonnlkponiaa
