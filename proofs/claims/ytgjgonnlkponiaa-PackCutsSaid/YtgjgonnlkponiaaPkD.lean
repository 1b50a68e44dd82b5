/- Get. -/
import Derived.Test.YtgjgonnlkponiaaPkC
namespace Go.Proofs.Ytgjgonnlkponiaa
open Go.RowKit

def GT (s : ByteArray) (w : World) (e : Ending) (w' : World) : Prop :=
  ∃ v, e = .returned (.tuple #[v, .int .i64 (getE s.data.toList)]) ∧ RI w' v (getL s.data.toList) ∧ Fr nob w w'
theorem GT.err {s : ByteArray} {w w' : World} {n : Int} (h : getE s.data.toList = n) (hn : n ≠ 0) (f : Fr nob w w') : GT s w (.returned (.tuple #[.slice none 0 0, .int .i64 n])) w' :=
  ⟨_, by rw [h], by rw [getL_err (by rw [h]; exact hn)]; exact RI.nil _, f⟩
theorem GT.ok {s : ByteArray} {w w' : World} {v : Value} {acc : List Int} (h : getE s.data.toList = 0) (hL : getL s.data.toList = acc) (r : RI w' v acc) (f : Fr nob w w') : GT s w (.returned (.tuple #[v, .int .i64 0])) w' :=
  ⟨_, by rw [h], by rw [hL]; exact r, f⟩
theorem sempty {T : ByteArray} (h : T.data.toList = []) : T.toList.isEmpty = true := by rw [ByteArray.toList_eq, h]; rfl
theorem sfull {T : ByteArray} (h : T.data.toList ≠ []) : T.toList.isEmpty = false := by
  rw [ByteArray.toList_eq]
  cases hc : T.data.toList with
  | nil => exact absurd hc h
  | cons _ _ => rfl

set_option maxRecDepth 100000 in
set_option maxHeartbeats 1000000 in
theorem get_any (s : ByteArray) (w : World) : Calls Try.prog 10 #[.string s] w (GT s w) := by
  have HG1 : Hid (getE s.data.toList = if nxE s.data.toList 100000 = 0 then gtE (nxN s.data.toList 100000).toNat (nxR s.data.toList 100000) else nxE s.data.toList 100000) := Lib.hid rfl
  have HG2 : Hid (getL s.data.toList = if getE s.data.toList = 0 then gtL (nxN s.data.toList 100000).toNat (nxR s.data.toList 100000) else []) := Lib.hid rfl
  go_enter Try.func10, Try.ntmps10
  go_wp2_with (go_at_call 15; refine stop ?_)
  refine Stop.go ((next_any s 100000 100000 (by decide) w).mono ?_)
  rintro e w1 ⟨R0, rfl, hR0, f1⟩
  have F1 := Lib.hid f1
  have HR := Lib.hid hR0
  clear f1 hR0
  by_cases he : nxE s.data.toList 100000 = 0
  · obtain ⟨many, hN, hM, -⟩ := nx_zero he
    have HE1 : Hid (getE s.data.toList = gtE many R0.data.toList) := Lib.hid (by rw [HG1.out, if_pos he, hN, Int.toNat_natCast, HR.out])
    have HE2 : Hid (getL s.data.toList = if getE s.data.toList = 0 then gtL many R0.data.toList else []) := Lib.hid (by rw [HG2.out, hN, Int.toNat_natCast, HR.out])
    rw [he, hN]
    clear he hN HG1 HG2 HR
    go_wp2_with fail
    go_loopg [0, 6, 20] many (fun gk s0 s6 i wr => ∃ (k : Nat) (T : ByteArray) (acc : List Int), k + gk = many ∧ i = .int .i64 k ∧ s0 = .string T ∧ acc.length = k ∧ acc ++ gtL gk T.data.toList = gtL many R0.data.toList ∧ gtE gk T.data.toList = gtE many R0.data.toList ∧ wr.ownsRow w.heap.size 3 1 s6 k (ic acc) ∧ Fr nob w wr)
    case atStart => exact ⟨0, R0, [], Nat.zero_add _, rfl, rfl, rfl, rfl, rfl, World.ownsRow_nil _ _ _ _, F1.out⟩
    case round =>
      obtain ⟨k, T, acc, hk, rfl, rfl, hal, hL, hE, ho, hf⟩ := hrel
      obtain ⟨a3, cap3, rfl, -, -⟩ := owns_shape ho
      have O := Lib.hid ho
      have F := Lib.hid hf
      have HK := Lib.hid hk
      have HA := Lib.hid hal
      have HL := Lib.hid hL
      have HE := Lib.hid hE
      have hkl : k ≤ many := by omega
      clear ho hf hk hal hL hE
      by_cases hlt : k < many
      · obtain ⟨g', hg'⟩ : ∃ g', gk = g' + 1 := ⟨gk - 1, by have := HK.out; omega⟩
        have HG := Lib.hid hg'
        clear hg'
        go_wp2_with (go_at_call 15; refine stop ?_)
        refine Stop.go ((next_any T top 2147483648 (by decide) wr).mono ?_)
        rintro e w2 ⟨R, rfl, hR, f2⟩
        have F2 := Lib.hid (F.out.step f2)
        have O2 := Lib.hid (f2.owns O.out (fun _ _ x => x))
        have HR := Lib.hid hR
        clear f2 hR O
        by_cases he : nxE T.data.toList top = 0
        · obtain ⟨n, hN, hM, -⟩ := nx_zero he
          unfold top at hM
          have HE2' : Hid (gtE g' R.data.toList = gtE many R0.data.toList) := Lib.hid (by
            have h1 := HE.out
            rw [HG.out] at h1
            simp only [gtE, he, if_true] at h1
            rw [HR.out]; exact h1)
          have HL2 : Hid ((acc ++ [(n : Int) - 1]) ++ gtL g' R.data.toList = gtL many R0.data.toList) := Lib.hid (by
            have h1 := HL.out
            rw [HG.out] at h1
            simp only [gtL, hN] at h1
            rw [HR.out, List.append_assoc]; exact h1)
          rw [he, hN]
          have hn1 : (n : Int) ≤ 2147483648 := by omega
          clear he hN HE HL HR
          go_wp2_with (at_builtin; refine stop ?_)
          refine Stop.go (wpList_app rfl (.tmp 31) (.tmp 34) rfl appInt rfl (base := w.heap.size) (n := k) (xs := ic acc) ?p1 (m := 1) (news := ic [(n : Int) - 1]) rfl rfl ?p3 ?p4 ?p5 ?p6 ?p7)
          case p1 => exact O2.out.alloc _
          case p3 => exact Src.block (cs := #[.int .i64 ((n : Int) - 1)]) (obj_new rfl _) (ic_one [(n : Int) - 1])
          case p4 => omega
          case p5 => simp only [maxLen]; omega
          case p6 => have := F2.out.size; simp; omega
          case p7 =>
            intro v4 w4 ho4 hg4 _
            rw [← ic_app] at ho4
            have F4 := Lib.hid ((F2.out.alloc (.cells #[.int .i64 ((n : Int) - 1)] 3)).grown hg4 (fun i hi hl => by have := (O2.out.lt i hi).1; omega))
            have O4 := Lib.hid ho4
            clear ho4 hg4
            go_wp2
            go_roundg (gk - 1)
            case measure => have := HG.out; omega
            case rel =>
              have hgk : gk - 1 = g' := by have := HG.out; omega
              rw [hgk]
              exact ⟨k + 1, R, acc ++ [(n : Int) - 1], by have := HG.out; have := HK.out; omega, by go_num, rfl, by simp [HA.out], HL2.out, HE2'.out, O4.out, F4.out⟩
        · have RES : Hid (getE s.data.toList = nxE T.data.toList top) := Lib.hid (by
            have h1 := HE.out
            rw [HG.out] at h1
            simp only [gtE, he, if_false] at h1
            rw [HE1.out]; exact h1.symm)
          rw [(nx_err he).1]
          obtain ⟨E, hE⟩ : ∃ E, E = nxE T.data.toList top := ⟨_, rfl⟩
          rw [← hE] at he RES ⊢
          have p1 : (E == 0) = false := by simpa using he
          have p2 : (E != 0) = true := by simpa using he
          have HNE := Lib.hid he
          clear hE he
          go_wp2
          go_ret2
          exact GT.err RES.out HNE.out F2.out
      · have hkk : k = many := by omega
        have hg0 : gk = 0 := by have := HK.out; omega
        by_cases hT : T.data.toList = []
        · have hE0 : getE s.data.toList = 0 := by
            have h1 := HE.out
            rw [hg0, hT] at h1
            rw [HE1.out, ← h1]; rfl
          have RES : Hid (getE s.data.toList = 0 ∧ getL s.data.toList = acc) := Lib.hid ⟨hE0, by
            have h1 := HL.out
            rw [hg0] at h1
            rw [HE2.out, if_pos hE0, ← h1]; simp [gtL]⟩
          have hem := sempty hT
          have R9 : Hid (RI wr (.slice a3 k cap3) acc) := Lib.hid (RI.of_owns HA.out.symm O.out)
          clear hT hE0 hkk hg0
          go_wp2
          go_ret2
          exact GT.ok RES.out.1 RES.out.2 R9.out F.out
        · have RES : Hid (getE s.data.toList = 2) := Lib.hid (by
            have h1 := HE.out
            rw [hg0] at h1
            rw [HE1.out, ← h1]
            simp [gtE, hT])
          have hem := sfull hT
          clear hT hkk hg0
          go_wp2
          go_ret2
          exact GT.err RES.out (by decide) F.out
  · have RES : Hid (getE s.data.toList = nxE s.data.toList 100000) := Lib.hid (by rw [HG1.out, if_neg he])
    rw [(nx_err he).1]
    obtain ⟨E, hE⟩ : ∃ E, E = nxE s.data.toList 100000 := ⟨_, rfl⟩
    rw [← hE] at he RES ⊢
    have p1 : (E == 0) = false := by simpa using he
    have p2 : (E != 0) = true := by simpa using he
    have HNE := Lib.hid he
    clear hE he HG1 HG2
    go_wp2
    go_ret2
    exact GT.err RES.out HNE.out F1.out

end Go.Proofs.Ytgjgonnlkponiaa
