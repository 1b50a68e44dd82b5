/- ScriptFair: the walk. -/
import Derived.Test.YtlppphhgbfehcaaScJ
namespace Go.Proofs.Ytlppphhgbfehcaa
open Go.RowKit

theorem size36 (w : World) : (sizeOf (Try.prog.elem 22)).run Try.prog w = .ok 2 w := by
  obtain ⟨i, _, hi, _, hs, _, _⟩ := appPick.info
  have he : Try.prog.elem 22 = 36 := by kernel_rfl
  rw [he]
  simp [sizeOf, typeInfo, hi, hs]
theorem elem22 : Try.prog.underlying 22 = some (.slice (Try.prog.elem 22)) := by kernel_rfl

theorem cut_lo {w : World} {a : Option Addr} {n cap m : Nat} {ps : List Pk} (h : RP w (.slice a n cap) ps) (hm : m ≤ n) :
    ∃ a' cap', RP w (.slice a' m cap') (ps.take m) ∧ ∀ w', (Instr.slice 22 (.slice a n cap) none (some (.int .i64 (m : Int))) none).run Try.prog w' = .ok (.slice a' m cap') w' := by
  obtain ⟨a1, b, off, cap1, he, h1, h2, h3⟩ := h
  simp only [Value.slice.injEq] at he
  obtain ⟨rfl, rfl, rfl⟩ := he
  have hl : (ps.take m).length = m := by simp; omega
  have run : ∀ w', (Instr.slice 22 (.slice a ps.length cap) none (some (.int .i64 (m : Int))) none).run Try.prog w' = .ok (sliced a 0 m cap 2) w' := fun w' => by
    rw [run_slice_h w' 22 a _ cap elem22 .i64 (m : Int) (by omega) (by omega), size36]; rfl
  refine ⟨(if cap = 0 then a else a.map (·.add 0)), cap, ⟨_, b, off, cap, by rw [hl], by omega, h2, ?_, ?_⟩, fun w' => by rw [run]; simp [sliced]⟩
  · by_cases hz : ps.take m = []
    · exact .inl hz
    · right
      have hne : ps ≠ [] := fun e => hz (by rw [e]; simp)
      rw [h3.1.resolve_left hne]
      have hcap : ¬ cap = 0 := fun e => hne (List.eq_nil_of_length_eq_zero (by omega))
      rw [if_neg hcap]
      rfl
  · intro j x hj
    exact h3.2 j x (by rw [List.getElem?_take] at hj; split at hj <;> simp_all)

theorem cut_hi {w : World} {a : Option Addr} {n cap m : Nat} {ps : List Pk} (h : RP w (.slice a n cap) ps) (hm : m ≤ n) :
    ∃ a' k' cap', RP w (.slice a' k' cap') (ps.drop m) ∧ ∀ w', (Instr.slice 22 (.slice a n cap) (some (.int .i64 (m : Int))) none none).run Try.prog w' = .ok (.slice a' k' cap') w' := by
  obtain ⟨a1, b, off, cap1, he, h1, h2, h3⟩ := h
  simp only [Value.slice.injEq] at he
  obtain ⟨rfl, rfl, rfl⟩ := he
  have hl : (ps.drop m).length = ps.length - m := by simp
  have run : ∀ w', (Instr.slice 22 (.slice a ps.length cap) (some (.int .i64 (m : Int))) none none).run Try.prog w' = .ok (sliced a m ps.length cap 2) w' := fun w' => by
    rw [run_slice_l w' 22 a _ cap elem22 .i64 (m : Int) (by omega) (by omega), size36]; rfl
  refine ⟨(if cap = m then a else a.map (·.add (m * 2))), ps.length - m, cap - m, ⟨_, b, off + m * 2, cap - m, by rw [hl], by omega, by omega, ?_, ?_⟩, fun w' => by rw [run]; rfl⟩
  · by_cases hz : ps.drop m = []
    · exact .inl hz
    · right
      have hne : ps ≠ [] := fun e => hz (by rw [e]; simp)
      rw [h3.1.resolve_left hne]
      have hlt : m < ps.length := by
        rcases Nat.lt_or_ge m ps.length with h | h
        · exact h
        · exact absurd (List.drop_eq_nil_of_le h) hz
      rw [if_neg (by omega)]
      simp [Addr.add_lit]
  · intro j x hj
    rw [List.getElem?_drop] at hj
    have := h3.2 (m + j) x hj
    rw [show off + (m + j) * 2 = off + m * 2 + j * 2 by omega] at this
    exact this

set_option maxRecDepth 100000 in
theorem sfair_long (a : Option Addr) (n cap : Nat) (who win : Int) (w : World) (h : 200 < n) :
    Calls Try.prog 5 #[.slice a n cap, .int .i64 who, .int .i64 win] w fun e w' => e = .returned (.bool true) ∧ Fr nob w w' := by
  go_enter Try.func5, Try.ntmps5
  go_wp2_with (go_at_call 7; refine stop ?_)
  refine Stop.go ((awake_any w).mono ?_)
  rintro e w1 ⟨rfl, f1⟩
  have F1 := Lib.hid f1
  clear f1
  go_wp2
  go_ret
  exact ⟨rfl, F1.out⟩

set_option maxRecDepth 100000 in
theorem sfair_neg (a : Option Addr) (n cap : Nat) (who win : Int) (w : World) (h : ¬ 200 < n) (h1 : win < 0) :
    Calls Try.prog 5 #[.slice a n cap, .int .i64 who, .int .i64 win] w fun e w' => e = .returned (.bool true) ∧ Fr nob w w' := by
  go_enter Try.func5, Try.ntmps5
  go_wp2_with (go_at_call 7; refine stop ?_)
  refine Stop.go ((awake_any w).mono ?_)
  rintro e w1 ⟨rfl, f1⟩
  have F1 := Lib.hid f1
  clear f1
  go_wp2
  go_ret
  exact ⟨rfl, F1.out⟩

set_option maxRecDepth 100000 in
theorem sfair_far (a : Option Addr) (n cap : Nat) (who win : Int) (w : World) (h : ¬ 200 < n) (h1 : ¬ win < 0) (h2 : 300 < win) :
    Calls Try.prog 5 #[.slice a n cap, .int .i64 who, .int .i64 win] w fun e w' => e = .returned (.bool true) ∧ Fr nob w w' := by
  go_enter Try.func5, Try.ntmps5
  go_wp2_with (go_at_call 7; refine stop ?_)
  refine Stop.go ((awake_any w).mono ?_)
  rintro e w1 ⟨rfl, f1⟩
  have F1 := Lib.hid f1
  clear f1
  go_wp2
  go_ret
  exact ⟨rfl, F1.out⟩

theorem bare_fair (ps : List Pk) (who win : Int) : fairB (bareOf who ps) who win = (decide (1 ≤ win) && decide (((bareOf who ps).length : Int) < win)) := by
  have h := fair_bare (win := win) (bare_none who ps)
  by_cases hf : FairP (bareOf who ps) who win
  · rw [fairB_yes hf]
    have := h.1 hf
    simp [this.1, this.2]
  · rw [fairB_no hf]
    by_cases h1 : 1 ≤ win
    · have : ¬ ((bareOf who ps).length : Int) < win := fun h2 => hf (h.2 ⟨h1, h2⟩)
      simp [this]
    · simp [h1]

set_option maxRecDepth 100000 in
set_option maxHeartbeats 1000000 in
theorem sfair_no (a : Option Addr) (n cap : Nat) (ps : List Pk) (who win : Int) (w : World) (h : ¬ 200 < n) (h1 : ¬ win < 0) (h2 : ¬ 300 < win) (hr : RP w (.slice a n cap) ps) (hn : n = ps.length) (hf : fairB ps who win = false) :
    Calls Try.prog 5 #[.slice a n cap, .int .i64 who, .int .i64 win] w fun e w' => e = .returned (.bool true) ∧ Fr nob w w' := by
  have hpl : ps.length ≤ 100000 := by omega
  have R := Lib.hid hr
  have HN := Lib.hid hn
  have HF := Lib.hid hf
  clear hr hn hf
  go_enter Try.func5, Try.ntmps5
  go_wp2_with (go_at_call 7; refine stop ?_)
  refine Stop.go ((awake_any w).mono ?_)
  rintro e w1 ⟨rfl, f1⟩
  have F1 := Lib.hid f1
  have R1 := Lib.hid (R.out.fr f1)
  clear f1
  go_wp2_with (go_at_call 16; refine stop ?_)
  refine Stop.go ((fair_any _ ps who win w1 R1.out hpl).mono ?_)
  rintro e w2 ⟨rfl, f2⟩
  rw [HF.out]
  have F2 := Lib.hid (F1.out.step f2)
  have R2 := Lib.hid (R1.out.fr f2)
  clear f2 R1
  obtain ⟨a1, b, off, cap1, he, hc1, hc2, hpa⟩ := R2.out
  simp only [Value.slice.injEq] at he
  obtain ⟨rfl, -, -⟩ := he
  have H := Lib.hid hpa
  have hbl := bare_len who ps
  have hll : (bareOf who ps).length ≤ 200 := by have := HN.out; omega
  have hz2 := F2.out.size
  clear hpa hbl hc1 hc2
  go_wp2_with fail
  go_loopg [9, 10] n (fun gk s9 i wr => ∃ k : Nat, k + gk = n ∧ i = .int .i64 k ∧ wr.ownsRow w2.heap.size 36 2 s9 (bareOf who (ps.take k)).length (cp (bareOf who (ps.take k))) ∧ Fr nob w2 wr)
  case atStart => exact ⟨0, Nat.zero_add _, rfl, World.ownsRow_nil _ _ _ _, Fr.refl _ _⟩
  case round =>
    obtain ⟨k, hk, rfl, ho, hf⟩ := hrel
    obtain ⟨a3, cap3, rfl, -, -⟩ := owns_shape ho
    obtain ⟨z, hz⟩ : ∃ z, z = (bareOf who (ps.take k)).length := ⟨_, rfl⟩
    rw [← hz] at ho
    rw [← hz]
    have hzk : z ≤ k := by have := bare_len who (ps.take k); rw [List.length_take] at this; omega
    have O := Lib.hid ho
    have F := Lib.hid hf
    have HK := Lib.hid hk
    have HZ := Lib.hid hz
    have hkl : k ≤ n := by omega
    clear ho hf hk hz
    by_cases hlt : k < n
    · obtain ⟨x, hx⟩ : ∃ x, ps[k]? = some x := ⟨_, List.getElem?_eq_getElem (by have := HN.out; omega)⟩
      obtain rfl := H.out.addr hx
      obtain ⟨d0, d1⟩ := (H.out.nob F.out).2 k x hx
      have HX := Lib.hid hx
      clear hx
      have hidx0 : (0 : Int) ≤ (k : Int) := Int.natCast_nonneg _
      have hidx1 : (k : Int) < (n : Int) := by omega
      obtain ⟨x1, x2⟩ := x
      by_cases hwho : x1 = who
      · have HB := Lib.hid (bare_out HX.out hwho)
        have q1 : (x1 == who) = true := by simpa using hwho
        have q2 : (x1 != who) = false := by simpa using hwho
        clear hwho
        go_wp2
        go_roundg (gk - 1)
        case measure => have := HK.out; omega
        case rel => exact ⟨k + 1, by have := HK.out; omega, by go_num, by rw [HB.out, ← HZ.out]; exact O.out, F.out⟩
      · have HB := Lib.hid (bare_in HX.out hwho)
        have q1 : (x1 == who) = false := by simpa using hwho
        have q2 : (x1 != who) = true := by simpa using hwho
        clear hwho
        go_wp2_with (at_builtin; refine stop ?_)
        refine Stop.go (wpList_app rfl (.tmp 73) (.tmp 78) rfl appPick rfl (base := w2.heap.size) (n := z) (xs := cp (bareOf who (ps.take k))) ?p1 (m := 1) (news := cp [(x1, x2)]) rfl rfl ?p3 ?p4 ?p5 ?p6 ?p7)
        case p1 => exact O.out.alloc _
        case p3 => exact Src.block (cs := #[.int .i64 x1, .int .i64 x2]) (obj_new rfl _) (cp_one [(x1, x2)])
        case p4 => omega
        case p5 => simp only [maxLen]; omega
        case p6 => have := F.out.size; simp; omega
        case p7 =>
          intro v4 w4x ho4 hg4 _
          rw [← cp_app] at ho4
          have F4x := Lib.hid ((F.out.alloc (.cells #[.int .i64 x1, .int .i64 x2] 36)).grown hg4 (fun i hi hl => by have := (O.out.lt i hi).1; omega))
          have O4x := Lib.hid ho4
          clear ho4 hg4
          go_wp2
          go_roundg (gk - 1)
          case measure => have := HK.out; omega
          case rel => exact ⟨k + 1, by have := HK.out; omega, by go_num, by rw [HB.out]; simp only [List.length_append, List.length_singleton, ← HZ.out]; exact O4x.out, F4x.out⟩
    · have hkk : k = n := by omega
      have HT : Hid (ps.take k = ps) := Lib.hid (List.take_of_length_le (by have := HN.out; omega))
      have R9 : Hid (RP wr (.slice a3 z cap3) (bareOf who ps)) := Lib.hid (by have := O.out; have e := HZ.out; rw [HT.out] at this e; exact RP.of_owns e this)
      have HZ' : Hid ((z : Int) = (bareOf who ps).length) := Lib.hid (by have e := HZ.out; rw [HT.out] at e; rw [e])
      have hbl2 : (bareOf who ps).length ≤ 100000 := by omega
      clear hkk
      go_wp2_with (go_at_call 16; refine stop ?_)
      refine Stop.go ((fair_any _ (bareOf who ps) who win wr R9.out hbl2).mono ?_)
      rintro e w9 ⟨rfl, f9⟩
      rw [bare_fair, ← HZ'.out]
      have F9 := Lib.hid ((F2.out.step F.out).step f9)
      clear f9
      by_cases hw1 : 1 ≤ win
      · by_cases hw2 : (z : Int) < win
        · have g1 : decide (1 ≤ win) = true := by simpa using hw1
          have g2 : decide ((z : Int) < win) = true := by simpa using hw2
          rw [g1, g2]
          go_wp2
          go_ret
          exact ⟨rfl, F9.out⟩
        · have g1 : decide (1 ≤ win) = true := by simpa using hw1
          have g2 : decide ((z : Int) < win) = false := by simp; omega
          rw [g1, g2]
          go_wp2
          go_ret
          exact ⟨rfl, F9.out⟩
      · have g1 : decide (1 ≤ win) = false := by simp; omega
        rw [g1]
        go_wp2
        go_ret
        exact ⟨rfl, F9.out⟩

set_option maxRecDepth 100000 in
set_option maxHeartbeats 1000000 in
theorem sfair_yes (a : Option Addr) (n cap : Nat) (ps : List Pk) (who win : Int) (w : World) (h : ¬ 200 < n) (h1 : ¬ win < 0) (h2 : ¬ 300 < win) (hr : RP w (.slice a n cap) ps) (hn : n = ps.length) (hf : fairB ps who win = true) :
    Calls Try.prog 5 #[.slice a n cap, .int .i64 who, .int .i64 win] w fun e w' => e = .returned (.bool true) ∧ Fr nob w w' := by
  have hpl : ps.length ≤ 100000 := by omega
  have R := Lib.hid hr
  have HN := Lib.hid hn
  have HF := Lib.hid hf
  obtain ⟨m, hm⟩ : ∃ m, m = n / 2 := ⟨_, rfl⟩
  have hmi : (n : Int) / 2 = (m : Int) := by omega
  obtain ⟨al, cl, rl, ll⟩ := cut_lo (m := m) hr (by omega)
  obtain ⟨ah, kh, ch, rh, lh⟩ := cut_hi (m := m) hr (by omega)
  have HFM := Lib.hid (fairB_yes (fair_more (fairB_true.1 hf)))
  have HFT := Lib.hid (fairB_yes (fair_take m (fairB_true.1 hf)))
  have HFD := Lib.hid (fairB_yes (fair_drop m (fairB_true.1 hf)))
  have htl : (ps.take m).length ≤ 100000 := by simp; omega
  have hdl : (ps.drop m).length ≤ 100000 := by simp; omega
  have RL := Lib.hid rl
  have RH := Lib.hid rh
  clear rl rh hm
  clear hr hn hf
  go_enter Try.func5, Try.ntmps5
  go_wp2_with (go_at_call 7; refine stop ?_)
  refine Stop.go ((awake_any w).mono ?_)
  rintro e w1 ⟨rfl, f1⟩
  have F1 := Lib.hid f1
  have R1 := Lib.hid (R.out.fr f1)
  have RL1 := Lib.hid (RL.out.fr f1)
  have RH1 := Lib.hid (RH.out.fr f1)
  clear f1
  go_wp2_with (go_at_call 16; refine stop ?_)
  refine Stop.go ((fair_any _ ps who win w1 R1.out hpl).mono ?_)
  rintro e w2 ⟨rfl, f2⟩
  rw [HF.out]
  have F2 := Lib.hid (F1.out.step f2)
  have R2 := Lib.hid (R1.out.fr f2)
  have RL2 := Lib.hid (RL1.out.fr f2)
  have RH2 := Lib.hid (RH1.out.fr f2)
  clear f2 R1
  go_wp2_with (go_at_call 16; refine stop ?_)
  refine Stop.go ((fair_any _ ps who (win + 1) w2 R2.out hpl).mono ?_)
  rintro e w3 ⟨rfl, f3⟩
  rw [HFM.out]
  have F3 := Lib.hid (F2.out.step f3)
  have R3 := Lib.hid (R2.out.fr f3)
  have RL3 := Lib.hid (RL2.out.fr f3)
  have RH3 := Lib.hid (RH2.out.fr f3)
  clear f3 R2 RL2 RH2
  go_wp2_with (go_at_call 16; refine stop ?_)
  refine Stop.go ((fair_any _ (ps.take m) who win w3 RL3.out htl).mono ?_)
  rintro e w4 ⟨rfl, f4⟩
  rw [HFT.out]
  have F4 := Lib.hid (F3.out.step f4)
  have R4 := Lib.hid (R3.out.fr f4)
  have RH4 := Lib.hid (RH3.out.fr f4)
  clear f4 R3 RL3 RH3
  go_wp2_with (go_at_call 16; refine stop ?_)
  refine Stop.go ((fair_any _ (ps.drop m) who win w4 RH4.out hdl).mono ?_)
  rintro e w5 ⟨rfl, f5⟩
  rw [HFD.out]
  have F5 := Lib.hid (F4.out.step f5)
  have R5 := Lib.hid (R4.out.fr f5)
  clear f5 R4 RH4 ll lh
  obtain ⟨a1, b, off, cap1, he, hc1, hc2, hpa⟩ := R5.out
  simp only [Value.slice.injEq] at he
  obtain ⟨rfl, -, -⟩ := he
  have H := Lib.hid hpa
  have hbl := bare_len who ps
  have hll : (bareOf who ps).length ≤ 200 := by have := HN.out; omega
  have hz5 := F5.out.size
  clear hpa hbl hc1 hc2
  go_wp2_with fail
  go_loopg [9, 10] n (fun gk s9 i wr => ∃ k : Nat, k + gk = n ∧ i = .int .i64 k ∧ wr.ownsRow w5.heap.size 36 2 s9 (bareOf who (ps.take k)).length (cp (bareOf who (ps.take k))) ∧ Fr nob w5 wr)
  case atStart => exact ⟨0, Nat.zero_add _, rfl, World.ownsRow_nil _ _ _ _, Fr.refl _ _⟩
  case round =>
    obtain ⟨k, hk, rfl, ho, hf⟩ := hrel
    obtain ⟨a3, cap3, rfl, -, -⟩ := owns_shape ho
    obtain ⟨z, hz⟩ : ∃ z, z = (bareOf who (ps.take k)).length := ⟨_, rfl⟩
    rw [← hz] at ho
    rw [← hz]
    have hzk : z ≤ k := by have := bare_len who (ps.take k); rw [List.length_take] at this; omega
    have O := Lib.hid ho
    have F := Lib.hid hf
    have HK := Lib.hid hk
    have HZ := Lib.hid hz
    have hkl : k ≤ n := by omega
    clear ho hf hk hz
    by_cases hlt : k < n
    · obtain ⟨x, hx⟩ : ∃ x, ps[k]? = some x := ⟨_, List.getElem?_eq_getElem (by have := HN.out; omega)⟩
      obtain rfl := H.out.addr hx
      obtain ⟨d0, d1⟩ := (H.out.nob F.out).2 k x hx
      have HX := Lib.hid hx
      clear hx
      have hidx0 : (0 : Int) ≤ (k : Int) := Int.natCast_nonneg _
      have hidx1 : (k : Int) < (n : Int) := by omega
      obtain ⟨x1, x2⟩ := x
      by_cases hwho : x1 = who
      · have HB := Lib.hid (bare_out HX.out hwho)
        have q1 : (x1 == who) = true := by simpa using hwho
        have q2 : (x1 != who) = false := by simpa using hwho
        clear hwho
        go_wp2
        go_roundg (gk - 1)
        case measure => have := HK.out; omega
        case rel => exact ⟨k + 1, by have := HK.out; omega, by go_num, by rw [HB.out, ← HZ.out]; exact O.out, F.out⟩
      · have HB := Lib.hid (bare_in HX.out hwho)
        have q1 : (x1 == who) = false := by simpa using hwho
        have q2 : (x1 != who) = true := by simpa using hwho
        clear hwho
        go_wp2_with (at_builtin; refine stop ?_)
        refine Stop.go (wpList_app rfl (.tmp 73) (.tmp 78) rfl appPick rfl (base := w5.heap.size) (n := z) (xs := cp (bareOf who (ps.take k))) ?p1 (m := 1) (news := cp [(x1, x2)]) rfl rfl ?p3 ?p4 ?p5 ?p6 ?p7)
        case p1 => exact O.out.alloc _
        case p3 => exact Src.block (cs := #[.int .i64 x1, .int .i64 x2]) (obj_new rfl _) (cp_one [(x1, x2)])
        case p4 => omega
        case p5 => simp only [maxLen]; omega
        case p6 => have := F.out.size; simp; omega
        case p7 =>
          intro v4 w4x ho4 hg4 _
          rw [← cp_app] at ho4
          have F4x := Lib.hid ((F.out.alloc (.cells #[.int .i64 x1, .int .i64 x2] 36)).grown hg4 (fun i hi hl => by have := (O.out.lt i hi).1; omega))
          have O4x := Lib.hid ho4
          clear ho4 hg4
          go_wp2
          go_roundg (gk - 1)
          case measure => have := HK.out; omega
          case rel => exact ⟨k + 1, by have := HK.out; omega, by go_num, by rw [HB.out]; simp only [List.length_append, List.length_singleton, ← HZ.out]; exact O4x.out, F4x.out⟩
    · have hkk : k = n := by omega
      have HT : Hid (ps.take k = ps) := Lib.hid (List.take_of_length_le (by have := HN.out; omega))
      have R9 : Hid (RP wr (.slice a3 z cap3) (bareOf who ps)) := Lib.hid (by have := O.out; have e := HZ.out; rw [HT.out] at this e; exact RP.of_owns e this)
      have HZ' : Hid ((z : Int) = (bareOf who ps).length) := Lib.hid (by have e := HZ.out; rw [HT.out] at e; rw [e])
      have hbl2 : (bareOf who ps).length ≤ 100000 := by omega
      clear hkk
      go_wp2_with (go_at_call 16; refine stop ?_)
      refine Stop.go ((fair_any _ (bareOf who ps) who win wr R9.out hbl2).mono ?_)
      rintro e w9 ⟨rfl, f9⟩
      rw [bare_fair, ← HZ'.out]
      have F9 := Lib.hid ((F5.out.step F.out).step f9)
      clear f9
      by_cases hw1 : 1 ≤ win
      · by_cases hw2 : (z : Int) < win
        · have g1 : decide (1 ≤ win) = true := by simpa using hw1
          have g2 : decide ((z : Int) < win) = true := by simpa using hw2
          rw [g1, g2]
          go_wp2
          go_ret
          exact ⟨rfl, F9.out⟩
        · have g1 : decide (1 ≤ win) = true := by simpa using hw1
          have g2 : decide ((z : Int) < win) = false := by simp; omega
          rw [g1, g2]
          go_wp2
          go_ret
          exact ⟨rfl, F9.out⟩
      · have g1 : decide (1 ≤ win) = false := by simp; omega
        rw [g1]
        go_wp2
        go_ret
        exact ⟨rfl, F9.out⟩

theorem sfair_walk (a : Option Addr) (len cap : Nat) (X : Nat → Nat → Int) (who win : Int) (w : World) (h : NumsAt w a len cap [.i64, .i64] X) (_ : (Lit.int .i64 who).wf = true) (_ : (Lit.int .i64 win).wf = true) :
    Calls Try.prog 5 #[.slice a len cap, .int .i64 who, .int .i64 win] w fun e w' => e = .returned (.bool true) ∧ Below w.heap.size w w' := by
  have key : Calls Try.prog 5 #[.slice a len cap, .int .i64 who, .int .i64 win] w fun e w' => e = .returned (.bool true) ∧ Fr nob w w' := by
    by_cases h1 : 200 < len
    · exact sfair_long a len cap who win w h1
    by_cases h2 : win < 0
    · exact sfair_neg a len cap who win w h1 h2
    by_cases h3 : 300 < win
    · exact sfair_far a len cap who win w h1 h2 h3
    obtain ⟨b, off, ps, rfl, h4, h5, h6⟩ := h.picks
    have hr : RP w (.slice a ps.length cap) ps := ⟨a, b, off, cap, rfl, h4, h5, h6⟩
    cases hf : fairB ps who win with
    | true => exact sfair_yes a _ cap ps who win w h1 h2 h3 hr rfl hf
    | false => exact sfair_no a _ cap ps who win w h1 h2 h3 hr rfl hf
  exact key.mono fun e w' ⟨he, hf⟩ => ⟨he, hf.below0⟩

end Go.Proofs.Ytlppphhgbfehcaa
