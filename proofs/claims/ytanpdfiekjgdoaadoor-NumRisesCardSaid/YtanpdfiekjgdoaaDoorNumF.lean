/- NumOwn, NumRises: the walks. -/
import Derived.Test.YtanpdfiekjgdoaaDoorNumD
namespace Go.Proofs.YtanpdfiekjgdoaaDoor
open Go.RowKit Go.Lib

set_option maxRecDepth 100000 in
theorem own_long (s : ByteArray) (k : Int) (w : World) (h : Tb w) (hl : 1000 < s.size) :
    Calls Tryd.prog 5 #[.string s, .int .i64 k] w fun e w' => e = .returned (.bool true) ∧ Fr nob w w' := by
  have H := Lib.hid h
  clear h
  go_enter Tryd.func5, Tryd.ntmps5
  go_wp2_with (go_at_call 7; refine stop ?_)
  refine Stop.go ((awake_any w H.out).mono ?_)
  rintro e w1 ⟨rfl, f1⟩
  have F1 := Lib.hid f1
  clear f1
  go_wp2
  go_ret
  exact ⟨rfl, F1.out⟩

set_option maxRecDepth 100000 in
theorem own_no (s : ByteArray) (k : Int) (w : World) (h : Tb w) (hl : ¬ 1000 < s.size) (he : tkE s.data.toList k ≠ 0) :
    Calls Tryd.prog 5 #[.string s, .int .i64 k] w fun e w' => e = .returned (.bool true) ∧ Fr nob w w' := by
  have H := Lib.hid h
  have B1 := Lib.hid (fun w => take_any s k w (by omega))
  rw [(tk_nonzero he).1, (tk_nonzero he).2] at B1
  obtain ⟨E, hE⟩ : ∃ E, E = tkE s.data.toList k := ⟨_, rfl⟩
  rw [← hE] at B1 he
  have e1 : (E != 0) = true := by simpa using he
  have e2 : (E == 0) = false := by simpa using he
  clear h hE he
  go_enter Tryd.func5, Tryd.ntmps5
  go_wp2_with (go_at_call 7; refine stop ?_)
  refine Stop.go ((awake_any w H.out).mono ?_)
  rintro e w1 ⟨rfl, f1⟩
  have F1 := Lib.hid f1
  clear f1
  go_wp2_with (go_at_call 10; refine stop ?_)
  refine Stop.go ((B1.out w1).mono ?_)
  rintro e w2 ⟨rfl, rfl⟩
  clear B1
  go_wp2
  go_ret
  exact ⟨rfl, F1.out⟩

theorem sextract2 (s : ByteArray) (i j : Nat) : (s.extract i (i + j)).data.toList = (s.data.toList.drop i).take j := by
  simp only [ByteArray.data_extract, Array.toList_extract, List.extract_eq_take_drop]
  rw [Nat.add_sub_cancel_left]

set_option maxRecDepth 100000 in
set_option maxHeartbeats 1000000 in
theorem own_yes (s : ByteArray) (k : Int) (w : World) (h : Tb w) (hl : ¬ 1000 < s.size) (he : tkE s.data.toList k = 0) :
    Calls Tryd.prog 5 #[.string s, .int .i64 k] w fun e w' => e = .returned (.bool true) ∧ Fr nob w w' := by
  have H := Lib.hid h
  have B1 := Lib.hid (fun w => take_any s k w (by omega))
  obtain ⟨j, rfl, hj, hb, hv, hN, hT⟩ := tk_zero he
  rw [hN, hT, he] at B1
  obtain ⟨d, hd⟩ : ∃ d, d = dp (s.data.toList.drop j) := ⟨_, rfl⟩
  rw [← hd] at hb hv B1
  have hne : 1 ≤ d.length := by
    cases hdd : d with
    | nil => exact absurd (.inl hdd) hb
    | cons _ _ => simp
  have hle : j + d.length ≤ s.size := by
    have := dp_le (s.data.toList.drop j)
    rw [← hd, List.length_drop, slen] at this
    rw [slen] at hj
    omega
  obtain ⟨u, hu⟩ : ∃ u, u = val d := ⟨_, rfl⟩
  rw [← hu] at B1 hv
  have hu1 : (u : Int) ≤ 2147483647 := by unfold M at hv; omega
  have A1 := Lib.hid (fun w h => show_any (u : Int) w h)
  rw [showS_ok (by omega) hu1, showE_ok (by omega) hu1, Int.toNat_natCast, hu, dec_val d (by rw [hd]; exact dp_all _) hb, ← hu] at A1
  obtain ⟨t, ht⟩ : ∃ t, t = j + d.length := ⟨_, rfl⟩
  have hx : s.extract j t = ⟨d.toArray⟩ := by
    apply ByteArray.ext
    apply Array.toList_inj.1
    rw [ht, sextract2]
    have := dp_prefix (s.data.toList.drop j)
    rw [← hd] at this
    rw [this]
  obtain ⟨X, hX⟩ : ∃ X : ByteArray, X = ⟨d.toArray⟩ := ⟨_, rfl⟩
  rw [← hX] at A1 hx
  have hti : ((j : Int) + (d.length : Nat)) = (t : Int) := by omega
  rw [hti] at B1
  have h1 : ¬ (t : Int) ≤ (j : Int) := by omega
  have h2 : ¬ (s.size : Int) < (t : Int) := by omega
  have h3 : decide (s.size < t) = false := by simp; omega
  have h4 : decide (t ≤ j) = false := by simp; omega
  have h5 : (0 : Int) ≤ (j : Int) := Int.natCast_nonneg _
  have h6 : (j : Int) ≤ (t : Int) := by omega
  have h7 : (t : Int) ≤ (s.size : Int) := by omega
  clear h he hj hb hv hN hT hd hne hle hu ht hX hti
  go_enter Tryd.func5, Tryd.ntmps5
  go_wp2_with (go_at_call 7; refine stop ?_)
  refine Stop.go ((awake_any w H.out).mono ?_)
  rintro e w1 ⟨rfl, f1⟩
  have F1 := Lib.hid f1
  clear f1
  go_wp2_with (go_at_call 10; refine stop ?_)
  refine Stop.go ((B1.out w1).mono ?_)
  rintro e w2 ⟨rfl, rfl⟩
  clear B1
  go_wp2_with (go_at_call 8; refine stop ?_)
  refine Stop.go ((A1.out w1 (H.out.fr F1.out)).mono ?_)
  rintro e w2 ⟨rfl, f2⟩
  have F2 := Lib.hid (F1.out.step f2)
  clear f2 A1
  go_wp2
  go_ret
  exact ⟨rfl, F2.out⟩

theorem own_walk (s : ByteArray) (k : Int) (w : World) (h : Tb w) :
    Calls Tryd.prog 5 #[.string s, .int .i64 k] w fun e w' => e = .returned (.bool true) ∧ Below w.heap.size w w' := by
  have key : Calls Tryd.prog 5 #[.string s, .int .i64 k] w fun e w' => e = .returned (.bool true) ∧ Fr nob w w' := by
    by_cases h1 : 1000 < s.size
    · exact own_long s k w h h1
    by_cases h2 : tkE s.data.toList k = 0
    · exact own_yes s k w h h1 h2
    · exact own_no s k w h h1 h2
  exact key.mono fun e w' ⟨he, hf⟩ => ⟨he, hf.below0⟩

/-! ### NumRises -/
theorem val_cons (a : UInt8) (l : List UInt8) : val (a :: l) = (a.toNat - 48) * 10 ^ l.length + val l := by
  refine snoc_ind (p := fun l => val (a :: l) = (a.toNat - 48) * 10 ^ l.length + val l) ?_ ?_ l
  · simp [val_one, val_nil]
  · intro l c ih
    rw [← List.cons_append, val_snoc, ih, val_snoc, List.length_append, List.length_singleton, Nat.pow_succ, ← Nat.mul_assoc]
    omega
theorem val_lt {l : List UInt8} (h : ∀ c ∈ l, isd c = true) : val l < 10 ^ l.length := by
  induction l with
  | nil => simp [val_nil]
  | cons a l ih =>
    have ha := isd_iff.1 (h a (List.mem_cons_self ..))
    have := ih (fun c hc => h c (List.mem_cons_of_mem _ hc))
    rw [val_cons, List.length_cons, Nat.pow_succ]
    have h1 : (a.toNat - 48) * 10 ^ l.length ≤ 9 * 10 ^ l.length := Nat.mul_le_mul_right _ (by omega)
    omega
theorem less_val : ∀ (x y : List UInt8), x.length = y.length → (∀ c ∈ x, isd c = true) → (∀ c ∈ y, isd c = true) → Op.bytesLess x y = decide (val x < val y)
  | [], [], _, _, _ => by simp [Op.bytesLess, val_nil]
  | [], b :: y, h, _, _ => by simp at h
  | a :: x, [], h, _, _ => by simp at h
  | a :: x, b :: y, h, hx, hy => by
    have hl : x.length = y.length := by simpa using h
    have ih := less_val x y hl (fun c hc => hx c (List.mem_cons_of_mem _ hc)) (fun c hc => hy c (List.mem_cons_of_mem _ hc))
    have ha := isd_iff.1 (hx a (List.mem_cons_self ..))
    have hb := isd_iff.1 (hy b (List.mem_cons_self ..))
    have vx := val_lt (fun c hc => hx c (List.mem_cons_of_mem _ hc))
    have vy := val_lt (fun c hc => hy c (List.mem_cons_of_mem _ hc))
    unfold Op.bytesLess
    rw [ih, val_cons, val_cons, hl]
    rw [hl] at vx
    by_cases hab : a = b
    · subst hab
      simp
    · have hne : a.toNat ≠ b.toNat := fun e => hab (UInt8.toNat_inj.1 e)
      have hbeq : (a == b) = false := by simpa using hab
      rw [hbeq, Bool.false_and, Bool.or_false]
      by_cases hlt : a.toNat < b.toNat
      · have h1 : a < b := UInt8.lt_iff_toNat_lt.2 hlt
        have h2 : (a.toNat - 48 + 1) * 10 ^ y.length ≤ (b.toNat - 48) * 10 ^ y.length := Nat.mul_le_mul_right _ (by omega)
        rw [Nat.add_mul, Nat.one_mul] at h2
        rw [decide_eq_true h1, decide_eq_true (by omega)]
      · have h1 : ¬ a < b := fun e => hlt (UInt8.lt_iff_toNat_lt.1 e)
        have h2 : (b.toNat - 48 + 1) * 10 ^ y.length ≤ (a.toNat - 48) * 10 ^ y.length := Nat.mul_le_mul_right _ (by omega)
        rw [Nat.add_mul, Nat.one_mul] at h2
        rw [decide_eq_false h1, decide_eq_false (by omega)]
theorem dig_pow (u : Nat) (h : 1 ≤ u) : 10 ^ (decDigits u).length ≤ 10 * u := by
  rw [decDigits_length]
  induction u using Nat.strongRecOn with
  | _ u ih =>
    by_cases h1 : u < 10
    · rw [nDigits_small h1]; omega
    · rw [nDigits_big h1, Nat.pow_succ]
      have := ih (u / 10) (by omega) (by omega)
      omega
theorem dec_longer {a b : Nat} (h : (decDigits a).length < (decDigits b).length) : a < b := by
  have h1 := val_lt (dec_digits a)
  rw [val_dec] at h1
  have hb : 1 ≤ b := by
    rcases Nat.eq_zero_or_pos b with e | e
    · subst e
      rw [dec_small (u := 0) (by omega)] at h
      have := nDigits_pos a
      rw [decDigits_length] at h
      simp at h
      omega
    · exact e
  have h2 := dig_pow b hb
  have h3 : 10 ^ ((decDigits a).length + 1) ≤ 10 ^ (decDigits b).length := Nat.pow_le_pow_right (by decide) h
  rw [Nat.pow_succ] at h3
  omega

set_option maxRecDepth 100000 in
set_option maxHeartbeats 1000000 in
theorem rises_out (a b : Int) (w : World) (h : Tb w) (hn : ¬ (showE a = 0 ∧ showE b = 0)) :
    Calls Tryd.prog 6 #[.int .i64 a, .int .i64 b] w fun e w' => e = .returned (.bool true) ∧ Fr nob w w' := by
  have H := Lib.hid h
  have A1 := Lib.hid (fun w h => show_any a w h)
  have B1 := Lib.hid (fun w h => show_any b w h)
  by_cases ha : a < 0 ∨ 2147483647 < a
  · rw [showE_no ha] at A1
    obtain ⟨E, hE⟩ : ∃ E, E = showE b := ⟨_, rfl⟩
    rw [← hE] at B1
    clear h hn hE
    by_cases h0 : a < 0
    · go_enter Tryd.func6, Tryd.ntmps6
      go_wp2_with (go_at_call 7; refine stop ?_)
      refine Stop.go ((awake_any w H.out).mono ?_)
      rintro e w1 ⟨rfl, f1⟩
      have F1 := Lib.hid f1
      clear f1
      go_wp2_with (go_at_call 8; refine stop ?_)
      refine Stop.go ((A1.out w1 (H.out.fr F1.out)).mono ?_)
      rintro e w2 ⟨rfl, f2⟩
      have F2 := Lib.hid (F1.out.step f2)
      clear f2 A1
      go_wp2_with (go_at_call 8; refine stop ?_)
      refine Stop.go ((B1.out w2 (H.out.fr F2.out)).mono ?_)
      rintro e w3 ⟨rfl, f3⟩
      have F3 := Lib.hid (F2.out.step f3)
      clear f3 B1
      go_wp2
      go_ret
      exact ⟨rfl, F3.out⟩
    · have h1 : 2147483647 < a := by omega
      go_enter Tryd.func6, Tryd.ntmps6
      go_wp2_with (go_at_call 7; refine stop ?_)
      refine Stop.go ((awake_any w H.out).mono ?_)
      rintro e w1 ⟨rfl, f1⟩
      have F1 := Lib.hid f1
      clear f1
      go_wp2_with (go_at_call 8; refine stop ?_)
      refine Stop.go ((A1.out w1 (H.out.fr F1.out)).mono ?_)
      rintro e w2 ⟨rfl, f2⟩
      have F2 := Lib.hid (F1.out.step f2)
      clear f2 A1
      go_wp2_with (go_at_call 8; refine stop ?_)
      refine Stop.go ((B1.out w2 (H.out.fr F2.out)).mono ?_)
      rintro e w3 ⟨rfl, f3⟩
      have F3 := Lib.hid (F2.out.step f3)
      clear f3 B1
      go_wp2
      go_ret
      exact ⟨rfl, F3.out⟩
  · have ha0 : ¬ a < 0 := by omega
    have ha1 : ¬ 2147483647 < a := by omega
    have hae : showE a = 0 := showE_ok (by omega) (by omega)
    have hb : b < 0 ∨ 2147483647 < b := by
      by_cases hb : 0 ≤ b ∧ b ≤ 2147483647
      · exact absurd ⟨hae, showE_ok hb.1 hb.2⟩ hn
      · omega
    rw [hae] at A1
    rw [showE_no hb] at B1
    clear h hn ha hae
    by_cases h0 : b < 0
    · go_enter Tryd.func6, Tryd.ntmps6
      go_wp2_with (go_at_call 7; refine stop ?_)
      refine Stop.go ((awake_any w H.out).mono ?_)
      rintro e w1 ⟨rfl, f1⟩
      have F1 := Lib.hid f1
      clear f1
      go_wp2_with (go_at_call 8; refine stop ?_)
      refine Stop.go ((A1.out w1 (H.out.fr F1.out)).mono ?_)
      rintro e w2 ⟨rfl, f2⟩
      have F2 := Lib.hid (F1.out.step f2)
      clear f2 A1
      go_wp2_with (go_at_call 8; refine stop ?_)
      refine Stop.go ((B1.out w2 (H.out.fr F2.out)).mono ?_)
      rintro e w3 ⟨rfl, f3⟩
      have F3 := Lib.hid (F2.out.step f3)
      clear f3 B1
      go_wp2
      go_ret
      exact ⟨rfl, F3.out⟩
    · have h1 : 2147483647 < b := by omega
      go_enter Tryd.func6, Tryd.ntmps6
      go_wp2_with (go_at_call 7; refine stop ?_)
      refine Stop.go ((awake_any w H.out).mono ?_)
      rintro e w1 ⟨rfl, f1⟩
      have F1 := Lib.hid f1
      clear f1
      go_wp2_with (go_at_call 8; refine stop ?_)
      refine Stop.go ((A1.out w1 (H.out.fr F1.out)).mono ?_)
      rintro e w2 ⟨rfl, f2⟩
      have F2 := Lib.hid (F1.out.step f2)
      clear f2 A1
      go_wp2_with (go_at_call 8; refine stop ?_)
      refine Stop.go ((B1.out w2 (H.out.fr F2.out)).mono ?_)
      rintro e w3 ⟨rfl, f3⟩
      have F3 := Lib.hid (F2.out.step f3)
      clear f3 B1
      go_wp2
      go_ret
      exact ⟨rfl, F3.out⟩

set_option maxRecDepth 100000 in
set_option maxHeartbeats 1000000 in
theorem rises_in (a b : Nat) (w : World) (h : Tb w) (ha : a ≤ 2147483647) (hb : b ≤ 2147483647) :
    Calls Tryd.prog 6 #[.int .i64 a, .int .i64 b] w fun e w' => e = .returned (.bool true) ∧ Fr nob w w' := by
  have H := Lib.hid h
  have A1 := Lib.hid (fun w h => show_any (a : Int) w h)
  have B1 := Lib.hid (fun w h => show_any (b : Int) w h)
  rw [showS_ok (by omega) (by omega), showE_ok (by omega) (by omega), Int.toNat_natCast] at A1 B1
  obtain ⟨S, hS⟩ : ∃ S : ByteArray, S = ⟨(decDigits a).toArray⟩ := ⟨_, rfl⟩
  obtain ⟨T, hT⟩ : ∃ T : ByteArray, T = ⟨(decDigits b).toArray⟩ := ⟨_, rfl⟩
  rw [← hS] at A1
  rw [← hT] at B1
  have hs : S.size = (decDigits a).length := by rw [hS]; simp [ByteArray.size]
  have ht : T.size = (decDigits b).length := by rw [hT]; simp [ByteArray.size]
  by_cases h1 : S.size < T.size
  · have h2 : a < b := dec_longer (by omega)
    have h3 : (a : Int) < (b : Int) := by omega
    have h4 : (S.size : Int) < (T.size : Int) := by omega
    clear h hS hT hs ht
    go_enter Tryd.func6, Tryd.ntmps6
    go_wp2_with (go_at_call 7; refine stop ?_)
    refine Stop.go ((awake_any w H.out).mono ?_)
    rintro e w1 ⟨rfl, f1⟩
    have F1 := Lib.hid f1
    clear f1
    go_wp2_with (go_at_call 8; refine stop ?_)
    refine Stop.go ((A1.out w1 (H.out.fr F1.out)).mono ?_)
    rintro e w2 ⟨rfl, f2⟩
    have F2 := Lib.hid (F1.out.step f2)
    clear f2 A1
    go_wp2_with (go_at_call 8; refine stop ?_)
    refine Stop.go ((B1.out w2 (H.out.fr F2.out)).mono ?_)
    rintro e w3 ⟨rfl, f3⟩
    have F3 := Lib.hid (F2.out.step f3)
    clear f3 B1
    go_wp2
    go_ret
    exact ⟨rfl, F3.out⟩
  · by_cases h2 : S.size = T.size
    · have hl : Op.bytesLess S.toList T.toList = decide (a < b) := by
        rw [ByteArray.toList_eq, ByteArray.toList_eq, hS, hT]
        have := less_val (decDigits a) (decDigits b) (by omega) (dec_digits a) (dec_digits b)
        rw [val_dec, val_dec] at this
        exact this
      have h3 : ¬ (S.size : Int) < (T.size : Int) := by omega
      have h4 : ((S.size : Int) == (T.size : Int)) = true := by simp; omega
      have h5 : (S.size == T.size) = true := by simp; omega
      clear h hS hT hs ht h2
      by_cases hab : a < b
      · rw [decide_eq_true hab] at hl
        have hab' : (a : Int) < (b : Int) := by omega
        go_enter Tryd.func6, Tryd.ntmps6
        go_wp2_with (go_at_call 7; refine stop ?_)
        refine Stop.go ((awake_any w H.out).mono ?_)
        rintro e w1 ⟨rfl, f1⟩
        have F1 := Lib.hid f1
        clear f1
        go_wp2_with (go_at_call 8; refine stop ?_)
        refine Stop.go ((A1.out w1 (H.out.fr F1.out)).mono ?_)
        rintro e w2 ⟨rfl, f2⟩
        have F2 := Lib.hid (F1.out.step f2)
        clear f2 A1
        go_wp2_with (go_at_call 8; refine stop ?_)
        refine Stop.go ((B1.out w2 (H.out.fr F2.out)).mono ?_)
        rintro e w3 ⟨rfl, f3⟩
        have F3 := Lib.hid (F2.out.step f3)
        clear f3 B1
        go_wp2
        go_ret
        exact ⟨rfl, F3.out⟩
      · rw [decide_eq_false hab] at hl
        have hab' : ¬ (a : Int) < (b : Int) := by omega
        go_enter Tryd.func6, Tryd.ntmps6
        go_wp2_with (go_at_call 7; refine stop ?_)
        refine Stop.go ((awake_any w H.out).mono ?_)
        rintro e w1 ⟨rfl, f1⟩
        have F1 := Lib.hid f1
        clear f1
        go_wp2_with (go_at_call 8; refine stop ?_)
        refine Stop.go ((A1.out w1 (H.out.fr F1.out)).mono ?_)
        rintro e w2 ⟨rfl, f2⟩
        have F2 := Lib.hid (F1.out.step f2)
        clear f2 A1
        go_wp2_with (go_at_call 8; refine stop ?_)
        refine Stop.go ((B1.out w2 (H.out.fr F2.out)).mono ?_)
        rintro e w3 ⟨rfl, f3⟩
        have F3 := Lib.hid (F2.out.step f3)
        clear f3 B1
        go_wp2
        go_ret
        exact ⟨rfl, F3.out⟩
    · have hba : b < a := dec_longer (by omega)
      have h3 : ¬ (S.size : Int) < (T.size : Int) := by omega
      have h4 : ((S.size : Int) == (T.size : Int)) = false := by simp; omega
      have h5 : (S.size == T.size) = false := by simp; omega
      have h6 : decide (a < b) = false := by simp; omega
      have hab' : ¬ (a : Int) < (b : Int) := by omega
      clear h hS hT hs ht h2
      go_enter Tryd.func6, Tryd.ntmps6
      go_wp2_with (go_at_call 7; refine stop ?_)
      refine Stop.go ((awake_any w H.out).mono ?_)
      rintro e w1 ⟨rfl, f1⟩
      have F1 := Lib.hid f1
      clear f1
      go_wp2_with (go_at_call 8; refine stop ?_)
      refine Stop.go ((A1.out w1 (H.out.fr F1.out)).mono ?_)
      rintro e w2 ⟨rfl, f2⟩
      have F2 := Lib.hid (F1.out.step f2)
      clear f2 A1
      go_wp2_with (go_at_call 8; refine stop ?_)
      refine Stop.go ((B1.out w2 (H.out.fr F2.out)).mono ?_)
      rintro e w3 ⟨rfl, f3⟩
      have F3 := Lib.hid (F2.out.step f3)
      clear f3 B1
      go_wp2
      go_ret
      exact ⟨rfl, F3.out⟩

theorem rises_walk (a b : Int) (w : World) (h : Tb w) :
    Calls Tryd.prog 6 #[.int .i64 a, .int .i64 b] w fun e w' => e = .returned (.bool true) ∧ Below w.heap.size w w' := by
  have key : Calls Tryd.prog 6 #[.int .i64 a, .int .i64 b] w fun e w' => e = .returned (.bool true) ∧ Fr nob w w' := by
    by_cases hn : showE a = 0 ∧ showE b = 0
    · have h1 := showE_zero.1 hn.1
      have h2 := showE_zero.1 hn.2
      obtain ⟨x, rfl⟩ : ∃ x : Nat, a = x := ⟨a.toNat, by omega⟩
      obtain ⟨y, rfl⟩ : ∃ y : Nat, b = y := ⟨b.toNat, by omega⟩
      exact rises_in x y w h (by omega) (by omega)
    · exact rises_out a b w h hn
  exact key.mono fun e w' ⟨he, hf⟩ => ⟨he, hf.below0⟩

end Go.Proofs.YtanpdfiekjgdoaaDoor
