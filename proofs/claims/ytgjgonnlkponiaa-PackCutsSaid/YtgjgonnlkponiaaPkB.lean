/- The number at the front: next; the reference's one. -/
import Derived.Test.YtgjgonnlkponiaaPkA
import Derived.Laws.BitsLemmas
import Derived.Laws.BitsAllLaws
namespace Go.Proofs.Ytgjgonnlkponiaa
open Go.RowKit

theorem and127 (c : UInt8) : bits .and .u8 (c.toNat : Int) 127 = ((c.toNat % 128 : Nat) : Int) := by
  have h := (bits_nat .u8 8 (by decide) wraps_u8 c.toNat 127 (by have := c.toNat_lt; omega) (by decide)).1
  rw [nat_mask7] at h
  exact h
theorem wraps_i64 (n : Int) (h₀ : 0 ≤ n) (h₁ : n < 2 ^ 62) : IntKind.i64.wrap n = n := by rw [IntKind.wrap_i64]; omega
theorem or_low (k n b : Nat) (hk : k < 5) (hn : n < 128 ^ k) (hb : b < 128) : bits .or .i64 (n : Int) ((b * 128 ^ k : Nat) : Int) = ((n + b * 128 ^ k : Nat) : Int) := by
  have hp : 128 ^ k = 2 ^ (7 * k) := by rw [show (128 : Nat) = 2 ^ 7 from rfl, ← Nat.pow_mul]
  have h28 : 128 ^ k ≤ 128 ^ 4 := Nat.pow_le_pow_right (by decide) (by omega)
  have hb2 : b * 128 ^ k ≤ 127 * 128 ^ 4 := Nat.mul_le_mul (by omega) h28
  have h := (bits_nat .i64 62 (by decide) wraps_i64 n (b * 128 ^ k) (by omega) (by omega)).2
  rw [h, Nat.or_comm, nat_join (7 * k) (b * 128 ^ k) n (by rw [hp]; exact Nat.mul_mod_left _ _) (by rw [← hp]; exact hn), Nat.add_comm]
theorem shl_low (k b : Nat) (hk : k < 5) (hb : b < 128) : wrap64 ((b : Int) * 2 ^ (7 * k)) = ((b * 128 ^ k : Nat) : Int) := by
  have hp : ((2 : Int) ^ (7 * k)) = ((128 ^ k : Nat) : Int) := by rw [show (128 : Nat) = 2 ^ 7 from rfl, ← Nat.pow_mul]; simp
  have h28 : 128 ^ k ≤ 128 ^ 4 := Nat.pow_le_pow_right (by decide) (by omega)
  have hb2 : b * 128 ^ k ≤ 127 * 128 ^ 4 := Nat.mul_le_mul (by omega) h28
  rw [hp]
  have : (b : Int) * ((128 ^ k : Nat) : Int) = ((b * 128 ^ k : Nat) : Int) := by simp
  rw [this]
  unfold wrap64
  omega
theorem ret_tup3 {a b : Int} {s t : ByteArray} {e f : Int} (h1 : a = b) (h2 : s = t) (h3 : e = f) : Ending.returned (.tuple #[.int .i64 a, .string s, .int .i64 e]) = .returned (.tuple #[.int .i64 b, .string t, .int .i64 f]) := by rw [h1, h2, h3]

/-- What next answers. -/
def NX (s : ByteArray) (most : Nat) (w : World) (e : Ending) (w' : World) : Prop :=
  ∃ R : ByteArray, e = .returned (.tuple #[.int .i64 (nxN s.data.toList most), .string R, .int .i64 (nxE s.data.toList most)]) ∧ R.data.toList = nxR s.data.toList most ∧ Fr nob w w'
theorem NX.err {s : ByteArray} {most : Nat} {w w' : World} {n : Int} (h : nxE s.data.toList most = n) (hn : n ≠ 0) (f : Fr nob w w') : NX s most w (.returned (.tuple #[.int .i64 0, .string ⟨#[]⟩, .int .i64 n])) w' := by
  have := nx_err (l := s.data.toList) (most := most) (by rw [h]; exact hn)
  exact ⟨⟨#[]⟩, by rw [this.1, h], by rw [this.2], f⟩

set_option maxRecDepth 100000 in
set_option maxHeartbeats 1000000 in
theorem next_any (s : ByteArray) (most : Nat) (mi : Int) (hmi : mi = most) (w : World) :
    Calls Try.prog 15 #[.string s, .int .i64 mi] w (NX s most w) := by
  have HMI := Lib.hid hmi
  have hsl := slen s
  have HSL := Lib.hid hsl
  clear hmi hsl
  go_enter Try.func15, Try.ntmps15
  go_wp2_with fail
  go_loopg [7, 8] 5 (fun gk s7 i wr => ∃ (k : Nat), k + gk = 5 ∧ i = .int .i64 k ∧ s7 = .int .i64 (v7 (s.data.toList.take k) : Nat) ∧ Hi s.data.toList k ∧ k ≤ s.size ∧ w = wr)
  case atStart => exact ⟨0, rfl, rfl, rfl, fun j c hj => by omega, Nat.zero_le _, rfl⟩
  case round =>
    obtain ⟨k, hk, rfl, rfl, hh, hks, rfl⟩ := hrel
    have HK := Lib.hid hk
    have HH := Lib.hid hh
    have hk5 : k ≤ 5 := by omega
    have hvl : v7 (s.data.toList.take k) < 128 ^ k := by
      have := v7_lt (s.data.toList.take k)
      rwa [List.length_take, HSL.out, Nat.min_eq_left hks] at this
    obtain ⟨n, hn⟩ : ∃ n, n = v7 (s.data.toList.take k) := ⟨_, rfl⟩
    rw [← hn] at hvl ⊢
    have HN := Lib.hid hn
    have HV := Lib.hid hvl
    clear hk hh hn hvl
    by_cases h5 : k < 5
    · have h5' : (k : Int) < 5 := by omega
      by_cases hlt : k < s.size
      · have i0 : (0 : Int) ≤ (k : Int) := Int.natCast_nonneg _
        have i1 : (k : Int) < s.size := by omega
        have hne : ((k : Int) == (s.size : Int)) = false := by simp; omega
        have t0 := sget s k hlt
        obtain ⟨c, hc⟩ : ∃ c : UInt8, c = s[k] := ⟨_, rfl⟩
        rw [← hc] at t0
        have gk1 : s[k] = c := hc.symm
        have HT := Lib.hid t0
        have o1 := and127 c
        obtain ⟨b, hb⟩ : ∃ b, b = c.toNat % 128 := ⟨_, rfl⟩
        rw [← hb] at o1
        have hb1 : b < 128 := by omega
        have o2 := shl_low k b h5 hb1
        have o3 := or_low k n b h5 HV.out hb1
        obtain ⟨y, hy⟩ : ∃ y, y = b * 128 ^ k := ⟨_, rfl⟩
        rw [← hy] at o2 o3
        obtain ⟨z, hz⟩ : ∃ z, z = n + y := ⟨_, rfl⟩
        rw [← hz] at o3
        have HZ : Hid (v7 (s.data.toList.take (k + 1)) = z) := Lib.hid (by
          rw [take_snoc HT.out, v7_snoc, ← HN.out, List.length_take, HSL.out, Nat.min_eq_left hks, ← hb, ← hy, hz])
        clear t0 hc hb hy hz
        by_cases h8 : 128 ≤ (c.toNat : Int)
        · have HS := Lib.hid (HH.out.step HT.out (by omega))
          go_wp2
          go_roundg (gk - 1)
          case measure => have := HK.out; omega
          case rel => exact ⟨k + 1, by have := HK.out; omega, by go_num, by rw [HZ.out], HS.out, by omega, rfl⟩
        · have hlo : c.toNat < 128 := by omega
          by_cases hz0 : (0 < k ∧ c.toNat = 0)
          · obtain ⟨hk0, hc0⟩ := hz0
            have hk0' : (0 : Int) < (k : Int) := by omega
            have hc0' : ((c.toNat : Int) == 0) = true := by simp; omega
            have RES := Lib.hid (nx_form most HH.out h5 HT.out hlo (.inl ⟨hk0, hc0⟩))
            clear hc0
            go_wp2
            refine bodyPost_ret (v := .tuple #[.int .i64 0, .string ⟨#[]⟩, .int .i64 2]) (by simp [results, Try.results15, go_sem]) rfl ?_
            exact NX.err RES.out (by decide) (Fr.refl _ _)
          · by_cases hm : most < z
            · have hm' : mi < (z : Int) := by have := HMI.out; omega
              have RES := Lib.hid (nx_form most HH.out h5 HT.out hlo (.inr (by rw [HZ.out]; exact hm)))
              by_cases hk0 : (0 : Int) < (k : Int)
              · have hc0' : ((c.toNat : Int) == 0) = false := by simp; omega
                clear hz0
                go_wp2
                refine bodyPost_ret (v := .tuple #[.int .i64 0, .string ⟨#[]⟩, .int .i64 2]) (by simp [results, Try.results15, go_sem]) rfl ?_
                exact NX.err RES.out (by decide) (Fr.refl _ _)
              · clear hz0
                go_wp2
                refine bodyPost_ret (v := .tuple #[.int .i64 0, .string ⟨#[]⟩, .int .i64 2]) (by simp [results, Try.results15, go_sem]) rfl ?_
                exact NX.err RES.out (by decide) (Fr.refl _ _)
            · have hm' : ¬ mi < (z : Int) := by have := HMI.out; omega
              have RES := nx_ok most HH.out h5 HT.out hlo (by rw [HZ.out]; rintro (h1 | h1); exact hz0 h1; exact hm h1)
              rw [HZ.out] at RES
              have RS := Lib.hid RES
              clear RES
              have hi1 : IntKind.i64.wrap ((k : Int) + 1) = (k : Int) + 1 := IntWalk.i64_in _ (by omega)
              have j0 : (0 : Int) ≤ (k : Int) + 1 := by omega
              have j1 : (k : Int) + 1 ≤ s.size := by omega
              have j2 : ((k : Int) + 1).toNat = k + 1 := by omega
              have FIN : ∀ q : Nat, NX s most w (.returned (.tuple #[.int .i64 (z : Int), .string (s.extract (k + 1) s.size), .int .i64 0])) (w.drewN q) := fun q =>
                ⟨_, by rw [RS.out.1, RS.out.2.1], by rw [sextract, RS.out.2.2], (Fr.refl nob w).drewN q⟩
              have FN := Lib.hid FIN
              clear FIN
              by_cases hk0 : (0 : Int) < (k : Int)
              · have hc0' : ((c.toNat : Int) == 0) = false := by simp; omega
                clear hz0
                go_wp2_with fail
                go_quiet (fail)
                clear o1 o2 o3 gk1
                go_wp2
                exact bodyPost_ret (v := .tuple #[.int .i64 (z : Int), .string (s.extract (k + 1) s.size), .int .i64 0]) (by simp [results, Try.results15, go_sem]) rfl (FN.out _)
              · clear hz0
                go_wp2_with fail
                go_quiet (fail)
                clear o1 o2 o3 gk1
                go_wp2
                exact bodyPost_ret (v := .tuple #[.int .i64 (z : Int), .string (s.extract (k + 1) s.size), .int .i64 0]) (by simp [results, Try.results15, go_sem]) rfl (FN.out _)
      · have hkk : k = s.size := by omega
        have RES := Lib.hid (nx_short (l := s.data.toList) most (by rw [HSL.out, ← hkk]; exact HH.out) (by rw [HSL.out]; omega))
        have hne : ((k : Int) == (s.size : Int)) = true := by simp; omega
        clear hkk
        go_wp2
        refine bodyPost_ret (v := .tuple #[.int .i64 0, .string ⟨#[]⟩, .int .i64 16]) (by simp [results, Try.results15, go_sem]) rfl ?_
        exact NX.err RES.out (by decide) (Fr.refl _ _)
    · obtain rfl : k = 5 := by omega
      have h5' : ¬ ((5 : Nat) : Int) < 5 := by decide
      have RES := Lib.hid (nx_five most HH.out (by rw [HSL.out]; omega))
      go_wp2
      refine bodyPost_ret (v := .tuple #[.int .i64 0, .string ⟨#[]⟩, .int .i64 2]) (by simp [results, Try.results15, go_sem]) rfl ?_
      exact NX.err RES.out (by decide) (Fr.refl _ _)

end Go.Proofs.Ytgjgonnlkponiaa
