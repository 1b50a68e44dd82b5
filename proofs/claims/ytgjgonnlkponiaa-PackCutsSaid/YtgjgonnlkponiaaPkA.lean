/- Numbers in memory; two slices of numbers compared; the reference's bytes and Put. -/
import Derived.Test.YtgjgonnlkponiaaRows
import Derived.Test.YtgjgonnlkponiaaLaw
import Derived.Test.YtgjgonnlkponiaaOpen
import Derived.Laws.BytesArg
import Derived.Laws.OwnMore
import Derived.Laws.Concat
import Derived.Outline
import Derived.RegionTactic
import Derived.ChangeAlike
import Derived.Deep.QuietTactic
import Derived.BigQuiet
import Derived.Lib.Hide
import Derived.WalkSpells
import Derived.WalkLawsBesides
import Derived.Deep.RegionWith
import Derived.Deep.RegionHeld3
import Derived.Deep.RegionLaw
import Derived.Deep.LoopGhost
import Derived.Deep.DeepCutAuto
import Derived.Deep.CutBlock
import Derived.IntWalk
namespace Go.Proofs.Ytgjgonnlkponiaa
open Go.RowKit

/-- A slice of numbers that lies in memory. -/
def IAt (w : World) (a : Option Addr) (b off : Nat) (xs : List Int) : Prop :=
  (xs = [] ∨ a = some ⟨b, off, none⟩) ∧ ∀ j x, xs[j]? = some x → w.cell? ⟨b, off + j, none⟩ = some (.int .i64 x)
theorem IAt.nob {w w' : World} {a : Option Addr} {b off : Nat} {xs : List Int} (h : IAt w a b off xs) (f : Fr nob w w') : IAt w' a b off xs :=
  ⟨h.1, fun j x hj => f.cell_some (h.2 j x hj) (fun x => x)⟩
theorem IAt.addr {w : World} {a : Option Addr} {b off k : Nat} {xs : List Int} {x : Int} (h : IAt w a b off xs) (hx : xs[k]? = some x) : a = some ⟨b, off, none⟩ :=
  h.1.resolve_left (fun e => by rw [e] at hx; simp at hx)
/-- A slice value that reads as these numbers. -/
def RI (w : World) (v : Value) (xs : List Int) : Prop :=
  ∃ a b off cap, v = .slice a xs.length cap ∧ xs.length ≤ cap ∧ cap ≤ maxLen ∧ IAt w a b off xs
theorem RI.fr {w w' : World} {v : Value} {xs : List Int} (h : RI w v xs) (f : Fr nob w w') : RI w' v xs := by
  obtain ⟨a, b, off, cap, h1, h2, h3, h4⟩ := h
  exact ⟨a, b, off, cap, h1, h2, h3, h4.nob f⟩
theorem RI.nil (w : World) : RI w (.slice none 0 0) [] := ⟨none, 0, 0, 0, rfl, Nat.le_refl _, by simp [maxLen], .inl rfl, by simp⟩
theorem RI.slice {w : World} {v : Value} {xs : List Int} (h : RI w v xs) : ∃ a n cap, v = .slice a n cap := by
  obtain ⟨a, b, off, cap, rfl, _⟩ := h
  exact ⟨_, _, _, rfl⟩
def ic (xs : List Int) : List Value := xs.map (Value.int .i64)
theorem ic_one (xs : List Int) : ∀ u ∈ ic xs, u.oneCell' = true := by
  intro u hu
  simp only [ic, List.mem_map] at hu
  obtain ⟨n, _, rfl⟩ := hu
  rfl
theorem ic_app (xs ys : List Int) : ic (xs ++ ys) = ic xs ++ ic ys := by simp [ic]
theorem RI.of_owns {w : World} {base : Nat} {e : TypeId} {v : Value} {n : Nat} {xs : List Int} (hn : n = xs.length) (h : w.ownsRow base e 1 v n (ic xs)) : RI w v xs := by
  subst hn
  rcases h.2 with ⟨rfl, h0⟩ | ⟨g, cap, cur, rfl, hb, hg, hn, hc, hs, ht⟩
  · have : xs = [] := List.eq_nil_of_length_eq_zero h0
    subst this
    exact RI.nil w
  · refine ⟨_, g, 0, cap, rfl, hn, hc, .inr rfl, fun j x hj => ?_⟩
    have c1 := h.cells (g := g) rfl j (.int .i64 x) (by simp [ic, hj])
    rw [Addr.add_lit] at c1
    exact c1
theorem NumsAt.ints {w : World} {a : Option Addr} {len cap : Nat} {X : Nat → Nat → Int} (h : NumsAt w a len cap [.i64] X) : ∃ xs : List Int, xs.length = len ∧ RI w (.slice a len cap) xs := by
  obtain ⟨h1, h2, h3⟩ := h
  rcases h3 with rfl | ⟨b, off, rfl, _, h4⟩
  · exact ⟨[], rfl, a, 0, 0, cap, rfl, h1, h2, .inl rfl, by simp⟩
  · refine ⟨(List.range len).map fun i => X i 0, by simp, _, b, off, cap, by simp, by simpa using h1, h2, .inr rfl, fun j x hj => ?_⟩
    simp only [List.getElem?_map, Option.map_eq_some_iff] at hj
    obtain ⟨i, hi, rfl⟩ := hj
    obtain ⟨hj, hi'⟩ := List.getElem?_eq_some_iff.1 hi
    simp at hi' hj
    subst hi'
    have := (h4 j hj 0 .i64 rfl).1
    simpa using this
theorem take_snoc {α : Type} {xs : List α} {k : Nat} {x : α} (h : xs[k]? = some x) : xs.take (k + 1) = xs.take k ++ [x] := by
  rw [List.take_add_one, h]; rfl

theorem appInt : AppT Try.prog 22 3 1 8 := AppT.of Try.underlying22 (z := .int .i64 0) (by kernel_rfl) rfl (by decide)
theorem appByte : AppT Try.prog 34 5 1 1 := AppT.of Try.underlying34 (z := .int .u8 0) (by kernel_rfl) rfl (by decide)
theorem ret_bool {a b : Bool} (h : a = b) : Ending.returned (.bool a) = .returned (.bool b) := by rw [h]
theorem ret_str {s t : ByteArray} (h : s = t) : Ending.returned (.string s) = .returned (.string t) := by rw [h]
theorem slen (s : ByteArray) : s.data.toList.length = s.size := by cases s; rfl
theorem sget (s : ByteArray) (i : Nat) (h : i < s.size) : s.data.toList[i]? = some s[i] := by
  rw [List.getElem?_eq_getElem (by rw [slen]; exact h)]; rfl
theorem sextract (s : ByteArray) (i : Nat) : (s.extract i s.size).data.toList = s.data.toList.drop i := by
  have := slen s
  simp only [ByteArray.data_extract, Array.toList_extract, List.extract_eq_take_drop]
  rw [List.take_of_length_le (by simp)]

set_option maxRecDepth 100000 in
theorem ints_any (v v' : Value) (xs ys : List Int) (w : World) (h : RI w v xs) (h' : RI w v' ys) :
    Calls Try.prog 12 #[v, v'] w fun e w' => e = .returned (.bool (decide (xs = ys))) ∧ Fr nob w w' := by
  obtain ⟨a, b, off, cap, rfl, h1, h2, h3⟩ := h
  obtain ⟨a', b', off', cap', rfl, h1', h2', h3'⟩ := h'
  unfold maxLen at h2 h2'
  have H := Lib.hid h3
  have H' := Lib.hid h3'
  clear h3 h3'
  by_cases hl : xs.length = ys.length
  · obtain ⟨n, hn⟩ : ∃ n, n = xs.length := ⟨_, rfl⟩
    rw [← hl, ← hn]
    have HN := Lib.hid hn
    have HL := Lib.hid (hn.trans hl)
    have hn63 : n ≤ 9223372036854775807 := by omega
    clear hl hn h1 h2 h1' h2'
    go_enter Try.func12, Try.ntmps12
    go_wp2_with fail
    go_loopg [5] n (fun gk i wr => ∃ k : Nat, k + gk = n ∧ i = .int .i64 k ∧ xs.take k = ys.take k ∧ Fr nob w wr)
    case atStart => exact ⟨0, Nat.zero_add _, rfl, rfl, Fr.refl _ _⟩
    case round =>
      obtain ⟨k, hk, rfl, ht, hf⟩ := hrel
      have F := Lib.hid hf
      have HK := Lib.hid hk
      have HT := Lib.hid ht
      have hkl : k ≤ n := by omega
      clear ht hf hk
      by_cases hlt : k < n
      · obtain ⟨x, hx⟩ : ∃ x, xs[k]? = some x := ⟨_, List.getElem?_eq_getElem (by have := HN.out; omega)⟩
        obtain ⟨y, hy⟩ : ∃ y, ys[k]? = some y := ⟨_, List.getElem?_eq_getElem (by have := HL.out; omega)⟩
        obtain rfl := H.out.addr hx
        obtain rfl := H'.out.addr hy
        have d0 := (H.out.nob F.out).2 k x hx
        have e0 := (H'.out.nob F.out).2 k y hy
        have HX := Lib.hid hx
        have HY := Lib.hid hy
        clear hx hy
        have hidx0 : (0 : Int) ≤ (k : Int) := Int.natCast_nonneg _
        have hidx1 : (k : Int) < (n : Int) := by omega
        by_cases q1 : x = y
        · subst q1
          go_wp2_with fail
          go_quiet (fail)
          have F1 := Lib.hid (F.out.drewN nq)
          clear d0 e0
          go_wp2
          go_roundg (gk - 1)
          case measure => have := HK.out; omega
          case rel => exact ⟨k + 1, by have := HK.out; omega, by go_num, by rw [take_snoc HX.out, take_snoc HY.out, HT.out], F1.out⟩
        · have q1' : (x == y) = false := by simpa using q1
          have q1'' : (x != y) = true := by simpa using q1
          have NE : Hid (¬ xs = ys) := Lib.hid (fun e => by have := HX.out; rw [e, HY.out] at this; simp at this; exact q1 this.symm)
          go_wp2_with fail
          go_quiet (fail)
          have F1 := Lib.hid (F.out.drewN nq)
          clear d0 e0
          go_wp2
          go_ret
          exact ⟨ret_bool (by simp [NE.out]), F1.out⟩
      · have EQ : Hid (xs = ys) := Lib.hid (by
          have hkn : k = n := by omega
          have := HT.out
          rw [hkn] at this
          rw [List.take_of_length_le (by have := HN.out; omega), List.take_of_length_le (by have := HL.out; omega)] at this
          exact this)
        go_wp2
        go_ret
        exact ⟨ret_bool (by simp [EQ.out]), F.out⟩
  · have NE : Hid (¬ xs = ys) := Lib.hid (fun e => hl (by rw [e]))
    have hl' : ((xs.length : Int) == (ys.length : Int)) = false := by simp; omega
    have hl'' : ((xs.length : Int) != (ys.length : Int)) = true := by simp; omega
    go_enter Try.func12, Try.ntmps12
    go_wp2
    go_ret
    exact ⟨ret_bool (by simp [NE.out]), Fr.refl _ _⟩

theorem run_one (w : World) (x : Int) {B : Nat} (h : w.heap[B]? = some (.cells #[.int .u8 x] 5 (0, 0))) :
    (convert 34 9 (.slice (some ⟨B, 0, none⟩) 1 1)).run Try.prog w = .ok (.string ⟨[UInt8.ofNat x.toNat].toArray⟩) w := by
  refine run_convert_bytes_arg w 34 5 Try.underlying34 Try.underlying5 B 0 1 1 [x] rfl (fun i hi => ?_) 9 Try.underlying9
  rw [Nat.zero_add]
  match i, hi with
  | 0, _ => exact obj_cell h 0

set_option maxRecDepth 100000 in
set_option maxHeartbeats 1000000 in
theorem bytes_any (n : Nat) : ∀ (w : World), n ≤ 2147483648 → Calls Try.prog 14 #[.int .i64 n] w fun e w' => e = .returned (.string ⟨(enc7 n).toArray⟩) ∧ Fr nob w w' := by
  induction n using Nat.strongRecOn with
  | _ n ih =>
    intro w hn
    by_cases h : n < 128
    · have hlt : (n : Int) < 128 := by omega
      have v1 := run_one (w.alloc (.cells #[.int .u8 n] 5)) n (obj_new rfl _)
      rw [Int.toNat_natCast] at v1
      have RES := Lib.hid (enc7_small h)
      have c2 : IntKind.u8.wrap (n : Int) = n := by unfold IntKind.wrap; simp [IntKind.bits, IntKind.signed]; omega
      clear ih
      go_enter Try.func14, Try.ntmps14
      go_wp2
      go_ret
      exact ⟨ret_str (by rw [RES.out]), (Fr.refl nob w).alloc _⟩
    · have hge : ¬ (n : Int) < 128 := by omega
      obtain ⟨q, hq⟩ : ∃ q, q = n / 128 := ⟨_, rfl⟩
      obtain ⟨m, hm⟩ : ∃ m, m = n % 128 := ⟨_, rfl⟩
      have hq' : (n : Int) / 128 = (q : Int) := by omega
      have hm' : (n : Int) % 128 = (m : Int) := by omega
      have hq2 : (n : Int).tdiv 128 = (q : Int) := by rw [Int.tdiv_eq_ediv_of_nonneg (by omega)]; exact hq'
      have hm2 : (n : Int).tmod 128 = (m : Int) := by rw [Int.tmod_eq_emod_of_nonneg (by omega)]; exact hm'
      have hm3 : m < 128 := by omega
      have w1' : IntKind.i64.wrap (q : Int) = q := IntWalk.i64_in _ (by omega)
      have w2' : IntKind.i64.wrap (m : Int) = m := IntWalk.i64_in _ (by omega)
      have w3' : IntKind.i64.wrap (128 + (m : Int)) = 128 + (m : Int) := IntWalk.i64_in _ (by omega)
      have w4' : IntKind.u8.wrap (128 + (m : Int)) = 128 + (m : Int) := by unfold IntKind.wrap; simp [IntKind.bits, IntKind.signed]; omega
      obtain ⟨d, hd⟩ : ∃ d : Int, d = 128 + (m : Int) := ⟨_, rfl⟩
      rw [← hd] at w3' w4'
      have hd' : 128 + (m : Int) = d := hd.symm
      have IH := Lib.hid (ih q (by omega))
      have hqb : q ≤ 2147483648 := by omega
      obtain ⟨S, hS⟩ : ∃ S : ByteArray, S = ⟨(enc7 q).toArray⟩ := ⟨_, rfl⟩
      obtain ⟨T, hT⟩ : ∃ T : ByteArray, T = ⟨[UInt8.ofNat d.toNat].toArray⟩ := ⟨_, rfl⟩
      have RES : Hid (T ++ S = ⟨(enc7 n).toArray⟩) := Lib.hid (by
        rw [hT, hS, ByteArray.mk_append_mk, enc7_big h, ← hq, ← hm, show d.toNat = 128 + m by omega]; rfl)
      have hsz : T.size + S.size ≤ 9223372036854775807 := by
        have := enc7_five (n := q) (by omega)
        rw [hT, hS]; simp [ByteArray.size]; omega
      rw [← hS] at IH
      have v1 := run_one (w.drew.alloc (.cells #[.int .u8 d] 5)) d (obj_new (w := w.drew) rfl _)
      have v2 := run_one (w.alloc (.cells #[.int .u8 d] 5)).drew d (obj_new (w := w) rfl _)
      rw [← hT] at v1 v2
      have HT := Lib.hid hT
      clear ih hq hm hS hT hd hq' hm'
      go_enter Try.func14, Try.ntmps14
      go_wp2_with fail
      go_region_with
        (first
          | (go_at_call 14; refine (IH.out w.drew hqb).mono ?_; rintro e w1 ⟨rfl, f1⟩; have G1 := Lib.hid ((Fr.refl nob w).drew.step f1); have v3 := run_one (w1.alloc (.cells #[.int .u8 d] 5)) d (obj_new rfl _); rw [← HT.out] at v3)
          | (go_at_call 14; refine (IH.out (w.drew.alloc _) hqb).mono ?_; rintro e w1 ⟨rfl, f1⟩; have G1 := Lib.hid (((Fr.refl nob w).drew.alloc _).step f1); have v3 := run_one w1 d (B := w.heap.size) (f1.heap_some (obj_new (w := w.drew) rfl _) (fun x => x)); rw [← HT.out] at v3))
      all_goals clear v1 v2
      all_goals try clear v3
      all_goals go_wp2
      all_goals go_ret
      all_goals first
        | exact ⟨ret_str RES.out, G1.out⟩
        | exact ⟨ret_str RES.out, G1.out.alloc _⟩

end Go.Proofs.Ytgjgonnlkponiaa
