/- Put. -/
import Derived.Test.YtlppphhgbfehcaaScA
import Derived.Laws.BytesArg
import Derived.Laws.OwnMore
import Derived.OwnWalk
namespace Go.Proofs.Ytlppphhgbfehcaa
open Go.RowKit

/-- Bytes as cells. -/
def bc (l : List Int) : List Value := l.map (Value.int .u8)
theorem by8_data (l : List Int) : (⟨(by8 l).toArray⟩ : ByteArray) = strOfNums l := rfl

theorem run_str {w : World} {base n : Nat} {v : Value} {l : List Int} (hl : l.length = n) (h : w.ownsRow base 5 1 v n (bc l)) : (convert 46 9 v).run Try.prog w = .ok (.string ⟨(by8 l).toArray⟩) w := by
  rcases h.2 with ⟨rfl, h0⟩ | ⟨g, cap, cur, rfl, hb, hg, hn, hc, hs, ht⟩
  · have : l = [] := List.eq_nil_of_length_eq_zero (by omega)
    subst this
    exact run_convert_bytes_nil w 46 5 Try.underlying46 Try.underlying5 0 0 9 Try.underlying9
  · rw [by8_data]
    refine run_convert_bytes_arg w 46 5 Try.underlying46 Try.underlying5 g 0 n cap l hl (fun i hi => ?_) 9 Try.underlying9
    have := h.cells (g := g) rfl i (.int .u8 (l.getD i 0)) (by simp [bc, List.getD, show i < l.length by omega])
    rw [Addr.add_lit] at this
    exact this

set_option maxRecDepth 100000 in
theorem put_many (a : Option Addr) (cap : Nat) (ps : List Pk) (w : World) (hm : 2000 < ps.length) :
    Calls Try.prog 9 #[.slice a ps.length cap] w fun e w' => e = .returned (.tuple #[.string (putS ps), .int .i64 (putE ps)]) ∧ Fr nob w w' := by
  rw [putS_many hm, putE_many hm]
  go_enter Try.func9, Try.ntmps9
  go_wp2
  go_ret2
  exact ⟨rfl, Fr.refl _ _⟩

theorem bc_one (l : List Int) : ∀ u ∈ bc l, u.oneCell' = true := by
  intro u hu
  simp only [bc, List.mem_map] at hu
  obtain ⟨n, _, rfl⟩ := hu
  rfl
theorem all_snoc {ps : List Pk} {k : Nat} {x : Pk} (hx : ps[k]? = some x) (h : (ps.take k).all rt = true) (hr : rt x = true) : (ps.take (k + 1)).all rt = true := by
  rw [take_snoc hx, List.all_append, h]; simp [hr]
theorem enc_snoc {ps : List Pk} {k : Nat} {x : Pk} (hx : ps[k]? = some x) : bc (enc (ps.take (k + 1))) = bc (enc (ps.take k)) ++ [.int .u8 x.1, .int .u8 x.2] := by
  rw [take_snoc hx, enc_app]; simp [bc, enc]

set_option maxRecDepth 100000 in
theorem put_some (a : Option Addr) (b off cap : Nat) (ps : List Pk) (w : World) (h : PAt w a b off ps) (hm : ¬ 2000 < ps.length) :
    Calls Try.prog 9 #[.slice a ps.length cap] w fun e w' => e = .returned (.tuple #[.string (putS ps), .int .i64 (putE ps)]) ∧ Fr nob w w' := by
  obtain ⟨i0, hi, hz0, hz1, hz2⟩ := info_parts (P := Try.prog) (e := 5) (z := .int .u8 0) (size := 1) (bytes := 1) (by kernel_rfl)
  have H := Lib.hid h
  have HI := Lib.hid (And.intro hi (And.intro hz0 (And.intro hz1 hz2)))
  clear h hi hz0 hz1 hz2
  go_enter Try.func9, Try.ntmps9
  go_wp2_with (at_make; refine stop ?_)
  refine Stop.go (wpList_make_own _ rfl _ _ 46 rfl w.heap.size 5 i0 (.int .u8 0) 1 Try.underlying46 HI.out.1 HI.out.2.1 HI.out.2.2.1 .i64 .i64 _ (2 * ps.length) rfl rfl ?q1 ?q2 ?q3 (Nat.le_refl _) ?_)
  case q1 => simp
  case q2 => rw [HI.out.2.2.2]; omega
  case q3 => unfold maxLen; omega
  intro w1 ho1 hg1
  have F1 := Lib.hid ((Fr.refl nob w).grown hg1 (fun k hk => by cases hk))
  have O1 := Lib.hid ho1
  clear ho1 hg1
  go_wp2_with fail
  go_loopg [4, 16] ps.length (fun gk s4 i wr => ∃ k : Nat, k + gk = ps.length ∧ i = .int .i64 k ∧ (ps.take k).all rt = true ∧ wr.ownsRow w.heap.size 5 1 s4 (2 * k) (bc (enc (ps.take k))) ∧ Fr nob w wr)
  case atStart => exact ⟨0, Nat.zero_add _, rfl, rfl, O1.out, F1.out⟩
  case round =>
    obtain ⟨k, hk, rfl, hall, ho, hf⟩ := hrel
    obtain ⟨a3, cap3, rfl, -, -⟩ := owns_shape ho
    have O := Lib.hid ho
    have F := Lib.hid hf
    have HK := Lib.hid hk
    have HA := Lib.hid hall
    have hkl : k ≤ ps.length := by omega
    clear ho hf hk hall
    by_cases hlt : k < ps.length
    · obtain ⟨x, hx⟩ : ∃ x, ps[k]? = some x := ⟨_, List.getElem?_eq_getElem hlt⟩
      obtain rfl := H.out.addr hx
      obtain ⟨d0, d1⟩ := (H.out.nob F.out).2 k x hx
      have HX := Lib.hid hx
      clear hx
      have hidx0 : (0 : Int) ≤ (k : Int) := Int.natCast_nonneg _
      have hidx1 : (k : Int) < (ps.length : Int) := by omega
      obtain ⟨x1, x2⟩ := x
      cases hr : rt (x1, x2) with
      | true =>
        have HR := Lib.hid hr
        have rr := rt_range hr
        simp only at rr d0 d1
        have c1 : IntKind.u8.wrap x1 = x1 := by unfold IntKind.wrap; simp [IntKind.bits, IntKind.signed]; omega
        have c2 : IntKind.u8.wrap x2 = x2 := by unfold IntKind.wrap; simp [IntKind.bits, IntKind.signed]; omega
        go_wp2_with (go_at_call 14; refine stop ?_)
        refine Stop.go ((right_any (x1, x2) _).mono ?_)
        rintro e w2 ⟨rfl, f2⟩
        rw [HR.out]
        have b2 : w2.heap[wr.heap.size]? = some (.cells #[.int .i64 x1, .int .i64 x2] 36 (0, 0)) := f2.heap_some (obj_new rfl _) (fun x => x)
        have e0 : w2.cell? ⟨wr.heap.size, 0, none⟩ = some (.int .i64 x1) := obj_cell b2 0
        have e1 : w2.cell? ⟨wr.heap.size, 1, none⟩ = some (.int .i64 x2) := obj_cell b2 1
        have F2 := Lib.hid ((F.out.alloc _).step f2)
        have G2 := Lib.hid (((Fr.refl nob wr).alloc _).step f2)
        clear b2 f2 d0 d1 hr
        go_wp2_with (at_builtin; refine stop ?_)
        refine Stop.go (wpList_app rfl (.tmp 23) (.tmp 30) rfl appByte rfl (base := w.heap.size) (n := 2 * k) (xs := bc (enc (ps.take k))) ?p1 (m := 2) (news := [.int .u8 x1, .int .u8 x2]) rfl rfl ?p3 ?p4 ?p5 ?p6 ?p7)
        case p1 => exact (G2.out.owns O.out (fun _ _ x => x)).alloc _
        case p3 => exact Src.block (cs := #[.int .u8 x1, .int .u8 x2]) (obj_new rfl _) (bc_one [x1, x2])
        case p4 => omega
        case p5 => simp only [maxLen]; omega
        case p6 => have := F2.out.size; simp; omega
        case p7 =>
          intro v3 w3 ho3 hg3 _
          rw [← enc_snoc HX.out] at ho3
          have F3 := Lib.hid ((F2.out.alloc _).grown hg3 (fun i hi hl => by have := (O.out.lt i hi).1; omega))
          have O3 := Lib.hid ho3
          clear ho3 hg3
          go_wp2
          go_roundg (gk - 1)
          case measure => have := HK.out; omega
          case rel => exact ⟨k + 1, by have := HK.out; omega, by go_num, all_snoc HX.out HA.out HR.out, by rw [show 2 * (k + 1) = 2 * k + 2 by omega]; exact O3.out, F3.out⟩
      | false =>
        have HE := Lib.hid (putE_no hm k _ HX.out hr)
        have HS := Lib.hid (putS_no k _ HX.out hr)
        have HR := Lib.hid hr
        clear hr
        simp only at d0 d1
        go_wp2_with (go_at_call 14; refine stop ?_)
        refine Stop.go ((right_any (x1, x2) _).mono ?_)
        rintro e w2 ⟨rfl, f2⟩
        rw [HR.out]
        have F2 := Lib.hid ((F.out.alloc _).step f2)
        clear f2 d0 d1
        go_wp2
        go_ret2
        rw [HE.out, HS.out]
        exact ⟨rfl, F2.out⟩
    · have hkk : k = ps.length := by omega
      have HA' : ps.all rt = true := by have := HA.out; rwa [hkk, List.take_length] at this
      have HE := Lib.hid (putE_ok hm HA')
      have HS := Lib.hid (putS_ok hm HA')
      have O' : Hid (wr.ownsRow w.heap.size 5 1 (.slice a3 (2 * k) cap3) (2 * k) (bc (enc ps))) := by
        have := O
        rwa [show ps.take k = ps by rw [hkk, List.take_length]] at this
      have hst : ∀ w', w' = wr → (convert 46 9 (.slice a3 (2 * k) cap3)).run Try.prog w' = .ok (.string ⟨(by8 (enc ps)).toArray⟩) w' := fun w' e => by
        rw [e]; exact run_str (by rw [enc_len]; omega) O'.out
      have hst' := hst _ rfl
      clear HA' hkk O hst
      go_wp2
      go_ret2
      rw [HE.out, HS.out]
      exact ⟨rfl, F.out⟩

theorem put_any (v : Value) (ps : List Pk) (w : World) (h : RP w v ps) : Calls Try.prog 9 #[v] w fun e w' => e = .returned (.tuple #[.string (putS ps), .int .i64 (putE ps)]) ∧ Fr nob w w' := by
  obtain ⟨a, b, off, cap, rfl, h1, h2, h3⟩ := h
  by_cases hm : 2000 < ps.length
  · exact put_many a cap ps w hm
  · exact put_some a b off cap ps w h3 hm

end Go.Proofs.Ytlppphhgbfehcaa
