/- The reference's Events and Same; transactions that came in. -/
import Derived.Test.YtlmaloikhmkokaaGrJ
import Derived.Test.YtlmaloikhmkokaaOpen
import Derived.Lib.SmallJoins
namespace Go.Proofs.Ytlmaloikhmkokaa
open Go.RowKit

set_option maxRecDepth 100000 in
set_option maxHeartbeats 1000000 in
theorem revents_any (v : Value) (ts : List Tx) (w : World) (h : RT w v ts) (hl : ts.length ≤ 100) (hc : ∀ t ∈ ts, t.o.length ≤ 100000) : Calls Try.prog 14 #[v] w fun e w' => ∃ v', e = .returned v' ∧ RE w' v' (evs ts) ∧ Fr nob w w' := by
  obtain ⟨a, b, off, cap, rfl, -, -, h3⟩ := h
  have H := Lib.hid h3
  have HC := Lib.hid hc
  clear h3 hc
  obtain ⟨n, hn⟩ : ∃ n, n = ts.length := ⟨_, rfl⟩
  rw [← hn]
  have HN := Lib.hid hn
  have hnb : n ≤ 100 := by omega
  obtain ⟨B, hB⟩ : ∃ B, B = w.heap.size := ⟨_, rfl⟩
  have HB := Lib.hid hB
  clear hn hl hB
  go_enter Try.func14, Try.ntmps14
  go_wp2_with fail
  go_loopg [3, 4] n (fun gk s3 i wr => ∃ k : Nat, k + gk = n ∧ i = .int .i64 k ∧ wr.ownsRow B 44 4 s3 (evs (ts.take k)).length (ec (evs (ts.take k))) ∧ Fr nob w wr)
  case atStart => exact ⟨0, Nat.zero_add _, rfl, World.ownsRow_nil _ _ _ _, Fr.refl _ _⟩
  case round =>
    obtain ⟨k, hk, rfl, hrow, hf⟩ := hrel
    have HK := Lib.hid hk
    have hql : (evs (ts.take k)).length ≤ 20000000 := by
      have h1 := evs_len (ts := ts.take k) (c := 100000) (fun t ht => HC.out t (List.mem_of_mem_take ht))
      rw [List.length_take] at h1
      have h2 : min k ts.length ≤ 100 := by have := HN.out; omega
      have := Nat.mul_le_mul_right (100000 + 2) h2
      omega
    obtain ⟨P, hP⟩ : ∃ P, P = evs (ts.take k) := ⟨_, rfl⟩
    obtain ⟨q, hq⟩ : ∃ q, q = P.length := ⟨_, rfl⟩
    rw [← hP, ← hq] at hrow hql
    have HP := Lib.hid hP
    have HQ := Lib.hid hq
    have HR := Lib.hid hrow
    have F := Lib.hid hf
    have hkl : k ≤ n := by omega
    obtain ⟨a3, cap3, rfl, -, -⟩ := owns_shape hrow
    clear hk hP hq hrow hf
    by_cases hlt : k < n
    · obtain ⟨x, hx⟩ : ∃ x, ts[k]? = some x := ⟨_, List.getElem?_eq_getElem (by have := HN.out; omega)⟩
      obtain rfl := H.out.addr hx
      obtain ⟨sv, d0, d1, d2, d3, hsv⟩ := H.out.2 k x hx
      obtain ⟨a6, n6, rfl, -⟩ := hsv.slice
      have hol : x.o.length ≤ 100000 := HC.out x (List.mem_of_getElem? hx)
      have HS := Lib.hid hsv
      have HX := Lib.hid hx
      have hidx0 : (0 : Int) ≤ (k : Int) := Int.natCast_nonneg _
      have hidx1 : (k : Int) < (n : Int) := by omega
      have HSN := Lib.hid (evs_snoc hx)
      obtain ⟨xs, xd, xf, xo⟩ := x
      simp only at *
      have D0 := Lib.hid d0
      have D1 := Lib.hid d1
      have D3 := Lib.hid d3
      have e0 := F.out.cell_some d0 (fun x => x)
      clear hx hsv d0 d1 d2 d3
      go_wp2_with (at_builtin; refine stop ?_)
      refine Stop.go (wpList_app rfl (.tmp 12) (.tmp 19) rfl appEv rfl (base := B) (n := q) (xs := ec P) ?p1 (m := 1) (news := ec [⟨0, xs, 0, 0⟩]) rfl rfl ?p3 ?p4 ?p5 ?p6 ?p7)
      case p1 => exact HR.out.alloc _
      case p3 => exact Src.block (cs := #[.int .i64 0, .int .i64 xs, .int .i64 0, .int .i64 0]) (obj_new rfl _) (ec_one [⟨0, xs, 0, 0⟩])
      case p4 => omega
      case p5 => simp only [maxLen]; omega
      case p6 => have := F.out.size; have := HB.out; simp; omega
      case p7 =>
        intro v3 w3 ho3 hg3 _
        have F3 := Lib.hid ((F.out.alloc _).grownOwn (by have := HB.out; omega) (HR.out.alloc _) hg3)
        obtain ⟨a4, cap4, rfl, -, -⟩ := owns_shape ho3
        have R3 := Lib.hid ho3
        have e3 := F3.out.cell_some D3.out (fun x => x)
        clear ho3 hg3 HR F e0
        go_wp2_with (at_builtin; refine stop ?_)
        refine Stop.go (wpList_app rfl (.tmp 21) (.tmp 26) rfl appEv rfl (base := B) (n := q + 1) (xs := ec P ++ ec [⟨0, xs, 0, 0⟩]) ?q1 (m := xo.length) (news := ec xo) rfl (ec_len xo) ?q3 ?q4 ?q5 ?q6 ?q7)
        case q1 => exact R3.out
        case q3 => exact (HS.out.fr F3.out).src
        case q4 => omega
        case q5 => simp only [maxLen]; omega
        case q6 => have := F3.out.size; have := HB.out; omega
        case q7 =>
          intro v5 w5 ho5 hg5 _
          have F5 := Lib.hid (F3.out.grownOwn (by have := HB.out; omega) R3.out hg5)
          obtain ⟨a8, cap8, rfl, -, -⟩ := owns_shape ho5
          have R5 := Lib.hid ho5
          have g0 := F5.out.cell_some D0.out (fun x => x)
          have g1 := F5.out.cell_some D1.out (fun x => x)
          clear ho5 hg5 R3 F3 e3
          cases xd
          · go_wp2_with (at_builtin; refine stop ?_)
            refine Stop.go (wpList_app rfl (.tmp 33) (.tmp 41) rfl appEv rfl (base := B) (n := q + 1 + xo.length) (xs := ec P ++ ec [⟨0, xs, 0, 0⟩] ++ ec xo) ?r1 (m := 1) (news := ec [⟨4, xs, 0, 0⟩]) rfl rfl ?r3 ?r4 ?r5 ?r6 ?r7)
            case r1 => exact R5.out.alloc _
            case r3 => exact Src.block (cs := #[.int .i64 4, .int .i64 xs, .int .i64 0, .int .i64 0]) (obj_new rfl _) (ec_one [⟨4, xs, 0, 0⟩])
            case r4 => omega
            case r5 => simp only [maxLen]; omega
            case r6 => have := F5.out.size; have := HB.out; simp; omega
            case r7 =>
              intro v7 w7 ho7 hg7 _
              have F7 := Lib.hid ((F5.out.alloc _).grownOwn (by have := HB.out; omega) (R5.out.alloc _) hg7)
              obtain ⟨a9, cap9, rfl, -, -⟩ := owns_shape ho7
              have R9 : Hid (w7.ownsRow B 44 4 (.slice a9 (q + 1 + xo.length + 1) cap9) (evs (ts.take (k + 1))).length (ec (evs (ts.take (k + 1))))) := Lib.hid (by
                have hN : evs (ts.take (k + 1)) = P ++ [⟨0, xs, 0, 0⟩] ++ xo ++ [⟨4, xs, 0, 0⟩] := by rw [HSN.out, ← HP.out]; simp [evs1]
                have hl : (evs (ts.take (k + 1))).length = q + 1 + xo.length + 1 := by rw [hN]; have := HQ.out; simp; omega
                rw [hl, hN, ec_app, ec_app, ec_app]
                exact ho7)
              clear ho7 hg7 R5 F5 g0 g1
              go_wp2
              go_roundg (gk - 1)
              case measure => have := HK.out; omega
              case rel => exact ⟨k + 1, by have := HK.out; omega, by go_num, R9.out, F7.out⟩
          · go_wp2_with (at_builtin; refine stop ?_)
            refine Stop.go (wpList_app rfl (.tmp 33) (.tmp 41) rfl appEv rfl (base := B) (n := q + 1 + xo.length) (xs := ec P ++ ec [⟨0, xs, 0, 0⟩] ++ ec xo) ?r1 (m := 1) (news := ec [⟨3, xs, 0, 0⟩]) rfl rfl ?r3 ?r4 ?r5 ?r6 ?r7)
            case r1 => exact R5.out.alloc _
            case r3 => exact Src.block (cs := #[.int .i64 3, .int .i64 xs, .int .i64 0, .int .i64 0]) (obj_new rfl _) (ec_one [⟨3, xs, 0, 0⟩])
            case r4 => omega
            case r5 => simp only [maxLen]; omega
            case r6 => have := F5.out.size; have := HB.out; simp; omega
            case r7 =>
              intro v7 w7 ho7 hg7 _
              have F7 := Lib.hid ((F5.out.alloc _).grownOwn (by have := HB.out; omega) (R5.out.alloc _) hg7)
              obtain ⟨a9, cap9, rfl, -, -⟩ := owns_shape ho7
              have R9 : Hid (w7.ownsRow B 44 4 (.slice a9 (q + 1 + xo.length + 1) cap9) (evs (ts.take (k + 1))).length (ec (evs (ts.take (k + 1))))) := Lib.hid (by
                have hN : evs (ts.take (k + 1)) = P ++ [⟨0, xs, 0, 0⟩] ++ xo ++ [⟨3, xs, 0, 0⟩] := by rw [HSN.out, ← HP.out]; simp [evs1]
                have hl : (evs (ts.take (k + 1))).length = q + 1 + xo.length + 1 := by rw [hN]; have := HQ.out; simp; omega
                rw [hl, hN, ec_app, ec_app, ec_app]
                exact ho7)
              clear ho7 hg7 R5 F5 g0 g1
              go_wp2
              go_roundg (gk - 1)
              case measure => have := HK.out; omega
              case rel => exact ⟨k + 1, by have := HK.out; omega, by go_num, R9.out, F7.out⟩
    · have hkn : k = n := by omega
      have RES : Hid (RE wr (.slice a3 q cap3) (evs ts)) := Lib.hid (by
        have hp := HP.out
        rw [List.take_of_length_le (by have := HN.out; omega)] at hp
        rw [← hp]
        exact RE.of_owns HQ.out HR.out)
      clear hkn
      go_wp2
      go_ret
      exact ⟨_, rfl, RES.out, F.out⟩

set_option maxRecDepth 100000 in
set_option maxHeartbeats 1000000 in
theorem rsame_any (v v' : Value) (ts : List Tx) (w : World) (h : RT w v ts) (h' : RT w v' ts) (hl : ts.length ≤ 100) : Calls Try.prog 10 #[v, v'] w fun e w' => e = .returned (.bool true) ∧ Fr nob w w' := by
  obtain ⟨a, b, off, cap, rfl, -, -, h3⟩ := h
  obtain ⟨a', b', off', cap', rfl, -, -, h3'⟩ := h'
  have T7 := Lib.hid h3
  have T8 := Lib.hid h3'
  clear h3 h3'
  obtain ⟨m, hm⟩ : ∃ m, m = ts.length := ⟨_, rfl⟩
  rw [← hm]
  have HM := Lib.hid hm
  have hm100 : m ≤ 100 := by omega
  clear hm hl
  go_enter Try.func10, Try.ntmps10
  go_wp2_with fail
  go_loopg [5] m (fun gk i wr => ∃ k : Nat, k + gk = m ∧ i = .int .i64 k ∧ Fr nob w wr)
  case atStart => exact ⟨0, Nat.zero_add _, rfl, Fr.refl _ _⟩
  case round =>
    obtain ⟨k, hk, rfl, hf⟩ := hrel
    have HK := Lib.hid hk
    have FW := Lib.hid hf
    have hkl : k ≤ m := by omega
    clear hk hf
    by_cases hlt : k < m
    · obtain ⟨x, hx⟩ : ∃ x, ts[k]? = some x := ⟨_, List.getElem?_eq_getElem (by have := HM.out; omega)⟩
      obtain rfl := T7.out.addr hx
      obtain rfl := T8.out.addr hx
      obtain ⟨sx, d0, d1, d2, d3, hsx⟩ := (T7.out.nob FW.out).2 k x hx
      obtain ⟨sy, e0, e1, e2, e3, hsy⟩ := (T8.out.nob FW.out).2 k _ hx
      obtain ⟨ax, nx, rfl, -⟩ := hsx.slice
      obtain ⟨ay, ny, rfl, -⟩ := hsy.slice
      have hone : oneB x x = true := by simp [oneB]
      have ONE : Hid (∀ W, Fr nob wr W → Calls Try.prog 15 #[.agg #[.int .i64 x.s, .bool x.d, .int .i64 x.f, .slice ax x.o.length nx], .agg #[.int .i64 x.s, .bool x.d, .int .i64 x.f, .slice ay x.o.length ny]] W fun e w' => e = .returned (.bool true) ∧ Fr nob W w') :=
        Lib.hid (fun W f => by have := one_any x x _ _ W (hsx.fr f) (hsy.fr f); rw [hone] at this; exact this)
      have D2 := Lib.hid d2
      have E2 := Lib.hid e2
      have hidx0 : (0 : Int) ≤ (k : Int) := Int.natCast_nonneg _
      have hidx1 : (k : Int) < (m : Int) := by omega
      clear hx hsx hsy hone
      go_wp2_with fail
      go_region_with (go_at_call 15; refine (ONE.out _ ((Fr.refl nob wr).drew)).mono ?_; rintro e w7 ⟨rfl, f7⟩)
      all_goals
        have fr7 := ((Fr.refl nob wr).drew).step f7
        have F7 := Lib.hid (FW.out.step fr7)
        have x2 := fr7.cell_some D2.out (fun x => x)
        have y2 := fr7.cell_some E2.out (fun x => x)
        clear f7 fr7 d0 d1 d2 d3 e0 e1 e2 e3 ONE
        go_wp2_with fail
        go_quiet (fail)
        have F8 := Lib.hid (F7.out.drewN nq)
        clear x2 y2
        go_wp2
        go_roundg (gk - 1)
        case measure => have := HK.out; omega
        case rel => exact ⟨k + 1, by have := HK.out; omega, by go_num, F8.out⟩
    · go_wp2
      go_ret
      exact ⟨rfl, FW.out⟩

end Go.Proofs.Ytlmaloikhmkokaa
