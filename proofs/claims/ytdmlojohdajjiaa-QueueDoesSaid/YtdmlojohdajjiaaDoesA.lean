/- QueueDoes: the walk. -/
import Derived.Test.YtdmlojohdajjiaaOps
namespace Go.Proofs.Ytdmlojohdajjiaa
open Go.RowKit

theorem one_at (x : Pk) (w : World) : Calls Try.prog 10 #[.agg #[.int .i64 x.1, .int .i64 x.2]] w fun e w' => e = .returned (.agg #[.int .i64 x.1, .int .i64 x.2]) ∧ Fr nob w w' := one_any x w
theorem rpush_at (room : Int) (x : Pk) (v : Value) (xs ys : List Pk) (hy : pushed room x xs = ys) (w : World) (h : RP w v xs) (hb : xs.length ≤ 1000) :
    Calls Try.prog 9 #[.agg #[.int .i64 room, v], .agg #[.int .i64 x.1, .int .i64 x.2]] w fun e w' => ∃ v', e = .returned (.tuple #[.agg #[.int .i64 room, v'], .bool (decide ((xs.length : Int) < room))]) ∧ RP w' v' ys ∧ Fr nob w w' := rpush_any room x v xs ys hy w h hb

set_option maxRecDepth 100000 in
theorem does_many (room : Int) (a : Option Addr) (len cap : Nat) (w : World) (h : 100 < len) : Calls Try.prog 3 #[.int .i64 room, .slice a len cap] w fun e w' => e = .returned (.bool true) ∧ Fr nob w w' := by
  go_enter Try.func3, Try.ntmps3
  go_wp2_with (go_at_call 6; refine stop ?_)
  refine Stop.go ((awake_any w).mono ?_)
  rintro e w0 ⟨rfl, f0⟩
  go_wp2
  go_ret
  exact ⟨rfl, f0⟩

set_option maxRecDepth 100000 in
theorem does_bad (room : Int) (hr : room < 1 ∨ 256 < room) (a : Option Addr) (len cap : Nat) (w : World) (hl : len ≤ 100) : Calls Try.prog 3 #[.int .i64 room, .slice a len cap] w fun e w' => e = .returned (.bool true) ∧ Fr nob w w' := by
  by_cases h1 : room < 1
  · go_enter Try.func3, Try.ntmps3
    go_wp2_with (go_at_call 6; refine stop ?_)
    refine Stop.go ((awake_any w).mono ?_)
    rintro e w0 ⟨rfl, f0⟩
    go_wp2_with (go_at_call 7; refine stop ?_)
    refine Stop.go ((new_bad room w0 hr).mono ?_)
    rintro e w1 ⟨rfl, rfl⟩
    go_wp2
    go_ret
    exact ⟨rfl, f0⟩
  · have h2 : 256 < room := by omega
    go_enter Try.func3, Try.ntmps3
    go_wp2_with (go_at_call 6; refine stop ?_)
    refine Stop.go ((awake_any w).mono ?_)
    rintro e w0 ⟨rfl, f0⟩
    go_wp2_with (go_at_call 7; refine stop ?_)
    refine Stop.go ((new_bad room w0 hr).mono ?_)
    rintro e w1 ⟨rfl, rfl⟩
    go_wp2
    go_ret
    exact ⟨rfl, f0⟩

set_option maxRecDepth 100000 in
theorem does_none (room : Nat) (h1 : 1 ≤ room) (h2 : room ≤ 256) (a : Option Addr) (cap : Nat) (w : World) : Calls Try.prog 3 #[.int .i64 room, .slice a 0 cap] w fun e w' => e = .returned (.bool true) ∧ Fr nob w w' := by
  go_enter Try.func3, Try.ntmps3
  go_wp2_with (go_at_call 6; refine stop ?_)
  refine Stop.go ((awake_any w).mono ?_)
  rintro e w0 ⟨rfl, f0⟩
  go_wp2_with (go_at_call 7; refine stop ?_)
  refine Stop.go ((new_ok room w0 h1 h2).mono ?_)
  rintro e w1 ⟨rfl, -, f1⟩
  have F1 := Lib.hid (f0.step f1)
  clear f0 f1
  go_wp2_with fail
  refine wp_loop_rounds 1 ?_
  rw [rounds_succ]
  go_wp2
  go_ret
  exact ⟨rfl, F1.out.alloc _⟩

set_option maxRecDepth 100000 in
set_option maxHeartbeats 2000000 in
theorem does_some (room : Nat) (h1 : 1 ≤ room) (h2 : room ≤ 256) (b off len cap : Nat) (K : Nat → Int) (S : Nat → Value) (w : World) (h100 : len ≤ 100)
    (hO : ∀ i, i < len → w.cell? ⟨b, off + i * 2, none⟩ = some (.int .u8 (K i)) ∧ w.cell? ⟨b, off + i * 2 + 1, none⟩ = some (S i) ∧ ∃ ps, RP w (S i) ps) :
    Calls Try.prog 3 #[.int .i64 room, .slice (some ⟨b, off, none⟩) len cap] w fun e w' => e = .returned (.bool true) ∧ Fr nob w w' := by
  have HO := Lib.hid hO
  clear hO
  go_enter Try.func3, Try.ntmps3
  go_wp2_with (go_at_call 6; refine stop ?_)
  refine Stop.go ((awake_any w).mono ?_)
  rintro e w0 ⟨rfl, f0⟩
  go_wp2_with (go_at_call 7; refine stop ?_)
  refine Stop.go ((new_ok room w0 h1 h2).mono ?_)
  rintro e w1 ⟨rfl, q1, f1⟩
  obtain ⟨c, hc⟩ : ∃ c, c = w0.heap.size := ⟨_, rfl⟩
  rw [← hc] at q1
  rw [← hc]
  have hs := f0.size
  have O1 := Lib.hid (⟨q1, by omega, by omega, f0.step f1⟩ : QO w w1 (c + 1) c room [])
  have hq1 : c + 1 < w1.heap.size := obj_lt q1.1
  clear q1 f0 f1 hc hs
  go_wp2_with fail
  have b1 : (w1.alloc (.cells #[.int .i64 room, .slice none 0 0] 30)).heap[w1.heap.size]? = some (.cells #[.int .i64 room, .slice none 0 0] 30 (0, 0)) := obj_new rfl _
  have D0 := Lib.hid (⟨(O1.out.keep ((Fr.refl nob w1).alloc (.cells #[.int .i64 room, .slice none 0 0] 30))).q, ⟨b1, RP.nil _⟩, O1.out.lo, hq1, O1.out.fr.alloc _⟩ : DI w _ c w1.heap.size room [] (.slice none 0 0))
  obtain ⟨q, hq⟩ : ∃ q, q = w1.heap.size := ⟨_, rfl⟩
  rw [← hq] at D0
  rw [← hq]
  clear b1 hq1 hq
  go_loopg [9] len (fun gk i wr => ∃ (k : Nat) (xs : List Pk) (a2 : Option Addr) (n2 cap2 : Nat), k + gk = len ∧ xs.length ≤ room ∧ i = .int .i64 k ∧ DI w wr c q room xs (.slice a2 n2 cap2))
  case atStart => exact ⟨0, [], _, _, _, Nat.zero_add _, by simp, rfl, D0.out⟩
  case round =>
    obtain ⟨k, xs, a2, n2, cap2, hk, hxr, rfl, hD⟩ := hrel
    have hkl : k ≤ len := by omega
    have HK := Lib.hid hk
    have D := Lib.hid hD
    clear hk hD D0 O1
    by_cases hlt : k < len
    · obtain ⟨ck0, cn0, ps, hps⟩ := HO.out k hlt
      obtain ⟨kd, hkd⟩ : ∃ kd, kd = K k := ⟨_, rfl⟩
      obtain ⟨sv, hsv⟩ : ∃ sv, sv = S k := ⟨_, rfl⟩
      rw [← hkd] at ck0
      rw [← hsv] at cn0 hps
      obtain ⟨sa, bs, so, cs, rfl, hps1, hps2, hps3⟩ := hps
      have ck := D.out.fr.cell_some ck0 (fun x => x)
      have cn := D.out.fr.cell_some cn0 (fun x => x)
      have PS := Lib.hid hps3
      clear ck0 cn0 hkd hsv hps1 hps2 hps3
      have hidx0 : (0 : Int) ≤ (k : Int) := Int.natCast_nonneg _
      have hidx1 : (k : Int) < (len : Int) := by omega
      by_cases hl : 300 < ps.length
      · go_wp2
        go_ret
        exact ⟨rfl, D.out.fr⟩
      · go_upto_block 2 with fail
        have r0 : wr.cell? ⟨q, 0, none⟩ = some (.int .i64 room) := obj_cell D.out.r.o 0
        have r1 : wr.cell? ⟨q, 1, none⟩ = some (.slice a2 n2 cap2) := obj_cell D.out.r.o 1
        clear ck cn
        go_cut [11] (fun s11 wx => ∃ (ys : List Pk) (a3 : Option Addr) (n3 cap3 : Nat), ys.length ≤ room ∧ DI w wx c q room ys (.slice a3 n3 cap3))
        case first =>
          by_cases h0 : kd = 0
          · subst h0
            obtain ⟨x, hx⟩ : ∃ x, ps.head?.getD (0, 0) = x := ⟨_, rfl⟩
            obtain ⟨ys, hy⟩ : ∃ ys, pushed room x xs = ys := ⟨_, rfl⟩
            obtain ⟨ok, hok⟩ : ∃ ok, decide ((xs.length : Int) < (room : Int)) = ok := ⟨_, rfl⟩
            have hyl : ys.length ≤ room := by
              rw [← hy]
              unfold pushed
              split
              · simp; omega
              · exact hxr
            have HX := Lib.hid hx
            have HY := Lib.hid hy
            have HOK := Lib.hid hok
            clear hx hy hok
            go_upto_if 91 with fail
            obtain ⟨wa, hwa⟩ : ∃ wa, wa = wr.alloc (.cells #[.int .i64 0, .int .i64 0] 35) := ⟨_, rfl⟩
            obtain ⟨g, hg⟩ : ∃ g, g = wr.heap.size := ⟨_, rfl⟩
            rw [← hwa, ← hg]
            have A := Lib.hid (hwa ▸ (Fr.refl nob wr).alloc _ : Fr nob wr wa)
            have ba : wa.heap[g]? = some (.cells #[.int .i64 0, .int .i64 0] 35 (0, 0)) := hwa ▸ obj_new hg _
            have c0 : wa.cell? ⟨g, 0, none⟩ = some (.int .i64 0) := obj_cell ba 0
            have c1 : wa.cell? ⟨g, 1, none⟩ = some (.int .i64 0) := obj_cell ba 1
            have k0 := obj_free ba 0
            have k1 := obj_free ba 1
            have BA := Lib.hid ba
            have HGW : Hid (wr.heap.size ≤ g) := Nat.le_of_eq hg.symm
            clear hwa hg ba
            go_cut [92] (fun s92 wx => wx.heap[g]? = some (.cells #[.int .i64 x.1, .int .i64 x.2] 35 (0, 0)) ∧ Fr nob wr wx)
            case first =>
              cases ps with
              | nil =>
                go_wp2_with fail
                go_meet
                have e : x = (0, 0) := HX.out.symm
                subst e
                exact ⟨BA.out, A.out⟩
              | cons y rs =>
                have e : y = x := HX.out
                subst e
                obtain rfl := PS.out.1.resolve_left (by simp)
                obtain ⟨d0, d1⟩ := ((PS.out.fr D.out.fr (fun _ x => x)).fr A.out (fun _ x => x)).2 0 y rfl
                rw [Nat.zero_mul, Nat.add_zero] at d0 d1
                have hi1 : (0 : Int) < (rs.length : Int) + 1 := by omega
                have hl0 : 0 < (y :: rs).length := by simp
                go_wp2_with fail
                go_meet
                have h1 := obj_set (obj_set BA.out 0 (.int .i64 y.1)) 1 (.int .i64 y.2)
                have hgw : wr.heap.size ≤ g := HGW.out
                exact ⟨by simpa using h1, (A.out.setNew _ hgw _).setNew _ hgw _⟩
            case rest =>
              obtain ⟨hg, hfx⟩ := hcut
              have e0 : wc.cell? ⟨g, 0, none⟩ = some (.int .i64 x.1) := obj_cell hg 0
              have e1 : wc.cell? ⟨g, 1, none⟩ = some (.int .i64 x.2) := obj_cell hg 1
              have D1 := Lib.hid (D.out.keep hfx)
              have G1 := Lib.hid hg
              have hgc : ¬ g = c := fun e => by
                obtain ⟨_, s, r, h2⟩ := D1.out.s
                rw [e, h2] at hg
                cases hg
              clear hg hfx k0 k1 r0 r1 c0 c1
              go_wp2_with (go_at_call 8; refine stop ?_)
              refine Stop.go ((push_any (c + 1) c room x xs ys HY.out wc D1.out.s).mono ?_)
              rintro e w3 ⟨rfl, q3, f3⟩
              rw [HOK.out]
              have H := Lib.hid (D1.out.half q3 f3)
              have g3 := f3.heap_some G1.out hgc
              have G3 := Lib.hid g3
              have x0 : w3.cell? ⟨g, 0, none⟩ = some (.int .i64 x.1) := obj_cell g3 0
              have x1 : w3.cell? ⟨g, 1, none⟩ = some (.int .i64 x.2) := obj_cell g3 1
              have r0 : w3.cell? ⟨q, 0, none⟩ = some (.int .i64 room) := obj_cell H.out.r.o 0
              have r1 : w3.cell? ⟨q, 1, none⟩ = some (.slice a2 n2 cap2) := obj_cell H.out.r.o 1
              clear q3 f3 g3 e0 e1
              go_upto_region 29 with fail
              have p1 := World.new_ne w3 _ r0
              have p2 := World.new_ne w3 _ r1
              have p3 := World.new_ne w3 _ x0
              have p4 := World.new_ne w3 _ x1
              go_cut [13, 14] (fun s13 s14 wx => ∃ (g2 : Nat) (a4 : Option Addr) (n4 cap4 : Nat), s13 = .pointer (some ⟨g2, 0, none⟩) ∧ s14 = .bool ok ∧ wx.heap[g2]? = some (.cells #[.int .i64 room, .slice a4 n4 cap4] 30 (0, 0)) ∧ RP wx (.slice a4 n4 cap4) ys ∧ Fr nob w3 wx)
              case first =>
                go_region_held3 (fun w' => w'.cell? ⟨q, 0, none⟩ = some (.int .i64 room) ∧ w'.cell? ⟨q, 1, none⟩ = some (.slice a2 n2 cap2) ∧ w'.cell? ⟨g, 0, none⟩ = some (.int .i64 x.1) ∧ w'.cell? ⟨g, 1, none⟩ = some (.int .i64 x.2))
                  (go_keep)
                  (first
                    | (go_at_call 10; refine (one_at x w3.drew).mono ?_; rintro e w4 ⟨rfl, f4⟩; have q1 := f4.cell_some (w := w3.drew) r0 (fun x => x); have q2 := f4.cell_some (w := w3.drew) r1 (fun x => x); have q3 := f4.cell_some (w := w3.drew) x0 (fun x => x); have q4 := f4.cell_some (w := w3.drew) x1 (fun x => x); have m1 := World.new_ne w4 _ q1; have m2 := World.new_ne w4 _ q2; have m3 := World.new_ne w4 _ q3; have m4 := World.new_ne w4 _ q4)
                    | (go_at_call 10; refine (one_at x _).mono ?_; rintro e w4 ⟨rfl, f4⟩; have f5 := ((Fr.refl nob w3).drew.alloc _).trans f4 (U := nob) (fun _ _ x => x) (fun _ _ x => x); have g4 := f4.heap_some (obj_new (w := w3.drew) rfl _) (fun x => x); have g40 : w4.cell? ⟨w3.heap.size, 0, none⟩ = some (.int .i64 0) := obj_cell g4 0; have g41 : w4.cell? ⟨w3.heap.size, 1, none⟩ = some (.slice none 0 0) := obj_cell g4 1; have g42 : w4.frozen? ⟨w3.heap.size, 0, none⟩ = false := obj_free g4 0; have g43 : w4.frozen? ⟨w3.heap.size, 1, none⟩ = false := obj_free g4 1; have q1 := f5.cell_some r0 (fun x => x); have q2 := f5.cell_some r1 (fun x => x); have q3 := f5.cell_some x0 (fun x => x); have q4 := f5.cell_some x1 (fun x => x))
                    | (go_at_call 9; have f6 := (Fr.refl nob w3).drew.trans f4 (U := nob) (fun _ _ x => x) (fun _ _ x => x); refine (rpush_at room x (.slice a2 n2 cap2) xs ys HY.out w4 (H.out.r.r.fr f6) (by omega)).mono ?_; rintro e w6 ⟨v6, rfl, o6, f7⟩; rw [HOK.out]; obtain ⟨a4, n4, cap4, rfl⟩ := o6.slice; have f8 := f6.trans f7 (U := nob) (fun _ _ x => x) (fun _ _ x => x); have s1 := f8.cell_some r0 (fun x => x); have s2 := f8.cell_some r1 (fun x => x); have s3 := f8.cell_some x0 (fun x => x); have s4 := f8.cell_some x1 (fun x => x); have t1 := World.new_ne w6 _ s1; have t2 := World.new_ne w6 _ s2; have t3 := World.new_ne w6 _ s3; have t4 := World.new_ne w6 _ s4)
                    | (go_at_call 9; refine (rpush_at room x (.slice a2 n2 cap2) xs ys HY.out w4 (H.out.r.r.fr f5) (by omega)).mono ?_; rintro e w6 ⟨v6, rfl, o6, f7⟩; rw [HOK.out]; obtain ⟨a4, n4, cap4, rfl⟩ := o6.slice; have f8 := f5.trans f7 (U := nob) (fun _ _ x => x) (fun _ _ x => x); have g6 := f7.heap_some g4 (fun x => x); have g60 : w6.cell? ⟨w3.heap.size, 0, none⟩ = some (.int .i64 0) := obj_cell g6 0; have g61 : w6.cell? ⟨w3.heap.size, 1, none⟩ = some (.slice none 0 0) := obj_cell g6 1; have g62 : w6.frozen? ⟨w3.heap.size, 0, none⟩ = false := obj_free g6 0; have g63 : w6.frozen? ⟨w3.heap.size, 1, none⟩ = false := obj_free g6 1; have s1 := f8.cell_some r0 (fun x => x); have s2 := f8.cell_some r1 (fun x => x); have s3 := f8.cell_some x0 (fun x => x); have s4 := f8.cell_some x1 (fun x => x))
                    | (go_at_call 9; have f6 := ((Fr.refl nob w3).drew.trans f4 (U := nob) (fun _ _ x => x) (fun _ _ x => x)).alloc (.cells #[.int .i64 0, .slice none 0 0] 30); refine (rpush_at room x (.slice a2 n2 cap2) xs ys HY.out (w4.alloc (.cells #[.int .i64 0, .slice none 0 0] 30)) (H.out.r.r.fr f6) (by omega)).mono ?_; rintro e w6 ⟨v6, rfl, o6, f7⟩; rw [HOK.out]; obtain ⟨a4, n4, cap4, rfl⟩ := o6.slice; have f8 := f6.trans f7 (U := nob) (fun _ _ x => x) (fun _ _ x => x); have g6 := f7.heap_some (obj_new (w := w4) rfl _) (fun x => x); have g60 : w6.cell? ⟨w4.heap.size, 0, none⟩ = some (.int .i64 0) := obj_cell g6 0; have g61 : w6.cell? ⟨w4.heap.size, 1, none⟩ = some (.slice none 0 0) := obj_cell g6 1; have g62 : w6.frozen? ⟨w4.heap.size, 0, none⟩ = false := obj_free g6 0; have g63 : w6.frozen? ⟨w4.heap.size, 1, none⟩ = false := obj_free g6 1; have s1 := f8.cell_some r0 (fun x => x); have s2 := f8.cell_some r1 (fun x => x); have s3 := f8.cell_some x0 (fun x => x); have s4 := f8.cell_some x1 (fun x => x)))
                all_goals go_wp2_with fail
                all_goals go_meet
                all_goals first
                  | exact ⟨_, _, _, _, rfl, rfl, obj_new rfl _, o6.fr ((Fr.refl nob w6).alloc _), f8.alloc _⟩
                  | exact ⟨w4.heap.size, a4, n4, cap4, rfl, rfl, by have := obj_set (obj_set g6 0 (.int .i64 room)) 1 (.slice a4 n4 cap4); simpa using this, o6.frv (h := w4.heap.size) (room := 0) ⟨g6, RP.nil _⟩ (((Fr.refl (fun k => k = w4.heap.size) w6).setIn 0 _).setIn 1 _), (f8.setNew _ (by show _ ≤ w4.heap.size; exact f4.size) _).setNew _ (by show _ ≤ w4.heap.size; exact f4.size) _⟩
                  | exact ⟨w3.heap.size, a4, n4, cap4, rfl, rfl, by have := obj_set (obj_set g6 0 (.int .i64 room)) 1 (.slice a4 n4 cap4); simpa using this, o6.frv (h := w3.heap.size) (room := 0) ⟨g6, RP.nil _⟩ (((Fr.refl (fun k => k = w3.heap.size) w6).setIn 0 _).setIn 1 _), (f8.setNew _ (Nat.le_refl _) _).setNew _ (Nat.le_refl _) _⟩
              case rest =>
                obtain ⟨g2, a4, n4, cap4, rfl, rfl, hg2, hRP, hfx⟩ := hcut
                have H2 := Lib.hid (H.out.keep hfx)
                have R2 := Lib.hid hRP
                have t0 : wc.cell? ⟨g2, 0, none⟩ = some (.int .i64 room) := obj_cell hg2 0
                have t1 : wc.cell? ⟨g2, 1, none⟩ = some (.slice a4 n4 cap4) := obj_cell hg2 1
                have s0 : wc.cell? ⟨q, 0, none⟩ = some (.int .i64 room) := obj_cell H2.out.r.o 0
                have s1 : wc.cell? ⟨q, 1, none⟩ = some (.slice a2 n2 cap2) := obj_cell H2.out.r.o 1
                have y0 := obj_free H2.out.r.o 0
                have y1 := obj_free H2.out.r.o 1
                clear hg2 hRP hfx x0 x1 r0 r1 p1 p2 p3 p4
                go_wp2_with fail
                go_meet
                exact ⟨ys, a4, n4, cap4, hyl, H2.out.done R2.out⟩
          · have h0b : (kd == 0) = false := by simpa using h0
            by_cases h1k : kd = 1
            · subst h1k
              obtain ⟨x, hx⟩ : ∃ x, xs.head?.getD (0, 0) = x := ⟨_, rfl⟩
              obtain ⟨is, hi⟩ : ∃ is, (!xs.isEmpty) = is := ⟨_, rfl⟩
              obtain ⟨ys, hy⟩ : ∃ ys, xs.tail = ys := ⟨_, rfl⟩
              have hyl : ys.length ≤ room := by rw [← hy, List.length_tail]; omega
              have HX := Lib.hid hx
              have HI := Lib.hid hi
              have HY := Lib.hid hy
              clear hx hi hy h0 h0b
              go_wp2_with (go_at_call 11; refine stop ?_)
              refine Stop.go ((pop_any (c + 1) c room xs x is ys HX.out HI.out HY.out wr D.out.s).mono ?_)
              rintro e w3 ⟨rfl, q3, f3⟩
              have H := Lib.hid (D.out.half q3 f3)
              have r2 : w3.cell? ⟨q, 0, none⟩ = some (.int .i64 room) := obj_cell H.out.r.o 0
              have r3 : w3.cell? ⟨q, 1, none⟩ = some (.slice a2 n2 cap2) := obj_cell H.out.r.o 1
              have hqz : q < w3.heap.size := obj_lt H.out.r.o
              clear q3 f3 r0 r1
              have e1 := World.new_ne w3 _ r2
              go_wp2_with (go_at_call 12; refine stop ?_)
              obtain ⟨w4, hw4⟩ : ∃ w4, w4 = w3.alloc (.cells #[.int .i64 x.1, .int .i64 x.2] 35) := ⟨_, rfl⟩
              simp only [← hw4]
              have A4 : Fr nob w3 w4 := hw4 ▸ (Fr.refl nob w3).alloc _
              have b4 : w4.heap[w3.heap.size]? = some (.cells #[.int .i64 x.1, .int .i64 x.2] 35 (0, 0)) := hw4 ▸ obj_new rfl _
              have hz4 : w3.heap.size + 1 = w4.heap.size := by rw [hw4]; simp
              have H4 := Lib.hid (H.out.keep A4)
              refine Stop.go ((rpop_as room (.slice a2 n2 cap2) xs x is ys HX.out HI.out HY.out w4 H4.out.r.r (by omega)).mono ?_)
              rintro e w5 ⟨v5, rfl, o5, f5⟩
              obtain ⟨a5, n5, cap5, rfl⟩ := o5.slice
              have H5 := Lib.hid (H4.out.keep f5)
              have B5 := Lib.hid (f5.heap_some b4 (fun x => x))
              have O5 := Lib.hid o5
              have hz5 : w4.heap.size ≤ w5.heap.size := f5.size
              clear hw4 A4 b4 o5 f5 r2 r3 e1
              go_upto_region 36 with fail
              obtain ⟨w6, hw6⟩ : ∃ w6, w6 = (w5.alloc (.cells #[.int .i64 room, .slice a5 n5 cap5] 30)).alloc (.cells #[.int .i64 x.1, .int .i64 x.2] 39) := ⟨_, rfl⟩
              rw [← hw6]
              have A6 : Fr nob w5 w6 := hw6 ▸ ((Fr.refl nob w5).alloc _).alloc _
              have b6 : w6.heap[w5.heap.size]? = some (.cells #[.int .i64 room, .slice a5 n5 cap5] 30 (0, 0)) := hw6 ▸ obj_alloc (obj_new rfl _) _
              have b7 : w6.heap[w5.heap.size + 1]? = some (.cells #[.int .i64 x.1, .int .i64 x.2] 39 (0, 0)) := hw6 ▸ obj_new (by simp) _
              have H6 := Lib.hid (H5.out.keep A6)
              have B6 := Lib.hid (A6.heap_some B5.out (fun x => x))
              have B7 := Lib.hid b7
              have O6 := Lib.hid (O5.out.fr A6)
              have c60 : w6.cell? ⟨w5.heap.size, 0, none⟩ = some (.int .i64 room) := obj_cell b6 0
              have c61 : w6.cell? ⟨w5.heap.size, 1, none⟩ = some (.slice a5 n5 cap5) := obj_cell b6 1
              have c62 : w6.cell? ⟨q, 0, none⟩ = some (.int .i64 room) := obj_cell H6.out.r.o 0
              have c63 : w6.cell? ⟨q, 1, none⟩ = some (.slice a2 n2 cap2) := obj_cell H6.out.r.o 1
              have c64 := obj_free H6.out.r.o 0
              have c65 := obj_free H6.out.r.o 1
              clear hw6 A6 b6 b7
              go_upto_region 37 with fail
              obtain ⟨w7, hw7⟩ : ∃ w7, w7 = (w6.setCell ⟨q, 0, none⟩ (.int .i64 room)).setCell ⟨q, 1, none⟩ (.slice a5 n5 cap5) := ⟨_, rfl⟩
              rw [← hw7]
              have D7 : Hid (DI w w7 c q room ys (.slice a5 n5 cap5)) := by rw [hw7]; exact H6.out.done O6.out
              have b7 : w7.heap[w3.heap.size]? = some (.cells #[.int .i64 x.1, .int .i64 x.2] 35 (0, 0)) := by rw [hw7]; exact obj_setNe (obj_setNe B6.out _ (by show ¬ w3.heap.size = q; omega) _) _ (by show ¬ w3.heap.size = q; omega) _
              have b8 : w7.heap[w5.heap.size + 1]? = some (.cells #[.int .i64 x.1, .int .i64 x.2] 39 (0, 0)) := by rw [hw7]; exact obj_setNe (obj_setNe B7.out _ (by show ¬ w5.heap.size + 1 = q; omega) _) _ (by show ¬ w5.heap.size + 1 = q; omega) _
              have x0 : w7.cell? ⟨w3.heap.size, 0, none⟩ = some (.int .i64 x.1) := obj_cell b7 0
              have x1 : w7.cell? ⟨w3.heap.size, 1, none⟩ = some (.int .i64 x.2) := obj_cell b7 1
              have x2 : w7.cell? ⟨w5.heap.size + 1, 0, none⟩ = some (.int .i64 x.1) := obj_cell b8 0
              have x3 : w7.cell? ⟨w5.heap.size + 1, 1, none⟩ = some (.int .i64 x.2) := obj_cell b8 1
              clear hw7 b7 b8 c60 c61 c62 c63 c64 c65
              go_region_held3 (fun w' => w'.cell? ⟨w3.heap.size, 0, none⟩ = some (.int .i64 x.1) ∧ w'.cell? ⟨w3.heap.size, 1, none⟩ = some (.int .i64 x.2) ∧ w'.cell? ⟨w5.heap.size + 1, 0, none⟩ = some (.int .i64 x.1) ∧ w'.cell? ⟨w5.heap.size + 1, 1, none⟩ = some (.int .i64 x.2))
                (go_keep)
                ((go_at_call 10; refine (one_at x w7.drew).mono ?_; rintro e w8 ⟨rfl, f8⟩; have q1 := f8.cell_some (w := w7.drew) x0 (fun x => x); have q2 := f8.cell_some (w := w7.drew) x1 (fun x => x); have q3 := f8.cell_some (w := w7.drew) x2 (fun x => x); have q4 := f8.cell_some (w := w7.drew) x3 (fun x => x)))
              have D8 := Lib.hid (D7.out.keep ((Fr.refl nob w7).drew.trans f8 (U := nob) (fun _ _ x => x) (fun _ _ x => x)))
              go_wp2_with fail
              go_meet
              exact ⟨ys, a5, n5, cap5, hyl, D8.out⟩
            · have h1b : (kd == 1) = false := by simpa using h1k
              clear h0 h1k
              go_wp2_with (go_at_call 13; refine stop ?_)
              refine Stop.go ((fill_any (c + 1) c room cs sa bs so xs ps wr D.out.s (PS.out.fr D.out.fr (fun _ x => x)) (by omega) hxr).mono ?_)
              rintro e w3 ⟨rfl, q3, f3⟩
              obtain ⟨m, hm⟩ : ∃ m, m = fits room xs.length ps.length := ⟨_, rfl⟩
              rw [← hm] at q3
              rw [← hm]
              have H := Lib.hid (D.out.half q3 f3)
              have PS3 := Lib.hid (PS.out.fr H.out.fr (fun _ x => x))
              obtain ⟨ys, hy⟩ : ∃ ys, ys = xs ++ ps.take m := ⟨_, rfl⟩
              have hyl : ys.length ≤ room := by rw [hy]; simp; unfold fits at hm; omega
              rw [← hy] at H
              have HM := Lib.hid hm
              have HY := Lib.hid hy
              have r2 : w3.cell? ⟨q, 0, none⟩ = some (.int .i64 room) := obj_cell H.out.r.o 0
              have r3 : w3.cell? ⟨q, 1, none⟩ = some (.slice a2 n2 cap2) := obj_cell H.out.r.o 1
              clear q3 f3 hm hy r0 r1
              go_upto_region 20 with fail
              have p1 := World.new_ne w3 _ r2
              have p2 := World.new_ne w3 _ r3
              go_cut [21, 22] (fun s21 s22 wx => ∃ (g2 : Nat) (a4 : Option Addr) (n4 cap4 : Nat), s21 = .pointer (some ⟨g2, 0, none⟩) ∧ s22 = .int .i64 m ∧ wx.heap[g2]? = some (.cells #[.int .i64 room, .slice a4 n4 cap4] 30 (0, 0)) ∧ RP wx (.slice a4 n4 cap4) ys ∧ Fr nob w3 wx)
              case first =>
                go_region_held3 (fun w' => w'.cell? ⟨q, 0, none⟩ = some (.int .i64 room) ∧ w'.cell? ⟨q, 1, none⟩ = some (.slice a2 n2 cap2))
                  (go_keep)
                  (first
                    | (go_at_call 15; refine (plain_any sa bs so cs ps w3.drew PS3.out (by omega)).mono ?_; rintro e w4 ⟨vp, rfl, op, f4⟩; obtain ⟨pa, pb, po, pc, rfl, _, _, hpp⟩ := op; have q1 := f4.cell_some (w := w3.drew) r2 (fun x => x); have q2 := f4.cell_some (w := w3.drew) r3 (fun x => x); have m1 := World.new_ne w4 _ q1; have m2 := World.new_ne w4 _ q2)
                    | (go_at_call 15; refine (plain_any sa bs so cs ps _ (PS3.out.fr ((Fr.refl nob w3).drew.alloc (.cells #[.int .i64 0, .slice none 0 0] 30)) (fun _ x => x)) (by omega)).mono ?_; rintro e w4 ⟨vp, rfl, op, f4⟩; obtain ⟨pa, pb, po, pc, rfl, _, _, hpp⟩ := op; have f5 := ((Fr.refl nob w3).drew.alloc _).trans f4 (U := nob) (fun _ _ x => x) (fun _ _ x => x); have g4 := f4.heap_some (obj_new (w := w3.drew) rfl _) (fun x => x); have g40 : w4.cell? ⟨w3.heap.size, 0, none⟩ = some (.int .i64 0) := obj_cell g4 0; have g41 : w4.cell? ⟨w3.heap.size, 1, none⟩ = some (.slice none 0 0) := obj_cell g4 1; have g42 : w4.frozen? ⟨w3.heap.size, 0, none⟩ = false := obj_free g4 0; have g43 : w4.frozen? ⟨w3.heap.size, 1, none⟩ = false := obj_free g4 1; have q1 := f5.cell_some r2 (fun x => x); have q2 := f5.cell_some r3 (fun x => x))
                    | (go_at_call 14; have f6 := (Fr.refl nob w3).drew.trans f4 (U := nob) (fun _ _ x => x) (fun _ _ x => x); refine (rfill_any room (.slice a2 n2 cap2) xs pa pb po pc ps w4 (H.out.r.r.fr f6) hpp (by omega) (by omega) hxr).mono ?_; rw [← HM.out, ← HY.out]; rintro e w6 ⟨v6, rfl, o6, f7⟩; obtain ⟨a4, n4, cap4, rfl⟩ := o6.slice; have f8 := f6.trans f7 (U := nob) (fun _ _ x => x) (fun _ _ x => x); have s1 := f8.cell_some r2 (fun x => x); have s2 := f8.cell_some r3 (fun x => x); have t1 := World.new_ne w6 _ s1; have t2 := World.new_ne w6 _ s2)
                    | (go_at_call 14; refine (rfill_any room (.slice a2 n2 cap2) xs pa pb po pc ps w4 (H.out.r.r.fr f5) hpp (by omega) (by omega) hxr).mono ?_; rw [← HM.out, ← HY.out]; rintro e w6 ⟨v6, rfl, o6, f7⟩; obtain ⟨a4, n4, cap4, rfl⟩ := o6.slice; have f8 := f5.trans f7 (U := nob) (fun _ _ x => x) (fun _ _ x => x); have g6 := f7.heap_some g4 (fun x => x); have g60 : w6.cell? ⟨w3.heap.size, 0, none⟩ = some (.int .i64 0) := obj_cell g6 0; have g61 : w6.cell? ⟨w3.heap.size, 1, none⟩ = some (.slice none 0 0) := obj_cell g6 1; have g62 : w6.frozen? ⟨w3.heap.size, 0, none⟩ = false := obj_free g6 0; have g63 : w6.frozen? ⟨w3.heap.size, 1, none⟩ = false := obj_free g6 1; have s1 := f8.cell_some r2 (fun x => x); have s2 := f8.cell_some r3 (fun x => x))
                    | (go_at_call 14; have f6 := ((Fr.refl nob w3).drew.trans f4 (U := nob) (fun _ _ x => x) (fun _ _ x => x)).alloc (.cells #[.int .i64 0, .slice none 0 0] 30); refine (rfill_any room (.slice a2 n2 cap2) xs pa pb po pc ps (w4.alloc (.cells #[.int .i64 0, .slice none 0 0] 30)) (H.out.r.r.fr f6) (hpp.fr ((Fr.refl nob w4).alloc _) (fun _ x => x)) (by omega) (by omega) hxr).mono ?_; rw [← HM.out, ← HY.out]; rintro e w6 ⟨v6, rfl, o6, f7⟩; obtain ⟨a4, n4, cap4, rfl⟩ := o6.slice; have f8 := f6.trans f7 (U := nob) (fun _ _ x => x) (fun _ _ x => x); have g6 := f7.heap_some (obj_new (w := w4) rfl _) (fun x => x); have g60 : w6.cell? ⟨w4.heap.size, 0, none⟩ = some (.int .i64 0) := obj_cell g6 0; have g61 : w6.cell? ⟨w4.heap.size, 1, none⟩ = some (.slice none 0 0) := obj_cell g6 1; have g62 : w6.frozen? ⟨w4.heap.size, 0, none⟩ = false := obj_free g6 0; have g63 : w6.frozen? ⟨w4.heap.size, 1, none⟩ = false := obj_free g6 1; have s1 := f8.cell_some r2 (fun x => x); have s2 := f8.cell_some r3 (fun x => x)))
                all_goals go_wp2_with fail
                all_goals go_meet
                all_goals first
                  | exact ⟨_, _, _, _, rfl, rfl, obj_new rfl _, o6.fr ((Fr.refl nob w6).alloc _), f8.alloc _⟩
                  | exact ⟨w4.heap.size, a4, n4, cap4, rfl, rfl, by have := obj_set (obj_set g6 0 (.int .i64 room)) 1 (.slice a4 n4 cap4); simpa using this, o6.frv (h := w4.heap.size) (room := 0) ⟨g6, RP.nil _⟩ (((Fr.refl (fun k => k = w4.heap.size) w6).setIn 0 _).setIn 1 _), (f8.setNew _ (by show _ ≤ w4.heap.size; exact f4.size) _).setNew _ (by show _ ≤ w4.heap.size; exact f4.size) _⟩
                  | exact ⟨w3.heap.size, a4, n4, cap4, rfl, rfl, by have := obj_set (obj_set g6 0 (.int .i64 room)) 1 (.slice a4 n4 cap4); simpa using this, o6.frv (h := w3.heap.size) (room := 0) ⟨g6, RP.nil _⟩ (((Fr.refl (fun k => k = w3.heap.size) w6).setIn 0 _).setIn 1 _), (f8.setNew _ (Nat.le_refl _) _).setNew _ (Nat.le_refl _) _⟩
              case rest =>
                obtain ⟨g2, a4, n4, cap4, rfl, rfl, hg2, hRP, hfx⟩ := hcut
                have H2 := Lib.hid (H.out.keep hfx)
                have R2 := Lib.hid hRP
                have t0 : wc.cell? ⟨g2, 0, none⟩ = some (.int .i64 room) := obj_cell hg2 0
                have t1 : wc.cell? ⟨g2, 1, none⟩ = some (.slice a4 n4 cap4) := obj_cell hg2 1
                have s0 : wc.cell? ⟨q, 0, none⟩ = some (.int .i64 room) := obj_cell H2.out.r.o 0
                have s1 : wc.cell? ⟨q, 1, none⟩ = some (.slice a2 n2 cap2) := obj_cell H2.out.r.o 1
                have y0 := obj_free H2.out.r.o 0
                have y1 := obj_free H2.out.r.o 1
                clear hg2 hRP hfx r2 r3 p1 p2
                go_wp2_with fail
                go_meet
                exact ⟨ys, a4, n4, cap4, hyl, H2.out.done R2.out⟩
        case rest =>
          obtain ⟨ys, a3, n3, cap3, hyl, hD⟩ := hcut
          obtain ⟨_, _, _, _, hv, -⟩ := hD.r.r
          cases hv
          have T := Lib.hid hD
          have z1 : wc.cell? ⟨q, 1, none⟩ = some (.slice a3 ys.length cap3) := obj_cell hD.r.o 1
          clear hD r0 r1
          go_wp2_with fail
          go_quiet ((go_at_call 16; exact len_quiet T.out.s _))
          have Z := Lib.hid (T.out.keep (w1 := wc.drewN nq) ((Fr.refl nob wc).drewN nq))
          clear z1
          go_wp2
          go_roundg (gk - 1)
          case measure => have := HK.out; omega
          case rel => exact ⟨k + 1, ys, _, _, _, by have := HK.out; omega, hyl, by go_num, Z.out⟩
    · go_wp2
      go_ret
      exact ⟨rfl, D.out.fr⟩

end Go.Proofs.Ytdmlojohdajjiaa
