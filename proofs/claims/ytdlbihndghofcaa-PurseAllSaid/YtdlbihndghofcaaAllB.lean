/- PurseAll: the walk. -/
import Derived.Test.YtdlbihndghofcaaAllA
import Derived.Test.YtdlbihndghofcaaOpen
namespace Go.Proofs.Ytdlbihndghofcaa
open Go.RowKit
set_option linter.unusedVariables false

set_option maxRecDepth 100000 in
theorem pall_many (p : Pu) (a : Option Addr) (len cap : Nat) (h : 200 < len) (w : World) : Calls Try.prog 6 #[p.v, .slice a len cap] w fun e w' => e = .returned (.bool true) ∧ Fr nob w w' := by
  unfold Pu.v
  go_enter Try.func6, Try.ntmps6
  go_wp2_with (go_at_call 7; refine stop ?_)
  refine Stop.go ((awake_any _).mono ?_)
  rintro e w1 ⟨rfl, f⟩
  have F1 := Lib.hid (((Fr.refl nob w).alloc _).trans f (U := nob) (fun _ _ x => x) (fun _ _ x => x))
  clear f
  go_wp2
  go_ret
  exact ⟨rfl, F1.out⟩

set_option maxRecDepth 100000 in
theorem pall_bad (p : Pu) (hp : ¬ p.ok) (a : Option Addr) (len cap : Nat) (hl : len ≤ 200) (w : World) : Calls Try.prog 6 #[p.v, .slice a len cap] w fun e w' => e = .returned (.bool true) ∧ Fr nob w w' := by
  have Hri := Lib.hid (fun w => right_any p w)
  rw [decide_eq_false hp] at Hri
  have hd : decide ((200 : Int) < (len : Int)) = false := decide_eq_false (by omega)
  clear hp
  unfold Pu.v at *
  go_enter Try.func6, Try.ntmps6
  go_wp2_with (go_at_call 7; refine stop ?_)
  refine Stop.go ((awake_any _).mono ?_)
  rintro e w1 ⟨rfl, f⟩
  have A1 : Hid (w1.heap[w.heap.size]? = some (.cells #[.int .i64 p.l, .int .i64 p.e.a, .int .i64 p.e.b, .int .i64 p.e.c, .int .i64 p.e.d, .int .i64 p.s.a, .int .i64 p.s.b, .int .i64 p.s.c, .int .i64 p.s.d] 24 (0, 0))) := Lib.hid (f.heap_some (obj_new rfl _) (fun x => x))
  have F1 := Lib.hid (((Fr.refl nob w).alloc _).trans f (U := nob) (fun _ _ x => x) (fun _ _ x => x))
  clear f
  have k0 : w1.cell? ⟨w.heap.size, 0, none⟩ = some (.int .i64 p.l) := obj_cell A1.out 0
  have k1 : w1.cell? ⟨w.heap.size, 1, none⟩ = some (.int .i64 p.e.a) := obj_cell A1.out 1
  have k2 : w1.cell? ⟨w.heap.size, 2, none⟩ = some (.int .i64 p.e.b) := obj_cell A1.out 2
  have k3 : w1.cell? ⟨w.heap.size, 3, none⟩ = some (.int .i64 p.e.c) := obj_cell A1.out 3
  have k4 : w1.cell? ⟨w.heap.size, 4, none⟩ = some (.int .i64 p.e.d) := obj_cell A1.out 4
  have k5 : w1.cell? ⟨w.heap.size, 5, none⟩ = some (.int .i64 p.s.a) := obj_cell A1.out 5
  have k6 : w1.cell? ⟨w.heap.size, 6, none⟩ = some (.int .i64 p.s.b) := obj_cell A1.out 6
  have k7 : w1.cell? ⟨w.heap.size, 7, none⟩ = some (.int .i64 p.s.c) := obj_cell A1.out 7
  have k8 : w1.cell? ⟨w.heap.size, 8, none⟩ = some (.int .i64 p.s.d) := obj_cell A1.out 8
  go_wp2_with (go_at_call 13; refine stop ?_)
  clear k0 k1 k2 k3 k4 k5 k6 k7 k8
  refine Stop.go ((Hri.out w1).mono ?_)
  rintro e w2 ⟨rfl, f⟩
  have F2 := Lib.hid (F1.out.step f)
  clear f
  go_wp2
  go_ret
  exact ⟨rfl, F2.out⟩

set_option maxRecDepth 100000 in
set_option maxHeartbeats 4000000 in
theorem pall_some (p : Pu) (hp : p.ok) (a : Option Addr) (b off len cap : Nat) (X : Nat → Int) (hl : len ≤ 200) (w : World) (ha : len = 0 ∨ a = some ⟨b, off, none⟩)
    (hX : ∀ j, j < len → w.cell? ⟨b, off + j, none⟩ = some (.int .u16 (X j)) ∧ 0 ≤ X j ∧ X j ≤ 65535) : Calls Try.prog 6 #[p.v, .slice a len cap] w fun e w' => e = .returned (.bool true) ∧ Fr nob w w' := by
  have Hri := Lib.hid (fun w => right_any p w)
  rw [decide_eq_true hp] at Hri
  have hd : decide ((200 : Int) < (len : Int)) = false := decide_eq_false (by omega)
  have HX := Lib.hid hX
  have HA := Lib.hid ha
  have HP := Lib.hid hp
  clear hp hX ha
  unfold Pu.v at Hri ⊢
  go_enter Try.func6, Try.ntmps6
  go_wp2_with (go_at_call 7; refine stop ?_)
  refine Stop.go ((awake_any _).mono ?_)
  rintro e w1 ⟨rfl, f⟩
  have A1 : Hid (w1.heap[w.heap.size]? = some (.cells #[.int .i64 p.l, .int .i64 p.e.a, .int .i64 p.e.b, .int .i64 p.e.c, .int .i64 p.e.d, .int .i64 p.s.a, .int .i64 p.s.b, .int .i64 p.s.c, .int .i64 p.s.d] 24 (0, 0))) := Lib.hid (f.heap_some (obj_new rfl _) (fun x => x))
  obtain ⟨h, hh⟩ : ∃ h, h = w.heap.size := ⟨_, rfl⟩
  rw [← hh] at A1
  rw [← hh]
  have F1 := Lib.hid (((Fr.refl nob w).alloc _).trans f (U := nob) (fun _ _ x => x) (fun _ _ x => x))
  have HH : Hid (w.heap.size ≤ h) := Nat.le_of_eq hh.symm
  clear f hh
  have k0 : w1.cell? ⟨h, 0, none⟩ = some (.int .i64 p.l) := obj_cell A1.out 0
  have k1 : w1.cell? ⟨h, 1, none⟩ = some (.int .i64 p.e.a) := obj_cell A1.out 1
  have k2 : w1.cell? ⟨h, 2, none⟩ = some (.int .i64 p.e.b) := obj_cell A1.out 2
  have k3 : w1.cell? ⟨h, 3, none⟩ = some (.int .i64 p.e.c) := obj_cell A1.out 3
  have k4 : w1.cell? ⟨h, 4, none⟩ = some (.int .i64 p.e.d) := obj_cell A1.out 4
  have k5 : w1.cell? ⟨h, 5, none⟩ = some (.int .i64 p.s.a) := obj_cell A1.out 5
  have k6 : w1.cell? ⟨h, 6, none⟩ = some (.int .i64 p.s.b) := obj_cell A1.out 6
  have k7 : w1.cell? ⟨h, 7, none⟩ = some (.int .i64 p.s.c) := obj_cell A1.out 7
  have k8 : w1.cell? ⟨h, 8, none⟩ = some (.int .i64 p.s.d) := obj_cell A1.out 8
  go_wp2_with (go_at_call 13; refine stop ?_)
  clear k0 k1 k2 k3 k4 k5 k6 k7 k8
  refine Stop.go ((Hri.out w1).mono ?_)
  rintro e w2 ⟨rfl, f⟩
  have F2 := Lib.hid (F1.out.step f)
  have A2 := Lib.hid (f.heap_some A1.out (fun x => x))
  have hhz : h < w2.heap.size := obj_lt A2.out
  have hwz : w.heap.size ≤ w2.heap.size := F2.out.size
  clear f Hri hd
  have k0 : w2.cell? ⟨h, 0, none⟩ = some (.int .i64 p.l) := obj_cell A2.out 0
  have k1 : w2.cell? ⟨h, 1, none⟩ = some (.int .i64 p.e.a) := obj_cell A2.out 1
  have k2 : w2.cell? ⟨h, 2, none⟩ = some (.int .i64 p.e.b) := obj_cell A2.out 2
  have k3 : w2.cell? ⟨h, 3, none⟩ = some (.int .i64 p.e.c) := obj_cell A2.out 3
  have k4 : w2.cell? ⟨h, 4, none⟩ = some (.int .i64 p.e.d) := obj_cell A2.out 4
  have k5 : w2.cell? ⟨h, 5, none⟩ = some (.int .i64 p.s.a) := obj_cell A2.out 5
  have k6 : w2.cell? ⟨h, 6, none⟩ = some (.int .i64 p.s.b) := obj_cell A2.out 6
  have k7 : w2.cell? ⟨h, 7, none⟩ = some (.int .i64 p.s.c) := obj_cell A2.out 7
  have k8 : w2.cell? ⟨h, 8, none⟩ = some (.int .i64 p.s.d) := obj_cell A2.out 8
  go_wp2_with fail
  clear k0 k1 k2 k3 k4 k5 k6 k7 k8
  obtain ⟨w3, hw⟩ : ∃ w3, w3 = w2.alloc (.cells #[.int .i64 p.l, .int .i64 p.e.a, .int .i64 p.e.b, .int .i64 p.e.c, .int .i64 p.e.d, .int .i64 p.s.a, .int .i64 p.s.b, .int .i64 p.s.c, .int .i64 p.s.d] 24) := ⟨_, rfl⟩
  simp only [← hw]
  obtain ⟨g, hg⟩ : ∃ g, g = w2.heap.size := ⟨_, rfl⟩
  rw [← hg]
  have B3 : Hid (w3.heap[g]? = some (.cells #[.int .i64 p.l, .int .i64 p.e.a, .int .i64 p.e.b, .int .i64 p.e.c, .int .i64 p.e.d, .int .i64 p.s.a, .int .i64 p.s.b, .int .i64 p.s.c, .int .i64 p.s.d] 24 (0, 0))) := hw ▸ obj_new hg _
  have F3 := Lib.hid (hw ▸ F2.out.alloc _ : Fr nob w w3)
  have A3 : Hid (w3.heap[h]? = some (.cells #[.int .i64 p.l, .int .i64 p.e.a, .int .i64 p.e.b, .int .i64 p.e.c, .int .i64 p.e.d, .int .i64 p.s.a, .int .i64 p.s.b, .int .i64 p.s.c, .int .i64 p.s.d] 24 (0, 0))) := hw ▸ obj_alloc A2.out _
  have hgh : h < g ∧ w.heap.size ≤ g := ⟨by omega, by omega⟩
  clear hw hg hhz hwz
  go_loopg [7] len (fun gk i wr => ∃ (k : Nat) (q : Pu), k + gk = len ∧ i = .int .i64 k ∧ q.ok ∧ q.l ≤ p.l ∧ wr.heap[h]? = some (.cells #[.int .i64 p.l, .int .i64 p.e.a, .int .i64 p.e.b, .int .i64 p.e.c, .int .i64 p.e.d, .int .i64 p.s.a, .int .i64 p.s.b, .int .i64 p.s.c, .int .i64 p.s.d] 24 (0, 0)) ∧ wr.heap[g]? = some (.cells #[.int .i64 q.l, .int .i64 q.e.a, .int .i64 q.e.b, .int .i64 q.e.c, .int .i64 q.e.d, .int .i64 q.s.a, .int .i64 q.s.b, .int .i64 q.s.c, .int .i64 q.s.d] 24 (0, 0)) ∧ Fr nob w wr)
  case atStart => exact ⟨0, p, Nat.zero_add _, rfl, HP.out, Int.le_refl _, A3.out, B3.out, F3.out⟩
  case round =>
    obtain ⟨k, q, hk, rfl, hq, hql, hAr, hBr, hFr⟩ := hrel
    have HK := Lib.hid hk
    have HQ := Lib.hid hq
    have HQL := Lib.hid hql
    have A := Lib.hid hAr
    have B := Lib.hid hBr
    have F := Lib.hid hFr
    have hkl : k ≤ len := by omega
    clear hk hq hql hAr hBr hFr A1 A2 A3 B3 F1 F2 F3
    by_cases hlt : k < len
    · obtain rfl := HA.out.resolve_left (by omega)
      obtain ⟨cx0, x0, x1⟩ := HX.out k hlt
      have cx := F.out.cell_some cx0 (fun x => x)
      have hidx0 : (0 : Int) ≤ (k : Int) := Int.natCast_nonneg _
      have hidx1 : (k : Int) < (len : Int) := by omega
      clear cx0
      go_upto_region 11 with fail
      obtain ⟨who, hwho⟩ : ∃ who, who = (k : Int) % 4 := ⟨_, rfl⟩
      rw [← hwho]
      have hst : strat who := by unfold strat; omega
      obtain ⟨y, hy⟩ : ∃ y, y = X k := ⟨_, rfl⟩
      rw [← hy] at x0 x1 cx
      obtain ⟨hsp, hok, hn0, hnl, hd1, hd2, hd3⟩ := all_step q who y HQ.out hst x0
      have hnq := HQ.out.1.2
      have hAll : 0 ≤ all q ∧ all q ≤ 2147483647 := by
        obtain ⟨⟨h0, _⟩, ⟨h1, _⟩, ⟨h2, _⟩, h3, _⟩ := HQ.out.2.2
        unfold all; rw [if_pos HQ.out]; omega
      have Hma := Lib.hid (fun w => may_any q who y w)
      have Hal := Lib.hid (fun w => all_any q w)
      have Hsp := Lib.hid (fun w => spend_any q who (may q who y) w)
      rw [hsp] at Hsp
      have Hal2 := Lib.hid (fun w => all_any (spent q who (may q who y)) w)
      obtain ⟨n, hn⟩ : ∃ n, n = may q who y := ⟨_, rfl⟩
      have hrl : (spent q who (may q who y)).l ≤ q.l := by show q.l - may q who y ≤ q.l; omega
      obtain ⟨r, hr⟩ : ∃ r, r = spent q who (may q who y) := ⟨_, rfl⟩
      rw [← hr] at Hsp Hal2 hok hd1 hd2 hd3 hrl
      rw [← hn] at Hsp Hma hn0 hnl hd2 hd3
      obtain ⟨was, hwas⟩ : ∃ was, was = all q := ⟨_, rfl⟩
      obtain ⟨now, hnow⟩ : ∃ now, now = all r := ⟨_, rfl⟩
      rw [← hwas] at Hal hd1 hd2 hd3 hAll
      rw [← hnow] at Hal2 hd1 hd2 hd3
      have D3 := Lib.hid hd3
      have HOK := Lib.hid hok
      have HRL := Lib.hid hrl
      clear hwho hst hy hsp hn hr hwas hnow hd3 hok hrl
      unfold Pu.v at Hma Hal Hsp Hal2
      have hwr : IntKind.i64.wrap y = y := IntWalk.i64_in _ (by omega)
      have gx : ∀ x : Grown wr, x.w.cell? ⟨b, off + k, none⟩ = some (.int .u16 y) := Grown.cell cx
      have m0 : ∀ x : Grown wr, x.w.cell? ⟨g, 0, none⟩ = some (.int .i64 q.l) := Grown.cell (obj_cell B.out 0)
      have m1 : ∀ x : Grown wr, x.w.cell? ⟨g, 1, none⟩ = some (.int .i64 q.e.a) := Grown.cell (obj_cell B.out 1)
      have m2 : ∀ x : Grown wr, x.w.cell? ⟨g, 2, none⟩ = some (.int .i64 q.e.b) := Grown.cell (obj_cell B.out 2)
      have m3 : ∀ x : Grown wr, x.w.cell? ⟨g, 3, none⟩ = some (.int .i64 q.e.c) := Grown.cell (obj_cell B.out 3)
      have m4 : ∀ x : Grown wr, x.w.cell? ⟨g, 4, none⟩ = some (.int .i64 q.e.d) := Grown.cell (obj_cell B.out 4)
      have m5 : ∀ x : Grown wr, x.w.cell? ⟨g, 5, none⟩ = some (.int .i64 q.s.a) := Grown.cell (obj_cell B.out 5)
      have m6 : ∀ x : Grown wr, x.w.cell? ⟨g, 6, none⟩ = some (.int .i64 q.s.b) := Grown.cell (obj_cell B.out 6)
      have m7 : ∀ x : Grown wr, x.w.cell? ⟨g, 7, none⟩ = some (.int .i64 q.s.c) := Grown.cell (obj_cell B.out 7)
      have m8 : ∀ x : Grown wr, x.w.cell? ⟨g, 8, none⟩ = some (.int .i64 q.s.d) := Grown.cell (obj_cell B.out 8)
      refine region_grown (by kernel_rfl) (by kernel_rfl) ?_
      repeat (go_big_quiet_step ((go_at_call 14; exact Grown.call _ (Hma.out _))))
      refine wpQuiet_nil ?_
      intro w5 hw5
      have f := grown_get hw5
      have F5 := Lib.hid (F.out.step f)
      have A5 := Lib.hid (f.heap_some A.out (fun x => x))
      have B5 := Lib.hid (f.heap_some B.out (fun x => x))
      clear hw5 f hwr gx cx Hma m0 m1 m2 m3 m4 m5 m6 m7 m8
      have m0 : w5.cell? ⟨g, 0, none⟩ = some (.int .i64 q.l) := obj_cell B5.out 0
      have m1 : w5.cell? ⟨g, 1, none⟩ = some (.int .i64 q.e.a) := obj_cell B5.out 1
      have m2 : w5.cell? ⟨g, 2, none⟩ = some (.int .i64 q.e.b) := obj_cell B5.out 2
      have m3 : w5.cell? ⟨g, 3, none⟩ = some (.int .i64 q.e.c) := obj_cell B5.out 3
      have m4 : w5.cell? ⟨g, 4, none⟩ = some (.int .i64 q.e.d) := obj_cell B5.out 4
      have m5 : w5.cell? ⟨g, 5, none⟩ = some (.int .i64 q.s.a) := obj_cell B5.out 5
      have m6 : w5.cell? ⟨g, 6, none⟩ = some (.int .i64 q.s.b) := obj_cell B5.out 6
      have m7 : w5.cell? ⟨g, 7, none⟩ = some (.int .i64 q.s.c) := obj_cell B5.out 7
      have m8 : w5.cell? ⟨g, 8, none⟩ = some (.int .i64 q.s.d) := obj_cell B5.out 8
      go_wp2_with (go_at_call 16; refine stop ?_)
      clear m0 m1 m2 m3 m4 m5 m6 m7 m8
      refine Stop.go ((Hal.out w5).mono ?_)
      rintro e w6 ⟨rfl, f⟩
      have F6 := Lib.hid (F5.out.step f)
      have A6 := Lib.hid (f.heap_some A5.out (fun x => x))
      have B6 := Lib.hid (f.heap_some B5.out (fun x => x))
      clear f Hal
      have m0 : w6.cell? ⟨g, 0, none⟩ = some (.int .i64 q.l) := obj_cell B6.out 0
      have m1 : w6.cell? ⟨g, 1, none⟩ = some (.int .i64 q.e.a) := obj_cell B6.out 1
      have m2 : w6.cell? ⟨g, 2, none⟩ = some (.int .i64 q.e.b) := obj_cell B6.out 2
      have m3 : w6.cell? ⟨g, 3, none⟩ = some (.int .i64 q.e.c) := obj_cell B6.out 3
      have m4 : w6.cell? ⟨g, 4, none⟩ = some (.int .i64 q.e.d) := obj_cell B6.out 4
      have m5 : w6.cell? ⟨g, 5, none⟩ = some (.int .i64 q.s.a) := obj_cell B6.out 5
      have m6 : w6.cell? ⟨g, 6, none⟩ = some (.int .i64 q.s.b) := obj_cell B6.out 6
      have m7 : w6.cell? ⟨g, 7, none⟩ = some (.int .i64 q.s.c) := obj_cell B6.out 7
      have m8 : w6.cell? ⟨g, 8, none⟩ = some (.int .i64 q.s.d) := obj_cell B6.out 8
      go_wp2_with (go_at_call 9; refine stop ?_)
      clear m0 m1 m2 m3 m4 m5 m6 m7 m8
      refine Stop.go ((Hsp.out w6).mono ?_)
      rintro e w7 ⟨rfl, f⟩
      have F7 := Lib.hid (F6.out.step f)
      have A7 := Lib.hid (f.heap_some A6.out (fun x => x))
      have B7 := Lib.hid (f.heap_some B6.out (fun x => x))
      clear f Hsp
      go_wp2_with (go_at_call 16; refine stop ?_)
      obtain ⟨w8, hw⟩ : ∃ w8, w8 = w7.alloc (.cells #[.int .i64 r.l, .int .i64 r.e.a, .int .i64 r.e.b, .int .i64 r.e.c, .int .i64 r.e.d, .int .i64 r.s.a, .int .i64 r.s.b, .int .i64 r.s.c, .int .i64 r.s.d] 24) := ⟨_, rfl⟩
      simp only [← hw]
      obtain ⟨g2, hg⟩ : ∃ g2, g2 = w7.heap.size := ⟨_, rfl⟩
      rw [← hg]
      have C8 : Hid (w8.heap[g2]? = some (.cells #[.int .i64 r.l, .int .i64 r.e.a, .int .i64 r.e.b, .int .i64 r.e.c, .int .i64 r.e.d, .int .i64 r.s.a, .int .i64 r.s.b, .int .i64 r.s.c, .int .i64 r.s.d] 24 (0, 0))) := hw ▸ obj_new hg _
      have F8 := Lib.hid (hw ▸ F7.out.alloc _ : Fr nob w w8)
      have A8 : Hid (w8.heap[h]? = some (.cells #[.int .i64 p.l, .int .i64 p.e.a, .int .i64 p.e.b, .int .i64 p.e.c, .int .i64 p.e.d, .int .i64 p.s.a, .int .i64 p.s.b, .int .i64 p.s.c, .int .i64 p.s.d] 24 (0, 0))) := hw ▸ obj_alloc A7.out _
      have B8 : Hid (w8.heap[g]? = some (.cells #[.int .i64 q.l, .int .i64 q.e.a, .int .i64 q.e.b, .int .i64 q.e.c, .int .i64 q.e.d, .int .i64 q.s.a, .int .i64 q.s.b, .int .i64 q.s.c, .int .i64 q.s.d] 24 (0, 0))) := hw ▸ obj_alloc B7.out _
      clear hw hg
      refine Stop.go ((Hal2.out w8).mono ?_)
      rintro e w9 ⟨rfl, f⟩
      have F9 := Lib.hid (F8.out.step f)
      have A9 := Lib.hid (f.heap_some A8.out (fun x => x))
      have B9 := Lib.hid (f.heap_some B8.out (fun x => x))
      have C9 := Lib.hid (f.heap_some C8.out (fun x => x))
      clear f Hal2
      have KEY : Hid (∀ W : World, W = (((((((((w9.setCell ⟨g, 0, none⟩ (.int .i64 r.l)).setCell ⟨g, 1, none⟩ (.int .i64 r.e.a)).setCell ⟨g, 2, none⟩ (.int .i64 r.e.b)).setCell ⟨g, 3, none⟩ (.int .i64 r.e.c)).setCell ⟨g, 4, none⟩ (.int .i64 r.e.d)).setCell ⟨g, 5, none⟩ (.int .i64 r.s.a)).setCell ⟨g, 6, none⟩ (.int .i64 r.s.b)).setCell ⟨g, 7, none⟩ (.int .i64 r.s.c)).setCell ⟨g, 8, none⟩ (.int .i64 r.s.d)) → W.heap[h]? = some (.cells #[.int .i64 p.l, .int .i64 p.e.a, .int .i64 p.e.b, .int .i64 p.e.c, .int .i64 p.e.d, .int .i64 p.s.a, .int .i64 p.s.b, .int .i64 p.s.c, .int .i64 p.s.d] 24 (0, 0)) ∧ W.heap[g]? = some (.cells #[.int .i64 r.l, .int .i64 r.e.a, .int .i64 r.e.b, .int .i64 r.e.c, .int .i64 r.e.d, .int .i64 r.s.a, .int .i64 r.s.b, .int .i64 r.s.c, .int .i64 r.s.d] 24 (0, 0)) ∧ Fr nob w W) := by
        rintro W rfl
        have hne : ¬ h = g := by omega
        refine ⟨?_, ?_, ?_⟩
        · exact obj_setNe (obj_setNe (obj_setNe (obj_setNe (obj_setNe (obj_setNe (obj_setNe (obj_setNe (obj_setNe (A9.out) _ hne _) _ hne _) _ hne _) _ hne _) _ hne _) _ hne _) _ hne _) _ hne _) _ hne _
        · have := obj_set (obj_set (obj_set (obj_set (obj_set (obj_set (obj_set (obj_set (obj_set (B9.out) 0 (.int .i64 r.l)) 1 (.int .i64 r.e.a)) 2 (.int .i64 r.e.b)) 3 (.int .i64 r.e.c)) 4 (.int .i64 r.e.d)) 5 (.int .i64 r.s.a)) 6 (.int .i64 r.s.b)) 7 (.int .i64 r.s.c)) 8 (.int .i64 r.s.d)
          simpa using this
        · exact (((((((((F9.out.setNew _ hgh.2 _).setNew _ hgh.2 _).setNew _ hgh.2 _).setNew _ hgh.2 _).setNew _ hgh.2 _).setNew _ hgh.2 _).setNew _ hgh.2 _).setNew _ hgh.2 _).setNew _ hgh.2 _)
      have m0 : w9.cell? ⟨g2, 0, none⟩ = some (.int .i64 r.l) := obj_cell C9.out 0
      have m1 : w9.cell? ⟨g2, 1, none⟩ = some (.int .i64 r.e.a) := obj_cell C9.out 1
      have m2 : w9.cell? ⟨g2, 2, none⟩ = some (.int .i64 r.e.b) := obj_cell C9.out 2
      have m3 : w9.cell? ⟨g2, 3, none⟩ = some (.int .i64 r.e.c) := obj_cell C9.out 3
      have m4 : w9.cell? ⟨g2, 4, none⟩ = some (.int .i64 r.e.d) := obj_cell C9.out 4
      have m5 : w9.cell? ⟨g2, 5, none⟩ = some (.int .i64 r.s.a) := obj_cell C9.out 5
      have m6 : w9.cell? ⟨g2, 6, none⟩ = some (.int .i64 r.s.b) := obj_cell C9.out 6
      have m7 : w9.cell? ⟨g2, 7, none⟩ = some (.int .i64 r.s.c) := obj_cell C9.out 7
      have m8 : w9.cell? ⟨g2, 8, none⟩ = some (.int .i64 r.s.d) := obj_cell C9.out 8
      have z0 : w9.cell? ⟨g, 0, none⟩ = some (.int .i64 q.l) := obj_cell B9.out 0
      have zf0 := obj_free B9.out 0
      have z1 : w9.cell? ⟨g, 1, none⟩ = some (.int .i64 q.e.a) := obj_cell B9.out 1
      have zf1 := obj_free B9.out 1
      have z2 : w9.cell? ⟨g, 2, none⟩ = some (.int .i64 q.e.b) := obj_cell B9.out 2
      have zf2 := obj_free B9.out 2
      have z3 : w9.cell? ⟨g, 3, none⟩ = some (.int .i64 q.e.c) := obj_cell B9.out 3
      have zf3 := obj_free B9.out 3
      have z4 : w9.cell? ⟨g, 4, none⟩ = some (.int .i64 q.e.d) := obj_cell B9.out 4
      have zf4 := obj_free B9.out 4
      have z5 : w9.cell? ⟨g, 5, none⟩ = some (.int .i64 q.s.a) := obj_cell B9.out 5
      have zf5 := obj_free B9.out 5
      have z6 : w9.cell? ⟨g, 6, none⟩ = some (.int .i64 q.s.b) := obj_cell B9.out 6
      have zf6 := obj_free B9.out 6
      have z7 : w9.cell? ⟨g, 7, none⟩ = some (.int .i64 q.s.c) := obj_cell B9.out 7
      have zf7 := obj_free B9.out 7
      have z8 : w9.cell? ⟨g, 8, none⟩ = some (.int .i64 q.s.d) := obj_cell B9.out 8
      have zf8 := obj_free B9.out 8
      rcases D3.out with rfl | rfl
      · go_wp2
        go_roundg (gk - 1)
        case measure => have := HK.out; omega
        case rel =>
          obtain ⟨q1, q2, q3⟩ := KEY.out _ rfl
          exact ⟨k + 1, r, by have := HK.out; omega, by go_num, HOK.out, Int.le_trans HRL.out HQL.out, q1, q2, q3⟩
      · have hd4 : (was + n != was + n) = false := by simp
        go_wp2
        all_goals
          go_roundg (gk - 1)
          case measure => have := HK.out; omega
          case rel =>
            obtain ⟨q1, q2, q3⟩ := KEY.out _ rfl
            exact ⟨k + 1, r, by have := HK.out; omega, by go_num, HOK.out, Int.le_trans HRL.out HQL.out, q1, q2, q3⟩
    · have Hrq := Lib.hid (fun w => right_any q w)
      rw [decide_eq_true HQ.out] at Hrq
      unfold Pu.v at Hrq
      have hle := HQL.out
      have m0 : wr.cell? ⟨g, 0, none⟩ = some (.int .i64 q.l) := obj_cell B.out 0
      have m1 : wr.cell? ⟨g, 1, none⟩ = some (.int .i64 q.e.a) := obj_cell B.out 1
      have m2 : wr.cell? ⟨g, 2, none⟩ = some (.int .i64 q.e.b) := obj_cell B.out 2
      have m3 : wr.cell? ⟨g, 3, none⟩ = some (.int .i64 q.e.c) := obj_cell B.out 3
      have m4 : wr.cell? ⟨g, 4, none⟩ = some (.int .i64 q.e.d) := obj_cell B.out 4
      have m5 : wr.cell? ⟨g, 5, none⟩ = some (.int .i64 q.s.a) := obj_cell B.out 5
      have m6 : wr.cell? ⟨g, 6, none⟩ = some (.int .i64 q.s.b) := obj_cell B.out 6
      have m7 : wr.cell? ⟨g, 7, none⟩ = some (.int .i64 q.s.c) := obj_cell B.out 7
      have m8 : wr.cell? ⟨g, 8, none⟩ = some (.int .i64 q.s.d) := obj_cell B.out 8
      have z0 : wr.cell? ⟨h, 0, none⟩ = some (.int .i64 p.l) := obj_cell A.out 0
      have z1 : wr.cell? ⟨h, 1, none⟩ = some (.int .i64 p.e.a) := obj_cell A.out 1
      have z2 : wr.cell? ⟨h, 2, none⟩ = some (.int .i64 p.e.b) := obj_cell A.out 2
      have z3 : wr.cell? ⟨h, 3, none⟩ = some (.int .i64 p.e.c) := obj_cell A.out 3
      have z4 : wr.cell? ⟨h, 4, none⟩ = some (.int .i64 p.e.d) := obj_cell A.out 4
      have z5 : wr.cell? ⟨h, 5, none⟩ = some (.int .i64 p.s.a) := obj_cell A.out 5
      have z6 : wr.cell? ⟨h, 6, none⟩ = some (.int .i64 p.s.b) := obj_cell A.out 6
      have z7 : wr.cell? ⟨h, 7, none⟩ = some (.int .i64 p.s.c) := obj_cell A.out 7
      have z8 : wr.cell? ⟨h, 8, none⟩ = some (.int .i64 p.s.d) := obj_cell A.out 8
      go_wp2_with (go_at_call 13; refine stop ?_)
      clear m0 m1 m2 m3 m4 m5 m6 m7 m8 z0 z1 z2 z3 z4 z5 z6 z7 z8
      refine Stop.go ((Hrq.out wr).mono ?_)
      rintro e w5 ⟨rfl, f⟩
      have F5 := Lib.hid (F.out.step f)
      have A5 := Lib.hid (f.heap_some A.out (fun x => x))
      have B5 := Lib.hid (f.heap_some B.out (fun x => x))
      clear f Hrq
      have m0 : w5.cell? ⟨g, 0, none⟩ = some (.int .i64 q.l) := obj_cell B5.out 0
      have m1 : w5.cell? ⟨g, 1, none⟩ = some (.int .i64 q.e.a) := obj_cell B5.out 1
      have m2 : w5.cell? ⟨g, 2, none⟩ = some (.int .i64 q.e.b) := obj_cell B5.out 2
      have m3 : w5.cell? ⟨g, 3, none⟩ = some (.int .i64 q.e.c) := obj_cell B5.out 3
      have m4 : w5.cell? ⟨g, 4, none⟩ = some (.int .i64 q.e.d) := obj_cell B5.out 4
      have m5 : w5.cell? ⟨g, 5, none⟩ = some (.int .i64 q.s.a) := obj_cell B5.out 5
      have m6 : w5.cell? ⟨g, 6, none⟩ = some (.int .i64 q.s.b) := obj_cell B5.out 6
      have m7 : w5.cell? ⟨g, 7, none⟩ = some (.int .i64 q.s.c) := obj_cell B5.out 7
      have m8 : w5.cell? ⟨g, 8, none⟩ = some (.int .i64 q.s.d) := obj_cell B5.out 8
      have z0 : w5.cell? ⟨h, 0, none⟩ = some (.int .i64 p.l) := obj_cell A5.out 0
      have z1 : w5.cell? ⟨h, 1, none⟩ = some (.int .i64 p.e.a) := obj_cell A5.out 1
      have z2 : w5.cell? ⟨h, 2, none⟩ = some (.int .i64 p.e.b) := obj_cell A5.out 2
      have z3 : w5.cell? ⟨h, 3, none⟩ = some (.int .i64 p.e.c) := obj_cell A5.out 3
      have z4 : w5.cell? ⟨h, 4, none⟩ = some (.int .i64 p.e.d) := obj_cell A5.out 4
      have z5 : w5.cell? ⟨h, 5, none⟩ = some (.int .i64 p.s.a) := obj_cell A5.out 5
      have z6 : w5.cell? ⟨h, 6, none⟩ = some (.int .i64 p.s.b) := obj_cell A5.out 6
      have z7 : w5.cell? ⟨h, 7, none⟩ = some (.int .i64 p.s.c) := obj_cell A5.out 7
      have z8 : w5.cell? ⟨h, 8, none⟩ = some (.int .i64 p.s.d) := obj_cell A5.out 8
      go_wp2
      go_ret
      exact ⟨rfl, F5.out⟩

theorem pall_walk (p : Pu) (a : Option Addr) (len cap : Nat) (X : Nat → Nat → Int) (w : World) (_ : True) (h : NumsAt w a len cap [.u16] X) :
    Calls Try.prog 6 #[p.v, .slice a len cap] w fun e w' => e = .returned (.bool true) ∧ Below w.heap.size w w' := by
  have key : Calls Try.prog 6 #[p.v, .slice a len cap] w fun e w' => e = .returned (.bool true) ∧ Fr nob w w' := by
    by_cases hl : 200 < len
    · exact pall_many p a len cap hl w
    by_cases hp : p.ok
    · obtain ⟨_, _, h3⟩ := h
      rcases h3 with rfl | ⟨b, off, rfl, _, h4⟩
      · exact pall_some p hp a 0 0 0 cap (fun i => X i 0) (by omega) w (.inl rfl) (fun j hj => by omega)
      · refine pall_some p hp _ b off len cap (fun i => X i 0) (by omega) w (.inr rfl) (fun j hj => ?_)
        obtain ⟨c1, c2⟩ := h4 j hj 0 .u16 rfl
        have c3 : 0 ≤ X j 0 ∧ X j 0 ≤ 65535 := by simp [Lit.wf, IntKind.min, IntKind.max, IntKind.signed, IntKind.bits] at c2; omega
        exact ⟨by simpa using c1, c3.1, c3.2⟩
    · exact pall_bad p hp a len cap (by omega) w
  exact key.mono fun e w' ⟨he, hf⟩ => ⟨he, hf.below0⟩

end Go.Proofs.Ytdlbihndghofcaa
