/- The reference's queue: Fill. -/
import Derived.Test.YtdmlojohdajjiaaRefC
namespace Go.Proofs.Ytdmlojohdajjiaa
open Go.RowKit

set_option maxRecDepth 100000 in
set_option maxHeartbeats 1000000 in
theorem rfill_any (room : Nat) (v : Value) (qs : List Pk) (a : Option Addr) (b off cap : Nat) (ps : List Pk) (w : World) (h : RP w v qs) (hp : PAt w a b off ps) (hb : ps.length ≤ 400) (hr : room ≤ 400) (hq : qs.length ≤ room) :
    Calls Try.prog 14 #[.agg #[.int .i64 room, v], .slice a ps.length cap] w fun e w' => ∃ v', e = .returned (.tuple #[.agg #[.int .i64 room, v'], .int .i64 (fits room qs.length ps.length : Nat)]) ∧
      RP w' v' (qs ++ ps.take (fits room qs.length ps.length)) ∧ Fr nob w w' := by
  obtain ⟨a0, n0, cap0, rfl⟩ := h.slice
  have H := Lib.hid h
  have HP := Lib.hid hp
  clear h hp
  go_enter Try.func14, Try.ntmps14
  go_wp2_with fail
  have b0 : ((w.alloc (.cells #[.int .i64 room, .slice a0 n0 cap0] 30)).alloc (.cells #[.int .i64 0, .slice none 0 0] 30)).heap[w.heap.size]? = some (.cells #[.int .i64 room, .slice a0 n0 cap0] 30 (0, 0)) := obj_alloc (obj_new rfl _) _
  have b1 : ((w.alloc (.cells #[.int .i64 room, .slice a0 n0 cap0] 30)).alloc (.cells #[.int .i64 0, .slice none 0 0] 30)).heap[w.heap.size + 1]? = some (.cells #[.int .i64 0, .slice none 0 0] 30 (0, 0)) := obj_new (by simp) _
  have f0 : Fr nob w ((w.alloc (.cells #[.int .i64 room, .slice a0 n0 cap0] 30)).alloc (.cells #[.int .i64 0, .slice none 0 0] 30)) := ((Fr.refl nob w).alloc _).alloc _
  have V0 := Lib.hid (⟨b0, H.out.fr f0⟩ : RV _ w.heap.size (room : Int) _ qs)
  have B1 := Lib.hid b1
  have F0 := Lib.hid f0
  clear b0 b1 f0
  go_loopg [6] ps.length (fun gk i wr => ∃ (k : Nat) (a2 : Option Addr) (cap2 n2 : Nat), k + gk = ps.length ∧ qs.length + k ≤ room ∧ i = .int .i64 k ∧ RV wr w.heap.size room (.slice a2 n2 cap2) (qs ++ ps.take k) ∧ wr.heap[w.heap.size + 1]? = some (.cells #[.int .i64 0, .slice none 0 0] 30 (0, 0)) ∧ Fr nob w wr)
  case atStart => exact ⟨0, _, _, _, Nat.zero_add _, by omega, rfl, by simpa using V0.out, B1.out, F0.out⟩
  case round =>
    obtain ⟨k, a2, cap2, n2, hk, hkr, rfl, hV, hB, hF⟩ := hrel
    have V := Lib.hid hV
    have B := Lib.hid hB
    have F := Lib.hid hF
    have HK := Lib.hid hk
    have hkl : k ≤ ps.length := by omega
    have r0 : wr.cell? ⟨w.heap.size, 0, none⟩ = some (.int .i64 room) := obj_cell hV.o 0
    have r1 : wr.cell? ⟨w.heap.size, 1, none⟩ = some (.slice a2 n2 cap2) := obj_cell hV.o 1
    have z0 : wr.cell? ⟨w.heap.size + 1, 0, none⟩ = some (.int .i64 0) := obj_cell hB 0
    have z1 : wr.cell? ⟨w.heap.size + 1, 1, none⟩ = some (.slice none 0 0) := obj_cell hB 1
    have y0 := obj_free hB 0
    have y1 := obj_free hB 1
    have hl : (qs ++ ps.take k).length = qs.length + k := by simp; omega
    have HL := Lib.hid hl
    clear hV hB hF hk V0 B1 F0 hl
    by_cases hlt : k < ps.length
    · obtain ⟨x, hx⟩ : ∃ x, ps[k]? = some x := ⟨_, List.getElem?_eq_getElem hlt⟩
      obtain rfl := HP.out.1.resolve_left (fun e => by rw [e] at hlt; simp at hlt)
      obtain ⟨d0, d1⟩ := (HP.out.fr F.out (fun _ x => x)).2 k x hx
      have HX := Lib.hid hx
      clear hx
      have hidx0 : (0 : Int) ≤ (k : Int) := Int.natCast_nonneg _
      have hidx1 : (k : Int) < (ps.length : Int) := by omega
      obtain ⟨ys, hys⟩ : ∃ ys, pushed room x (qs ++ ps.take k) = ys := ⟨_, rfl⟩
      obtain ⟨ok, hok⟩ : ∃ ok, decide (((qs ++ ps.take k).length : Int) < (room : Int)) = ok := ⟨_, rfl⟩
      have HY := Lib.hid hys
      have HOK := Lib.hid hok
      have hyl : ys.length ≤ 1000 := by have := pushed_le room x (qs ++ ps.take k); rw [HY.out, HL.out] at this; omega
      clear hys hok
      clear z0 z1 y0 y1
      go_upto_region 4 with fail
      have e1 := World.new_ne wr _ r0
      have e2 := World.new_ne wr _ r1
      have e3 := World.new_ne wr _ d0
      have e4 := World.new_ne wr _ d1
      go_cut [7, 8] (fun s7 s8 wx => ∃ (g : Nat) (a4 : Option Addr) (n4 cap4 : Nat), s7 = .pointer (some ⟨g, 0, none⟩) ∧ s8 = .bool ok ∧ wx.heap[g]? = some (.cells #[.int .i64 room, .slice a4 n4 cap4] 30 (0, 0)) ∧ RP wx (.slice a4 n4 cap4) ys ∧ Fr nob wr wx)
      case first =>
        go_region_held3 (fun w' => w'.cell? ⟨w.heap.size, 0, none⟩ = some (.int .i64 room) ∧ w'.cell? ⟨w.heap.size, 1, none⟩ = some (.slice a2 n2 cap2) ∧ w'.cell? ⟨b, off + k * 2, none⟩ = some (.int .i64 x.1) ∧ w'.cell? ⟨b, off + k * 2 + 1, none⟩ = some (.int .i64 x.2))
          (go_keep)
          (first
            | (go_at_call 9; refine (rpush_any room x (.slice a2 n2 cap2) (qs ++ ps.take k) ys HY.out _ ?_ (by rw [HL.out]; omega)).mono ?_; exact V.out.r; rintro e w4 ⟨v4, rfl, o4, f4⟩; rw [HOK.out]; obtain ⟨a4, n4, cap4, rfl⟩ := o4.slice; have q1 := f4.cell_some (w := wr.drew) r0 (fun x => x); have q2 := f4.cell_some (w := wr.drew) r1 (fun x => x); have q3 := f4.cell_some (w := wr.drew) d0 (fun x => x); have q4 := f4.cell_some (w := wr.drew) d1 (fun x => x); have p1 := World.new_ne w4 _ q1; have p2 := World.new_ne w4 _ q2; have p3 := World.new_ne w4 _ q3; have p4 := World.new_ne w4 _ q4)
            | (go_at_call 9; refine (rpush_any room x (.slice a2 n2 cap2) (qs ++ ps.take k) ys HY.out _ ?_ (by rw [HL.out]; omega)).mono ?_; exact V.out.r.fr (((Fr.refl nob wr).drew).alloc _); rintro e w4 ⟨v4, rfl, o4, f4⟩; rw [HOK.out]; obtain ⟨a4, n4, cap4, rfl⟩ := o4.slice; have g4 := f4.heap_some (obj_new (w := wr.drew) rfl _) (fun x => x); have g40 : w4.cell? ⟨wr.heap.size, 0, none⟩ = some (.int .i64 0) := obj_cell g4 0; have g41 : w4.cell? ⟨wr.heap.size, 1, none⟩ = some (.slice none 0 0) := obj_cell g4 1; have g42 : w4.frozen? ⟨wr.heap.size, 0, none⟩ = false := obj_free g4 0; have g43 : w4.frozen? ⟨wr.heap.size, 1, none⟩ = false := obj_free g4 1; have f5 := ((Fr.refl nob wr).drew.alloc _).trans f4 (U := nob) (fun _ _ x => x) (fun _ _ x => x); have q1 := f5.cell_some r0 (fun x => x); have q2 := f5.cell_some r1 (fun x => x); have q3 := f5.cell_some d0 (fun x => x); have q4 := f5.cell_some d1 (fun x => x); have p1 := World.new_ne w4 _ q1; have p2 := World.new_ne w4 _ q2; have p3 := World.new_ne w4 _ q3; have p4 := World.new_ne w4 _ q4))
        · go_wp2_with fail
          go_meet
          exact ⟨_, _, _, _, rfl, rfl, obj_new rfl _, o4.fr ((Fr.refl nob w4).alloc _), (((Fr.refl nob wr).drew.trans f4 (fun _ _ x => x) (fun _ _ x => x))).alloc _⟩
        · go_wp2_with fail
          go_meet
          refine ⟨_, _, _, _, rfl, rfl, ?_, o4.frv (h := wr.heap.size) (room := 0) ⟨g4, RP.nil _⟩ (((Fr.refl (fun k => k = wr.heap.size) w4).setIn 0 _).setIn 1 _), (f5.setNew _ (Nat.le_refl _) _).setNew _ (Nat.le_refl _) _⟩
          have := obj_set (obj_set g4 0 (.int .i64 room)) 1 (.slice a4 n4 cap4)
          simpa using this
      case rest =>
        obtain ⟨g, a4, n4, cap4, rfl, rfl, hg, hRP, hfx⟩ := hcut
        have V1 := Lib.hid (V.out.fr hfx)
        have B1 := Lib.hid (hfx.heap_some B.out (fun x => x))
        have F1 := Lib.hid (F.out.trans hfx (U := nob) (fun _ _ x => x) (fun _ _ x => x))
        have R1 := Lib.hid hRP
        have t0 : wc.cell? ⟨g, 0, none⟩ = some (.int .i64 room) := obj_cell hg 0
        have t1 : wc.cell? ⟨g, 1, none⟩ = some (.slice a4 n4 cap4) := obj_cell hg 1
        have s0 : wc.cell? ⟨w.heap.size, 0, none⟩ = some (.int .i64 room) := obj_cell V1.out.o 0
        have s1 : wc.cell? ⟨w.heap.size, 1, none⟩ = some (.slice a2 n2 cap2) := obj_cell V1.out.o 1
        have y0 := obj_free V1.out.o 0
        have y1 := obj_free V1.out.o 1
        have z0 : wc.cell? ⟨w.heap.size + 1, 0, none⟩ = some (.int .i64 0) := obj_cell B1.out 0
        have z1 : wc.cell? ⟨w.heap.size + 1, 1, none⟩ = some (.slice none 0 0) := obj_cell B1.out 1
        have y2 := obj_free B1.out 0
        have y3 := obj_free B1.out 1
        clear hg hRP hfx e1 e2 e3 e4 r0 r1 d0 d1
        have hdec : ok = decide (qs.length + k < room) := by have := HOK.out; rw [HL.out] at this; rw [← this]; simp; omega
        have HD := Lib.hid hdec
        by_cases hroom : qs.length + k < room
        · obtain rfl : ok = true := by rw [HD.out]; simpa using hroom
          have hy2 : Hid (ys = qs ++ ps.take (k + 1)) := by
            have := HY.out
            unfold pushed at this
            rw [if_pos (by rw [HL.out]; omega)] at this
            rw [take_snoc HX.out, ← List.append_assoc]
            exact this.symm
          clear hdec
          go_wp2
          go_roundg (gk - 1)
          case measure => have := HK.out; omega
          case rel =>
            refine ⟨k + 1, a4, cap4, n4, by have := HK.out; omega, by omega, by go_num, ?_, ?_, ?_⟩
            · rw [← hy2.out]; exact V1.out.set R1.out
            · exact obj_setNe (obj_setNe B1.out _ (by show ¬ w.heap.size + 1 = w.heap.size; omega) _) _ (by show ¬ w.heap.size + 1 = w.heap.size; omega) _
            · exact (F1.out.setNew _ (Nat.le_refl _) _).setNew _ (Nat.le_refl _) _
        · obtain rfl : ok = false := by rw [HD.out]; simpa using hroom
          have hfit : Hid (k = fits room qs.length ps.length) := by
            show k = fits room qs.length ps.length
            unfold fits; omega
          clear hdec
          go_wp2
          refine bodyPost_ret (v := .tuple #[.agg #[.int .i64 room, .slice a2 n2 cap2], .int .i64 k]) (by simp [results, Try.results14, go_sem, z0, z1]) rfl ⟨_, by rw [← hfit.out], ?_, ?_⟩
          · rw [← hfit.out]
            exact V1.out.r.frv (h := w.heap.size + 1) (room := 0) ⟨B1.out, RP.nil _⟩ (((Fr.refl (fun k => k = w.heap.size + 1) wc).setIn 0 _).setIn 1 _)
          · exact (F1.out.setNew _ (by show _ ≤ _ + 1; omega) _).setNew _ (by show _ ≤ _ + 1; omega) _
    · have hfit : Hid (k = fits room qs.length ps.length) := by
        show k = fits room qs.length ps.length
        unfold fits; omega
      have hkk : Hid ((ps.length : Int) = k) := by
        show (ps.length : Int) = k
        omega
      go_wp2
      refine bodyPost_ret (v := .tuple #[.agg #[.int .i64 room, .slice a2 n2 cap2], .int .i64 ps.length]) (by simp [results, Try.results14, go_sem, z0, z1]) rfl ⟨_, by rw [← hfit.out, hkk.out], ?_, ?_⟩
      · rw [← hfit.out]
        exact V.out.r.frv (h := w.heap.size + 1) (room := 0) ⟨B.out, RP.nil _⟩ (((Fr.refl (fun k => k = w.heap.size + 1) wr).setIn 0 _).setIn 1 _)
      · exact (F.out.setNew _ (by show _ ≤ _ + 1; omega) _).setNew _ (by show _ ≤ _ + 1; omega) _

end Go.Proofs.Ytdmlojohdajjiaa
