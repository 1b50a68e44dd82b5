/- ScriptTells: the walk. -/
import Derived.Test.YtlppphhgbfehcaaScJ
import Derived.Test.YtlppphhgbfehcaaGrow
import Derived.Deep.Strs
import Derived.Deep.Strs
namespace Go.Proofs.Ytlppphhgbfehcaa
open Go.RowKit

set_option maxRecDepth 100000 in
theorem tells_long (a : Option Addr) (n cap : Nat) (s : ByteArray) (x y : Int) (w : World) (h : 2100 < n) :
    Calls Try.prog 3 #[.slice a n cap, .string s, .agg #[.int .i64 x, .int .i64 y]] w fun e w' => e = .returned (.bool true) ∧ Fr nob w w' := by
  go_enter Try.func3, Try.ntmps3
  go_wp2_with (go_at_call 7; refine stop ?_)
  refine Stop.go ((awake_any _).mono ?_)
  rintro e w1 ⟨rfl, f1⟩
  have F1 := Lib.hid (((Fr.refl nob w).alloc _).step f1)
  clear f1
  go_wp2
  go_ret
  exact ⟨rfl, F1.out⟩

set_option maxRecDepth 100000 in
theorem tells_big (a : Option Addr) (n cap : Nat) (s : ByteArray) (x y : Int) (w : World) (h : ¬ 2100 < n) (h2 : 4100 < s.size) :
    Calls Try.prog 3 #[.slice a n cap, .string s, .agg #[.int .i64 x, .int .i64 y]] w fun e w' => e = .returned (.bool true) ∧ Fr nob w w' := by
  go_enter Try.func3, Try.ntmps3
  go_wp2_with (go_at_call 7; refine stop ?_)
  refine Stop.go ((awake_any _).mono ?_)
  rintro e w1 ⟨rfl, f1⟩
  have F1 := Lib.hid (((Fr.refl nob w).alloc _).step f1)
  clear f1
  go_wp2
  go_ret
  exact ⟨rfl, F1.out⟩

theorem grown_get {w1 w' : World} (h : ∃ x : Grown w1, w' = x.w) : Fr nob w1 w' := by
  obtain ⟨x, rfl⟩ := h
  exact x.fr

set_option maxRecDepth 100000 in
set_option maxHeartbeats 2000000 in
theorem tells_some (a : Option Addr) (n cap : Nat) (ps : List Pk) (s : ByteArray) (x y : Int) (w : World) (h : ¬ 2100 < n) (h2 : ¬ 4100 < s.size) (hr : RP w (.slice a n cap) ps) (hn : n = ps.length) :
    Calls Try.prog 3 #[.slice a n cap, .string s, .agg #[.int .i64 x, .int .i64 y]] w fun e w' => e = .returned (.bool true) ∧ Fr nob w w' := by
  have hpl : ps.length ≤ 100000 := by omega
  have PUT := Lib.hid (fun w h => put_any (.slice a n cap) ps w h)
  have RPUT := Lib.hid (fun v w h => rput_any v ps w h)
  obtain ⟨E, hE⟩ : ∃ E, E = putE ps := ⟨_, rfl⟩
  obtain ⟨T, hT⟩ : ∃ T, T = putS ps := ⟨_, rfl⟩
  rw [← hE, ← hT] at PUT RPUT
  have GET := Lib.hid (fun w => get_any s w (by unfold maxLen; omega))
  have RGET := Lib.hid (fun w => rget_any s w (by unfold maxLen; omega))
  have hql : (getP s.data.toList).length ≤ 100000 := by
    rcases get_cases s.data.toList with ⟨_, _, h3, _, h4⟩ | ⟨_, h4⟩
    · rw [h4, dec_len]; omega
    · rw [h4]; simp
  obtain ⟨G, hG⟩ : ∃ G, G = getE s.data.toList := ⟨_, rfl⟩
  obtain ⟨qs, hqs⟩ : ∃ qs, qs = getP s.data.toList := ⟨_, rfl⟩
  rw [← hG, ← hqs] at GET RGET
  rw [← hqs] at hql
  have HN := Lib.hid hn
  have R := Lib.hid hr
  clear hE hT hG hqs hn hr
  go_enter Try.func3, Try.ntmps3
  go_wp2_with (go_at_call 7; refine stop ?_)
  obtain ⟨g, hg⟩ : ∃ g, g = w.heap.size := ⟨_, rfl⟩
  rw [← hg]
  obtain ⟨w0, hw0⟩ : ∃ w0, w0 = w.alloc (.cells #[.int .i64 x, .int .i64 y] 23) := ⟨_, rfl⟩
  simp only [← hw0]
  have b0 : w0.heap[g]? = some (.cells #[.int .i64 x, .int .i64 y] 23 (0, 0)) := hw0 ▸ obj_new hg _
  have f0 : Fr nob w w0 := hw0 ▸ (Fr.refl nob w).alloc _
  clear hw0 hg
  refine Stop.go ((awake_any w0).mono ?_)
  rintro e w1 ⟨rfl, f1⟩
  have F1 := Lib.hid (f0.step f1)
  have B1 := Lib.hid (f1.heap_some b0 (fun x => x))
  have R1 := Lib.hid ((R.out.fr f0).fr f1)
  clear f1 f0 b0 R
  go_wp2_with (go_at_call 8; refine stop ?_)
  refine Stop.go ((plain_rp _ ps w1 R1.out hpl).mono ?_)
  rintro e w2 ⟨v2, rfl, o2, f2⟩
  obtain ⟨a2, n2, cap2, rfl⟩ := o2.slice
  have F2 := Lib.hid (F1.out.step f2)
  have B2 := Lib.hid (f2.heap_some B1.out (fun x => x))
  have R2 := Lib.hid (R1.out.fr f2)
  have O2 := Lib.hid o2
  clear f2 o2 B1 R1
  go_wp2_with (go_at_call 9; refine stop ?_)
  refine Stop.go ((PUT.out w2 R2.out).mono ?_)
  rintro e w3 ⟨rfl, f3⟩
  have F3 := Lib.hid (F2.out.step f3)
  have B3 := Lib.hid (f3.heap_some B2.out (fun x => x))
  have R3 := Lib.hid (R2.out.fr f3)
  have O3 := Lib.hid (O2.out.fr f3)
  clear f3 B2 R2 O2 PUT
  go_wp2_with (go_at_call 10; refine stop ?_)
  refine Stop.go ((RPUT.out _ w3 O3.out).mono ?_)
  rintro e w4 ⟨rfl, f4⟩
  have F4 := Lib.hid (F3.out.step f4)
  have B4 := Lib.hid (f4.heap_some B3.out (fun x => x))
  have R4 := Lib.hid (R3.out.fr f4)
  have O4 := Lib.hid (O3.out.fr f4)
  clear f4 B3 R3 O3 RPUT
  go_wp2_with (go_at_call 11; refine stop ?_)
  refine Stop.go ((GET.out w4).mono ?_)
  rintro e w5 ⟨v5, rfl, c5, f5⟩
  obtain ⟨a5, n5, cap5, rfl⟩ := c5.slice
  have F5 := Lib.hid (F4.out.step f5)
  have B5 := Lib.hid (f5.heap_some B4.out (fun x => x))
  have R5 := Lib.hid (R4.out.fr f5)
  have O5 := Lib.hid (O4.out.fr f5)
  have C5 := Lib.hid c5
  clear f5 c5 B4 R4 O4 GET
  go_wp2_with (go_at_call 12; refine stop ?_)
  refine Stop.go ((RGET.out w5).mono ?_)
  rintro e w6 ⟨v6, rfl, d6, f6⟩
  obtain ⟨a6, n6, cap6, rfl⟩ := d6.slice
  have F6 := Lib.hid (F5.out.step f6)
  have B6 := Lib.hid (f6.heap_some B5.out (fun x => x))
  have R6 := Lib.hid (R5.out.fr f6)
  have O6 := Lib.hid (O5.out.fr f6)
  have C6 := Lib.hid (C5.out.fr f6)
  have D6 := Lib.hid d6
  have x0 : w6.cell? ⟨g, 0, none⟩ = some (.int .i64 x) := obj_cell B6.out 0
  have x1 : w6.cell? ⟨g, 1, none⟩ = some (.int .i64 y) := obj_cell B6.out 1
  clear f6 d6 B5 R5 O5 C5 RGET
  go_upto_region 12 with fail
  obtain ⟨k, hk⟩ : ∃ k, k = w6.heap.size := ⟨_, rfl⟩
  rw [← hk]
  obtain ⟨w7, hw7⟩ : ∃ w7, w7 = w6.alloc (.cells #[.int .i64 x, .int .i64 y] 36) := ⟨_, rfl⟩
  simp only [← hw7]
  have f7 : Fr nob w6 w7 := hw7 ▸ (Fr.refl nob w6).alloc _
  have K7 : Hid (w7.heap[k]? = some (.cells #[.int .i64 x, .int .i64 y] 36 (0, 0))) := Lib.hid (hw7 ▸ obj_new hk _)
  have F7 := Lib.hid (F6.out.step f7)
  have B7 := Lib.hid (f7.heap_some B6.out (fun x => x))
  have R7 := Lib.hid (R6.out.fr f7)
  have O7 := Lib.hid (O6.out.fr f7)
  have C7 := Lib.hid (C6.out.fr f7)
  have D7 := Lib.hid (D6.out.fr f7)
  clear f7 B6 R6 O6 C6 D6 x0 x1 hw7 hk
  have r0 : w7.cell? ⟨g, 0, none⟩ = some (.int .i64 x) := obj_cell B7.out 0
  have r1 : w7.cell? ⟨g, 1, none⟩ = some (.int .i64 y) := obj_cell B7.out 1
  have r2 : w7.cell? ⟨k, 0, none⟩ = some (.int .i64 x) := obj_cell K7.out 0
  have r3 : w7.cell? ⟨k, 1, none⟩ = some (.int .i64 y) := obj_cell K7.out 1
  go_cut [86] (fun s86 wx => s86 = .bool false ∧ Fr nob w7 wx)
  case first =>
    go_region_held3 (fun w' => w'.cell? ⟨g, 0, none⟩ = some (.int .i64 x) ∧ w'.cell? ⟨g, 1, none⟩ = some (.int .i64 y) ∧ w'.cell? ⟨k, 0, none⟩ = some (.int .i64 x) ∧ w'.cell? ⟨k, 1, none⟩ = some (.int .i64 y))
      (go_keep)
      (first
        | (go_at_call 8; refine (plain_rp _ qs w7.drew (C7.out.fr (Fr.refl nob w7).drew) hql).mono ?_; rintro e w8 ⟨v8, rfl, o8, f8⟩; obtain ⟨a8, n8, cap8, rfl⟩ := o8.slice; have q0 := f8.cell_some (w := w7.drew) r0 (fun x => x); have q1 := f8.cell_some (w := w7.drew) r1 (fun x => x); have q2 := f8.cell_some (w := w7.drew) r2 (fun x => x); have q3 := f8.cell_some (w := w7.drew) r3 (fun x => x))
        | (go_at_call 13; refine (same_any _ _ qs qs w8 o8 ((D7.out.fr (Fr.refl nob w7).drew).fr f8)).mono ?_; rintro e w9 ⟨rfl, f9⟩; rw [show decide (qs = qs) = true from by simp]; have p0 := f9.cell_some q0 (fun x => x); have p1 := f9.cell_some q1 (fun x => x); have p2 := f9.cell_some q2 (fun x => x); have p3 := f9.cell_some q3 (fun x => x))
        | (go_at_call 14; refine (right_any (x, y) w9).mono ?_; rintro e wa ⟨rfl, fa⟩; have m0 := fa.cell_some p0 (fun x => x); have m1 := fa.cell_some p1 (fun x => x); have m2 := fa.cell_some p2 (fun x => x); have m3 := fa.cell_some p3 (fun x => x))
        | (go_at_call 15; refine (rright_any (x, y) wa).mono ?_; rintro e wb ⟨rfl, fb⟩; have m4 := fb.cell_some m0 (fun x => x); have m5 := fb.cell_some m1 (fun x => x); have m6 := fb.cell_some m2 (fun x => x); have m7 := fb.cell_some m3 (fun x => x))
        | (go_at_call 15; refine (rright_any (x, y) w9).mono ?_; rintro e wc ⟨rfl, fc⟩; have m0 := fc.cell_some p0 (fun x => x); have m1 := fc.cell_some p1 (fun x => x); have m2 := fc.cell_some p2 (fun x => x); have m3 := fc.cell_some p3 (fun x => x))
        | (go_at_call 14; refine (right_any (x, y) wc).mono ?_; rintro e wd ⟨rfl, fd⟩; have m4 := fd.cell_some m0 (fun x => x); have m5 := fd.cell_some m1 (fun x => x); have m6 := fd.cell_some m2 (fun x => x); have m7 := fd.cell_some m3 (fun x => x)))
    all_goals go_wp2_with fail
    all_goals go_meet
    all_goals first
      | exact ⟨by simp, ((((Fr.refl nob w7).drew.step f8).step f9).step fa).step fb⟩
      | exact ⟨by simp, ((((Fr.refl nob w7).drew.step f8).step f9).step fc).step fd⟩
  case rest =>
    obtain ⟨rfl, hfx⟩ := hcut
    have F8 := Lib.hid (F7.out.step hfx)
    have R8 := Lib.hid (R7.out.fr hfx)
    have O8 := Lib.hid (O7.out.fr hfx)
    have B8 := Lib.hid (hfx.heap_some B7.out (fun x => x))
    clear hfx r0 r1 r2 r3 R7 O7 B7 C7 D7 K7
    have z0 : ∀ x' : Grown wc, x'.w.cell? ⟨g, 0, none⟩ = some (.int .i64 x) := Grown.cell (obj_cell B8.out 0)
    have z1 : ∀ x' : Grown wc, x'.w.cell? ⟨g, 1, none⟩ = some (.int .i64 y) := Grown.cell (obj_cell B8.out 1)
    by_cases hl : 200 < n
    · have hl' : decide (200 < (n : Int)) = true := by simp; omega
      go_wp2_with fail
      refine region_grown (by kernel_rfl) (by kernel_rfl) ?_
      repeat (go_big_quiet_step ((fail)))
      refine wpQuiet_nil ?_
      intro wz hw
      have f := grown_get hw
      clear hw
      have F9 := Lib.hid (F8.out.step f)
      clear f z0 z1
      go_wp2
      go_ret
      exact ⟨rfl, F9.out⟩
    · have hl' : decide (200 < (n : Int)) = false := by simp; omega
      have FA := Lib.hid (fun (x' : Grown wc) => fair_any (.slice a n cap) ps x y x'.w (R8.out.fr x'.fr) hpl)
      have FB := Lib.hid (fun (x' : Grown wc) => rfair_any (.slice a2 n2 cap2) ps x y x'.w (O8.out.fr x'.fr) hpl)
      obtain ⟨fb, hfb⟩ : ∃ fb, fb = fairB ps x y := ⟨_, rfl⟩
      rw [← hfb] at FA FB
      clear hfb
      go_wp2_with fail
      refine region_grown (by kernel_rfl) (by kernel_rfl) ?_
      repeat (go_big_quiet_step ((first | (go_at_call 16; exact Grown.call _ (FA.out _)) | (go_at_call 17; exact Grown.call _ (FB.out _)))))
      refine wpQuiet_nil ?_
      intro wz hw
      have f := grown_get hw
      clear hw
      have F9 := Lib.hid (F8.out.step f)
      clear f z0 z1
      go_wp2
      go_ret
      exact ⟨by simp, F9.out⟩

theorem tells_walk (a : Option Addr) (len cap : Nat) (X : Nat → Nat → Int) (s : ByteArray) (x y : Int) (w : World) (h : NumsAt w a len cap [.i64, .i64] X) (_ : s.size ≤ maxLen) (_ : True) :
    Calls Try.prog 3 #[.slice a len cap, .string s, .agg #[.int .i64 x, .int .i64 y]] w fun e w' => e = .returned (.bool true) ∧ Below w.heap.size w w' := by
  have key : Calls Try.prog 3 #[.slice a len cap, .string s, .agg #[.int .i64 x, .int .i64 y]] w fun e w' => e = .returned (.bool true) ∧ Fr nob w w' := by
    by_cases h1 : 2100 < len
    · exact tells_long a len cap s x y w h1
    by_cases h2 : 4100 < s.size
    · exact tells_big a len cap s x y w h1 h2
    obtain ⟨b, off, ps, rfl, h4, h5, h6⟩ := h.picks
    exact tells_some a _ cap ps s x y w h1 h2 ⟨a, b, off, cap, rfl, h4, h5, h6⟩ rfl
  exact key.mono fun e w' ⟨he, hf⟩ => ⟨he, hf.below0⟩

/-! ### what the reading of a pair of numbers tells -/
section
open Go.ChangeShapes Go.WideShapes Go.ChangeAt
variable {H : Type} {enc : TypeId × Value → H} {W : World}
theorem pair_open {r : Reach} {base : Nat} {v : Value} {d : DataW H} {p : List MemPlace} (hval : Value.okWide Try.prog W r base 23 v) (h : DataW.Trod enc Try.prog W 0 (fun _ => true) true 23 v d p) : ∃ x y : Int, v = .agg #[.int .i64 x, .int .i64 y] := by
  simp only [Value.okWide, Try.underlying23] at hval
  obtain ⟨cs, rfl, hsz, _⟩ := hval
  obtain ⟨fuel, hf⟩ := h
  obtain ⟨xs, m, _, _, hl, hx, he⟩ := DataW.trod_array Try.underlying23 hf
  rw [show Try.prog.cellsOf 23 = 2 by kernel_rfl] at hl
  rw [show Try.prog.cellsOf 3 = 1 by kernel_rfl] at he
  simp only [Value.cells] at hl he
  have e : ∃ x y : Int, cs.toList = [.int .i64 x, .int .i64 y] := by
    generalize cs.toList = L at *
    match L, hl with
    | [u0, u1], _ =>
      have e0 := he 0 (by omega)
      have e1 := he 1 (by omega)
      rw [List.getElem?_eq_getElem (by omega)] at e0 e1
      obtain ⟨a, ha, _, _⟩ := DataW.trod_int Try.underlying3 e0
      obtain ⟨b, hb, _, _⟩ := DataW.trod_int Try.underlying3 e1
      simp at ha hb
      exact ⟨a, b, by rw [ha, hb]⟩
  obtain ⟨x, y, e⟩ := e
  refine ⟨x, y, ?_⟩
  rw [show cs = #[.int .i64 x, .int .i64 y] by rw [← Array.toList_inj, e]]
end

end Go.Proofs.Ytlppphhgbfehcaa
