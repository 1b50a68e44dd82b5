/- PurseMay: what the reading of an Ask by value tells; the walk, as the row wants it. -/
import Derived.Test.YtdlbihndghofcaaMayB
namespace Go.Proofs.Ytdlbihndghofcaa
open Go.ChangeShapes Go.WideShapes Go.ChangeAt Go.RowKit

section
variable {H : Type} {enc : TypeId × Value → H} {W : World}
theorem purse_cells {n : Nat} {cs : List Value} {y : DataW H × List MemPlace} (h : DataW.trod enc Try.prog W 0 (fun _ => true) true n 24 cs = some y) :
    ∃ q : Pu, cs = [.int .i64 q.l, .int .i64 q.e.a, .int .i64 q.e.b, .int .i64 q.e.c, .int .i64 q.e.d, .int .i64 q.s.a, .int .i64 q.s.b, .int .i64 q.s.c, .int .i64 q.s.d] := by
  obtain ⟨y0, y1, y2, n, _, hl, g0, g1, g2⟩ := Go.Deep.trod_struct3 Try.underlying24 h
  obtain ⟨l, h0⟩ := cell_int g0
  obtain ⟨a, b, c, d', h1⟩ := cell_four g1
  obtain ⟨s, t, u, v', h2⟩ := cell_four g2
  rw [show Try.prog.cellsOf 24 = 9 by kernel_rfl] at hl
  refine ⟨⟨l, ⟨a, b, c, d'⟩, ⟨s, t, u, v'⟩⟩, ?_⟩
  have c3 : Try.prog.cellsOf 3 = 1 := by kernel_rfl
  have c22 : Try.prog.cellsOf 22 = 4 := by kernel_rfl
  simp only [c3, c22] at h0 h1 h2
  match cs, hl with
  | [c0, c1, c2, c3, c4, c5, c6, c7, c8], _ =>
    simp at h0 h1 h2
    simp [h0, h1, h2]
theorem ask_open {r : Reach} {base : Nat} {v : Value} {d : DataW H} {p : List MemPlace} (hval : Value.okWide Try.prog W r base 42 v) (h : DataW.Trod enc Try.prog W 0 (fun _ => true) true 42 v d p) : ∃ q who a b, v = askv q who a b := by
  obtain ⟨cs, rfl, hsz⟩ := okWide_struct Try.underlying42 hval
  obtain ⟨fuel, hf⟩ := h
  obtain ⟨xs, n, _, _, hl, hxl, hfld⟩ := DataW.trod_struct Try.underlying42 hf
  have e0 : DataW.trod enc Try.prog W 0 (fun _ => true) true n 24 ((cs.toList.drop 0).take (Try.prog.cellsOf 24)) = xs[0]? := hfld 0 _ rfl
  have e1 : DataW.trod enc Try.prog W 0 (fun _ => true) true n 3 ((cs.toList.drop 9).take (Try.prog.cellsOf 3)) = xs[1]? := hfld 1 _ rfl
  have e2 : DataW.trod enc Try.prog W 0 (fun _ => true) true n 3 ((cs.toList.drop 10).take (Try.prog.cellsOf 3)) = xs[2]? := hfld 2 _ rfl
  have e3 : DataW.trod enc Try.prog W 0 (fun _ => true) true n 3 ((cs.toList.drop 11).take (Try.prog.cellsOf 3)) = xs[3]? := hfld 3 _ rfl
  simp at hxl
  rw [List.getElem?_eq_getElem (by omega)] at e0 e1 e2 e3
  obtain ⟨q, h0⟩ := purse_cells e0
  obtain ⟨who, h1⟩ := cell_int e1
  obtain ⟨a, h2⟩ := cell_int e2
  obtain ⟨b, h3⟩ := cell_int e3
  rw [show Try.prog.cellsOf 42 = 12 by kernel_rfl] at hl
  refine ⟨q, who, a, b, ?_⟩
  unfold askv
  have e : cs.toList = [.int .i64 q.l, .int .i64 q.e.a, .int .i64 q.e.b, .int .i64 q.e.c, .int .i64 q.e.d, .int .i64 q.s.a, .int .i64 q.s.b, .int .i64 q.s.c, .int .i64 q.s.d, .int .i64 who, .int .i64 a, .int .i64 b] := by
    have c3 : Try.prog.cellsOf 3 = 1 := by kernel_rfl
    have c24 : Try.prog.cellsOf 24 = 9 := by kernel_rfl
    simp only [Value.cells, c3, c24] at h0 h1 h2 h3 hl
    generalize cs.toList = L at *
    match L, hl with
    | [c0, c1, c2, c3, c4, c5, c6, c7, c8, c9, c10, c11], _ =>
      simp at h0 h1 h2 h3
      simp [h0, h1, h2, h3]
  have : cs = #[.int .i64 q.l, .int .i64 q.e.a, .int .i64 q.e.b, .int .i64 q.e.c, .int .i64 q.e.d, .int .i64 q.s.a, .int .i64 q.s.b, .int .i64 q.s.c, .int .i64 q.s.d, .int .i64 who, .int .i64 a, .int .i64 b] := by
    rw [← Array.toList_inj, e]
  rw [this]
end

theorem mayl_walk (p : Pu) (who a b : Int) (w : World) (_ : True) :
    Calls Try.prog 5 #[askv p who a b] w fun e w' => e = .returned (.bool true) ∧ Below w.heap.size w w' :=
  (mayl_any p who a b w).mono fun _ _ ⟨he, hf⟩ => ⟨he, hf.below0⟩

end Go.Proofs.Ytdlbihndghofcaa
