/- What the reading of a purse by value tells. -/
import Derived.Test.YtdlbihndghofcaaKept
import Derived.Test.YtdlbihndghofcaaOpen
import Derived.Deep.Strs
namespace Go.Proofs.Ytdlbihndghofcaa
open Go.ChangeShapes Go.WideShapes Go.ChangeAt Go.RowKit

section
variable {H : Type} {enc : TypeId × Value → H} {W : World}
theorem cell_int {n : Nat} {cs : List Value} {y : DataW H × List MemPlace} (h : DataW.trod enc Try.prog W 0 (fun _ => true) true n 3 cs = some y) : ∃ z, cs = [.int .i64 z] := by
  obtain ⟨z, hz, _, _⟩ := DataW.trod_int Try.underlying3 h
  exact ⟨z, hz⟩
theorem cell_four {n : Nat} {cs : List Value} {y : DataW H × List MemPlace} (h : DataW.trod enc Try.prog W 0 (fun _ => true) true n 22 cs = some y) : ∃ a b c d, cs = [.int .i64 a, .int .i64 b, .int .i64 c, .int .i64 d] := by
  obtain ⟨xs, m, _, _, hl, hx, he⟩ := DataW.trod_array Try.underlying22 h
  rw [show Try.prog.cellsOf 22 = 4 by kernel_rfl] at hl
  rw [show Try.prog.cellsOf 3 = 1 by kernel_rfl] at he
  match cs, hl with
  | [u0, u1, u2, u3], _ =>
    have e0 := he 0 (by omega)
    have e1 := he 1 (by omega)
    have e2 := he 2 (by omega)
    have e3 := he 3 (by omega)
    rw [List.getElem?_eq_getElem (by omega)] at e0 e1 e2 e3
    obtain ⟨a, ha⟩ := cell_int e0
    obtain ⟨b, hb⟩ := cell_int e1
    obtain ⟨c, hc⟩ := cell_int e2
    obtain ⟨d, hd⟩ := cell_int e3
    simp at ha hb hc hd
    exact ⟨a, b, c, d, by rw [ha, hb, hc, hd]⟩
theorem purse_open {r : Reach} {base : Nat} {v : Value} {d : DataW H} {p : List MemPlace} (hval : Value.okWide Try.prog W r base 24 v) (h : DataW.Trod enc Try.prog W 0 (fun _ => true) true 24 v d p) : ∃ q : Pu, v = q.v := by
  obtain ⟨cs, rfl, hsz⟩ := okWide_struct Try.underlying24 hval
  obtain ⟨fuel, hf⟩ := h
  obtain ⟨y0, y1, y2, n, _, hl, g0, g1, g2⟩ := Go.Deep.trod_struct3 Try.underlying24 hf
  obtain ⟨l, h0⟩ := cell_int g0
  obtain ⟨a, b, c, d', h1⟩ := cell_four g1
  obtain ⟨s, t, u, v', h2⟩ := cell_four g2
  rw [show Try.prog.cellsOf 24 = 9 by kernel_rfl] at hl
  refine ⟨⟨l, ⟨a, b, c, d'⟩, ⟨s, t, u, v'⟩⟩, ?_⟩
  unfold Pu.v
  have e : cs.toList = [.int .i64 l, .int .i64 a, .int .i64 b, .int .i64 c, .int .i64 d', .int .i64 s, .int .i64 t, .int .i64 u, .int .i64 v'] := by
    have c3 : Try.prog.cellsOf 3 = 1 := by kernel_rfl
    have c22 : Try.prog.cellsOf 22 = 4 := by kernel_rfl
    simp only [Value.cells, c3, c22] at h0 h1 h2 hl
    generalize cs.toList = L at *
    match L, hl with
    | [c0, c1, c2, c3, c4, c5, c6, c7, c8], _ =>
      simp at h0 h1 h2
      simp [h0, h1, h2]
  have : cs = #[.int .i64 l, .int .i64 a, .int .i64 b, .int .i64 c, .int .i64 d', .int .i64 s, .int .i64 t, .int .i64 u, .int .i64 v'] := by
    rw [← Array.toList_inj, e]
  rw [this]
end

end Go.Proofs.Ytdlbihndghofcaa
