/- The purse: its numbers; kept. -/
import Derived.Test.YtdlbihndghofcaaRows
import Derived.Test.YtdlbihndghofcaaBase
import Derived.Outline
import Derived.Deep.QuietTactic
import Derived.BigQuiet
import Derived.Lib.Hide
import Derived.WalkSpells
import Derived.WalkLawsBesides
import Derived.Deep.RegionWith
import Derived.Deep.RegionHeld3
import Derived.Deep.LoopGhost
import Derived.Deep.DeepCutAuto
import Derived.Deep.CutBlock
namespace Go.Proofs.Ytdlbihndghofcaa
open Go.RowKit

/-- Four numbers. -/
structure Q4 where
  a : Int
  b : Int
  c : Int
  d : Int
deriving DecidableEq
/-- A purse: what is left, for each, spent. -/
structure Pu where
  l : Int
  e : Q4
  s : Q4
deriving DecidableEq

def Q4.v (q : Q4) : Value := .agg #[.int .i64 q.a, .int .i64 q.b, .int .i64 q.c, .int .i64 q.d]
def Pu.v (p : Pu) : Value := .agg #[.int .i64 p.l, .int .i64 p.e.a, .int .i64 p.e.b, .int .i64 p.e.c, .int .i64 p.e.d, .int .i64 p.s.a, .int .i64 p.s.b, .int .i64 p.s.c, .int .i64 p.s.d]

def kp (x : Int) : Int := max 0 (min x 2147483647)
def Q4.kept (q : Q4) : Q4 := ⟨kp q.a, kp q.b, kp q.c, kp q.d⟩
theorem kp_lo {x : Int} (h : x ≤ 0) : kp x = 0 := by unfold kp; omega
theorem kp_in {x : Int} (h : 0 ≤ x) (h' : x ≤ 2147483647) : kp x = x := by unfold kp; omega
theorem kp_hi {x : Int} (h : 2147483647 < x) : kp x = 2147483647 := by unfold kp; omega

/-- The first k of four are brought within. -/
def mix (a b c d : Int) : Nat → Array Value
  | 0 => #[.int .i64 a, .int .i64 b, .int .i64 c, .int .i64 d]
  | 1 => #[.int .i64 (kp a), .int .i64 b, .int .i64 c, .int .i64 d]
  | 2 => #[.int .i64 (kp a), .int .i64 (kp b), .int .i64 c, .int .i64 d]
  | 3 => #[.int .i64 (kp a), .int .i64 (kp b), .int .i64 (kp c), .int .i64 d]
  | _ => #[.int .i64 (kp a), .int .i64 (kp b), .int .i64 (kp c), .int .i64 (kp d)]

set_option maxRecDepth 100000 in
theorem kept_any (q : Q4) (w : World) : Calls Try.prog 19 #[.agg #[.int .i64 q.a, .int .i64 q.b, .int .i64 q.c, .int .i64 q.d]] w fun e w' => e = .returned (.agg #[.int .i64 (kp q.a), .int .i64 (kp q.b), .int .i64 (kp q.c), .int .i64 (kp q.d)]) ∧ Fr nob w w' := by
  obtain ⟨a, b, c, d⟩ := q
  simp only
  have i0 : ∀ w, (Instr.index 22 (.agg #[.int .i64 a, .int .i64 b, .int .i64 c, .int .i64 d]) (.int .i64 0)).run Try.prog w = .ok (.int .i64 a) w := fun _ => by kernel_rfl
  have i1 : ∀ w, (Instr.index 22 (.agg #[.int .i64 a, .int .i64 b, .int .i64 c, .int .i64 d]) (.int .i64 1)).run Try.prog w = .ok (.int .i64 b) w := fun _ => by kernel_rfl
  have i2 : ∀ w, (Instr.index 22 (.agg #[.int .i64 a, .int .i64 b, .int .i64 c, .int .i64 d]) (.int .i64 2)).run Try.prog w = .ok (.int .i64 c) w := fun _ => by kernel_rfl
  have i3 : ∀ w, (Instr.index 22 (.agg #[.int .i64 a, .int .i64 b, .int .i64 c, .int .i64 d]) (.int .i64 3)).run Try.prog w = .ok (.int .i64 d) w := fun _ => by kernel_rfl
  go_enter Try.func19, Try.ntmps19
  go_wp2_with fail
  go_loopg [6] 4 (fun gk i wr => ∃ k : Nat, k + gk = 4 ∧ i = .int .i64 (k : Nat) ∧ wr.heap[w.heap.size]? = some (.cells (mix a b c d k) 22 (0, 0)) ∧ wr.heap[w.heap.size + 1]? = some (.cells #[.int .i64 0, .int .i64 0, .int .i64 0, .int .i64 0] 22 (0, 0)) ∧ Fr nob w wr)
  case atStart => exact ⟨0, rfl, rfl, obj_alloc (obj_new rfl _) _, obj_new (by simp) _, ((Fr.refl nob w).alloc _).alloc _⟩
  case round =>
    obtain ⟨k, hk, rfl, h0, h1, hf⟩ := hrel
    have H := Lib.hid h0
    have H1 := Lib.hid h1
    have F := Lib.hid hf
    clear h0 h1 hf
    obtain rfl | rfl | rfl | rfl | rfl : k = 0 ∨ k = 1 ∨ k = 2 ∨ k = 3 ∨ k = 4 := by omega
    · have c0 : wr.cell? ⟨w.heap.size, 0, none⟩ = some (.int .i64 a) := obj_cell H.out 0
      have f0 := obj_free H.out 0
      have key : ∀ W v, W = wr.setCell ⟨w.heap.size, 0, none⟩ v → v = .int .i64 (kp a) → W.heap[w.heap.size]? = some (.cells (mix a b c d 1) 22 (0, 0)) ∧ W.heap[w.heap.size + 1]? = some (.cells #[.int .i64 0, .int .i64 0, .int .i64 0, .int .i64 0] 22 (0, 0)) ∧ Fr nob w W := by
        rintro W v rfl rfl
        exact ⟨obj_set H.out 0 _, obj_setNe H1.out _ (by show ¬ w.heap.size + 1 = w.heap.size; omega) _, F.out.setNew _ (Nat.le_refl _) _⟩
      have KEY := Lib.hid key
      clear key
      rcases Int.lt_or_le 0 a with hx | hx
      · rcases Int.lt_or_le 2147483647 a with hy | hy
        · have e := kp_hi hy
          go_wp2
          go_roundg (gk - 1)
          case measure => omega
          case rel => exact ⟨1, by omega, rfl, KEY.out _ _ rfl (by rw [e])⟩
        · have e := kp_in (Int.le_of_lt hx) hy
          go_wp2
          go_roundg (gk - 1)
          case measure => omega
          case rel => exact ⟨1, by omega, rfl, KEY.out _ _ rfl (by rw [e])⟩
      · have e := kp_lo hx
        go_wp2
        go_roundg (gk - 1)
        case measure => omega
        case rel => exact ⟨1, by omega, rfl, KEY.out _ _ rfl (by rw [e])⟩
    · have c0 : wr.cell? ⟨w.heap.size, 1, none⟩ = some (.int .i64 b) := obj_cell H.out 1
      have f0 := obj_free H.out 1
      have key : ∀ W v, W = wr.setCell ⟨w.heap.size, 1, none⟩ v → v = .int .i64 (kp b) → W.heap[w.heap.size]? = some (.cells (mix a b c d 2) 22 (0, 0)) ∧ W.heap[w.heap.size + 1]? = some (.cells #[.int .i64 0, .int .i64 0, .int .i64 0, .int .i64 0] 22 (0, 0)) ∧ Fr nob w W := by
        rintro W v rfl rfl
        exact ⟨obj_set H.out 1 _, obj_setNe H1.out _ (by show ¬ w.heap.size + 1 = w.heap.size; omega) _, F.out.setNew _ (Nat.le_refl _) _⟩
      have KEY := Lib.hid key
      clear key
      rcases Int.lt_or_le 0 b with hx | hx
      · rcases Int.lt_or_le 2147483647 b with hy | hy
        · have e := kp_hi hy
          go_wp2
          go_roundg (gk - 1)
          case measure => omega
          case rel => exact ⟨2, by omega, rfl, KEY.out _ _ rfl (by rw [e])⟩
        · have e := kp_in (Int.le_of_lt hx) hy
          go_wp2
          go_roundg (gk - 1)
          case measure => omega
          case rel => exact ⟨2, by omega, rfl, KEY.out _ _ rfl (by rw [e])⟩
      · have e := kp_lo hx
        go_wp2
        go_roundg (gk - 1)
        case measure => omega
        case rel => exact ⟨2, by omega, rfl, KEY.out _ _ rfl (by rw [e])⟩
    · have c0 : wr.cell? ⟨w.heap.size, 2, none⟩ = some (.int .i64 c) := obj_cell H.out 2
      have f0 := obj_free H.out 2
      have key : ∀ W v, W = wr.setCell ⟨w.heap.size, 2, none⟩ v → v = .int .i64 (kp c) → W.heap[w.heap.size]? = some (.cells (mix a b c d 3) 22 (0, 0)) ∧ W.heap[w.heap.size + 1]? = some (.cells #[.int .i64 0, .int .i64 0, .int .i64 0, .int .i64 0] 22 (0, 0)) ∧ Fr nob w W := by
        rintro W v rfl rfl
        exact ⟨obj_set H.out 2 _, obj_setNe H1.out _ (by show ¬ w.heap.size + 1 = w.heap.size; omega) _, F.out.setNew _ (Nat.le_refl _) _⟩
      have KEY := Lib.hid key
      clear key
      rcases Int.lt_or_le 0 c with hx | hx
      · rcases Int.lt_or_le 2147483647 c with hy | hy
        · have e := kp_hi hy
          go_wp2
          go_roundg (gk - 1)
          case measure => omega
          case rel => exact ⟨3, by omega, rfl, KEY.out _ _ rfl (by rw [e])⟩
        · have e := kp_in (Int.le_of_lt hx) hy
          go_wp2
          go_roundg (gk - 1)
          case measure => omega
          case rel => exact ⟨3, by omega, rfl, KEY.out _ _ rfl (by rw [e])⟩
      · have e := kp_lo hx
        go_wp2
        go_roundg (gk - 1)
        case measure => omega
        case rel => exact ⟨3, by omega, rfl, KEY.out _ _ rfl (by rw [e])⟩
    · have c0 : wr.cell? ⟨w.heap.size, 3, none⟩ = some (.int .i64 d) := obj_cell H.out 3
      have f0 := obj_free H.out 3
      have key : ∀ W v, W = wr.setCell ⟨w.heap.size, 3, none⟩ v → v = .int .i64 (kp d) → W.heap[w.heap.size]? = some (.cells (mix a b c d 4) 22 (0, 0)) ∧ W.heap[w.heap.size + 1]? = some (.cells #[.int .i64 0, .int .i64 0, .int .i64 0, .int .i64 0] 22 (0, 0)) ∧ Fr nob w W := by
        rintro W v rfl rfl
        exact ⟨obj_set H.out 3 _, obj_setNe H1.out _ (by show ¬ w.heap.size + 1 = w.heap.size; omega) _, F.out.setNew _ (Nat.le_refl _) _⟩
      have KEY := Lib.hid key
      clear key
      rcases Int.lt_or_le 0 d with hx | hx
      · rcases Int.lt_or_le 2147483647 d with hy | hy
        · have e := kp_hi hy
          go_wp2
          go_roundg (gk - 1)
          case measure => omega
          case rel => exact ⟨4, by omega, rfl, KEY.out _ _ rfl (by rw [e])⟩
        · have e := kp_in (Int.le_of_lt hx) hy
          go_wp2
          go_roundg (gk - 1)
          case measure => omega
          case rel => exact ⟨4, by omega, rfl, KEY.out _ _ rfl (by rw [e])⟩
      · have e := kp_lo hx
        go_wp2
        go_roundg (gk - 1)
        case measure => omega
        case rel => exact ⟨4, by omega, rfl, KEY.out _ _ rfl (by rw [e])⟩
    · have c0 : wr.cell? ⟨w.heap.size, 0, none⟩ = some (.int .i64 (kp a)) := obj_cell H.out 0
      have c1 : wr.cell? ⟨w.heap.size, 1, none⟩ = some (.int .i64 (kp b)) := obj_cell H.out 1
      have c2 : wr.cell? ⟨w.heap.size, 2, none⟩ = some (.int .i64 (kp c)) := obj_cell H.out 2
      have c3 : wr.cell? ⟨w.heap.size, 3, none⟩ = some (.int .i64 (kp d)) := obj_cell H.out 3
      have d0 : wr.cell? ⟨w.heap.size + 1, 0, none⟩ = some (.int .i64 0) := obj_cell H1.out 0
      have d1 : wr.cell? ⟨w.heap.size + 1, 1, none⟩ = some (.int .i64 0) := obj_cell H1.out 1
      have d2 : wr.cell? ⟨w.heap.size + 1, 2, none⟩ = some (.int .i64 0) := obj_cell H1.out 2
      have d3 : wr.cell? ⟨w.heap.size + 1, 3, none⟩ = some (.int .i64 0) := obj_cell H1.out 3
      have f0 := obj_free H1.out 0
      have f1 := obj_free H1.out 1
      have f2 := obj_free H1.out 2
      have f3 := obj_free H1.out 3
      go_wp2
      refine bodyPost_ret (v := .agg #[.int .i64 (kp a), .int .i64 (kp b), .int .i64 (kp c), .int .i64 (kp d)]) (by simp [results, Try.results19, go_sem, d0, d1, d2, d3]) rfl ⟨rfl, ?_⟩
      have hle : w.heap.size ≤ w.heap.size + 1 := by omega
      exact (((F.out.setNew _ hle _).setNew _ hle _).setNew _ hle _).setNew _ hle _

end Go.Proofs.Ytdlbihndghofcaa
