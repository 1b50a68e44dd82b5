/- Picks in memory; what may be: Right, of the program and of the reference. -/
import Derived.Test.YtlppphhgbfehcaaRows
import Derived.Test.YtlppphhgbfehcaaLaw
import Derived.Test.YtlppphhgbfehcaaOpen
import Derived.Outline
import Derived.Deep.QuietTactic
import Derived.BigQuiet
import Derived.Lib.Hide
import Derived.WalkSpells
import Derived.WalkLawsBesides
import Derived.Deep.RegionWith
import Derived.Deep.RegionHeld3
import Derived.Deep.LoopGhost
import Derived.Deep.DeepCutAuto
import Derived.Deep.CutBlock
import Derived.Deep.RegionLaw
import Derived.IntWalk
namespace Go.Proofs.Ytlppphhgbfehcaa
open Go.RowKit

/-- A pick as a value. -/
def pv (x : Pk) : Value := .agg #[.int .i64 x.1, .int .i64 x.2]

/-- A slice of picks that lies in memory. -/
def PAt (w : World) (a : Option Addr) (b off : Nat) (ps : List Pk) : Prop :=
  (ps = [] ∨ a = some ⟨b, off, none⟩) ∧ ∀ j x, ps[j]? = some x → w.cell? ⟨b, off + j * 2, none⟩ = some (.int .i64 x.1) ∧ w.cell? ⟨b, off + j * 2 + 1, none⟩ = some (.int .i64 x.2)
theorem PAt.fr {S : Nat → Prop} {w w' : World} {a : Option Addr} {b off : Nat} {ps : List Pk} (h : PAt w a b off ps) (f : Fr S w w') (hn : ps ≠ [] → ¬ S b) : PAt w' a b off ps :=
  ⟨h.1, fun j x hj => by
    have hne : ps ≠ [] := fun e => by rw [e] at hj; simp at hj
    exact ⟨f.cell_some (h.2 j x hj).1 (hn hne), f.cell_some (h.2 j x hj).2 (hn hne)⟩⟩
theorem PAt.nob {w w' : World} {a : Option Addr} {b off : Nat} {ps : List Pk} (h : PAt w a b off ps) (f : Fr nob w w') : PAt w' a b off ps := h.fr f (fun _ x => x)
theorem PAt.addr {w : World} {a : Option Addr} {b off k : Nat} {ps : List Pk} {x : Pk} (h : PAt w a b off ps) (hx : ps[k]? = some x) : a = some ⟨b, off, none⟩ :=
  h.1.resolve_left (fun e => by rw [e] at hx; simp at hx)
/-- A slice of picks as a list. -/
theorem NumsAt.picks {w : World} {a : Option Addr} {len cap : Nat} {X : Nat → Nat → Int} (h : NumsAt w a len cap [.i64, .i64] X) :
    ∃ (b off : Nat) (ps : List Pk), ps.length = len ∧ len ≤ cap ∧ cap ≤ maxLen ∧ PAt w a b off ps := by
  obtain ⟨h1, h2, h3⟩ := h
  rcases h3 with rfl | ⟨b, off, rfl, _, h4⟩
  · exact ⟨0, 0, [], rfl, h1, h2, .inl rfl, by simp⟩
  · refine ⟨b, off, (List.range len).map fun i => (X i 0, X i 1), by simp, h1, h2, .inr rfl, fun j x hj => ?_⟩
    simp only [List.getElem?_map, Option.map_eq_some_iff] at hj
    obtain ⟨i, hi, rfl⟩ := hj
    obtain ⟨hj, hi'⟩ := List.getElem?_eq_some_iff.1 hi
    simp at hi' hj
    subst hi'
    exact ⟨(h4 j hj 0 .i64 rfl).1, (h4 j hj 1 .i64 rfl).1⟩

/-- The cells of picks in a row. -/
def cp : List Pk → List Value
  | [] => []
  | x :: xs => .int .i64 x.1 :: .int .i64 x.2 :: cp xs
theorem cp_len (xs : List Pk) : (cp xs).length = xs.length * 2 := by
  induction xs with
  | nil => rfl
  | cons x xs ih => simp [cp, ih]; omega
theorem cp_app (xs ys : List Pk) : cp (xs ++ ys) = cp xs ++ cp ys := by
  induction xs with
  | nil => rfl
  | cons x xs ih => simp [cp, ih]
theorem cp_one (xs : List Pk) : ∀ u ∈ cp xs, u.oneCell' = true := by
  induction xs with
  | nil => intro u hu; cases hu
  | cons x xs ih =>
    intro u hu
    simp only [cp, List.mem_cons] at hu
    rcases hu with rfl | rfl | hu
    · rfl
    · rfl
    · exact ih u hu
theorem cp_get (xs : List Pk) (j : Nat) (x : Pk) (h : xs[j]? = some x) : (cp xs)[j * 2]? = some (.int .i64 x.1) ∧ (cp xs)[j * 2 + 1]? = some (.int .i64 x.2) := by
  induction xs generalizing j with
  | nil => simp at h
  | cons y ys ih =>
    cases j with
    | zero => obtain rfl := Option.some.inj h; exact ⟨rfl, rfl⟩
    | succ j =>
      have := ih j (by simpa using h)
      rw [show (j + 1) * 2 = j * 2 + 1 + 1 by omega]
      exact ⟨this.1, this.2⟩

/-- A slice value that reads as these picks. -/
def RP (w : World) (v : Value) (xs : List Pk) : Prop :=
  ∃ a b off cap, v = .slice a xs.length cap ∧ xs.length ≤ cap ∧ cap ≤ maxLen ∧ PAt w a b off xs
theorem RP.fr {w w' : World} {v : Value} {xs : List Pk} (h : RP w v xs) (f : Fr nob w w') : RP w' v xs := by
  obtain ⟨a, b, off, cap, h1, h2, h3, h4⟩ := h
  exact ⟨a, b, off, cap, h1, h2, h3, h4.fr f (fun _ x => x)⟩
theorem RP.nil (w : World) : RP w (.slice none 0 0) [] := ⟨none, 0, 0, 0, rfl, Nat.le_refl _, by simp [maxLen], .inl rfl, by simp⟩
theorem RP.of_owns {w : World} {base : Nat} {e : TypeId} {v : Value} {n : Nat} {xs : List Pk} (hn : n = xs.length) (h : w.ownsRow base e 2 v n (cp xs)) : RP w v xs := by
  subst hn
  rcases h.2 with ⟨rfl, h0⟩ | ⟨g, cap, cur, rfl, hb, hg, hn, hc, hs, ht⟩
  · have : xs = [] := List.eq_nil_of_length_eq_zero h0
    subst this
    exact RP.nil w
  · refine ⟨_, g, 0, cap, rfl, hn, hc, .inr rfl, fun j x hj => ?_⟩
    have c := cp_get xs j x hj
    have c1 := h.cells (g := g) rfl _ _ c.1
    have c2 := h.cells (g := g) rfl _ _ c.2
    rw [Addr.add_lit] at c1 c2
    exact ⟨c1, c2⟩

/-- Picks that lie in a row can be appended. -/
theorem PAt.src {w : World} {a : Option Addr} {b off : Nat} {xs : List Pk} (h : PAt w a b off xs) : Src w a (cp xs) := by
  refine ⟨?_, cp_one xs⟩
  by_cases hx : xs = []
  · subst hx; exact .inl rfl
  · refine .inr ⟨_, h.1.resolve_left hx, ?_⟩
    have h2 := h.2
    clear h hx
    intro j u hu
    rw [Addr.add_lit]
    induction xs generalizing off j with
    | nil => simp [cp] at hu
    | cons x xs ih =>
      match j, hu with
      | 0, hu => obtain rfl := Option.some.inj hu; exact (h2 0 x rfl).1
      | 1, hu => obtain rfl := Option.some.inj hu; exact (h2 0 x rfl).2
      | j + 2, hu =>
        have := ih (off := off + 2) (j := j) (fun i y hy => by
          have := h2 (i + 1) y hy
          rw [show off + (i + 1) * 2 = off + 2 + i * 2 by omega] at this
          exact this) (by simpa [cp] using hu)
        rw [show off + (j + 2) = off + 2 + j by omega]
        exact this

theorem appPick : AppT Try.prog 22 36 2 16 := AppT.of Try.underlying22 (z := .agg #[.int .i64 0, .int .i64 0]) (by kernel_rfl) rfl (by decide)
theorem appP : AppT Try.prog 25 40 2 16 := AppT.of Try.underlying25 (z := .agg #[.int .i64 0, .int .i64 0]) (by kernel_rfl) rfl (by decide)
theorem appByte : AppT Try.prog 46 5 1 1 := AppT.of Try.underlying46 (z := .int .u8 0) (by kernel_rfl) rfl (by decide)

theorem ret_bool {a b : Bool} (h : a = b) : Ending.returned (.bool a) = .returned (.bool b) := by rw [h]

set_option maxRecDepth 100000 in
theorem right_any (x : Pk) (w : World) : Calls Try.prog 14 #[pv x] w fun e w' => e = .returned (.bool (rt x)) ∧ Fr nob w w' := by
  obtain ⟨a, b⟩ := x
  unfold pv
  by_cases h4 : a = 4
  · subst h4
    go_enter Try.func14, Try.ntmps14
    go_wp2
    go_ret
    exact ⟨ret_bool (by rw [Bool.eq_iff_iff]; simp [rt]), (Fr.refl nob w).alloc _⟩
  by_cases h5 : a = 5
  · subst h5
    go_enter Try.func14, Try.ntmps14
    go_wp2
    go_ret
    exact ⟨ret_bool (by rw [Bool.eq_iff_iff]; simp [rt]), (Fr.refl nob w).alloc _⟩
  have e4 : (a == 4) = false := by simpa using h4
  have e5 : (a == 5) = false := by simpa using h5
  by_cases h0 : 0 ≤ a
  · by_cases h3 : a < 4
    · by_cases h1 : 1 ≤ b
      · go_enter Try.func14, Try.ntmps14
        go_wp2
        go_ret
        exact ⟨ret_bool (by rw [Bool.eq_iff_iff]; simp [rt]; omega), (Fr.refl nob w).alloc _⟩
      · go_enter Try.func14, Try.ntmps14
        go_wp2
        go_ret
        exact ⟨ret_bool (by simp [rt]; omega), (Fr.refl nob w).alloc _⟩
    · go_enter Try.func14, Try.ntmps14
      go_wp2
      go_ret
      exact ⟨ret_bool (by simp [rt]; omega), (Fr.refl nob w).alloc _⟩
  · go_enter Try.func14, Try.ntmps14
    go_wp2
    go_ret
    exact ⟨ret_bool (by simp [rt]; omega), (Fr.refl nob w).alloc _⟩

set_option maxRecDepth 100000 in
theorem rright_any (x : Pk) (w : World) : Calls Try.prog 15 #[pv x] w fun e w' => e = .returned (.bool (rt x)) ∧ Fr nob w w' := by
  obtain ⟨a, b⟩ := x
  unfold pv
  by_cases h4 : a = 4
  · subst h4
    go_enter Try.func15, Try.ntmps15
    go_wp2
    go_ret
    exact ⟨ret_bool (by rw [Bool.eq_iff_iff]; simp [rt]), (Fr.refl nob w).alloc _⟩
  by_cases h5 : a = 5
  · subst h5
    go_enter Try.func15, Try.ntmps15
    go_wp2
    go_ret
    exact ⟨ret_bool (by rw [Bool.eq_iff_iff]; simp [rt]), (Fr.refl nob w).alloc _⟩
  have e4 : (a == 4) = false := by simpa using h4
  have e5 : (a == 5) = false := by simpa using h5
  by_cases h0 : 0 ≤ a
  · by_cases h3 : a ≤ 3
    · by_cases h1 : 1 ≤ b
      · go_enter Try.func15, Try.ntmps15
        go_wp2
        go_ret
        exact ⟨ret_bool (by rw [Bool.eq_iff_iff]; simp [rt]; omega), (Fr.refl nob w).alloc _⟩
      · go_enter Try.func15, Try.ntmps15
        go_wp2
        go_ret
        exact ⟨ret_bool (by simp [rt]; omega), (Fr.refl nob w).alloc _⟩
    · go_enter Try.func15, Try.ntmps15
      go_wp2
      go_ret
      exact ⟨ret_bool (by simp [rt]; omega), (Fr.refl nob w).alloc _⟩
  · go_enter Try.func15, Try.ntmps15
    go_wp2
    go_ret
    exact ⟨ret_bool (by simp [rt]; omega), (Fr.refl nob w).alloc _⟩

end Go.Proofs.Ytlppphhgbfehcaa
