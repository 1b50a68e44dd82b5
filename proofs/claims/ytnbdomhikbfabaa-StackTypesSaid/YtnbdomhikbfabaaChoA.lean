/- The stack of choices: what each of its functions does. -/
import Derived.Test.YtnbdomhikbfabaaAwk
namespace Go.Proofs.Ytnbdomhikbfabaa
open Go.RowKit

/-- A choice: three numbers; as cells. -/
abbrev Ch := Int × Int × Int
def cv (c : Ch) : List Value := [.int .i64 c.1, .int .i64 c.2.1, .int .i64 c.2.2]
def cl (xs : List Ch) : List Value := xs.flatMap cv
theorem cl_len (xs : List Ch) : (cl xs).length = xs.length * 3 := by
  induction xs with
  | nil => rfl
  | cons x xs ih => simp only [cl, List.flatMap_cons, List.length_append] at ih ⊢; rw [ih]; simp [cv]; omega
theorem cl_app (xs ys : List Ch) : cl (xs ++ ys) = cl xs ++ cl ys := by simp [cl]
theorem cl_one (x : Ch) : cl [x] = cv x := by simp [cl]
theorem cl_get {xs : List Ch} {j : Nat} {c : Ch} (h : xs[j]? = some c) : ∀ t, t < 3 → (cl xs)[j * 3 + t]? = (cv c)[t]? := by
  induction xs generalizing j with
  | nil => simp at h
  | cons x xs ih =>
    intro t ht
    cases j with
    | zero =>
      simp at h
      subst h
      simp only [cl, List.flatMap_cons, Nat.zero_mul, Nat.zero_add]
      rw [List.getElem?_append_left (by simp [cv]; omega)]
    | succ j =>
      have h' : xs[j]? = some c := by simpa using h
      have := ih h' t ht
      simp only [cl, List.flatMap_cons] at this ⊢
      rw [List.getElem?_append_right (by simp [cv]; omega)]
      rw [← this]
      congr 1
      simp [cv]
      omega
theorem cl_one' (xs : List Ch) : ∀ u ∈ cl xs, u.oneCell' = true := by
  intro u hu
  obtain ⟨c, _, hc⟩ := List.mem_flatMap.1 hu
  simp [cv] at hc
  rcases hc with rfl | rfl | rfl <;> rfl

/-- Block p is a stack of choices. -/
def TC (w : World) (p : Nat) (v : Value) (most : Int) (xs : List Ch) : Prop :=
  w.heap[p]? = some (.cells #[.int .i64 most, v] 60 (0, 0)) ∧ w.ownsRow (p + 1) 50 3 v xs.length (cl xs)

theorem TC.fr {S : Nat → Prop} {w w' : World} {p : Nat} {v : Value} {most : Int} {xs : List Ch} (h : TC w p v most xs) (f : Fr S w w') (hp : ¬ S p) (hv : ∀ k, v.ownBlock = some k → ¬ S k) : TC w' p v most xs :=
  ⟨f.heap_some h.1 hp, f.owns h.2 hv⟩
theorem TC.own_ne {w : World} {p : Nat} {v : Value} {most : Int} {xs : List Ch} (h : TC w p v most xs) : ∀ k, v.ownBlock = some k → p < k ∧ k < w.heap.size := fun k hk => by have := h.2.lt k hk; omega
theorem TC.lt {w : World} {p : Nat} {v : Value} {most : Int} {xs : List Ch} (h : TC w p v most xs) : p < w.heap.size := obj_lt h.1
theorem TC.above {w : World} {p : Nat} {v : Value} {most : Int} {xs : List Ch} (h : TC w p v most xs) : ∀ k, k = p ∨ v.ownBlock = some k → p ≤ k := fun k hk => by
  rcases hk with rfl | hk
  · exact Nat.le_refl _
  · exact Nat.le_of_lt (h.own_ne _ hk).1

/-- What owned choices read as. -/
theorem owns_choices {w : World} {base : Nat} {a : Option Addr} {n c : Nat} {xs : List Ch} (h : w.ownsRow base 50 3 (.slice a n c) n (cl xs)) : xs = [] ∨ ∃ g, a = some ⟨g, 0, none⟩ ∧ base ≤ g ∧ g < w.heap.size ∧ ∀ j x, xs[j]? = some x → ∀ t u, (cv x)[t]? = some u → w.cell? ⟨g, j * 3 + t, none⟩ = some u := by
  rcases h.2 with ⟨hv, h0⟩ | ⟨g, cap, cur, hv, hb, hg, hx⟩
  · left
    have := h.1
    rw [h0, cl_len] at this
    exact List.eq_nil_of_length_eq_zero (by omega)
  · cases hv
    refine .inr ⟨g, rfl, hb, obj_lt hg, fun j x hj t u hu => ?_⟩
    have ht : t < 3 := by have := (List.getElem?_eq_some_iff.1 hu).1; simpa [cv] using this
    have := h.cells (g := g) rfl (j * 3 + t) u (by rw [cl_get hj t ht]; exact hu)
    rw [Addr.add_lit, Nat.zero_add] at this
    exact this

theorem Try.info50 : (Try.prog.info? 50).map (fun i => (i.zero, i.size, i.bytes)) = some (some (.agg #[.int .i64 0, .int .i64 0, .int .i64 0]), 3, 24) := by kernel_rfl
theorem appCho : AppT Try.prog 46 50 3 24 := AppT.of Try.underlying46 Try.info50 rfl (by decide)

set_option maxRecDepth 100000 in
theorem newc_any (most : Int) (w : World) : Calls Try.prog 19 #[.int .i64 most] w fun e w' => e = .returned (.pointer (some ⟨w.heap.size, 0, none⟩)) ∧ w.alloc (.cells #[.int .i64 most, .slice none 0 0] 60) = w' := by
  go_enter Try.func19, Try.ntmps19
  go_wp2
  go_ret
  exact ⟨rfl, rfl⟩
theorem TC.new (most : Int) (w : World) : TC (w.alloc (.cells #[.int .i64 most, .slice none 0 0] 60)) w.heap.size (.slice none 0 0) most [] :=
  ⟨heap_new _ _, World.ownsRow_nil _ _ _ _⟩

set_option maxRecDepth 100000 in
theorem lenc_any (p : Nat) (v : Value) (most : Int) (xs : List Ch) (w : World) (h : TC w p v most xs) : Calls Try.prog 22 #[.pointer (some ⟨p, 0, none⟩)] w fun e w' => e = .returned (.int .i64 xs.length) ∧ w = w' := by
  obtain ⟨a, cap, rfl, -, -⟩ := owns_shape h.2
  have h1 : w.cell? ⟨p, 1, none⟩ = some (.slice a xs.length cap) := obj_cell h.1 1
  clear h
  go_enter Try.func22, Try.ntmps22
  go_wp2
  go_ret
  exact ⟨rfl, rfl⟩

set_option maxRecDepth 100000 in
theorem clonec_any (v : Value) (base : Nat) (xs : List Ch) (w : World) (h : w.ownsRow base 50 3 v xs.length (cl xs)) (hb : xs.length * 24 ≤ 140737488355328) :
    Calls Try.prog 27 #[v] w fun e w' => ∃ v', e = .returned v' ∧ w'.ownsRow w.heap.size 50 3 v' xs.length (cl xs) ∧ Fr nob w w' := by
  have hn := fun (w : World) (a : Option Addr) (n c : Nat) => Lib.run_eql_slice_nil (P := Try.prog) w 46 50 a n c 0 0 Try.underlying46
  rcases h.2 with ⟨rfl, h0⟩ | ⟨g, cap, cur, rfl, hbg, hg, hnc, hc, hs, ht⟩
  · have : xs = [] := List.eq_nil_of_length_eq_zero h0
    subst this
    clear h
    go_enter Try.func27, Try.ntmps27
    go_wp2
    go_ret
    exact ⟨_, rfl, World.ownsRow_nil _ _ _ _, Fr.refl _ _⟩
  · have H := Lib.hid h
    clear h hg hnc hc hs ht
    go_enter Try.func27, Try.ntmps27
    go_wp2_with (at_builtin; refine stop ?_)
    refine Stop.go (wpList_app rfl (.tmp 5) (.tmp 6) rfl appCho rfl (base := w.heap.size) (n := 0) (xs := []) (World.ownsRow_made w #[] 0 (Nat.le_refl _) (by simp [maxLen]) rfl) (m := xs.length) (news := cl xs) rfl (cl_len _) (Src.owned H.out ((Fr.refl nob w).alloc _) (fun _ _ x => x) (cl_one' _)) (by omega) (by simp only [maxLen]; omega) (by simp) ?_)
    intro v' w1 ho hg _
    have K := Lib.hid ho
    have F := Lib.hid (((Fr.refl nob w).alloc _).grown hg (fun k hk hl => by simp [Value.ownBlock, Act.eval] at hk; omega))
    clear ho hg
    go_wp2
    go_ret
    exact ⟨_, rfl, by simpa using K.out, F.out⟩

set_option maxRecDepth 100000 in
theorem allc_any (p : Nat) (v : Value) (most : Int) (xs : List Ch) (w : World) (h : TC w p v most xs) (hb : xs.length * 24 ≤ 140737488355328) :
    Calls Try.prog 21 #[.pointer (some ⟨p, 0, none⟩)] w fun e w' => ∃ v', e = .returned v' ∧ w'.ownsRow w.heap.size 50 3 v' xs.length (cl xs) ∧ Fr nob w w' := by
  obtain ⟨a, cap, rfl, -, -⟩ := owns_shape h.2
  have h1 : w.cell? ⟨p, 1, none⟩ = some (.slice a xs.length cap) := obj_cell h.1 1
  have H := Lib.hid h
  clear h
  go_enter Try.func21, Try.ntmps21
  go_wp2_with (go_at_call 27; refine stop ?_)
  refine Stop.go ((clonec_any _ _ xs w H.out.2 hb).mono ?_)
  rintro e w' ⟨v', rfl, ho, hf⟩
  have K := Lib.hid ho
  clear ho
  go_wp2
  go_ret
  exact ⟨_, rfl, K.out, hf⟩

end Go.Proofs.Ytnbdomhikbfabaa
