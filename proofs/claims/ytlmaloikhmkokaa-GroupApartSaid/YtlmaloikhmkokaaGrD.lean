/- Transactions in memory: rows that the call owns, each with its own row of events; and rows that are read. -/
import Derived.Test.YtlmaloikhmkokaaLaw
import Derived.Test.YtlmaloikhmkokaaGrC
import Derived.Lib.OwnKind
import Derived.OneCell
namespace Go.Proofs.Ytlmaloikhmkokaa
open Go.RowKit

def Tx.cells (x : Tx × Value) : List Value := [.int .i64 x.1.s, .bool x.1.d, .int .i64 x.1.f, x.2]
def tc (L : List (Tx × Value)) : List Value := L.flatMap Tx.cells
theorem tc_app (L M : List (Tx × Value)) : tc (L ++ M) = tc L ++ tc M := by simp [tc]

/-- Transactions that the call owns. -/
structure TO (w : World) (B : Nat) (te : TypeId) (v : Value) (L : List (Tx × Value)) : Prop where
  row : w.ownsRow B te 4 v L.length (tc L)
  ops : ∀ (j : Nat) (x : Tx × Value), L[j]? = some x → w.ownsRow B 44 4 x.2 x.1.o.length (ec x.1.o)
  apart : ∀ (i j : Nat) (x y : Tx × Value) (g : Nat), i ≠ j → L[i]? = some x → L[j]? = some y → x.2.ownBlock = some g → ¬ y.2.ownBlock = some g

theorem own_kind {w : World} {B : Nat} {e : TypeId} {size : Nat} {v : Value} {n : Nat} {xs : List Value} (h : w.ownsRow B e size v n xs) {g : Nat} (hg : v.ownBlock = some g) : B ≤ g ∧ ∃ c, w.heap[g]? = some (.cells c e (0, 0)) := by
  rcases h.2 with ⟨rfl, h0⟩ | ⟨g', cap, cur, rfl, hb, hg', hn, hc, hs, ht⟩
  · cases hg
  · obtain rfl : g' = g := by simpa [Value.ownBlock] using hg
    exact ⟨hb, _, hg'⟩
theorem own_lt {w : World} {B : Nat} {e : TypeId} {size : Nat} {v : Value} {n : Nat} {xs : List Value} (h : w.ownsRow B e size v n xs) {g : Nat} (hg : v.ownBlock = some g) : g < w.heap.size := by
  obtain ⟨_, c, hc⟩ := own_kind h hg
  exact obj_lt hc
/-- Two rows of different kinds lie apart. -/
theorem own_ne {w : World} {B B' : Nat} {e e' : TypeId} {size size' : Nat} {v v' : Value} {n n' : Nat} {xs xs' : List Value} (h : w.ownsRow B e size v n xs) (h' : w.ownsRow B' e' size' v' n' xs') (he : e ≠ e') {g : Nat} (hg : v.ownBlock = some g) : ¬ v'.ownBlock = some g := fun hg' => by
  obtain ⟨_, c, hc⟩ := own_kind h hg
  obtain ⟨_, c', hc'⟩ := own_kind h' hg'
  rw [hc] at hc'
  simp only [Option.some.injEq, Obj.cells.injEq] at hc'
  exact he hc'.2.1

/-- A turn of a set of blocks that holds none of ours. -/
theorem TO.fr {w w' : World} {B : Nat} {te : TypeId} {v : Value} {L : List (Tx × Value)} {S : Nat → Prop} (h : TO w B te v L) (f : Fr S w w') (h1 : ∀ k, v.ownBlock = some k → ¬ S k) (h2 : ∀ (j : Nat) (x : Tx × Value) (k : Nat), L[j]? = some x → x.2.ownBlock = some k → ¬ S k) : TO w' B te v L :=
  ⟨f.owns h.row h1, fun j x hx => f.owns (h.ops j x hx) (fun k hk => h2 j x k hx hk), h.apart⟩
theorem TO.keep {w w' : World} {B : Nat} {te : TypeId} {v : Value} {L : List (Tx × Value)} (h : TO w B te v L) (f : Fr nob w w') : TO w' B te v L := h.fr f (fun _ _ x => x) (fun _ _ _ _ _ x => x)
theorem fr_of_grownBy {W W' : World} {row : Option Nat} (h : W.grownBy W' row) : Fr (fun k => row = some k) W W' :=
  ⟨h.os, h.tape, h.output, h.size, fun k hk hn => h.block k hk (fun e => hn e.symm)⟩
theorem TO.nil (w : World) (B : Nat) (te : TypeId) : TO w B te (.slice none 0 0) [] := ⟨World.ownsRow_nil _ _ _ _, by simp, by simp⟩
theorem TO.push {w w' : World} {B : Nat} {te : TypeId} {v v' : Value} {L : List (Tx × Value)} {t : Tx} (h : TO w B te v L) (hte : te ≠ 44) (ht : t.o = []) (ho : w'.ownsRow B te 4 v' (L.length + 1) (tc L ++ Tx.cells (t, .slice none 0 0))) (hg : w.grownBy w' v.ownBlock) :
    TO w' B te v' (L ++ [(t, .slice none 0 0)]) := by
  have f := fr_of_grownBy hg
  refine ⟨by rw [tc_app, List.length_append]; simpa [tc] using ho, fun j x hx => ?_, fun i j x y g hij hx hy hxg hyg => ?_⟩
  · rcases Nat.lt_or_ge j L.length with hj | hj
    · rw [List.getElem?_append_left hj] at hx
      exact f.owns (h.ops j x hx) (fun k hk e => own_ne h.row (h.ops j x hx) hte e hk)
    · rw [List.getElem?_append_right hj] at hx
      have : j - L.length = 0 := by
        rcases Nat.eq_zero_or_pos (j - L.length) with h | h
        · exact h
        · rw [List.getElem?_eq_none (by simp; omega)] at hx; cases hx
      rw [this] at hx
      simp at hx
      subst hx
      simp only [ht]
      exact World.ownsRow_nil _ _ _ _
  · have key : ∀ (j : Nat) (x : Tx × Value) (g : Nat), (L ++ [(t, Value.slice none 0 0)])[j]? = some x → x.2.ownBlock = some g → L[j]? = some x := fun j x g hx hg => by
      rcases Nat.lt_or_ge j L.length with hj | hj
      · rwa [List.getElem?_append_left hj] at hx
      · rw [List.getElem?_append_right hj] at hx
        have : j - L.length = 0 := by
          rcases Nat.eq_zero_or_pos (j - L.length) with h | h
          · exact h
          · rw [List.getElem?_eq_none (by simp; omega)] at hx; cases hx
        rw [this] at hx
        simp at hx
        subst hx
        cases hg
    exact h.apart i j x y g hij (key i x g hx hxg) (key j y g hy hyg) hxg hyg

theorem TO.at {w : World} {B : Nat} {te : TypeId} {v : Value} {L : List (Tx × Value)} (h : TO w B te v L) {k : Nat} {x : Tx × Value} (hx : L[k]? = some x) :
    ∃ g cap, v = .slice (some ⟨g, 0, none⟩) L.length cap ∧ (∀ i u, i < 4 → (Tx.cells x)[i]? = some u → w.cell? ⟨g, k * 4 + i, none⟩ = some u) ∧ (∀ i, w.frozen? ⟨g, i, none⟩ = false) ∧ B ≤ g ∧ ∃ c, w.heap[g]? = some (.cells c te (0, 0)) := by
  have hk := (List.getElem?_eq_some_iff.1 hx).1
  rcases h.row.2 with ⟨rfl, h0⟩ | ⟨g, cap, cur, rfl, hb, hg, hn, hc, hs, ht⟩
  · omega
  · refine ⟨g, cap, rfl, fun i u hi hu => ?_, fun i => obj_free hg i, hb, _, hg⟩
    have c1 := h.row.cells (g := g) rfl (k * 4 + i) u (by rw [tc, flat4 Tx.cells (fun _ => rfl) L k i x hx hi]; exact hu)
    rw [Addr.add_lit, Nat.zero_add] at c1
    exact c1

theorem tc_set1 (b : Bool) : ∀ (L : List (Tx × Value)) (k : Nat) (t : Tx) (sv : Value), L[k]? = some (t, sv) → tc (L.set k ({ t with d := b }, sv)) = (tc L).set (k * 4 + 1) (.bool b)
  | x :: L, 0, t, sv, h => by simp at h; subst h; rfl
  | x :: L, k + 1, t, sv, h => by
    have ih := tc_set1 b L k t sv (by simpa using h)
    rw [show (k + 1) * 4 + 1 = (k * 4 + 1) + 4 from by omega]
    simp [tc, Tx.cells] at ih ⊢
    exact ih
theorem tc_set3 (o : List Ev) (sv' : Value) : ∀ (L : List (Tx × Value)) (k : Nat) (t : Tx) (sv : Value), L[k]? = some (t, sv) → tc (L.set k ({ t with o := o }, sv')) = (tc L).set (k * 4 + 3) sv'
  | x :: L, 0, t, sv, h => by simp at h; subst h; rfl
  | x :: L, k + 1, t, sv, h => by
    have ih := tc_set3 o sv' L k t sv (by simpa using h)
    rw [show (k + 1) * 4 + 3 = (k * 4 + 3) + 4 from by omega]
    simp [tc, Tx.cells] at ih ⊢
    exact ih
theorem set_get {α : Type} {L : List α} {k j : Nat} {a x : α} (h : (L.set k a)[j]? = some x) : (j = k ∧ x = a) ∨ (j ≠ k ∧ L[j]? = some x) := by
  by_cases e : k = j
  · subst e
    rw [List.getElem?_set_self'] at h
    cases hl : L[k]? with
    | none => rw [hl] at h; cases h
    | some y => rw [hl] at h; simp at h; exact .inl ⟨rfl, h.symm⟩
  · rw [List.getElem?_set_ne e] at h
    exact .inr ⟨fun x => e x.symm, h⟩

/-- Done or not. -/
theorem TO.setDone {w : World} {B : Nat} {te : TypeId} {g cap : Nat} {L : List (Tx × Value)} (h : TO w B te (.slice (some ⟨g, 0, none⟩) L.length cap) L) (hte : te ≠ 44) {k : Nat} {t : Tx} {sv : Value} (hx : L[k]? = some (t, sv)) (b : Bool) :
    TO (w.setCell ⟨g, k * 4 + 1, none⟩ (.bool b)) B te (.slice (some ⟨g, 0, none⟩) L.length cap) (L.set k ({ t with d := b }, sv)) := by
  obtain ⟨h1, h2⟩ := h.row.stored (k * 4 + 1) (.bool b)
  have f := fr_of_grownBy h2
  have key : ∀ (j : Nat) (x : Tx × Value), L[j]? = some x → (w.setCell ⟨g, k * 4 + 1, none⟩ (.bool b)).ownsRow B 44 4 x.2 x.1.o.length (ec x.1.o) := fun j x hj =>
    f.owns (h.ops j x hj) (fun q hq e => own_ne h.row (h.ops j x hj) hte (show _ = some q from e) hq)
  refine ⟨by rw [tc_set1 b L k t sv hx, List.length_set]; exact h1, fun j x hj => ?_, fun i j x y q hij hi hj => ?_⟩
  · rcases set_get hj with ⟨rfl, rfl⟩ | ⟨_, hj⟩
    · exact key _ (t, sv) hx
    · exact key j x hj
  · have back : ∀ (j : Nat) (x : Tx × Value), (L.set k ({ t with d := b }, sv))[j]? = some x → ∃ z, L[j]? = some z ∧ z.2 = x.2 := fun j x hj => by
      rcases set_get hj with ⟨rfl, rfl⟩ | ⟨_, hj⟩
      · exact ⟨_, hx, rfl⟩
      · exact ⟨_, hj, rfl⟩
    obtain ⟨x', hx', ex⟩ := back i x hi
    obtain ⟨y', hy', ey⟩ := back j y hj
    rw [← ex, ← ey]
    exact h.apart i j x' y' q hij hx' hy'

/-- One operation more. -/
theorem TO.addOp {w W : World} {B : Nat} {te : TypeId} {g cap : Nat} {L : List (Tx × Value)} (h : TO w B te (.slice (some ⟨g, 0, none⟩) L.length cap) L) (hte : te ≠ 44) {k : Nat} {t : Tx} {sv sv' : Value} {e : Ev} (hx : L[k]? = some (t, sv))
    (ho : W.ownsRow B 44 4 sv' (t.o.length + 1) (ec (t.o ++ [e]))) (hg : w.grownBy W sv.ownBlock) (hd : sv'.ownBlock = sv.ownBlock ∨ ∀ q, sv'.ownBlock = some q → w.heap.size ≤ q) :
    TO (W.setCell ⟨g, k * 4 + 3, none⟩ sv') B te (.slice (some ⟨g, 0, none⟩) L.length cap) (L.set k ({ t with o := t.o ++ [e] }, sv')) := by
  have f := fr_of_grownBy hg
  have hrow : W.ownsRow B te 4 (.slice (some ⟨g, 0, none⟩) L.length cap) L.length (tc L) := f.owns h.row (fun q hq e => own_ne h.row (h.ops k _ hx) hte hq e)
  obtain ⟨h1, h2⟩ := hrow.stored (k * 4 + 3) sv'
  have f2 := fr_of_grownBy h2
  have key : ∀ (j : Nat) (x : Tx × Value), j ≠ k → L[j]? = some x → W.ownsRow B 44 4 x.2 x.1.o.length (ec x.1.o) := fun j x hjk hj =>
    f.owns (h.ops j x hj) (fun q hq e => h.apart k j _ x q (fun x => hjk x.symm) hx hj e hq)
  refine ⟨by rw [tc_set3 _ sv' L k t sv hx, List.length_set]; exact h1, fun j x hj => ?_, fun i j x y q hij hi hj hxq hyq => ?_⟩
  · rcases set_get hj with ⟨rfl, rfl⟩ | ⟨hjk, hj⟩
    · simp only [List.length_append, List.length_singleton]
      exact f2.owns ho (fun q hq e => own_ne hrow ho hte (show _ = some q from e) hq)
    · exact f2.owns (key j x hjk hj) (fun q hq e => own_ne hrow (key j x hjk hj) hte (show _ = some q from e) hq)
  · rcases set_get hi with ⟨rfl, rfl⟩ | ⟨hik, hi'⟩
    · rcases set_get hj with ⟨rfl, rfl⟩ | ⟨hjk, hj⟩
      · exact hij rfl
      · rcases hd with hd | hd
        · exact h.apart i j _ y q hij hx hj (by rw [← hd]; exact hxq) hyq
        · have := hd q hxq
          have := own_lt (h.ops j y hj) hyq
          omega
    · rcases set_get hj with ⟨rfl, rfl⟩ | ⟨hjk, hj⟩
      · rcases hd with hd | hd
        · exact h.apart i j x _ q hij hi' hx hxq (by rw [← hd]; exact hyq)
        · have := hd q hyq
          have := own_lt (h.ops i x hi') hxq
          omega
      · exact h.apart i j x y q hij hi' hj hxq hyq

/-- Transactions that lie in memory. -/
def TAt (w : World) (a : Option Addr) (b off : Nat) (ts : List Tx) : Prop :=
  (ts = [] ∨ a = some ⟨b, off, none⟩) ∧ ∀ j t, ts[j]? = some t → ∃ sv, w.cell? ⟨b, off + j * 4, none⟩ = some (.int .i64 t.s) ∧ w.cell? ⟨b, off + j * 4 + 1, none⟩ = some (.bool t.d) ∧ w.cell? ⟨b, off + j * 4 + 2, none⟩ = some (.int .i64 t.f) ∧ w.cell? ⟨b, off + j * 4 + 3, none⟩ = some sv ∧ RE w sv t.o
theorem TAt.nob {w w' : World} {a : Option Addr} {b off : Nat} {ts : List Tx} (h : TAt w a b off ts) (f : Fr nob w w') : TAt w' a b off ts :=
  ⟨h.1, fun j e hj => by
    obtain ⟨sv, h1, h2, h3, h4, h5⟩ := h.2 j e hj
    exact ⟨sv, f.cell_some h1 (fun x => x), f.cell_some h2 (fun x => x), f.cell_some h3 (fun x => x), f.cell_some h4 (fun x => x), h5.fr f⟩⟩
theorem TAt.addr {w : World} {a : Option Addr} {b off k : Nat} {ts : List Tx} {t : Tx} (h : TAt w a b off ts) (hx : ts[k]? = some t) : a = some ⟨b, off, none⟩ :=
  h.1.resolve_left (fun x => by rw [x] at hx; simp at hx)
def RT (w : World) (v : Value) (ts : List Tx) : Prop :=
  ∃ a b off cap, v = .slice a ts.length cap ∧ ts.length ≤ cap ∧ cap ≤ maxLen ∧ TAt w a b off ts
theorem RT.fr {w w' : World} {v : Value} {ts : List Tx} (h : RT w v ts) (f : Fr nob w w') : RT w' v ts := by
  obtain ⟨a, b, off, cap, h1, h2, h3, h4⟩ := h
  exact ⟨a, b, off, cap, h1, h2, h3, h4.nob f⟩
theorem RT.nil (w : World) : RT w (.slice none 0 0) [] := ⟨none, 0, 0, 0, rfl, Nat.le_refl _, by simp [maxLen], .inl rfl, by simp⟩
theorem TO.read {w : World} {B : Nat} {te : TypeId} {v : Value} {L : List (Tx × Value)} (h : TO w B te v L) : RT w v (L.map Prod.fst) := by
  rcases h.row.2 with ⟨rfl, h0⟩ | ⟨g, cap, cur, rfl, hb, hg, hn, hc, hs, ht⟩
  · have : L = [] := List.eq_nil_of_length_eq_zero h0
    subst this
    exact RT.nil w
  · refine ⟨_, g, 0, cap, by simp, by simpa using hn, hc, .inr rfl, fun j t hj => ?_⟩
    rw [List.getElem?_map, Option.map_eq_some_iff] at hj
    obtain ⟨x, hx, rfl⟩ := hj
    have key : ∀ i u, i < 4 → (Tx.cells x)[i]? = some u → w.cell? ⟨g, 0 + j * 4 + i, none⟩ = some u := fun i u hi hu => by
      have c1 := h.row.cells (g := g) rfl (j * 4 + i) u (by rw [tc, flat4 Tx.cells (fun _ => rfl) L j i x hx hi]; exact hu)
      rw [Addr.add_lit] at c1
      rw [Nat.add_assoc]
      exact c1
    exact ⟨x.2, by have := key 0 _ (by omega) rfl; simpa using this, key 1 _ (by omega) rfl, key 2 _ (by omega) rfl, key 3 _ (by omega) rfl, RE.of_owns rfl (h.ops j x hx)⟩

end Go.Proofs.Ytlmaloikhmkokaa
