/- QueueDoes: the calls that came in, and what holds between two rounds. -/
import Derived.Test.YtdmlojohdajjiaaRefD
namespace Go.Proofs.Ytdmlojohdajjiaa
open Go.ChangeShapes Go.WideShapes Go.ChangeAt Go.RowKit

/-- A slice of calls: element i's kind is K i, its picks are the slice S i. -/
def OpsAt (w : World) (a : Option Addr) (n cap : Nat) (K : Nat → Int) (S : Nat → Value) : Prop :=
  n ≤ cap ∧ cap ≤ maxLen ∧ (n = 0 ∨ ∃ b off, a = some ⟨b, off, none⟩ ∧ ∀ i, i < n → w.cell? ⟨b, off + i * 2, none⟩ = some (.int .u8 (K i)) ∧ w.cell? ⟨b, off + i * 2 + 1, none⟩ = some (S i) ∧ ∃ ps, RP w (S i) ps)

section
variable {H : Type} {enc : TypeId × Value → H} {W : World}
theorem rp_cells {fuel : Nat} {cs : List Value} {x : DataW H × List MemPlace} (h : DataW.trod enc Try.prog W 0 (fun _ => true) true fuel 31 cs = some x) : ∃ v ps, cs = [v] ∧ RP W v ps := by
  have key : ∀ a len cap, cs = [.slice a len cap] → ∃ v ps, cs = [v] ∧ RP W v ps := by
    rintro a len cap rfl
    have h' : DataW.Trod enc Try.prog W 0 (fun _ => true) true 31 (.slice a len cap) x.1 x.2 := ⟨fuel, h⟩
    obtain ⟨X, hX⟩ := nums_of_structs (ks := [.i64, .i64]) Try.underlying31 Try.underlying35 (by kernel_rfl) rfl (by decide) (by
      intro j k hk
      rcases j with _ | _ | j
      · simp at hk
        subst hk
        exact ⟨_, rfl, rfl, by kernel_rfl, Try.underlying3⟩
      · simp at hk
        subst hk
        exact ⟨_, rfl, rfl, by kernel_rfl, Try.underlying3⟩
      · simp at hk) h'
    obtain ⟨b, off, ps, hl, h1, h2, h3⟩ := hX.picks
    exact ⟨_, ps, rfl, a, b, off, cap, by rw [hl], by omega, h2, h3⟩
  rcases Go.Deep.open_slice Try.underlying31 h with ⟨hcs, _⟩ | ⟨a, len, cap, _, _, _, _, hcs, _⟩
  · exact key _ _ _ hcs
  · exact key _ _ _ hcs

theorem ops_open {a : Option Addr} {len cap : Nat} {d : DataW H} {p : List MemPlace} (h : DataW.Trod enc Try.prog W 0 (fun _ => true) true 22 (.slice a len cap) d p) : ∃ K S, OpsAt W a len cap K S := by
  obtain ⟨fuel, hf⟩ := h
  rcases Go.Deep.open_slice Try.underlying22 hf with ⟨hcs, _⟩ | ⟨x, l, c, m, n, D, Pl, hcs, _, hl, hm, hmm, _, hx⟩
  · simp [Value.cells] at hcs
    obtain ⟨rfl, rfl, rfl⟩ := hcs
    exact ⟨fun _ => 0, fun _ => undef, Nat.le_refl _, by simp [maxLen], .inl rfl⟩
  · simp [Value.cells] at hcs
    obtain ⟨rfl, rfl, rfl⟩ := hcs
    by_cases h0 : len = 0
    · exact ⟨fun _ => 0, fun _ => undef, hl, hm, .inl h0⟩
    have hlm : len ≤ m := by rw [hmm]; split <;> omega
    have each : ∀ i, i < m → ∃ Y : Int × Value, W.cell? (x.add (i * 2)) = some (.int .u8 Y.1) ∧ W.cell? (x.add (i * 2 + 1)) = some Y.2 ∧ ∃ ps, RP W Y.2 ps := by
      intro i hi
      obtain ⟨cs', h1, h2⟩ := hx i hi
      rw [show Try.prog.cellsOf 33 = 2 by kernel_rfl] at h1
      obtain ⟨_, hlen, hcell⟩ := World.cells?_some h1
      obtain ⟨y0, y1, n', _, hcl, g0, g1⟩ := trod_struct2 Try.underlying33 h2
      match cs', hlen with
      | [u0, u1], _ =>
        have e0 := hcell 0 (by omega)
        have e1 := hcell 1 (by omega)
        rw [Go.Deep.add_add] at e0 e1
        obtain ⟨y, hy, _, hw⟩ := DataW.trod_int Try.underlying5 g0
        have c1 : Try.prog.cellsOf 31 = 1 := by kernel_rfl
        obtain ⟨v, ps, hv, hp⟩ := rp_cells g1
        simp [c1] at hv
        subst hv
        have c0 : Try.prog.cellsOf 5 = 1 := by kernel_rfl
        simp [c0] at hy
        subst hy
        exact ⟨(y, _), by simpa using e0, by simpa using e1, ps, hp⟩
    obtain ⟨Y, hY⟩ := Go.Deep.choose_lt each
    have hc0 := (hY 0 (by omega)).1
    rw [Nat.zero_mul] at hc0
    obtain ⟨b, off, rfl⟩ := addr_plain hc0 (by rw [hc0]; simp)
    refine ⟨fun i => (Y i).1, fun i => (Y i).2, hl, hm, .inr ⟨b, off, rfl, fun i hi => ?_⟩⟩
    have := hY i (by omega)
    rw [Addr.add_lit, Addr.add_lit] at this
    exact ⟨this.1, by rw [Nat.add_assoc]; exact this.2.1, this.2.2⟩
end

/-! ### the queue's own calls, in one piece each -/
theorem push_any (p c room : Nat) (x : Pk) (xs ys : List Pk) (hy : pushed room x xs = ys) (w : World) (h : QC w p c room xs) :
    Calls Try.prog 8 #[.pointer (some ⟨p, 0, none⟩), .agg #[.int .i64 x.1, .int .i64 x.2]] w fun e w' => e = .returned (.bool (decide ((xs.length : Int) < (room : Int)))) ∧ QC w' p c room ys ∧ Fr (fun k => k = c) w w' := by
  subst hy
  unfold pushed
  by_cases hm : (xs.length : Int) < (room : Int)
  · rw [if_pos hm, decide_eq_true hm]
    exact push_room p c room x xs w h (by omega)
  · rw [if_neg hm, decide_eq_false hm]
    refine (push_full p c room x xs w h (by omega)).mono ?_
    rintro e w' ⟨rfl, f⟩
    exact ⟨rfl, h.fr f (fun x => x) (fun x => x), f.mono (fun _ _ x => x.elim)⟩
theorem pop_any (p c room : Nat) (xs : List Pk) (x : Pk) (is : Bool) (ys : List Pk) (hx : xs.head?.getD (0, 0) = x) (hi : (!xs.isEmpty) = is) (hy : xs.tail = ys) (w : World) (h : QC w p c room xs) :
    Calls Try.prog 11 #[.pointer (some ⟨p, 0, none⟩)] w fun e w' => e = .returned (.tuple #[.agg #[.int .i64 x.1, .int .i64 x.2], .bool is]) ∧ QC w' p c room ys ∧ Fr (fun k => k = c) w w' := by
  subst hx hi hy
  cases xs with
  | nil =>
    refine (pop_none p c room w h).mono ?_
    rintro e w' ⟨rfl, f⟩
    exact ⟨rfl, h.fr f (fun x => x) (fun x => x), f.mono (fun _ _ x => x.elim)⟩
  | cons y ys => exact pop_some p c room y ys w h
theorem rpop_as (room : Int) (v : Value) (xs : List Pk) (x : Pk) (is : Bool) (ys : List Pk) (hx : xs.head?.getD (0, 0) = x) (hi : (!xs.isEmpty) = is) (hy : xs.tail = ys) (w : World) (h : RP w v xs) (hb : xs.length ≤ 1000) :
    Calls Try.prog 12 #[.agg #[.int .i64 room, v]] w fun e w' => ∃ v', e = .returned (.tuple #[.agg #[.int .i64 room, v'], .agg #[.int .i64 x.1, .int .i64 x.2], .bool is]) ∧ RP w' v' ys ∧ Fr nob w w' := by
  subst hx hi hy
  exact rpop_any room v xs w h hb

/-- Between two calls: the queue lies in block c + 1, over channel c; the reference's in the variable at block q; both hold xs. -/
structure DI (w wr : World) (c q room : Nat) (xs : List Pk) (vr : Value) : Prop where
  s : QC wr (c + 1) c room xs
  r : RV wr q room vr xs
  lo : w.heap.size ≤ c
  lq : c + 1 < q
  fr : Fr nob w wr
theorem DI.keep {w wr w1 : World} {c q room : Nat} {xs : List Pk} {vr : Value} (h : DI w wr c q room xs vr) (f : Fr nob wr w1) : DI w w1 c q room xs vr :=
  ⟨h.s.fr f (fun x => x) (fun x => x), h.r.fr f, h.lo, h.lq, h.fr.trans f (fun _ _ x => x) (fun _ _ x => x)⟩
/-- The program's half is done. -/
structure DH (w wr : World) (c q room : Nat) (xs ys : List Pk) (vr : Value) : Prop where
  s : QC wr (c + 1) c room ys
  r : RV wr q room vr xs
  lo : w.heap.size ≤ c
  lq : c + 1 < q
  fr : Fr nob w wr
theorem DI.half {w wr w1 : World} {c q room : Nat} {xs ys : List Pk} {vr : Value} (h : DI w wr c q room xs vr) (hq : QC w1 (c + 1) c room ys) (f : Fr (fun k => k = c) wr w1) : DH w w1 c q room xs ys vr :=
  ⟨hq, h.r.frc h.s f, h.lo, h.lq, h.fr.keep f fun _ hi => hi ▸ h.lo⟩
theorem DH.keep {w wr w1 : World} {c q room : Nat} {xs ys : List Pk} {vr : Value} (h : DH w wr c q room xs ys vr) (f : Fr nob wr w1) : DH w w1 c q room xs ys vr :=
  ⟨h.s.fr f (fun x => x) (fun x => x), h.r.fr f, h.lo, h.lq, h.fr.trans f (fun _ _ x => x) (fun _ _ x => x)⟩
theorem DH.done {w wr : World} {c q room : Nat} {xs ys : List Pk} {vr v' : Value} (h : DH w wr c q room xs ys vr) (hr : RP wr v' ys) : DI w ((wr.setCell ⟨q, 0, none⟩ (.int .i64 room)).setCell ⟨q, 1, none⟩ v') c q room ys v' := by
  have f : Fr (fun k => k = q) wr ((wr.setCell ⟨q, 0, none⟩ (.int .i64 room)).setCell ⟨q, 1, none⟩ v') := ((Fr.refl _ wr).setIn 0 _).setIn 1 _
  have := h.lq
  have := h.lo
  exact ⟨h.s.fr f (by omega) (by omega), h.r.set hr, h.lo, h.lq, h.fr.keep f fun i hi => by omega⟩

end Go.Proofs.Ytdmlojohdajjiaa
