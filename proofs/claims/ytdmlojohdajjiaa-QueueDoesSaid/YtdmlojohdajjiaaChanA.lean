/- The queue: a channel with a buffer, sent to and received from without waiting. -/
import Derived.Test.YtdmlojohdajjiaaRows
import Derived.Test.YtdmlojohdajjiaaBase
import Derived.Outline
import Derived.Conc.LoneCalls
import Derived.Conc.LoneSelectN
import Derived.Deep.QuietTactic
import Derived.BigQuiet
import Derived.Lib.Hide
import Derived.WalkSpells
import Derived.WalkLawsBesides
import Derived.Deep.RegionWith
import Derived.Deep.RegionHeld3
namespace Go.Proofs.Ytdmlojohdajjiaa
open Go.Conc Go.RowKit

/-- A pick, as a value. -/
abbrev Pk := Int × Int
def pv (x : Pk) : Value := .agg #[.int .i64 x.1, .int .i64 x.2]

/-- Block p is a queue over channel c, with so much room; s were sent, r received; xs wait. -/
def QC (w : World) (p c room : Nat) (xs : List Pk) : Prop :=
  w.heap[p]? = some (.cells #[.chan (some c)] 54 (0, 0)) ∧ ∃ s r, w.heap[c]? = some (.chan room (xs.map pv).toArray false s r false)

theorem res_send (c : Nat) (v z : Value) : commResult #[scase c v z] .select ((0 : Nat) : Int) undef false = .tuple #[goInt 0, .bool false] := by
  simp [commResult, scase, List.zipIdx_cons]

theorem res_send_no (c : Nat) (v z : Value) : commResult #[scase c v z] .select (-1) undef false = .tuple #[goInt (-1), .bool false] := by
  simp [commResult, scase, List.zipIdx_cons]
theorem res_recv (c : Nat) (v z : Value) (ok : Bool) : commResult #[rcase c z] .select ((0 : Nat) : Int) v ok = .tuple #[goInt 0, .bool ok, v] := by
  simp [commResult, rcase, List.zipIdx_cons]
theorem res_recv_no (c : Nat) (z : Value) : commResult #[rcase c z] .select (-1) undef false = .tuple #[goInt (-1), .bool false, z] := by
  simp [commResult, rcase, List.zipIdx_cons]

theorem Fr.setChan {S : Nat → Prop} {a w : World} (h : Fr S a w) (c : Nat) (hc : c < a.heap.size → S c) (cap : Nat) (buf : Array Value) (cl : Bool) (s r : Nat) (tm : Bool) : Fr S a (w.setChan c cap buf cl s r tm) :=
  ⟨h.os, h.tape, h.output, by simpa [World.setChan] using h.size, fun k hk hn => by
    simp only [World.setChan]
    rw [Array.getElem?_setIfInBounds_ne (fun e => hn (by subst e; exact hc hk))]
    exact h.block k hk hn⟩

theorem QC.ne {w : World} {p c room : Nat} {xs : List Pk} (h : QC w p c room xs) : p ≠ c := fun e => by
  obtain ⟨h1, s, r, h2⟩ := h
  rw [e, h2] at h1
  cases h1
theorem QC.set {w : World} {p c room : Nat} {xs ys : List Pk} (h : QC w p c room xs) (s r : Nat) : QC (w.setChan c room (ys.map pv).toArray false s r false) p c room ys := by
  have hne := h.ne
  obtain ⟨h1, s0, r0, h2⟩ := h
  refine ⟨?_, s, r, heap_setChan w c room _ false s r false (obj_lt h2)⟩
  simp only [World.setChan]
  rw [Array.getElem?_setIfInBounds_ne (fun e => hne e.symm)]
  exact h1
theorem QC.fr {S : Nat → Prop} {w w' : World} {p c room : Nat} {xs : List Pk} (h : QC w p c room xs) (f : Fr S w w') (hp : ¬ S p) (hc : ¬ S c) : QC w' p c room xs := by
  obtain ⟨h1, s, r, h2⟩ := h
  exact ⟨f.heap_some h1 hp, s, r, f.heap_some h2 hc⟩

set_option maxRecDepth 100000 in
theorem push_room (p c room : Nat) (x : Pk) (xs : List Pk) (w : World) (h : QC w p c room xs) (hr : xs.length < room) :
    Calls Try.prog 8 #[.pointer (some ⟨p, 0, none⟩), .agg #[.int .i64 x.1, .int .i64 x.2]] w fun e w' => e = .returned (.bool true) ∧ QC w' p c room (xs ++ [x]) ∧ Fr (fun k => k = c) w w' := by
  obtain ⟨h1, s, r, h2⟩ := h
  have c0 : ∀ o, (w.alloc o).cell? ⟨p, 0, none⟩ = some (.chan (some c)) := fun o => obj_cell (obj_alloc h1 o) 0
  refine calls_of_loneTo fun cs => ?_
  have e : Frame.enter Try.prog 8 #[.pointer (some ⟨p, 0, none⟩), .agg #[.int .i64 x.1, .int .i64 x.2]] .normal = (base 8).at ⟨#[.pointer (some ⟨p, 0, none⟩), .agg #[.int .i64 x.1, .int .i64 x.2], undef, undef, undef, undef, undef, undef, undef, undef, undef, undef, undef, undef, undef], []⟩ [.code (Try.f8.body.getD .skip)] := by
    simp [Frame.enter, Frame.at, Try.func8, base, Try.f8]
  rw [e]
  refine LoneTo.goes (n := 60) ?_
  simp only [Try.f8, Option.getD_some]
  repeat (first | s_c stepG_seq | s_c stepG_region_end | s_reg | s_op | s_cond false | s_c stepG_skip)
  s_stop
  refine LoneTo.step (step_lone_sel_send_room (k := 0) (c := c) (v := pv x) (z := .agg #[.int .i64 0, .int .i64 0]) (cap := room) (buf := (xs.map pv).toArray) (s := s) (r := r) (tm := false)
    (stepG_comm (cases := #[scase c (pv x) (.agg #[.int .i64 0, .int .i64 0])]) (blocking := false) (shape := .select) (w' := w.alloc (.cells #[.int .i64 x.1, .int .i64 x.2] 35)) rfl rfl (by decide) (by simp [go_sem, execOp, scase, pv, Act.eval]))
    rfl (fun m c' hm hc' => ?_) (obj_alloc h2 _) (by simpa using hr)) ?_
  · rcases m with _ | m
    · exact absurd rfl hm
    · simp at hc'
  rw [Frame.finish_at, res_send]
  walk_nrm
  refine LoneTo.goes (n := 60) ?_
  repeat (first | s_c stepG_seq | s_c stepG_region_end | s_reg | s_op | s_c stepG_block | s_cond true | s_c stepG_skip | s_c stepG_ret')
  s_stop
  refine LoneTo.done ⟨.returned (.bool true), _, rfl, ⟨rfl, ?_, ?_⟩, rfl, rfl, rfl, rfl, _, Try.func8, by simp [results, Try.f8, Frame.at]⟩
  · have := QC.set (w := w.alloc (.cells #[.int .i64 x.1, .int .i64 x.2] 35)) (xs := xs) (ys := xs ++ [x]) ⟨obj_alloc h1 _, s, r, obj_alloc h2 _⟩ (s + 1) r
    simpa using this
  · exact Fr.setChan (S := fun k => k = c) ((Fr.refl _ w).alloc _) c (fun _ => rfl) _ _ _ _ _ _

set_option maxRecDepth 100000 in
theorem push_full (p c room : Nat) (x : Pk) (xs : List Pk) (w : World) (h : QC w p c room xs) (hr : room ≤ xs.length) :
    Calls Try.prog 8 #[.pointer (some ⟨p, 0, none⟩), .agg #[.int .i64 x.1, .int .i64 x.2]] w fun e w' => e = .returned (.bool false) ∧ Fr nob w w' := by
  obtain ⟨h1, s, r, h2⟩ := h
  have c0 : ∀ o, (w.alloc o).cell? ⟨p, 0, none⟩ = some (.chan (some c)) := fun o => obj_cell (obj_alloc h1 o) 0
  refine calls_of_loneTo fun cs => ?_
  have e : Frame.enter Try.prog 8 #[.pointer (some ⟨p, 0, none⟩), .agg #[.int .i64 x.1, .int .i64 x.2]] .normal = (base 8).at ⟨#[.pointer (some ⟨p, 0, none⟩), .agg #[.int .i64 x.1, .int .i64 x.2], undef, undef, undef, undef, undef, undef, undef, undef, undef, undef, undef, undef, undef], []⟩ [.code (Try.f8.body.getD .skip)] := by
    simp [Frame.enter, Frame.at, Try.func8, base, Try.f8]
  rw [e]
  refine LoneTo.goes (n := 60) ?_
  simp only [Try.f8, Option.getD_some]
  repeat (first | s_c stepG_seq | s_c stepG_region_end | s_reg | s_op | s_cond false | s_c stepG_skip)
  s_stop
  refine LoneTo.step (step_lone_sel_default
    (stepG_comm (cases := #[scase c (pv x) (.agg #[.int .i64 0, .int .i64 0])]) (blocking := false) (shape := .select) (w' := w.alloc (.cells #[.int .i64 x.1, .int .i64 x.2] 35)) rfl rfl (by decide) (by simp [go_sem, execOp, scase, pv, Act.eval]))
    (fun cc hcc => ?_)) ?_
  · simp only [List.mem_toArray, List.mem_cons, List.not_mem_nil, or_false] at hcc
    subst hcc
    exact noWay_send (obj_alloc h2 _) (by simpa using hr)
  rw [Frame.finish_at, res_send_no]
  walk_nrm
  refine LoneTo.goes (n := 60) ?_
  repeat (first | s_c stepG_seq | s_c stepG_region_end | s_reg | s_op | s_c stepG_block | s_cond false | s_c stepG_skip | s_c stepG_ret')
  s_stop
  refine LoneTo.done ⟨.returned (.bool false), _, rfl, ⟨rfl, ?_⟩, rfl, rfl, rfl, rfl, _, Try.func8, by simp [results, Try.f8, Frame.at]⟩
  exact (Fr.refl _ w).alloc _

set_option maxRecDepth 100000 in
theorem pop_none (p c room : Nat) (w : World) (h : QC w p c room []) :
    Calls Try.prog 11 #[.pointer (some ⟨p, 0, none⟩)] w fun e w' => e = .returned (.tuple #[.agg #[.int .i64 0, .int .i64 0], .bool false]) ∧ Fr nob w w' := by
  obtain ⟨h1, s, r, h2⟩ := h
  have c0 : ∀ o, (w.alloc o).cell? ⟨p, 0, none⟩ = some (.chan (some c)) := fun o => obj_cell (obj_alloc h1 o) 0
  refine calls_of_loneTo fun cs => ?_
  have e : Frame.enter Try.prog 11 #[.pointer (some ⟨p, 0, none⟩)] .normal = (base 11).at ⟨#[.pointer (some ⟨p, 0, none⟩), undef, undef, undef, undef, undef, undef, undef, undef, undef, undef, undef, undef, undef, undef, undef, undef, undef], []⟩ [.code (Try.f11.body.getD .skip)] := by
    simp [Frame.enter, Frame.at, Try.func11, base, Try.f11]
  rw [e]
  refine LoneTo.goes (n := 60) ?_
  simp only [Try.f11, Option.getD_some]
  repeat (first | s_c stepG_seq | s_c stepG_region_end | s_reg | s_op | s_cond false | s_c stepG_skip)
  s_stop
  refine LoneTo.step (step_lone_sel_default
    (stepG_comm (cases := #[rcase c (.agg #[.int .i64 0, .int .i64 0])]) (blocking := false) (shape := .select) (w' := w.alloc (.cells #[.int .i64 0, .int .i64 0] 35)) rfl rfl (by decide) (by simp [go_sem, execOp, rcase, Act.eval]))
    (fun cc hcc => ?_)) ?_
  · simp only [List.mem_toArray, List.mem_cons, List.not_mem_nil, or_false] at hcc
    subst hcc
    exact noWay_recv (obj_alloc h2 _)
  rw [Frame.finish_at, res_recv_no]
  walk_nrm
  refine LoneTo.goes (n := 60) ?_
  repeat (first | s_c stepG_seq | s_c stepG_region_end | s_reg | s_op | s_c stepG_block | s_cond false | s_c stepG_skip | s_c stepG_ret')
  s_stop
  refine LoneTo.done ⟨.returned (.tuple #[.agg #[.int .i64 0, .int .i64 0], .bool false]), _, rfl, ⟨rfl, ?_⟩, rfl, rfl, rfl, rfl, _, Try.func11, by simp [results, Try.results11, Frame.at, go_sem]⟩
  exact (Fr.refl _ w).alloc _

set_option maxRecDepth 100000 in
theorem pop_some (p c room : Nat) (x : Pk) (xs : List Pk) (w : World) (h : QC w p c room (x :: xs)) :
    Calls Try.prog 11 #[.pointer (some ⟨p, 0, none⟩)] w fun e w' => e = .returned (.tuple #[.agg #[.int .i64 x.1, .int .i64 x.2], .bool true]) ∧ QC w' p c room xs ∧ Fr (fun k => k = c) w w' := by
  obtain ⟨h1, s, r, h2⟩ := h
  have c0 : ∀ o, (w.alloc o).cell? ⟨p, 0, none⟩ = some (.chan (some c)) := fun o => obj_cell (obj_alloc h1 o) 0
  refine calls_of_loneTo fun cs => ?_
  have e : Frame.enter Try.prog 11 #[.pointer (some ⟨p, 0, none⟩)] .normal = (base 11).at ⟨#[.pointer (some ⟨p, 0, none⟩), undef, undef, undef, undef, undef, undef, undef, undef, undef, undef, undef, undef, undef, undef, undef, undef, undef], []⟩ [.code (Try.f11.body.getD .skip)] := by
    simp [Frame.enter, Frame.at, Try.func11, base, Try.f11]
  rw [e]
  refine LoneTo.goes (n := 60) ?_
  simp only [Try.f11, Option.getD_some]
  repeat (first | s_c stepG_seq | s_c stepG_region_end | s_reg | s_op | s_cond false | s_c stepG_skip)
  s_stop
  refine LoneTo.step (step_lone_sel_recv_buf (k := 0) (c := c) (z := .agg #[.int .i64 0, .int .i64 0]) (cap := room) (buf := ((x :: xs).map pv).toArray) (closed := false) (s := s) (r := r) (tm := false)
    (stepG_comm (cases := #[rcase c (.agg #[.int .i64 0, .int .i64 0])]) (blocking := false) (shape := .select) (w' := w.alloc (.cells #[.int .i64 0, .int .i64 0] 35)) rfl rfl (by decide) (by simp [go_sem, execOp, rcase, Act.eval]))
    rfl (fun m c' hm hc' => ?_) (obj_alloc h2 _) (by simp)) ?_
  · rcases m with _ | m
    · exact absurd rfl hm
    · simp at hc'
  have hg : ((x :: xs).map pv).toArray.getD 0 undef = .agg #[.int .i64 x.1, .int .i64 x.2] := rfl
  have hb : (((x :: xs).map pv).toArray.extract 1 ((x :: xs).map pv).toArray.size) = (xs.map pv).toArray := by simp [Array.ext_iff]
  rw [Frame.finish_at, res_recv, hg, hb]
  have hne := QC.ne (w := w) (xs := x :: xs) ⟨h1, s, r, h2⟩
  have hcl := obj_lt h2
  have hpl := obj_lt h1
  obtain ⟨W, hW⟩ : ∃ W : World, W = (w.alloc (.cells #[.int .i64 0, .int .i64 0] 35)).setChan c room (xs.map pv).toArray false s (r + 1) false := ⟨_, rfl⟩
  have q1 : W.heap[p]? = some (.cells #[.chan (some c)] 54 (0, 0)) := by
    rw [hW]; simp only [World.setChan]; rw [Array.getElem?_setIfInBounds_ne (fun e => hne e.symm)]; exact obj_alloc h1 _
  have q2 : W.heap[c]? = some (.chan room (xs.map pv).toArray false s (r + 1) false) := by rw [hW]; exact heap_setChan _ c room _ false s (r + 1) false (by simp; omega)
  have q3 : W.heap[w.heap.size]? = some (.cells #[.int .i64 0, .int .i64 0] 35 (0, 0)) := by
    rw [hW]; simp only [World.setChan]; rw [Array.getElem?_setIfInBounds_ne (by omega)]; exact obj_new rfl _
  have hF : Fr (fun k => k = c) w W := by rw [hW]; exact Fr.setChan (S := fun k => k = c) ((Fr.refl _ w).alloc _) c (fun _ => rfl) _ _ _ _ _ _
  have g0 : W.cell? ⟨w.heap.size, 0, none⟩ = some (.int .i64 0) := obj_cell q3 0
  have g1 : W.cell? ⟨w.heap.size, 1, none⟩ = some (.int .i64 0) := obj_cell q3 1
  have k0 := obj_free q3 0
  have k1 := obj_free q3 1
  rw [← hW]
  have HF := Lib.hid hF
  have Q1 := Lib.hid q1
  have Q2 := Lib.hid q2
  have Q3 := Lib.hid q3
  have hlt := obj_lt q3
  clear hW hF q1 q2 q3 c0 hg hb
  walk_nrm
  refine LoneTo.goes (n := 60) ?_
  repeat (first | s_c stepG_seq | s_c stepG_region_end | s_reg | s_op | s_c stepG_block | s_cond true | s_c stepG_skip | s_c stepG_ret')
  s_stop
  have r0 : (((W.setCell ⟨w.heap.size, 0, none⟩ (.int .i64 x.1)).setCell ⟨w.heap.size, 1, none⟩ (.int .i64 x.2)).alloc (.cells #[.int .i64 x.1, .int .i64 x.2] 35)).heap[w.heap.size]? = some (.cells #[.int .i64 x.1, .int .i64 x.2] 35 (0, 0)) := obj_alloc (obj_set (obj_set Q3.out 0 _) 1 _) _
  have R0 := obj_cell r0 0
  have R1 := obj_cell r0 1
  refine LoneTo.done ⟨.returned (.tuple #[.agg #[.int .i64 x.1, .int .i64 x.2], .bool true]), _, rfl, ⟨rfl, ?_, ?_⟩, rfl, rfl, rfl, rfl, _, Try.func11, by simp [results, Try.results11, Frame.at, go_sem, R0, R1]⟩
  · exact QC.fr (w := W) ⟨Q1.out, s, r + 1, Q2.out⟩ (S := fun k => k = w.heap.size) ((((Fr.refl _ W).setIn 0 _).setIn 1 _).alloc _) (by omega) (by omega)
  · exact ((HF.out.setNew _ (Nat.le_refl _) _).setNew _ (Nat.le_refl _) _).alloc _

theorem bytes35 : ∃ i, Try.prog.info? 35 = some i ∧ i.bytes = 16 := by
  have h : (Try.prog.info? 35).map (·.bytes) = some 16 := by kernel_rfl
  obtain ⟨i, hi, hb⟩ := Option.map_eq_some_iff.1 h
  exact ⟨i, hi, hb⟩
theorem mkc (n : Nat) (hn : n ≤ 256) (w : World) : (Instr.makeChan 52 (.int .i64 n)).run Try.prog w = .ok (.chan (some w.heap.size)) (w.alloc (.chan n #[] false 0 0 false)) := by
  obtain ⟨i, hi, hb⟩ := bytes35
  simpa using run_makeChan (P := Try.prog) (w := w) Try.underlying52 hi .i64 n (by omega) (by rw [hb]; omega)

set_option maxRecDepth 100000 in
theorem new_bad (room : Int) (w : World) (h : room < 1 ∨ 256 < room) : Calls Try.prog 7 #[.int .i64 room] w fun e w' => e = .returned (.tuple #[.pointer none, .int .i64 1]) ∧ w = w' := by
  by_cases h1 : room < 1
  · go_enter Try.func7, Try.ntmps7
    go_wp2
    go_ret2
    exact ⟨rfl, rfl⟩
  · have h2 : 256 < room := by omega
    go_enter Try.func7, Try.ntmps7
    go_wp2
    go_ret2
    exact ⟨rfl, rfl⟩

set_option maxRecDepth 100000 in
theorem new_ok (room : Nat) (w : World) (h : 1 ≤ room) (h' : room ≤ 256) : Calls Try.prog 7 #[.int .i64 room] w fun e w' => e = .returned (.tuple #[.pointer (some ⟨w.heap.size + 1, 0, none⟩), .int .i64 0]) ∧ QC w' (w.heap.size + 1) w.heap.size room [] ∧ Fr nob w w' := by
  have hmk := fun w => mkc room h' w
  go_enter Try.func7, Try.ntmps7
  go_wp2
  go_ret2
  refine ⟨rfl, ⟨obj_new (by simp) _, 0, 0, obj_alloc (obj_new rfl _) _⟩, ((Fr.refl nob w).alloc _).alloc _⟩

set_option maxRecDepth 100000 in
theorem len_any (p c room : Nat) (xs : List Pk) (w : World) (h : QC w p c room xs) : Calls Try.prog 16 #[.pointer (some ⟨p, 0, none⟩)] w fun e w' => e = .returned (.int .i64 xs.length) ∧ w = w' := by
  obtain ⟨h1, s, r, h2⟩ := h
  have c0 : w.cell? ⟨p, 0, none⟩ = some (.chan (some c)) := obj_cell h1 0
  have hlen := fun ty => run_len_chan (P := Try.prog) 52 ty Try.underlying52 h2
  simp only [List.size_toArray, List.length_map] at hlen
  clear h1 h2
  go_enter Try.func16, Try.ntmps16
  go_wp2
  go_ret
  exact ⟨rfl, rfl⟩

end Go.Proofs.Ytdmlojohdajjiaa
