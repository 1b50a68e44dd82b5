/- A range over a number's bytes, as a statement; the marks at a function's return. -/
import Derived.Test.YtgjgonnlkponiaaPkG
namespace Go.Proofs.Ytgjgonnlkponiaa
open Go.RowKit

/-- The mark of a range over a function. -/
def mark (D : Nat) : Deferred := { target := .collected D, args := #[] }
def gpost (I : List Int → World → Prop) (xs : List Int) (Bn : Nat) (W : World) : Exit → Act → World → Prop
  | .normal, _, W' => KeepsOthers W W' ∧ W'.heap[Bn]? = W.heap[Bn]? ∧ I xs W'
  | _, _, _ => False

theorem wp_groups {g : Operand} {ps : Array Tmp} {assign body : Code} {Q : Exit → Act → World → Prop} {a : Act} {w : World} (m Bn : Nat) (hm : m ≤ 2147483648)
    (hg : a.eval g = .func (.func 17) #[] #[.pointer (some ⟨Bn, 0, none⟩)]) (hps : ps.size = 1) (hB : w.heap[Bn]? = some (.cells #[.int .i64 (m : Int)] 3 (0, 0)))
    (I : List Int → World → Prop) (hI : OwnFrom w.heap.size I)
    (hIB : ∀ pre W (u v : Int), I pre W → W.heap[Bn]? = some (.cells #[.int .i64 u] 3 (0, 0)) → I pre (W.setCell ⟨Bn, 0, none⟩ (.int .i64 v))) (h0 : I [] w) (a₁ : Int → Act)
    (hassign : ∀ (l : Nat) (x : Int) (W : World) (K : Act → World → Prop), K (a₁ x) W →
      assign.wpIn (Fence.wide.inRound l) 7 Try.prog (Exit.then K (fun _ _ _ => False)) { tmps := (ps.zip #[Value.int .u8 x]).foldl (fun t (p, v) => t.setIfInBounds p v) a.tmps, defers := [] } W)
    (hbody : ∀ (l : Nat) (pre : List Int) (x u : Int) (W : World), I pre W → W.heap[Bn]? = some (.cells #[.int .i64 u] 3 (0, 0)) → 0 ≤ x → x < 256 → pre.length ≤ 5 →
      body.wpIn (Fence.wide.inRound l) 7 Try.prog (gpost I (pre ++ [x]) Bn W) (a₁ x) W)
    (hdone : ∀ (D : Nat) (W : World), w.heap.size ≤ D → I (encI m) W → W.heap[D]? = some (.deferred (some [])) → Q .normal { a with defers := mark D :: a.defers } W) :
    (Code.rangeFunc g ps assign body).wp Try.prog Q a w := by
  refine (wpIn_wide (n := 9)).1 (wpIn_rangeFunc ?_)
  intro fn hfn
  have hBl : Bn < w.heap.size := obj_lt hB
  obtain ⟨rec, hrec⟩ : ∃ rec : LoopState → Option Code → Loop, rec = fun st pe => { state := st, pending := pe, fn, tmps := a.tmps, params := ps, assign, body, defers := w.heap.size } := ⟨_, rfl⟩
  obtain ⟨W1, hW1⟩ : ∃ W1, (w.alloc (.deferred (some []))).alloc (.loop (rec .ready none)) = W1 := ⟨_, rfl⟩
  have hL1 : W1.heap[w.heap.size + 1]? = some (.loop (rec .ready none)) := by
    rw [← hW1]; have := World.alloc_heap_new (w.alloc (.deferred (some []))) (.loop (rec .ready none)); rwa [World.size_alloc] at this
  have hK1 : W1.heap[w.heap.size]? = some (.deferred (some [])) := by
    rw [← hW1]; exact (Below.heap_alloc _ _ _ (by simp)).trans (World.alloc_heap_new w _)
  have hI1 : I [] W1 := by rw [← hW1]; exact hI.alloc _ (hI.alloc _ h0)
  have hB1 : W1.heap[Bn]? = some (.cells #[.int .i64 (m : Int)] 3 (0, 0)) := by rw [← hW1]; exact obj_alloc (obj_alloc hB _) _
  refine ⟨w.heap.size + 1, [{ target := .collected w.heap.size, args := #[] }], W1, { target := .fn (.func 17) #[.pointer (some ⟨Bn, 0, none⟩)], args := #[.func (.yield (w.heap.size + 1)) #[] #[]] }, W1, 17,
    #[.func (.yield (w.heap.size + 1)) #[] #[]] ++ #[.pointer (some ⟨Bn, 0, none⟩)], W1, ?_, ?_, ?_, ?_, fun _ => by decide, ?_⟩
  · rw [← hW1, hrec]; exact run_enterLoop_outer _ _ _ _ _
  · simp only [resolve, hg]
    simp [go_sem]
  · intro f' hf'; trivial
  · simp [invoke, go_sem]
  · refine (groups_seq 8 (w.heap.size + 1) Bn m hm
      (fun pre W => I pre W ∧ W.heap[w.heap.size + 1]? = some (.loop (rec .ready none)) ∧ W.heap[w.heap.size]? = some (.deferred (some [])))
      ?_ ?_ W1 hB1 ⟨hI1, hL1, hK1⟩).mono ?_
    · intro pre W u v ⟨hi, hl, hk⟩ hb
      refine ⟨hIB pre W u v hi hb, (Below.heap_setCell _ _ _ _ (by show w.heap.size + 1 ≠ Bn; omega)).trans hl, (Below.heap_setCell _ _ _ _ (by show w.heap.size ≠ Bn; omega)).trans hk⟩
    · -- one round
      rintro pre x u W ⟨hi, hl, hk⟩ hb hx0 hx1 hpl
      have hlt : w.heap.size + 1 < W.heap.size := (Array.getElem?_eq_some_iff.1 hl).1
      have hy := run_yield (P := Try.prog) (args := #[Value.int .u8 x]) hl (by rw [hrec]; exact hps.symm)
      rw [hrec] at hy
      refine ⟨fn, _, assign, body, hy, roundIn_of_wpIn hfn (hassign _ x W _ ⟨_, run_beginRound hl (by rw [hrec]), ?_⟩)⟩
      have hl2 : (W.putObj (w.heap.size + 1) (.loop { rec .ready none with state := .busy })).heap[w.heap.size + 1]? = some (.loop { rec .ready none with state := .busy }) := World.putObj_heap_same hlt
      have hk2 : (W.putObj (w.heap.size + 1) (.loop { rec .ready none with state := .busy })).heap[w.heap.size]? = some (.deferred (some [])) := (World.putObj_heap_other (by omega)).trans hk
      have hb2 : (W.putObj (w.heap.size + 1) (.loop { rec .ready none with state := .busy })).heap[Bn]? = some (.cells #[.int .i64 u] 3 (0, 0)) := (World.putObj_heap_other (by omega)).trans hb
      refine wpIn_mono (hbody _ pre x u _ (hI.putObj _ hi (by omega) hl rfl) hb2 hx0 hx1 hpl) ?_
      rintro e a3 W3 hp
      cases e with
      | normal =>
        obtain ⟨hk3, hb3, hi3⟩ := hp
        have hl3 := hk3.same _ _ hl2 rfl
        have hr := run_endRound (P := Try.prog) none hl3
        rw [hrec] at hr hl3
        refine ⟨_, _, hr, rfl, ⟨hI.putObj _ hi3 (by omega) hl3 rfl, ?_, ?_⟩, ?_⟩
        · rw [hrec]; exact World.putObj_heap_same (Array.getElem?_eq_some_iff.1 hl3).1
        · exact (World.putObj_heap_other (by omega)).trans (hk3.same _ _ hk2 rfl)
        · exact (World.putObj_heap_other (by omega)).trans (hb3.trans hb2)
      | ret => exact hp.elim
      | exit id => exact hp.elim
      | goto t => exact hp.elim
      | panic ch => exact hp.elim
      | outgrown => exact hp.elim
    · rintro e W2 ⟨⟨v, rfl⟩, hi, hl, hk⟩
      exact ⟨none, _, by have := run_endLoop (P := Try.prog) hl (by rw [hrec]; simp); rw [hrec] at this; exact this, hdone _ _ (Nat.le_refl _) (hI.putObj _ hi (by omega) hl rfl) ((World.putObj_heap_other (by omega)).trans hk)⟩

/-- At the return: the marks are come to, one by one. -/
theorem leaves_marks {fn : Func} {tmps : Array Value} {R : Ending → World → Prop} {v : Value} {w0 : World} : ∀ (Ds : List Nat) (W : World), Ds.Nodup → (∀ D ∈ Ds, w0.heap.size ≤ D ∧ W.heap[D]? = some (.deferred (some []))) → Fr nob w0 W →
    (∀ W', (results fn tmps).run Try.prog W' = .ok v W') → (∀ W', Fr nob w0 W' → R (.returned v) W') → LeavesInM Fence.wide 9 Try.prog fn tmps R (Ds.map mark) .returning W
  | [], W, _, _, hf, hv, hR => ⟨v, hv W, hR W hf⟩
  | D :: Ds, W, hn, hD, hf, hv, hR => by
    obtain ⟨h1, h2⟩ := hD D (List.mem_cons_self ..)
    have hn' := List.nodup_cons.1 hn
    refine ⟨by simp, .inl ⟨D, _, rfl, run_takeDeferred h2, ?_⟩⟩
    refine leaves_marks Ds _ hn'.2 (fun E hE => ?_) ?_ hv hR
    · obtain ⟨h3, h4⟩ := hD E (List.mem_cons_of_mem _ hE)
      exact ⟨h3, (World.putObj_heap_other (fun (e : E = D) => hn'.1 (e ▸ hE))).trans h4⟩
    · exact ⟨hf.os, hf.tape, hf.output, by simpa using hf.size, fun k hk hn => (World.putObj_heap_other (by omega)).trans (hf.block k hk hn)⟩

/-- A function's contract from its body, where it holds ranges over functions. -/
theorem calls_of_marks {f : FuncId} {fn : Func} {c : Code} {args : Array Value} {w : World} {R : Ending → World → Prop} (hf : Try.prog.funcs[f]? = some fn) (hb : fn.body = some c)
    (h : c.wp Try.prog (bodyPostM Fence.wide 9 Try.prog fn R) { tmps := args ++ Array.replicate (fn.ntmps - args.size) undef, defers := [] } w) : Calls Try.prog f args w R :=
  (callsIn_wide (n := 9)).1 (callsIn_of_wp_marks hf hb trivial (wpIn_wide.2 h) rfl)

end Go.Proofs.Ytgjgonnlkponiaa
