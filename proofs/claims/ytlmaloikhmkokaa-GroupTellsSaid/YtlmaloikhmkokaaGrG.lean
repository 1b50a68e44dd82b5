/- The reference's Group. -/
import Derived.Test.YtlmaloikhmkokaaGrF
namespace Go.Proofs.Ytlmaloikhmkokaa
open Go.RowKit

theorem appTx40 : AppT Try.prog 30 40 4 48 := AppT.of Try.underlying30 (z := .agg #[.int .i64 0, .bool false, .int .i64 0, .slice none 0 0]) (by kernel_rfl) rfl (by decide)
theorem appB : AppT Try.prog 49 4 1 1 := AppT.of Try.underlying49 (z := .bool false) (by kernel_rfl) rfl (by decide)
/-- Which are open, as cells. -/
def bo (st : St) : List Value := st.map fun x => .bool x.2
theorem bo_app (st : St) (x : Tx × Bool) : bo (st ++ [x]) = bo st ++ [.bool x.2] := by simp [bo]
theorem bo_set (st : St) (j : Nat) (t : Tx) (b : Bool) : bo (st.set j (t, b)) = (bo st).set j (.bool b) := by simp [bo, List.map_set]
theorem bo_same {st : St} {j : Nat} {t t' : Tx} {b : Bool} (h : st[j]? = some (t, b)) : bo (st.set j (t', b)) = bo st := by
  rw [bo_set]
  refine List.ext_getElem? fun i => ?_
  by_cases e : j = i
  · subst e
    have : (bo st)[j]? = some (.bool b) := by simp [bo, h]
    rw [List.getElem?_set_self', this]; rfl
  · rw [List.getElem?_set_ne e]
theorem TO.other {w w' : World} {B B' : Nat} {te e' : TypeId} {v v' : Value} {L : List (Tx × Value)} {size n : Nat} {xs : List Value} (h : TO w B te v L) (h' : w.ownsRow B' e' size v' n xs) (h1 : e' ≠ te) (h2 : e' ≠ 44) (hg : w.grownBy w' v'.ownBlock) : TO w' B te v L :=
  h.fr (fr_of_grownBy hg) (fun _ hk x => own_ne h' h.row h1 x hk) (fun j x _ hx hk y => own_ne h' (h.ops j x hx) h2 y hk)
theorem ob_at {w : World} {B : Nat} {v : Value} {n : Nat} {st : St} (h : w.ownsRow B 4 1 v n (bo st)) {j : Nat} {t : Tx} {b : Bool} (hj : st[j]? = some (t, b)) :
    ∃ g cap, v = .slice (some ⟨g, 0, none⟩) n cap ∧ w.cell? ⟨g, j, none⟩ = some (.bool b) ∧ w.frozen? ⟨g, j, none⟩ = false ∧ B ≤ g ∧ ∃ c, w.heap[g]? = some (.cells c 4 (0, 0)) := by
  have hl := h.1
  have hjl := (List.getElem?_eq_some_iff.1 hj).1
  rcases h.2 with ⟨rfl, h0⟩ | ⟨g, cap, cur, rfl, hb, hg, hn, hc, hs, ht⟩
  · simp [bo] at hl; omega
  · have c := h.cells (g := g) rfl j (.bool b) (by simp [bo, hj])
    rw [Addr.add_lit, Nat.zero_add] at c
    exact ⟨g, cap, rfl, c, obj_free hg _, hb, _, hg⟩
theorem lk_none {st : St} {s : Int} (h : lastF s st 0 = none) : lk st s = none := by simp [lk, h]
theorem lk_shut {st : St} {s : Int} {j : Nat} (h : lastF s st 0 = some (j, false)) : lk st s = none := by simp [lk, h]
theorem lk_open {st : St} {s : Int} {j : Nat} (h : lastF s st 0 = some (j, true)) : lk st s = some j := by simp [lk, h]

set_option maxRecDepth 100000 in
set_option maxHeartbeats 1000000 in
theorem rgroup_any (v : Value) (l : List Ev) (w : World) (h : RE w v l) (hl : l.length ≤ 10000) : Calls Try.prog 9 #[v] w (GO l w) := by
  obtain ⟨a, b, off, cap, rfl, -, -, h3⟩ := h
  have H := Lib.hid h3
  clear h3
  obtain ⟨n, hn⟩ : ∃ n, n = l.length := ⟨_, rfl⟩
  rw [← hn]
  have HN := Lib.hid hn
  have hnb : n ≤ 10000 := by omega
  obtain ⟨B, hB⟩ : ∃ B, B = w.heap.size := ⟨_, rfl⟩
  have HB := Lib.hid hB
  clear hn hl hB
  go_enter Try.func9, Try.ntmps9
  go_wp2_with fail
  go_loopg [5, 6, 7] n (fun gk s5 s6 i wr => ∃ (k : Nat) (st : St) (L : List (Tx × Value)), k + gk = n ∧ i = .int .i64 k ∧ L.map Prod.fst = st.map Prod.fst ∧ TO wr B 40 s5 L ∧ wr.ownsRow B 4 1 s6 st.length (bo st) ∧ grun (l.drop k) k st = grun l 0 [] ∧ st.length ≤ 32 ∧ (∀ x ∈ L, x.1.o.length ≤ k) ∧ Fr nob w wr)
  case atStart => exact ⟨0, [], [], Nat.zero_add _, rfl, rfl, TO.nil _ _ _, World.ownsRow_nil _ _ _ _, rfl, by simp, by simp, Fr.refl _ _⟩
  case round =>
    obtain ⟨k, st, L, hk, rfl, hL, hto, hob, hrun, h32, hops, hf⟩ := hrel
    obtain ⟨m, hm⟩ : ∃ m, m = L.length := ⟨_, rfl⟩
    have hsm : st.length = m := by have := congrArg List.length hL; simp at this; omega
    have hm32 : m ≤ 32 := by omega
    rw [hsm] at hob
    have HK := Lib.hid hk
    have HL := Lib.hid hL
    have HR := Lib.hid hrun
    have H32 := Lib.hid h32
    have HO := Lib.hid hops
    have F := Lib.hid hf
    have HM1 := Lib.hid hm
    have HM2 := Lib.hid hsm
    have hkl : k ≤ n := by omega
    obtain ⟨a5, cap5, rfl, -, -⟩ := owns_shape hto.row
    obtain ⟨a6, cap6, rfl, -, -⟩ := owns_shape hob
    rw [← hm] at hto
    rw [← hm]
    have TT := Lib.hid hto
    have BB := Lib.hid hob
    clear hk hL hto hob hrun h32 hops hf hm hsm
    by_cases hlt : k < n
    · obtain ⟨e, he⟩ : ∃ e, l[k]? = some e := ⟨_, List.getElem?_eq_getElem (by have := HN.out; omega)⟩
      obtain rfl := H.out.addr he
      obtain ⟨d0, d1, d2, d3⟩ := (H.out.nob F.out).2 k e he
      have HE := Lib.hid he
      clear he
      have hidx0 : (0 : Int) ≤ (k : Int) := Int.natCast_nonneg _
      have hidx1 : (k : Int) < (n : Int) := by omega
      go_wp2_with (go_at_call 17; refine stop ?_)
      refine Stop.go ((rright_any e _).mono ?_)
      rintro e w1 ⟨rfl, f1⟩
      obtain ⟨E, hE⟩ : ∃ E, E = wr.heap.size := ⟨_, rfl⟩
      obtain ⟨W1, hW1⟩ : ∃ W1, W1 = wr.alloc (.cells #[.int .i64 e.k, .int .i64 e.s, .int .i64 e.y, .int .i64 e.v] 44) := ⟨_, rfl⟩
      have fw : Fr nob wr W1 := by rw [hW1]; exact (Fr.refl nob wr).alloc _
      have hob : w1.heap[E]? = some (.cells #[.int .i64 e.k, .int .i64 e.s, .int .i64 e.y, .int .i64 e.v] 44 (0, 0)) := by
        refine f1.heap_some ?_ (fun x => x)
        exact obj_new hE _
      rw [← hW1] at f1
      rw [← hE]
      have fA := fw.step f1
      have F1 := Lib.hid (F.out.step fA)
      have T1 := Lib.hid (TT.out.keep fA)
      have B1 : Hid (w1.ownsRow B 4 1 (.slice a6 m cap6) m (bo st)) := Lib.hid (fA.owns BB.out (fun _ _ x => x))
      have OB := Lib.hid hob
      have c0 : w1.cell? ⟨E, 0, none⟩ = some (.int .i64 e.k) := obj_cell hob 0
      have c1 : w1.cell? ⟨E, 1, none⟩ = some (.int .i64 e.s) := obj_cell hob 1
      have c2 : w1.cell? ⟨E, 2, none⟩ = some (.int .i64 e.y) := obj_cell hob 2
      have c3 : w1.cell? ⟨E, 3, none⟩ = some (.int .i64 e.v) := obj_cell hob 3
      have hBE : B ≤ E := by have := F.out.size; have := HB.out; omega
      clear hW1 fw f1 fA hob d0 d1 d2 d3 TT BB F hE
      cases hrt : rightB e
      · have RES := Lib.hid (gerr1 (st := st) hrt)
        clear hrt
        go_wp2
        go_ret3
        exact GO.err HE.out HR.out RES.out (by decide) F1.out
      · have RT1 := Lib.hid hrt
        have RD : Hid (RT w1 (.slice a5 m cap5) (st.map Prod.fst)) := Lib.hid (by rw [← HL.out]; exact T1.out.read)
        obtain ⟨z0, z4, -, -⟩ := right_ses hrt
        clear hrt
        go_wp2_with (go_at_call 18; refine stop ?_)
        refine Stop.go ((last_any _ st e.s w1 RD.out (by have := HM2.out; omega)).mono ?_)
        rintro _ _ ⟨rfl, rfl⟩
        cases hf : lastF e.s st 0 with
        | none =>
          have hlr : lastR st e.s = -1 := by simp [lastR, hf]
          rw [hlr]
          have HJ := Lib.hid (lk_none hf)
          clear hf hlr
          by_cases hk0 : e.k = 0
          · by_cases h3 : m = 32
            · have RES := Lib.hid (gerr4 RT1.out hk0 HJ.out (HM2.out.trans h3))
              rw [hk0] at c0
              subst h3
              clear hk0
              go_wp2
              go_ret3
              exact GO.err HE.out HR.out RES.out (by decide) F1.out
            · have RES := Lib.hid (gerr0 RT1.out hk0 HJ.out (fun x => h3 (HM2.out.symm.trans x)))
              have h3' : ((m : Int) == 32) = false := by simp; omega
              have HK0 := Lib.hid hk0
              rw [hk0] at c0
              clear hk0 h3
              go_wp2_with (at_builtin; refine stop ?_)
              refine Stop.go (wpList_app rfl (.tmp 48) (.tmp 53) rfl appTx40 rfl (base := B) (n := m) (xs := tc L) ?p1 (m := 1) (news := Tx.cells (⟨e.s, false, k, []⟩, .slice none 0 0)) rfl rfl ?p3 ?p4 ?p5 ?p6 ?p7)
              case p1 => have := T1.out.row; rw [← HM1.out] at this; exact this.alloc _
              case p3 => exact Src.block (cs := #[.int .i64 e.s, .bool false, .int .i64 k, .slice none 0 0]) (obj_new rfl _) (by simp [Value.oneCell'])
              case p4 => omega
              case p5 => simp only [maxLen]; omega
              case p6 => have := obj_lt OB.out; simp; omega
              case p7 =>
                intro v3 w3 ho3 hg3 _
                have hrow : (w1.alloc (.cells #[.int .i64 e.s, .bool false, .int .i64 k, .slice none 0 0] 40)).ownsRow B 40 4 (.slice a5 m cap5) L.length (tc L) := T1.out.row.alloc _
                have T3 : Hid (TO w3 B 40 v3 (L ++ [(⟨e.s, false, k, []⟩, .slice none 0 0)])) := Lib.hid (TO.push (T1.out.keep ((Fr.refl nob w1).alloc _)) (by decide) rfl (by rw [← HM1.out]; exact ho3) hg3)
                have B3 : Hid (w3.ownsRow B 4 1 (.slice a6 m cap6) m (bo st)) := Lib.hid ((fr_of_grownBy hg3).owns (B1.out.alloc _) (fun q hq x => own_ne hrow (B1.out.alloc _) (by decide) x hq))
                have F3 := Lib.hid ((F1.out.alloc _).grownOwn (by have := HB.out; omega) hrow hg3)
                have hB3 : B < w3.heap.size := by have h1 := hg3.size; have h2 := obj_lt OB.out; rw [World.size_alloc] at h1; omega
                obtain ⟨a4, cap4, rfl, -, -⟩ := owns_shape ho3
                clear ho3 hg3 hrow T1 B1 F1 c0 c1 c2 c3
                go_wp2_with (at_builtin; refine stop ?_)
                refine Stop.go (wpList_app rfl (.tmp 55) (.tmp 56) rfl appB rfl (base := B) (n := m) (xs := bo st) ?q1 (m := 1) (news := [.bool true]) rfl rfl ?q3 ?q4 ?q5 ?q6 ?q7)
                case q1 => exact B3.out.alloc _
                case q3 => exact Src.one _ _ _ rfl
                case q4 => omega
                case q5 => simp only [maxLen]; omega
                case q6 => simp; omega
                case q7 =>
                  intro v5 w5 ho5 hg5 _
                  have T5 : Hid (TO w5 B 40 (.slice a4 (m + 1) cap4) (L ++ [(⟨e.s, false, k, []⟩, .slice none 0 0)])) := Lib.hid (TO.other (T3.out.keep ((Fr.refl nob w3).alloc _)) (B3.out.alloc _) (by decide) (by decide) hg5)
                  have F5 := Lib.hid ((F3.out.alloc _).grownOwn (by have := HB.out; omega) (B3.out.alloc _) hg5)
                  have B5 : Hid (w5.ownsRow B 4 1 v5 (m + 1) (bo (st ++ [(⟨e.s, false, k, []⟩, true)]))) := Lib.hid (by rw [bo_app]; exact ho5)
                  obtain ⟨a9, cap9, rfl, -, -⟩ := owns_shape ho5
                  clear ho5 hg5 T3 B3 F3
                  go_wp2
                  go_roundg (gk - 1)
                  case measure => have := HK.out; omega
                  case rel =>
                    refine ⟨k + 1, st ++ [(⟨e.s, false, k, []⟩, true)], L ++ [(⟨e.s, false, k, []⟩, .slice none 0 0)], by have := HK.out; omega, by go_num, by simp [HL.out], T5.out, by rw [List.length_append, HM2.out]; exact B5.out, ?_, ?_, ?_, F5.out⟩
                    · have := grun_next HE.out HR.out RES.out
                      rw [gnext0 _ HK0.out] at this
                      exact this
                    · have := gnext_room (st := st) (e := e) (k : Int) RES.out H32.out
                      rw [gnext0 _ HK0.out] at this
                      exact this
                    · intro x hx
                      rcases List.mem_append.1 hx with hx | hx
                      · exact Nat.le_succ_of_le (HO.out x hx)
                      · simp at hx; subst hx; exact Nat.zero_le _
          · have RES := Lib.hid (gerr6 RT1.out hk0 HJ.out)
            have hk0' : (e.k == 0) = false := by simpa using hk0
            go_wp2
            go_ret3
            exact GO.err HE.out HR.out RES.out (by decide) F1.out
        | some p =>
          obtain ⟨j, bb⟩ := p
          have hlr : lastR st e.s = (j : Int) := by simp [lastR, hf]
          rw [hlr]
          obtain ⟨-, tx, hst, hts⟩ := lastF_at hf
          rw [Nat.sub_zero] at hst
          obtain ⟨gb, capb, hsb, b0, x0, hBgb, hkb⟩ := ob_at B1.out hst
          obtain ⟨rfl, rfl⟩ : a6 = some ⟨gb, 0, none⟩ ∧ cap6 = capb := by simp at hsb; exact hsb
          have hjm : j < m := by have := (List.getElem?_eq_some_iff.1 hst).1; have := HM2.out; omega
          have hj0 : (0 : Int) ≤ (j : Int) := Int.natCast_nonneg _
          have hj1 : (j : Int) < (m : Int) := by omega
          have HS := Lib.hid hst
          have HT := Lib.hid hts
          have HF := Lib.hid hf
          have HKB := Lib.hid hkb
          clear hsb hlr hst hts hf hkb
          cases bb with
          | false =>
            have HJ := Lib.hid (lk_shut HF.out)
            by_cases hk0 : e.k = 0
            · by_cases h3 : m = 32
              · have RES := Lib.hid (gerr4 RT1.out hk0 HJ.out (HM2.out.trans h3))
                rw [hk0] at c0
                subst h3
                clear hk0
                go_wp2
                go_ret3
                exact GO.err HE.out HR.out RES.out (by decide) F1.out
              · have RES := Lib.hid (gerr0 RT1.out hk0 HJ.out (fun x => h3 (HM2.out.symm.trans x)))
                have h3' : ((m : Int) == 32) = false := by simp; omega
                have HK0 := Lib.hid hk0
                rw [hk0] at c0
                clear hk0 h3
                go_wp2_with (at_builtin; refine stop ?_)
                refine Stop.go (wpList_app rfl (.tmp 48) (.tmp 53) rfl appTx40 rfl (base := B) (n := m) (xs := tc L) ?p1 (m := 1) (news := Tx.cells (⟨e.s, false, k, []⟩, .slice none 0 0)) rfl rfl ?p3 ?p4 ?p5 ?p6 ?p7)
                case p1 => have := T1.out.row; rw [← HM1.out] at this; exact this.alloc _
                case p3 => exact Src.block (cs := #[.int .i64 e.s, .bool false, .int .i64 k, .slice none 0 0]) (obj_new rfl _) (by simp [Value.oneCell'])
                case p4 => omega
                case p5 => simp only [maxLen]; omega
                case p6 => have := obj_lt OB.out; simp; omega
                case p7 =>
                  intro v3 w3 ho3 hg3 _
                  have hrow : (w1.alloc (.cells #[.int .i64 e.s, .bool false, .int .i64 k, .slice none 0 0] 40)).ownsRow B 40 4 (.slice a5 m cap5) L.length (tc L) := T1.out.row.alloc _
                  have T3 : Hid (TO w3 B 40 v3 (L ++ [(⟨e.s, false, k, []⟩, .slice none 0 0)])) := Lib.hid (TO.push (T1.out.keep ((Fr.refl nob w1).alloc _)) (by decide) rfl (by rw [← HM1.out]; exact ho3) hg3)
                  have B3 : Hid (w3.ownsRow B 4 1 (.slice (some ⟨gb, 0, none⟩) m cap6) m (bo st)) := Lib.hid ((fr_of_grownBy hg3).owns (B1.out.alloc _) (fun q hq x => own_ne hrow (B1.out.alloc _) (by decide) x hq))
                  have F3 := Lib.hid ((F1.out.alloc _).grownOwn (by have := HB.out; omega) hrow hg3)
                  have hB3 : B < w3.heap.size := by have h1 := hg3.size; have h2 := obj_lt OB.out; rw [World.size_alloc] at h1; omega
                  obtain ⟨a4, cap4, rfl, -, -⟩ := owns_shape ho3
                  clear ho3 hg3 hrow T1 B1 F1 c0 c1 c2 c3
                  go_wp2_with (at_builtin; refine stop ?_)
                  refine Stop.go (wpList_app rfl (.tmp 55) (.tmp 56) rfl appB rfl (base := B) (n := m) (xs := bo st) ?q1 (m := 1) (news := [.bool true]) rfl rfl ?q3 ?q4 ?q5 ?q6 ?q7)
                  case q1 => exact B3.out.alloc _
                  case q3 => exact Src.one _ _ _ rfl
                  case q4 => omega
                  case q5 => simp only [maxLen]; omega
                  case q6 => simp; omega
                  case q7 =>
                    intro v5 w5 ho5 hg5 _
                    have T5 : Hid (TO w5 B 40 (.slice a4 (m + 1) cap4) (L ++ [(⟨e.s, false, k, []⟩, .slice none 0 0)])) := Lib.hid (TO.other (T3.out.keep ((Fr.refl nob w3).alloc _)) (B3.out.alloc _) (by decide) (by decide) hg5)
                    have F5 := Lib.hid ((F3.out.alloc _).grownOwn (by have := HB.out; omega) (B3.out.alloc _) hg5)
                    have B5 : Hid (w5.ownsRow B 4 1 v5 (m + 1) (bo (st ++ [(⟨e.s, false, k, []⟩, true)]))) := Lib.hid (by rw [bo_app]; exact ho5)
                    obtain ⟨a9, cap9, rfl, -, -⟩ := owns_shape ho5
                    clear ho5 hg5 T3 B3 F3
                    go_wp2
                    go_roundg (gk - 1)
                    case measure => have := HK.out; omega
                    case rel =>
                      refine ⟨k + 1, st ++ [(⟨e.s, false, k, []⟩, true)], L ++ [(⟨e.s, false, k, []⟩, .slice none 0 0)], by have := HK.out; omega, by go_num, by simp [HL.out], T5.out, by rw [List.length_append, HM2.out]; exact B5.out, ?_, ?_, ?_, F5.out⟩
                      · have := grun_next HE.out HR.out RES.out
                        rw [gnext0 _ HK0.out] at this
                        exact this
                      · have := gnext_room (st := st) (e := e) (k : Int) RES.out H32.out
                        rw [gnext0 _ HK0.out] at this
                        exact this
                      · intro x hx
                        rcases List.mem_append.1 hx with hx | hx
                        · exact Nat.le_succ_of_le (HO.out x hx)
                        · simp at hx; subst hx; exact Nat.zero_le _
            · have RES := Lib.hid (gerr6 RT1.out hk0 HJ.out)
              have hk0' : (e.k == 0) = false := by simpa using hk0
              go_wp2
              go_ret3
              exact GO.err HE.out HR.out RES.out (by decide) F1.out
          | true =>
            have HJ := Lib.hid (lk_open HF.out)
            by_cases hk0 : e.k = 0
            · have RES := Lib.hid (gerr5 RT1.out hk0 HJ.out)
              rw [hk0] at c0
              clear hk0
              go_wp2
              go_ret3
              exact GO.err HE.out HR.out RES.out (by decide) F1.out
            · have RES := Lib.hid (gerrk RT1.out hk0 HJ.out)
              obtain ⟨sv, hLj⟩ := pick_at HL.out HS.out
              have T1' := T1.out
              rw [HM1.out] at T1'
              obtain ⟨g, capg, hsl, hcells, hfz, hBg, hgk⟩ := T1'.at hLj
              obtain ⟨rfl, rfl⟩ : a5 = some ⟨g, 0, none⟩ ∧ cap5 = capg := by simp at hsl; exact hsl
              have p0 : w1.cell? ⟨g, j * 4 + 1, none⟩ = some (.bool tx.d) := hcells 1 _ (by omega) rfl
              have p3 : w1.cell? ⟨g, j * 4 + 3, none⟩ = some sv := hcells 3 _ (by omega) rfl
              have q0 : w1.frozen? ⟨g, j * 4 + 1, none⟩ = false := hfz _
              have hEg : E ≠ g := fun x => by obtain ⟨cc, hcc⟩ := hgk; have := OB.out; rw [x, hcc] at this; simp at this
              have hgE : g ≠ E := fun x => hEg x.symm
              have hgb : gb ≠ g := fun x => by obtain ⟨cc, hcc⟩ := hgk; obtain ⟨cd, hcd⟩ := HKB.out; rw [x, hcc] at hcd; simp at hcd
              have hbg : g ≠ gb := fun x => hgb x.symm
              have hEb : E ≠ gb := fun x => by obtain ⟨cd, hcd⟩ := HKB.out; have := OB.out; rw [x, hcd] at this; simp at this
              have hbE : gb ≠ E := fun x => hEb x.symm
              have NX := Lib.hid (gnextk (k : Int) hk0 HJ.out HS.out)
              have HLJ := Lib.hid hLj
              have hk0' : (e.k == 0) = false := by simpa using hk0
              clear T1' hsl hcells hfz hgk hLj
              by_cases hk3 : e.k = 3
              · have HK3 := Lib.hid hk3
                have hk3x := hk3
                rw [hk3] at c0
                clear hk3 hk0 hk0' p3
                clear hk3x
                go_wp2
                have hrowb := B1.out.stored j (.bool false)
                have T2a := T1.out.other (B1.out) (by decide) (by decide) hrowb.2
                rw [HM1.out] at T2a
                have T2 : Hid (TO ((w1.setCell ⟨gb, j, none⟩ (.bool false)).setCell ⟨g, j * 4 + 1, none⟩ (.bool true)) B 40 (.slice (some ⟨g, 0, none⟩) m cap5) (L.set j ({ tx with d := true }, sv))) := Lib.hid (by rw [HM1.out]; exact T2a.setDone (by decide) HLJ.out true)
                have B2 : Hid (((w1.setCell ⟨gb, j, none⟩ (.bool false)).setCell ⟨g, j * 4 + 1, none⟩ (.bool true)).ownsRow B 4 1 (.slice (some ⟨gb, 0, none⟩) m cap6) m (bo (st.set j ({ tx with d := true }, false)))) := Lib.hid (by
                  rw [bo_set]
                  exact ownsRow_setCell_other hrowb.1 (fun x => hgb (by simpa [Value.ownBlock] using x)) _)
                have F2 := Lib.hid ((F1.out.setNew ⟨gb, j, none⟩ (by have := HB.out; show _ ≤ gb; omega) (.bool false)).setNew ⟨g, j * 4 + 1, none⟩ (by have := HB.out; show _ ≤ g; omega) (.bool true))
                clear hrowb T2a c0 c1 c2 c3 p0 q0 b0 x0
                go_roundg (gk - 1)
                case measure => have := HK.out; omega
                case rel =>
                  refine ⟨k + 1, st.set j ({ tx with d := true }, false), L.set j ({ tx with d := true }, sv), by have := HK.out; omega, by go_num, by rw [List.map_set, List.map_set, HL.out], T2.out, by rw [List.length_set, HM2.out]; exact B2.out, ?_, by rw [List.length_set]; exact H32.out, ?_, F2.out⟩
                  · have := grun_next HE.out HR.out RES.out
                    rw [NX.out, HK3.out] at this
                    exact this
                  · intro x hx
                    rcases List.mem_or_eq_of_mem_set hx with hx | rfl
                    · exact Nat.le_succ_of_le (HO.out x hx)
                    · exact Nat.le_succ_of_le (show tx.o.length ≤ k from HO.out (tx, sv) (List.mem_of_getElem? HLJ.out))
              · by_cases hk4 : e.k = 4
                · have HK4 := Lib.hid hk4
                  have hk3x := hk4
                  rw [hk4] at c0
                  clear hk3 hk4 hk0 hk0' p3
                  clear hk3x
                  go_wp2
                  have hrowb := B1.out.stored j (.bool false)
                  have T2a := T1.out.other (B1.out) (by decide) (by decide) hrowb.2
                  rw [HM1.out] at T2a
                  have T2 : Hid (TO ((w1.setCell ⟨gb, j, none⟩ (.bool false)).setCell ⟨g, j * 4 + 1, none⟩ (.bool false)) B 40 (.slice (some ⟨g, 0, none⟩) m cap5) (L.set j ({ tx with d := false }, sv))) := Lib.hid (by rw [HM1.out]; exact T2a.setDone (by decide) HLJ.out false)
                  have B2 : Hid (((w1.setCell ⟨gb, j, none⟩ (.bool false)).setCell ⟨g, j * 4 + 1, none⟩ (.bool false)).ownsRow B 4 1 (.slice (some ⟨gb, 0, none⟩) m cap6) m (bo (st.set j ({ tx with d := false }, false)))) := Lib.hid (by
                    rw [bo_set]
                    exact ownsRow_setCell_other hrowb.1 (fun x => hgb (by simpa [Value.ownBlock] using x)) _)
                  have F2 := Lib.hid ((F1.out.setNew ⟨gb, j, none⟩ (by have := HB.out; show _ ≤ gb; omega) (.bool false)).setNew ⟨g, j * 4 + 1, none⟩ (by have := HB.out; show _ ≤ g; omega) (.bool false))
                  clear hrowb T2a c0 c1 c2 c3 p0 q0 b0 x0
                  go_roundg (gk - 1)
                  case measure => have := HK.out; omega
                  case rel =>
                    refine ⟨k + 1, st.set j ({ tx with d := false }, false), L.set j ({ tx with d := false }, sv), by have := HK.out; omega, by go_num, by rw [List.map_set, List.map_set, HL.out], T2.out, by rw [List.length_set, HM2.out]; exact B2.out, ?_, by rw [List.length_set]; exact H32.out, ?_, F2.out⟩
                    · have := grun_next HE.out HR.out RES.out
                      rw [NX.out, HK4.out] at this
                      exact this
                    · intro x hx
                      rcases List.mem_or_eq_of_mem_set hx with hx | rfl
                      · exact Nat.le_succ_of_le (HO.out x hx)
                      · exact Nat.le_succ_of_le (show tx.o.length ≤ k from HO.out (tx, sv) (List.mem_of_getElem? HLJ.out))
                · have HIT : Hid (itemB e.k = true) := Lib.hid (by
                    have : e.k = 1 ∨ e.k = 2 := by omega
                    rcases this with h | h <;> simp [itemB, h])
                  have hso : w1.ownsRow B 44 4 sv tx.o.length (ec tx.o) := T1.out.ops j _ HLJ.out
                  obtain ⟨a7, cap7, rfl, -, -⟩ := owns_shape hso
                  have O : Hid (w1.drew.ownsRow B 44 4 (.slice a7 tx.o.length cap7) tx.o.length (ec tx.o)) := Lib.hid (((Fr.refl nob w1).drew).owns hso (fun _ _ x => x))
                  have hol : tx.o.length ≤ 10000 := by have : tx.o.length ≤ k := HO.out _ (List.mem_of_getElem? HLJ.out); omega
                  have hb1 : (tx.o.length + 1) * 32 ≤ 140737488355328 := by omega
                  have hb2 : tx.o.length + 1 ≤ maxLen := by simp only [maxLen]; omega
                  have hb3 : B ≤ (w1.drew.alloc (.cells #[.int .i64 e.k, .int .i64 e.s, .int .i64 e.y, .int .i64 e.v] 44)).heap.size := by have := obj_lt OB.out; simp; omega
                  have TD : Hid (TO w1.drew B 40 (.slice (some ⟨g, 0, none⟩) L.length cap5) L) := Lib.hid (by rw [← HM1.out]; exact T1.out.keep ((Fr.refl nob w1).drew))
                  have BD : Hid (w1.drew.ownsRow B 4 1 (.slice (some ⟨gb, 0, none⟩) m cap6) m (bo st)) := Lib.hid (((Fr.refl nob w1).drew).owns B1.out (fun _ _ x => x))
                  have FD := Lib.hid F1.out.drew
                  by_cases hk1 : e.k = 1
                  · have hk0x := hk0
                    have hk1' : (e.k == 1) = true := by simpa using hk1
                    clear hk3 hk4 hk0 hk0x hk1
                    have p3' : (w1.alloc (.cells #[.int .i64 e.k, .int .i64 e.s, .int .i64 e.y, .int .i64 e.v] 44)).cell? ⟨g, j * 4 + 3, none⟩ = some (.slice a7 tx.o.length cap7) := ((Fr.refl nob w1).alloc _).cell_some p3 (fun x => x)
                    clear p0 q0 hso x0
                    go_wp2_with fail
                    go_region_law ((refine step_app rfl (.tmp 75) (.tmp 77) rfl appEv rfl (base := B) (n := tx.o.length) (xs := ec tx.o) (World.ownsRow.alloc (w := w1.drew) O.out _) (m := 1) (news := ec [e]) rfl rfl (Src.block (w := w1.drew.alloc _) (cs := #[.int .i64 e.k, .int .i64 e.s, .int .i64 e.y, .int .i64 e.v]) (obj_new (w := w1.drew) rfl _) (ec_one [e])) hb1 hb2 hb3 ?_; intro v3 w3 ho3 hg3 hd3; obtain ⟨a8, cap8, rfl, -, -⟩ := owns_shape ho3; have hrow : (w1.drew.alloc (.cells #[.int .i64 e.k, .int .i64 e.s, .int .i64 e.y, .int .i64 e.v] 44)).ownsRow B 40 4 (.slice (some ⟨g, 0, none⟩) L.length cap5) L.length (tc L) := TD.out.row.alloc _; have hrow3 : w3.ownsRow B 40 4 (.slice (some ⟨g, 0, none⟩) L.length cap5) L.length (tc L) := (fr_of_grownBy hg3).owns hrow (fun q hq x => own_ne hrow (O.out.alloc _) (by decide) hq x); have HR3 := Lib.hid hrow3; have HO3 := Lib.hid ho3; have HG3 := Lib.hid hg3; have HD3 := Lib.hid hd3; have e3 : w3.cell? ⟨g, j * 4 + 3, none⟩ = some (.slice a7 tx.o.length cap7) := (by have c := hrow3.cells (g := g) rfl (j * 4 + 3) _ (by rw [tc, flat4 Tx.cells (fun _ => rfl) L j 3 _ HLJ.out (by omega)]; rfl); rw [Addr.add_lit, Nat.zero_add] at c; exact c); have f3 : w3.frozen? ⟨g, j * 4 + 3, none⟩ = false := hrow3.frozenAt _; clear hrow hrow3 ho3 hg3 hd3))
                    all_goals
                      have T3 : Hid (TO (w3.setCell ⟨g, j * 4 + 3, none⟩ (.slice a8 (tx.o.length + 1) cap8)) B 40 (.slice (some ⟨g, 0, none⟩) m cap5) (L.set j ({ tx with o := tx.o ++ [e] }, .slice a8 (tx.o.length + 1) cap8))) := Lib.hid (by
                        rw [HM1.out]
                        exact TO.addOp (TD.out.keep ((Fr.refl nob w1.drew).alloc _)) (by decide) HLJ.out (by rw [ec_app]; exact HO3.out) HG3.out HD3.out)
                      have B3 : Hid ((w3.setCell ⟨g, j * 4 + 3, none⟩ (.slice a8 (tx.o.length + 1) cap8)).ownsRow B 4 1 (.slice (some ⟨gb, 0, none⟩) m cap6) m (bo (st.set j ({ tx with o := tx.o ++ [e] }, true)))) := Lib.hid (by
                        rw [bo_same HS.out]
                        exact ownsRow_setCell_other ((fr_of_grownBy HG3.out).owns (BD.out.alloc _) (fun q hq x => own_ne O.out BD.out (by decide) x hq)) (fun x => hgb (by simpa [Value.ownBlock] using x)) _)
                      have F3 := Lib.hid (((FD.out.alloc _).grownOwn (by have := HB.out; omega) (O.out.alloc _) HG3.out).setNew ⟨g, j * 4 + 3, none⟩ (by have := HB.out; show _ ≤ g; omega) (.slice a8 (tx.o.length + 1) cap8))
                      clear HO3 HG3 HD3 HR3 e3 f3 TD BD FD b0
                      go_wp2
                      go_roundg (gk - 1)
                      case measure => have := HK.out; omega
                      case rel =>
                        refine ⟨k + 1, st.set j ({ tx with o := tx.o ++ [e] }, true), L.set j ({ tx with o := tx.o ++ [e] }, .slice a8 (tx.o.length + 1) cap8), by have := HK.out; omega, by go_num, by rw [List.map_set, List.map_set, HL.out], T3.out, by rw [List.length_set, HM2.out]; exact B3.out, ?_, by rw [List.length_set]; exact H32.out, ?_, F3.out⟩
                        · have := grun_next HE.out HR.out RES.out
                          rw [NX.out, HIT.out] at this
                          exact this
                        · intro x hx
                          rcases List.mem_or_eq_of_mem_set hx with hx | rfl
                          · exact Nat.le_succ_of_le (HO.out x hx)
                          · have : tx.o.length ≤ k := HO.out (tx, _) (List.mem_of_getElem? HLJ.out)
                            simp; omega
                  · have hk2 : e.k = 2 := by omega
                    have hk1' : (e.k == 1) = false := by simpa using hk1
                    have hk2' : (e.k == 2) = true := by simpa using hk2
                    clear hk3 hk4 hk0 hk1 hk2
                    have p3' : (w1.alloc (.cells #[.int .i64 e.k, .int .i64 e.s, .int .i64 e.y, .int .i64 e.v] 44)).cell? ⟨g, j * 4 + 3, none⟩ = some (.slice a7 tx.o.length cap7) := ((Fr.refl nob w1).alloc _).cell_some p3 (fun x => x)
                    clear p0 q0 hso x0
                    go_wp2_with fail
                    go_region_law ((refine step_app rfl (.tmp 75) (.tmp 77) rfl appEv rfl (base := B) (n := tx.o.length) (xs := ec tx.o) (World.ownsRow.alloc (w := w1.drew) O.out _) (m := 1) (news := ec [e]) rfl rfl (Src.block (w := w1.drew.alloc _) (cs := #[.int .i64 e.k, .int .i64 e.s, .int .i64 e.y, .int .i64 e.v]) (obj_new (w := w1.drew) rfl _) (ec_one [e])) hb1 hb2 hb3 ?_; intro v3 w3 ho3 hg3 hd3; obtain ⟨a8, cap8, rfl, -, -⟩ := owns_shape ho3; have hrow : (w1.drew.alloc (.cells #[.int .i64 e.k, .int .i64 e.s, .int .i64 e.y, .int .i64 e.v] 44)).ownsRow B 40 4 (.slice (some ⟨g, 0, none⟩) L.length cap5) L.length (tc L) := TD.out.row.alloc _; have hrow3 : w3.ownsRow B 40 4 (.slice (some ⟨g, 0, none⟩) L.length cap5) L.length (tc L) := (fr_of_grownBy hg3).owns hrow (fun q hq x => own_ne hrow (O.out.alloc _) (by decide) hq x); have HR3 := Lib.hid hrow3; have HO3 := Lib.hid ho3; have HG3 := Lib.hid hg3; have HD3 := Lib.hid hd3; have e3 : w3.cell? ⟨g, j * 4 + 3, none⟩ = some (.slice a7 tx.o.length cap7) := (by have c := hrow3.cells (g := g) rfl (j * 4 + 3) _ (by rw [tc, flat4 Tx.cells (fun _ => rfl) L j 3 _ HLJ.out (by omega)]; rfl); rw [Addr.add_lit, Nat.zero_add] at c; exact c); have f3 : w3.frozen? ⟨g, j * 4 + 3, none⟩ = false := hrow3.frozenAt _; clear hrow hrow3 ho3 hg3 hd3))
                    all_goals
                      have T3 : Hid (TO (w3.setCell ⟨g, j * 4 + 3, none⟩ (.slice a8 (tx.o.length + 1) cap8)) B 40 (.slice (some ⟨g, 0, none⟩) m cap5) (L.set j ({ tx with o := tx.o ++ [e] }, .slice a8 (tx.o.length + 1) cap8))) := Lib.hid (by
                        rw [HM1.out]
                        exact TO.addOp (TD.out.keep ((Fr.refl nob w1.drew).alloc _)) (by decide) HLJ.out (by rw [ec_app]; exact HO3.out) HG3.out HD3.out)
                      have B3 : Hid ((w3.setCell ⟨g, j * 4 + 3, none⟩ (.slice a8 (tx.o.length + 1) cap8)).ownsRow B 4 1 (.slice (some ⟨gb, 0, none⟩) m cap6) m (bo (st.set j ({ tx with o := tx.o ++ [e] }, true)))) := Lib.hid (by
                        rw [bo_same HS.out]
                        exact ownsRow_setCell_other ((fr_of_grownBy HG3.out).owns (BD.out.alloc _) (fun q hq x => own_ne O.out BD.out (by decide) x hq)) (fun x => hgb (by simpa [Value.ownBlock] using x)) _)
                      have F3 := Lib.hid (((FD.out.alloc _).grownOwn (by have := HB.out; omega) (O.out.alloc _) HG3.out).setNew ⟨g, j * 4 + 3, none⟩ (by have := HB.out; show _ ≤ g; omega) (.slice a8 (tx.o.length + 1) cap8))
                      clear HO3 HG3 HD3 HR3 e3 f3 TD BD FD b0
                      go_wp2
                      go_roundg (gk - 1)
                      case measure => have := HK.out; omega
                      case rel =>
                        refine ⟨k + 1, st.set j ({ tx with o := tx.o ++ [e] }, true), L.set j ({ tx with o := tx.o ++ [e] }, .slice a8 (tx.o.length + 1) cap8), by have := HK.out; omega, by go_num, by rw [List.map_set, List.map_set, HL.out], T3.out, by rw [List.length_set, HM2.out]; exact B3.out, ?_, by rw [List.length_set]; exact H32.out, ?_, F3.out⟩
                        · have := grun_next HE.out HR.out RES.out
                          rw [NX.out, HIT.out] at this
                          exact this
                        · intro x hx
                          rcases List.mem_or_eq_of_mem_set hx with hx | rfl
                          · exact Nat.le_succ_of_le (HO.out x hx)
                          · have : tx.o.length ≤ k := HO.out (tx, _) (List.mem_of_getElem? HLJ.out)
                            simp; omega
    · have hkn : k = n := by omega
      have HKK := Lib.hid (hkn.trans HN.out)
      clear hkn
      go_wp2
      go_ret3
      exact GO.ok HKK.out HR.out HL.out TT.out F.out

end Go.Proofs.Ytlmaloikhmkokaa
