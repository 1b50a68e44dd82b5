/- Group. -/
import Derived.Test.YtlmaloikhmkokaaGrD
import Derived.Maps.OwnSet
namespace Go.Proofs.Ytlmaloikhmkokaa
open Go.RowKit Go.Maps

theorem law3 : Keyed Try.prog 3 := int_keyed Try.underlying3
theorem zero3 (w : World) : (zeroValue 3).run Try.prog w = .ok (.int .i64 0) w := by kernel_rfl
theorem appTx : AppT Try.prog 23 26 4 48 := AppT.of Try.underlying23 (z := .agg #[.int .i64 0, .bool false, .int .i64 0, .slice none 0 0]) (by kernel_rfl) rfl (by decide)

/-- What the map tells of the state. -/
def MD (D : DataW Unit) (st : St) : Prop :=
  ∀ s : Int, (∀ k, lk st s = some k → Maps.has D (.int .i64 s) = true ∧ D.atKey (.int .i64 s) (.lit (.int .i64 0)) = .lit (.int .i64 (k : Nat))) ∧ (lk st s = none → Maps.has D (.int .i64 s) = false)
/-- The map of the open ones. -/
def MI (w : World) (M : Nat) (st : St) : Prop :=
  ∃ D : DataW Unit, w.ownsMap Try.prog 3 (plainElem Try.prog 3) M st.length D ∧ MD D st
theorem MI.fr {w w' : World} {M : Nat} {st : St} {S : Nat → Prop} (h : MI w M st) (f : Fr S w w') (hM : ¬ S M) : MI w' M st := by
  obtain ⟨D, ⟨es, clock, hb, rest⟩, h2⟩ := h
  exact ⟨D, ⟨es, clock, f.heap_some hb hM, rest⟩, h2⟩
theorem MI.keep {w w' : World} {M : Nat} {st : St} (h : MI w M st) (f : Fr nob w w') : MI w' M st := h.fr f (fun x => x)
theorem MI.obj {w : World} {M : Nat} {st : St} (h : MI w M st) : ∃ es c, w.heap[M]? = some (.map es c) := by
  obtain ⟨D, ⟨es, clock, hb, rest⟩, h2⟩ := h
  exact ⟨_, _, hb⟩

def GO (l : List Ev) (w : World) (e : Ending) (w' : World) : Prop :=
  ∃ v, e = .returned (.tuple #[v, .int .i64 (grun l 0 []).2.1, .int .i64 (grun l 0 []).2.2]) ∧ RT w' v ((grun l 0 []).1.map Prod.fst) ∧ Fr nob w w'

theorem grun_drop {l : List Ev} {k : Nat} {e : Ev} (he : l[k]? = some e) (st : St) : grun (l.drop k) k st = if gerr st e = 0 then grun (l.drop (k + 1)) (k + 1) (gnext st e k) else ([], k, gerr st e) := by
  obtain ⟨hk, hv⟩ := List.getElem?_eq_some_iff.1 he
  rw [List.drop_eq_getElem_cons hk, hv]
  rfl
theorem GO.err {l : List Ev} {k : Nat} {e : Ev} {st : St} {c : Int} (he : l[k]? = some e) (hr : grun (l.drop k) k st = grun l 0 []) (hc : gerr st e = c) (h0 : c ≠ 0) {w w' : World} (f : Fr nob w w') :
    GO l w (.returned (.tuple #[.slice none 0 0, .int .i64 k, .int .i64 c])) w' := by
  rw [grun_drop he, hc, if_neg h0] at hr
  refine ⟨_, by rw [← hr], by rw [← hr]; exact RT.nil _, f⟩
theorem GO.ok {l : List Ev} {k : Nat} {st : St} {L : List (Tx × Value)} {v : Value} (hk : k = l.length) (hr : grun (l.drop k) k st = grun l 0 []) (hL : L.map Prod.fst = st.map Prod.fst) {w w' : World} {B : Nat} {te : TypeId} (t : TO w' B te v L) (f : Fr nob w w') :
    GO l w (.returned (.tuple #[v, .int .i64 0, .int .i64 0])) w' := by
  rw [hk, List.drop_length] at hr
  refine ⟨v, by rw [← hr]; rfl, by rw [← hr]; show RT w' v (st.map Prod.fst); rw [← hL]; exact t.read, f⟩
theorem grun_next {l : List Ev} {k : Nat} {e : Ev} {st : St} (he : l[k]? = some e) (hr : grun (l.drop k) k st = grun l 0 []) (hc : gerr st e = 0) : grun (l.drop (k + 1)) (k + 1) (gnext st e k) = grun l 0 [] := by
  rw [grun_drop he, hc, if_pos rfl] at hr
  exact hr
theorem gerr1 {st : St} {e : Ev} (h : rightB e = false) : gerr st e = 1 := by simp [gerr, h]
theorem gerr5 {st : St} {e : Ev} {j : Nat} (h : rightB e = true) (hk : e.k = 0) (hj : lk st e.s = some j) : gerr st e = 5 := by simp [gerr, h, hk, hj]
theorem gerr4 {st : St} {e : Ev} (h : rightB e = true) (hk : e.k = 0) (hj : lk st e.s = none) (hl : st.length = 32) : gerr st e = 4 := by simp [gerr, h, hk, hj, hl]
theorem gerr0 {st : St} {e : Ev} (h : rightB e = true) (hk : e.k = 0) (hj : lk st e.s = none) (hl : ¬ st.length = 32) : gerr st e = 0 := by simp [gerr, h, hk, hj, hl]
theorem gerr6 {st : St} {e : Ev} (h : rightB e = true) (hk : ¬ e.k = 0) (hj : lk st e.s = none) : gerr st e = 6 := by simp [gerr, h, hk, hj]
theorem gerrk {st : St} {e : Ev} {j : Nat} (h : rightB e = true) (hk : ¬ e.k = 0) (hj : lk st e.s = some j) : gerr st e = 0 := by simp [gerr, h, hk, hj]
theorem right_ses {e : Ev} (h : rightB e = true) : 0 ≤ e.k ∧ e.k ≤ 4 ∧ 0 ≤ e.s ∧ e.s ≤ 7 := by
  simp [rightB] at h
  omega

theorem key_ne {s s' : Int} (h : s ≠ s') : (Lit.int .i64 s) ≠ .int .i64 s' := fun e => h (by cases e; rfl)
theorem MD.put {D : DataW Unit} {st : St} (h : MD D st) (hi : IsMap D) (t : Tx) : MD (D.put (.int .i64 t.s) (.lit (.int .i64 (st.length : Nat)))) (st ++ [(t, true)]) := fun s => by
  rw [lk_snoc]
  by_cases e : t.s = s
  · subst e
    rw [if_pos rfl]
    refine ⟨fun k hk => ?_, fun hn => by cases hn⟩
    obtain rfl := Option.some.inj hk
    exact ⟨has_put_same hi (show WideAt.IsKeyLit (.int .i64 t.s) from trivial) _, atKey_put_same hi (show WideAt.IsKeyLit (.int .i64 t.s) from trivial) _ _⟩
  · rw [if_neg e, has_put_other (key_ne fun x => e x.symm), atKey_put_other (key_ne fun x => e x.symm)]
    exact h s
theorem MD.del {D : DataW Unit} {st : St} (h : MD D st) {j : Nat} {t' : Tx} {s0 : Int} (hj : lk st s0 = some j) (ht : t'.s = s0) : MD (D.del (.int .i64 s0)) (st.set j (t', false)) := fun s => by
  rw [lk_set false hj ht]
  by_cases e : s = s0
  · subst e
    rw [if_pos rfl]
    exact ⟨fun k hk => by simp at hk, fun _ => has_del_same⟩
  · rw [if_neg e, has_del_other (key_ne e), atKey_del_other (key_ne e)]
    exact h s
theorem MD.set {D : DataW Unit} {st : St} (h : MD D st) {j : Nat} {t' : Tx} {s0 : Int} (hj : lk st s0 = some j) (ht : t'.s = s0) : MD D (st.set j (t', true)) := fun s => by
  rw [lk_set true hj ht]
  by_cases e : s = s0
  · subst e
    rw [if_pos rfl]
    have := h s
    rw [hj] at this
    exact this
  · rw [if_neg e]
    exact h s
/-- The map's block holds no row. -/
theorem own_map {w : World} {M B : Nat} {e : TypeId} {size : Nat} {v : Value} {n : Nat} {xs : List Value} {es : Array MapEntry} {c : Nat} (hm : w.heap[M]? = some (.map es c)) (h : w.ownsRow B e size v n xs) : ¬ v.ownBlock = some M := fun hg => by
  obtain ⟨_, cs, hc⟩ := own_kind h hg
  rw [hm] at hc
  cases hc
theorem TO.mapTurn {w w' : World} {B M : Nat} {te : TypeId} {v : Value} {L : List (Tx × Value)} (h : TO w B te v L) {st : St} (m : MI w M st) (hg : w.grownBy w' (some M)) : TO w' B te v L := by
  obtain ⟨es, c, hm⟩ := m.obj
  exact h.fr (fr_of_grownBy hg) (fun k hk e => own_map hm h.row (by rw [hk]; exact e.symm)) (fun j x k hx hk e => own_map hm (h.ops j x hx) (by rw [hk]; exact e.symm))
theorem MI.grown {w w' : World} {M B : Nat} {st : St} (m : MI w M st) {e : TypeId} {size : Nat} {v : Value} {n : Nat} {xs : List Value} (h : w.ownsRow B e size v n xs) (hg : w.grownBy w' v.ownBlock) : MI w' M st := by
  obtain ⟨es, c, hm⟩ := m.obj
  exact m.fr (fr_of_grownBy hg) (own_map hm h)
theorem Fr.grownOwn {w0 w w' : World} {B : Nat} (f : Fr nob w0 w) (hB : w0.heap.size ≤ B) {e : TypeId} {size : Nat} {v : Value} {n : Nat} {xs : List Value} (h : w.ownsRow B e size v n xs) (hg : w.grownBy w' v.ownBlock) : Fr nob w0 w' :=
  f.grown hg (fun k hk hl => by have := (own_kind h hk).1; omega)
theorem pick_at {L : List (Tx × Value)} {st : St} (h : L.map Prod.fst = st.map Prod.fst) {j : Nat} {t : Tx} {b : Bool} (hs : st[j]? = some (t, b)) : ∃ sv, L[j]? = some (t, sv) := by
  have h1 := congrArg (fun (x : List Tx) => x[j]?) h
  simp only [List.getElem?_map, hs, Option.map_some] at h1
  obtain ⟨⟨t', sv⟩, h2, h3⟩ := Option.map_eq_some_iff.1 h1
  simp at h3
  subst h3
  exact ⟨sv, h2⟩
theorem gnext0 {st : St} {e : Ev} (i : Int) (h : e.k = 0) : gnext st e i = st ++ [(⟨e.s, false, i, []⟩, true)] := by simp [gnext, h]
theorem gnextk {st : St} {e : Ev} (i : Int) (h : ¬ e.k = 0) {j : Nat} {t : Tx} (hj : lk st e.s = some j) (hs : st[j]? = some (t, true)) : gnext st e i = if itemB e.k then st.set j ({ t with o := t.o ++ [e] }, true) else st.set j ({ t with d := e.k == 3 }, false) := by
  simp only [gnext, if_neg h, hj, gput, hs]

set_option maxRecDepth 100000 in
set_option maxHeartbeats 1000000 in
theorem group_any (v : Value) (l : List Ev) (w : World) (h : RE w v l) (hl : l.length ≤ 10000) : Calls Try.prog 8 #[v] w (GO l w) := by
  obtain ⟨a, b, off, cap, rfl, -, -, h3⟩ := h
  have H := Lib.hid h3
  clear h3
  obtain ⟨n, hn⟩ : ∃ n, n = l.length := ⟨_, rfl⟩
  rw [← hn]
  have HN := Lib.hid hn
  have hnb : n ≤ 10000 := by omega
  clear hn hl
  have hmm := @run_makeMap Try.prog
  go_enter Try.func8, Try.ntmps8
  go_wp2_with fail
  obtain ⟨M, hM⟩ : ∃ M, M = w.heap.size := ⟨_, rfl⟩
  obtain ⟨W0, hW0⟩ : ∃ W0, W0 = w.alloc (.map #[] 0) := ⟨_, rfl⟩
  rw [← hW0, ← hM]
  have M0 : Hid (MI W0 M []) := Lib.hid ⟨.map [], by rw [hW0, hM]; exact World.ownsMap_made _ _ _ _, fun s => ⟨fun k hk => by simp [lk, lastF] at hk, fun _ => rfl⟩⟩
  have F0 : Hid (Fr nob w W0) := Lib.hid (by rw [hW0]; exact (Fr.refl nob w).alloc _)
  have HM := Lib.hid hM
  clear hW0 hM
  go_loopg [5, 14] n (fun gk s5 i wr => ∃ (k : Nat) (st : St) (L : List (Tx × Value)), k + gk = n ∧ i = .int .i64 k ∧ L.map Prod.fst = st.map Prod.fst ∧ TO wr M 26 s5 L ∧ MI wr M st ∧ grun (l.drop k) k st = grun l 0 [] ∧ st.length ≤ 32 ∧ (∀ x ∈ L, x.1.o.length ≤ k) ∧ Fr nob w wr)
  case atStart => exact ⟨0, [], [], Nat.zero_add _, rfl, rfl, TO.nil _ _ _, M0.out, rfl, by simp, by simp, F0.out⟩
  case round =>
    obtain ⟨k, st, L, hk, rfl, hL, hto, hmi, hrun, h32, hops, hf⟩ := hrel
    have HK := Lib.hid hk
    have HL := Lib.hid hL
    have TT := Lib.hid hto
    have MM := Lib.hid hmi
    have HR := Lib.hid hrun
    have H32 := Lib.hid h32
    have HO := Lib.hid hops
    have F := Lib.hid hf
    have hkl : k ≤ n := by omega
    obtain ⟨a5, cap5, rfl, -, -⟩ := owns_shape hto.row
    clear hk hL hto hmi hrun h32 hops hf
    by_cases hlt : k < n
    · obtain ⟨e, he⟩ : ∃ e, l[k]? = some e := ⟨_, List.getElem?_eq_getElem (by have := HN.out; omega)⟩
      obtain rfl := H.out.addr he
      obtain ⟨d0, d1, d2, d3⟩ := (H.out.nob F.out).2 k e he
      have HE := Lib.hid he
      clear he
      have hidx0 : (0 : Int) ≤ (k : Int) := Int.natCast_nonneg _
      have hidx1 : (k : Int) < (n : Int) := by omega
      go_wp2_with (go_at_call 16; refine stop ?_)
      refine Stop.go ((right_any e _).mono ?_)
      rintro e w1 ⟨rfl, f1⟩
      obtain ⟨E, hE⟩ : ∃ E, E = wr.heap.size := ⟨_, rfl⟩
      obtain ⟨W1, hW1⟩ : ∃ W1, W1 = wr.alloc (.cells #[.int .i64 e.k, .int .i64 e.s, .int .i64 e.y, .int .i64 e.v] 44) := ⟨_, rfl⟩
      have fw : Fr nob wr W1 := by rw [hW1]; exact (Fr.refl nob wr).alloc _
      have hob : w1.heap[E]? = some (.cells #[.int .i64 e.k, .int .i64 e.s, .int .i64 e.y, .int .i64 e.v] 44 (0, 0)) := by
        refine f1.heap_some ?_ (fun x => x)
        exact obj_new hE _
      rw [← hW1] at f1
      rw [← hE]
      have fA := fw.step f1
      have F1 := Lib.hid (F.out.step fA)
      have T1 := Lib.hid (TT.out.keep fA)
      have M1 := Lib.hid (MM.out.keep fA)
      have OB := Lib.hid hob
      have c0 : w1.cell? ⟨E, 0, none⟩ = some (.int .i64 e.k) := obj_cell hob 0
      have c1 : w1.cell? ⟨E, 1, none⟩ = some (.int .i64 e.s) := obj_cell hob 1
      have c2 : w1.cell? ⟨E, 2, none⟩ = some (.int .i64 e.y) := obj_cell hob 2
      have c3 : w1.cell? ⟨E, 3, none⟩ = some (.int .i64 e.v) := obj_cell hob 3
      have hEM : M < E := by obtain ⟨es, c, h⟩ := MM.out.obj; have := obj_lt h; omega
      clear hW1 fw f1 fA hob d0 d1 d2 d3 TT MM F hE
      cases hrt : rightB e
      · have RES := Lib.hid (gerr1 (st := st) hrt)
        clear hrt
        go_wp2
        go_ret3
        exact GO.err HE.out HR.out RES.out (by decide) F1.out
      · obtain ⟨D, hown, hD⟩ := M1.out
        have HD := Lib.hid (hD e.s)
        obtain ⟨m, hm⟩ : ∃ m, m = L.length := ⟨_, rfl⟩
        have hsm : st.length = m := by have := congrArg List.length HL.out; simp at this; omega
        have hm32 : m ≤ 32 := by have := H32.out; omega
        have HM1 := Lib.hid hm
        have HM2 := Lib.hid hsm
        have MDD := Lib.hid hD
        rw [← hm] at T1
        rw [hsm] at hown
        rw [← hm]
        obtain ⟨z0, z4, y0, y7⟩ := right_ses hrt
        have hkey : keyOf Try.prog 3 (.int .i64 e.s) = some (.int .i64 e.s) := keyOf_int_mk Try.underlying3 (WalkArith.wf_i64 (by omega))
        have RT1 := Lib.hid hrt
        clear hrt hD hm hsm
        go_wp2_with (at_lookup; refine stop ?_)
        refine Stop.go (wpList_lookup_own_ok_int _ rfl _ _ 46 rfl 3 3 .i64 law3 Try.underlying46 Try.underlying3 (zero3 _) M _ D rfl hown _ _ rfl hkey ?_)
        intro c hat _
        cases hj : lk st e.s with
        | none =>
          have hh := HD.out.2 hj
          rw [hh]
          have HJ := Lib.hid hj
          clear hat hj hh
          by_cases hk0 : e.k = 0
          · by_cases h3 : m = 32
            · have RES := Lib.hid (gerr4 RT1.out hk0 HJ.out (HM2.out.trans h3))
              rw [hk0] at c0
              subst h3
              clear hk0 hown
              go_wp2
              go_ret3
              exact GO.err HE.out HR.out RES.out (by decide) F1.out
            · have RES := Lib.hid (gerr0 RT1.out hk0 HJ.out (fun x => h3 (HM2.out.symm.trans x)))
              have h3' : ((m : Int) == 32) = false := by simp; omega
              have HK0 := Lib.hid hk0
              rw [hk0] at c0
              clear hk0 h3
              go_wp2_with (at_mapUpdate; refine stop ?_)
              refine Stop.go (wpList_mapUpdate_own _ rfl _ _ _ 46 rfl 3 3 law3 Try.underlying46 _ M m D rfl hown (by unfold maxLen; omega) _ _ _ rfl rfl hkey _ [] (plainElem_int Try.underlying3 (WalkArith.wf_i64 (by omega))) ?_)
              intro w2 hown2 hg2
              have f12 := fr_of_grownBy hg2
              have T2 := Lib.hid (T1.out.mapTurn M1.out hg2)
              have M2 : Hid (MI w2 M (st ++ [(⟨e.s, false, k, []⟩, true)])) := Lib.hid ⟨_, by rw [List.length_append, HM2.out]; exact hown2, by have := MDD.out.put hown.isMap ⟨e.s, false, k, []⟩; rw [HM2.out] at this; exact this⟩
              have F2 := Lib.hid (F1.out.keep f12 (fun i hi => by have := HM.out; cases hi; omega))
              have hob2 := f12.heap_some OB.out (fun x => by cases x; omega)
              have g1 : w2.cell? ⟨E, 1, none⟩ = some (.int .i64 e.s) := obj_cell hob2 1
              have hMs : M < w2.heap.size := by have := obj_lt hob2; omega
              clear hown2 hg2 f12 hob2 hown c0 c1 c2 c3 hkey OB T1 M1 F1 MDD HD
              go_wp2_with (at_builtin; refine stop ?_)
              refine Stop.go (wpList_app rfl (.tmp 69) (.tmp 74) rfl appTx rfl (base := M) (n := m) (xs := tc L) ?p1 (m := 1) (news := Tx.cells (⟨e.s, false, k, []⟩, .slice none 0 0)) rfl rfl ?p3 ?p4 ?p5 ?p6 ?p7)
              case p1 => have := T2.out.row; rw [← HM1.out] at this; exact this.alloc _
              case p3 => exact Src.block (cs := #[.int .i64 e.s, .bool false, .int .i64 k, .slice none 0 0]) (obj_new rfl _) (by simp [Value.oneCell'])
              case p4 => omega
              case p5 => simp only [maxLen]; omega
              case p6 => simp; omega
              case p7 =>
                intro v3 w3 ho3 hg3 _
                have hrow : (w2.alloc (.cells #[.int .i64 e.s, .bool false, .int .i64 k, .slice none 0 0] 26)).ownsRow M 26 4 (.slice a5 m cap5) L.length (tc L) := T2.out.row.alloc _
                have T3 : Hid (TO w3 M 26 v3 (L ++ [(⟨e.s, false, k, []⟩, .slice none 0 0)])) := Lib.hid (TO.push (T2.out.keep ((Fr.refl nob w2).alloc _)) (by decide) rfl (by rw [← HM1.out]; exact ho3) hg3)
                have M3 := Lib.hid ((M2.out.keep ((Fr.refl nob w2).alloc _)).grown hrow hg3)
                have F3 := Lib.hid ((F2.out.alloc _).grownOwn (by have := HM.out; omega) hrow hg3)
                obtain ⟨a4, cap4, rfl, -, -⟩ := owns_shape ho3
                clear ho3 hg3 hrow T2 M2 F2
                go_wp2
                go_roundg (gk - 1)
                case measure => have := HK.out; omega
                case rel =>
                  refine ⟨k + 1, st ++ [(⟨e.s, false, k, []⟩, true)], L ++ [(⟨e.s, false, k, []⟩, .slice none 0 0)], by have := HK.out; omega, by go_num, by simp [HL.out], T3.out, M3.out, ?_, ?_, ?_, F3.out⟩
                  · have := grun_next HE.out HR.out RES.out
                    rw [gnext0 _ HK0.out] at this
                    exact this
                  · have := gnext_room (st := st) (e := e) (k : Int) RES.out H32.out
                    rw [gnext0 _ HK0.out] at this
                    exact this
                  · intro x hx
                    rcases List.mem_append.1 hx with hx | hx
                    · exact Nat.le_succ_of_le (HO.out x hx)
                    · simp at hx; subst hx; exact Nat.zero_le _
          · have RES := Lib.hid (gerr6 RT1.out hk0 HJ.out)
            have hk0' : (e.k == 0) = false := by simpa using hk0
            clear hown
            go_wp2
            go_ret3
            exact GO.err HE.out HR.out RES.out (by decide) F1.out
        | some j =>
          obtain ⟨hh, hc⟩ := HD.out.1 j hj
          rw [hh]
          obtain rfl : c = (j : Int) := by rw [hc] at hat; cases hat; rfl
          have HJ := Lib.hid hj
          clear hat hj hh hc
          by_cases hk0 : e.k = 0
          · have RES := Lib.hid (gerr5 RT1.out hk0 HJ.out)
            rw [hk0] at c0
            clear hk0 hown
            go_wp2
            go_ret3
            exact GO.err HE.out HR.out RES.out (by decide) F1.out
          · have RES := Lib.hid (gerrk RT1.out hk0 HJ.out)
            obtain ⟨tx, hst, hts, -⟩ := lk_at HJ.out
            obtain ⟨sv, hLj⟩ := pick_at HL.out hst
            have hjm : j < m := by have := (List.getElem?_eq_some_iff.1 hst).1; have := HM2.out; omega
            have T1' := T1.out
            rw [HM1.out] at T1'
            obtain ⟨g, capg, hsl, hcells, hfz, hBg, hgk⟩ := T1'.at hLj
            obtain ⟨rfl, rfl⟩ : a5 = some ⟨g, 0, none⟩ ∧ cap5 = capg := by simp at hsl; exact hsl
            have p0 : w1.cell? ⟨g, j * 4 + 1, none⟩ = some (.bool tx.d) := hcells 1 _ (by omega) rfl
            have p3 : w1.cell? ⟨g, j * 4 + 3, none⟩ = some sv := hcells 3 _ (by omega) rfl
            have q0 : w1.frozen? ⟨g, j * 4 + 1, none⟩ = false := hfz _
            have q3 : w1.frozen? ⟨g, j * 4 + 3, none⟩ = false := hfz _
            have hMg : M ≠ g := fun x => by obtain ⟨es, c, h⟩ := M1.out.obj; obtain ⟨cc, hcc⟩ := hgk; rw [x, hcc] at h; cases h
            have hEg : E ≠ g := fun x => by obtain ⟨cc, hcc⟩ := hgk; have := OB.out; rw [x, hcc] at this; simp at this
            have hgE : g ≠ E := fun x => hEg x.symm
            have NX := Lib.hid (gnextk (k : Int) hk0 HJ.out hst)
            have TT := Lib.hid T1'
            have HS := Lib.hid hst
            have HT := Lib.hid hts
            have HLJ := Lib.hid hLj
            have hj0 : (0 : Int) ≤ (j : Int) := Int.natCast_nonneg _
            have hj1 : (j : Int) < (m : Int) := by omega
            have HBG := Lib.hid hBg
            have hk0' : (e.k == 0) = false := by simpa using hk0
            clear T1' hsl hcells hfz hgk T1 hst hts hLj
            by_cases hk3 : e.k = 3
            · have HK3 := Lib.hid hk3
              rw [hk3] at c0
              clear hk3 hk0 hk0' p3 q3
              go_wp2_with (at_delete; refine stop ?_)
              have hown1 := hown.setCell (a := ⟨g, j * 4 + 1, none⟩) hMg (.bool true)
              refine Stop.go (wpList_delete_own _ rfl _ _ 46 3 rfl 3 law3 Try.underlying46 _ M m D rfl hown1 _ _ rfl hkey ?_)
              intro w3 hown3 ht3
              have hg3 := ht3.grown
              have M1' : MI (w1.setCell ⟨g, j * 4 + 1, none⟩ (.bool true)) M st := ⟨D, by rw [HM2.out]; exact hown1, MDD.out⟩
              have T2 : Hid (TO w3 M 26 (.slice (some ⟨g, 0, none⟩) m cap5) (L.set j ({ tx with d := true }, sv))) := Lib.hid (by rw [HM1.out]; exact (TT.out.setDone (by decide) HLJ.out true).mapTurn M1' hg3)
              have M2 : Hid (MI w3 M (st.set j ({ tx with d := true }, false))) := Lib.hid ⟨_, by rw [List.length_set, HM2.out]; exact hown3, MDD.out.del HJ.out HT.out⟩
              have F2 := Lib.hid ((F1.out.setNew ⟨g, j * 4 + 1, none⟩ (by have := HM.out; have := HBG.out; show _ ≤ g; omega) (.bool true)).keep (fr_of_grownBy hg3) (fun i hi => by have := HM.out; cases hi; omega))
              clear hown1 hown3 ht3 hg3 M1' hown c0 c1 c2 c3 p0 q0
              go_wp2
              go_roundg (gk - 1)
              case measure => have := HK.out; omega
              case rel =>
                refine ⟨k + 1, st.set j ({ tx with d := true }, false), L.set j ({ tx with d := true }, sv), by have := HK.out; omega, by go_num, by rw [List.map_set, List.map_set, HL.out], T2.out, M2.out, ?_, by rw [List.length_set]; exact H32.out, ?_, F2.out⟩
                · have := grun_next HE.out HR.out RES.out
                  rw [NX.out, HK3.out] at this
                  exact this
                · intro x hx
                  rcases List.mem_or_eq_of_mem_set hx with hx | rfl
                  · exact Nat.le_succ_of_le (HO.out x hx)
                  · exact Nat.le_succ_of_le (show tx.o.length ≤ k from HO.out (tx, sv) (List.mem_of_getElem? HLJ.out))
            · by_cases hk4 : e.k = 4
              · have HK4 := Lib.hid hk4
                rw [hk4] at c0
                clear hk3 hk4 hk0 hk0' p3 q3
                go_wp2_with (at_delete; refine stop ?_)
                have hown1 := hown.setCell (a := ⟨g, j * 4 + 1, none⟩) hMg (.bool false)
                refine Stop.go (wpList_delete_own _ rfl _ _ 46 3 rfl 3 law3 Try.underlying46 _ M m D rfl hown1 _ _ rfl hkey ?_)
                intro w3 hown3 ht3
                have hg3 := ht3.grown
                have M1' : MI (w1.setCell ⟨g, j * 4 + 1, none⟩ (.bool false)) M st := ⟨D, by rw [HM2.out]; exact hown1, MDD.out⟩
                have T2 : Hid (TO w3 M 26 (.slice (some ⟨g, 0, none⟩) m cap5) (L.set j ({ tx with d := false }, sv))) := Lib.hid (by rw [HM1.out]; exact (TT.out.setDone (by decide) HLJ.out false).mapTurn M1' hg3)
                have M2 : Hid (MI w3 M (st.set j ({ tx with d := false }, false))) := Lib.hid ⟨_, by rw [List.length_set, HM2.out]; exact hown3, MDD.out.del HJ.out HT.out⟩
                have F2 := Lib.hid ((F1.out.setNew ⟨g, j * 4 + 1, none⟩ (by have := HM.out; have := HBG.out; show _ ≤ g; omega) (.bool false)).keep (fr_of_grownBy hg3) (fun i hi => by have := HM.out; cases hi; omega))
                clear hown1 hown3 ht3 hg3 M1' hown c0 c1 c2 c3 p0 q0
                go_wp2
                go_roundg (gk - 1)
                case measure => have := HK.out; omega
                case rel =>
                  refine ⟨k + 1, st.set j ({ tx with d := false }, false), L.set j ({ tx with d := false }, sv), by have := HK.out; omega, by go_num, by rw [List.map_set, List.map_set, HL.out], T2.out, M2.out, ?_, by rw [List.length_set]; exact H32.out, ?_, F2.out⟩
                  · have := grun_next HE.out HR.out RES.out
                    rw [NX.out, HK4.out] at this
                    exact this
                  · intro x hx
                    rcases List.mem_or_eq_of_mem_set hx with hx | rfl
                    · exact Nat.le_succ_of_le (HO.out x hx)
                    · exact Nat.le_succ_of_le (show tx.o.length ≤ k from HO.out (tx, sv) (List.mem_of_getElem? HLJ.out))
              · have hk3' : (e.k == 3) = false := by simpa using hk3
                have hk4' : (e.k == 4) = false := by simpa using hk4
                have HIT : Hid (itemB e.k = true) := Lib.hid (by
                  have : e.k = 1 ∨ e.k = 2 := by omega
                  rcases this with h | h <;> simp [itemB, h])
                have hso : w1.ownsRow M 44 4 sv tx.o.length (ec tx.o) := TT.out.ops j _ HLJ.out
                obtain ⟨a6, cap6, rfl, -, -⟩ := owns_shape hso
                have O : Hid (w1.drew.ownsRow M 44 4 (.slice a6 tx.o.length cap6) tx.o.length (ec tx.o)) := Lib.hid (((Fr.refl nob w1).drew).owns hso (fun _ _ x => x))
                have hol : tx.o.length ≤ 10000 := by have := HO.out _ (List.mem_of_getElem? HLJ.out); simp at this; omega
                have hb1 : (tx.o.length + 1) * 32 ≤ 140737488355328 := by omega
                have hb2 : tx.o.length + 1 ≤ maxLen := by simp only [maxLen]; omega
                have hb3 : M ≤ (w1.drew.alloc (.cells #[.int .i64 e.k, .int .i64 e.s, .int .i64 e.y, .int .i64 e.v] 44)).heap.size := by have := obj_lt OB.out; simp; omega
                have TD := Lib.hid (TT.out.keep ((Fr.refl nob w1).drew))
                have MDr := Lib.hid (M1.out.keep ((Fr.refl nob w1).drew))
                have FD := Lib.hid F1.out.drew
                have p3' : (w1.alloc (.cells #[.int .i64 e.k, .int .i64 e.s, .int .i64 e.y, .int .i64 e.v] 44)).cell? ⟨g, j * 4 + 3, none⟩ = some (.slice a6 tx.o.length cap6) := ((Fr.refl nob w1).alloc _).cell_some p3 (fun x => x)
                clear p0 q0 hso hk3 hk4 hk0 hkey hown
                go_wp2_with fail
                go_region_law ((refine step_app rfl (.tmp 36) (.tmp 38) rfl appEv rfl (base := M) (n := tx.o.length) (xs := ec tx.o) (World.ownsRow.alloc (w := w1.drew) O.out _) (m := 1) (news := ec [e]) rfl rfl (Src.block (w := w1.drew.alloc _) (cs := #[.int .i64 e.k, .int .i64 e.s, .int .i64 e.y, .int .i64 e.v]) (obj_new (w := w1.drew) rfl _) (ec_one [e])) hb1 hb2 hb3 ?_; intro v3 w3 ho3 hg3 hd3; obtain ⟨a7, cap7, rfl, -, -⟩ := owns_shape ho3; have hrow : (w1.drew.alloc (.cells #[.int .i64 e.k, .int .i64 e.s, .int .i64 e.y, .int .i64 e.v] 44)).ownsRow M 26 4 (.slice (some ⟨g, 0, none⟩) L.length cap5) L.length (tc L) := TD.out.row.alloc _; have hrow3 : w3.ownsRow M 26 4 (.slice (some ⟨g, 0, none⟩) L.length cap5) L.length (tc L) := (fr_of_grownBy hg3).owns hrow (fun q hq x => own_ne hrow (O.out.alloc _) (by decide) hq x); have HR3 := Lib.hid hrow3; have HO3 := Lib.hid ho3; have HG3 := Lib.hid hg3; have HD3 := Lib.hid hd3; have e3 : w3.cell? ⟨g, j * 4 + 3, none⟩ = some (.slice a6 tx.o.length cap6) := (by have c := hrow3.cells (g := g) rfl (j * 4 + 3) _ (by rw [tc, flat4 Tx.cells (fun _ => rfl) L j 3 _ HLJ.out (by omega)]; rfl); rw [Addr.add_lit, Nat.zero_add] at c; exact c); have f3 : w3.frozen? ⟨g, j * 4 + 3, none⟩ = false := hrow3.frozenAt _; clear hrow hrow3 ho3 hg3 hd3))
                all_goals
                  have T3 : Hid (TO (w3.setCell ⟨g, j * 4 + 3, none⟩ (.slice a7 (tx.o.length + 1) cap7)) M 26 (.slice (some ⟨g, 0, none⟩) m cap5) (L.set j ({ tx with o := tx.o ++ [e] }, .slice a7 (tx.o.length + 1) cap7))) := Lib.hid (by
                    rw [HM1.out]
                    exact TO.addOp (TD.out.keep ((Fr.refl nob w1.drew).alloc _)) (by decide) HLJ.out (by rw [ec_app]; exact HO3.out) HG3.out HD3.out)
                  have M3 : Hid (MI (w3.setCell ⟨g, j * 4 + 3, none⟩ (.slice a7 (tx.o.length + 1) cap7)) M (st.set j ({ tx with o := tx.o ++ [e] }, true))) := Lib.hid (by
                    obtain ⟨D', h1, h2⟩ := (MDr.out.keep ((Fr.refl nob w1.drew).alloc _)).grown (O.out.alloc _) HG3.out
                    exact ⟨D', by rw [List.length_set]; exact h1.setCell hMg _, h2.set HJ.out HT.out⟩)
                  have F3 := Lib.hid (((FD.out.alloc _).grownOwn (by have := HM.out; omega) (O.out.alloc _) HG3.out).setNew ⟨g, j * 4 + 3, none⟩ (by have := HM.out; have := HBG.out; show _ ≤ g; omega) (.slice a7 (tx.o.length + 1) cap7))
                  clear HO3 HG3 HD3 HR3 e3 f3 TD MDr FD
                  go_wp2
                  go_roundg (gk - 1)
                  case measure => have := HK.out; omega
                  case rel =>
                    refine ⟨k + 1, st.set j ({ tx with o := tx.o ++ [e] }, true), L.set j ({ tx with o := tx.o ++ [e] }, .slice a7 (tx.o.length + 1) cap7), by have := HK.out; omega, by go_num, by rw [List.map_set, List.map_set, HL.out], T3.out, M3.out, ?_, by rw [List.length_set]; exact H32.out, ?_, F3.out⟩
                    · have := grun_next HE.out HR.out RES.out
                      rw [NX.out, HIT.out] at this
                      exact this
                    · intro x hx
                      rcases List.mem_or_eq_of_mem_set hx with hx | rfl
                      · exact Nat.le_succ_of_le (HO.out x hx)
                      · have : tx.o.length ≤ k := HO.out (tx, _) (List.mem_of_getElem? HLJ.out)
                        simp; omega
    · have hkn : k = n := by omega
      have HKK := Lib.hid (hkn.trans HN.out)
      clear hkn
      go_wp2
      go_ret3
      exact GO.ok HKK.out HR.out HL.out TT.out F.out

end Go.Proofs.Ytlmaloikhmkokaa
