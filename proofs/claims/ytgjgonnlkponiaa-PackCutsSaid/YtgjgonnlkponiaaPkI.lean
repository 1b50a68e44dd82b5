/- Put. -/
import Derived.Test.YtgjgonnlkponiaaPkH
namespace Go.Proofs.Ytgjgonnlkponiaa
open Go.RowKit Go.Shelf
attribute [local go_sem] Oper.semAt_some

theorem wpListIn_app {F : Fence} {N : Nat} {P : Program} {w : World} {ops : Array Oper} {rest : List Oper} {o : Oper} {a : Act} {Q : Exit → Act → World → Prop}
    (hg : o.guard = none) (s x : Operand) {t : TypeId} (hop : o.op = Op.call { callee := Callee.builtin Builtin.append, args := #[s, x], argTypes := #[t, t] })
    {e : TypeId} {size bytes base : Nat} (A : AppT P t e size bytes) {v : Value} {n : Nat} {xs : List Value} (hs : a.eval s = v) (hown : w.ownsRow base e size v n xs)
    {ao : Option Addr} {m c : Nat} {news : List Value} (hx : a.eval x = .slice ao m c) (hl : news.length = m * size) (hsrc : Src w ao news) (hb : (n + m) * bytes ≤ 140737488355328) (h63 : n + m ≤ maxLen) (hbase : base ≤ w.heap.size)
    (hK : ∀ v' w', w'.ownsRow base e size v' (n + m) (xs ++ news) → w.grownBy w' v.ownBlock → (v'.ownBlock = v.ownBlock ∨ ∀ k, v'.ownBlock = some k → w.heap.size ≤ k) → wpListIn F N P ops Q rest (a.put o.dst v') w') :
    wpListIn F N P ops Q (o :: rest) a w := by
  refine wpListIn_plain hg fun K hK' => ?_
  obtain ⟨v', w', hrun, r1, r2, r3⟩ := run_app (ty := o.type) A hown hl hsrc hb h63 hbase (c := c)
  unfold Oper.wpIn
  refine ⟨?_, ?_⟩
  · simp [Oper.about, hop, resolve, Target.leads, Sem.run_pure]
  · rw [Oper.semAt_plain F _ _ (by rw [hop]; intro c hc'; cases hc')]
    simp [execOp, hop, resolve, invoke, builtin, hs, hx, hrun, Result.andThen]
    exact hK' _ _ (hK v' w' r1 r2 r3)

/-- Bytes as cells. -/
def bc (l : List Int) : List Value := l.map (Value.int .u8)
theorem bc_one (l : List Int) : ∀ u ∈ bc l, u.oneCell' = true := by
  intro u hu
  simp only [bc, List.mem_map] at hu
  obtain ⟨n, _, rfl⟩ := hu
  rfl
theorem bc_app (l m : List Int) : bc (l ++ m) = bc l ++ bc m := by simp [bc]

/-- How memory stands in Put: block o holds out, which has the bytes bs; the marks so far. -/
structure PS (w : World) (o : Nat) (Ds : List Nat) (W : World) (bs : List Int) : Prop where
  row : ∃ v, W.heap[o]? = some (.cells #[v] 34 (0, 0)) ∧ W.ownsRow (o + 1) 5 1 v bs.length (bc bs)
  lo : w.heap.size ≤ o
  fr : Fr nob w W
  ms : ∀ D ∈ Ds, w.heap.size ≤ D ∧ W.heap[D]? = some (.deferred (some []))

theorem owns_obj {w : World} {base : Nat} {e : TypeId} {v : Value} {n k : Nat} {xs : List Value} (h : w.ownsRow base e 1 v n xs) (hk : v.ownBlock = some k) : base ≤ k ∧ ∃ cs, w.heap[k]? = some (.cells cs e (0, 0)) := by
  rcases h.2 with ⟨rfl, h0⟩ | ⟨g, cap, cur, rfl, hb, hg, hn, hc, hs, ht⟩
  · cases hk
  · obtain rfl : g = k := by simpa [Value.ownBlock] using hk
    exact ⟨hb, _, hg⟩

/-- A turn of blocks S, none of them of ours. -/
theorem PS.turn {w : World} {o : Nat} {Ds : List Nat} {W W' : World} {bs : List Int} {S : Nat → Prop} (h : PS w o Ds W bs) (f : Fr S W W') (hlo : ∀ k, S k → w.heap.size ≤ k)
    (hS : ∀ k, S k → k ∉ Ds ∧ ∀ cs t, W.heap[k]? = some (.cells cs t (0, 0)) → t ≠ 34 ∧ t ≠ 5) : PS w o Ds W' bs := by
  obtain ⟨v, h1, h2⟩ := h.row
  have ho : ¬ S o := fun x => ((hS o x).2 _ _ h1).1 rfl
  refine ⟨⟨v, f.heap_some h1 ho, f.owns h2 (fun k hk x => ?_)⟩, h.lo, h.fr.trans f (fun _ _ x => x) (fun i hi x => by have := hlo i x; omega), fun D hD => ⟨(h.ms D hD).1, f.heap_some (h.ms D hD).2 (fun x => (hS D x).1 hD)⟩⟩
  obtain ⟨_, cs, h3⟩ := owns_obj h2 hk
  exact ((hS k x).2 _ _ h3).2 rfl
theorem PS.keep {w : World} {o : Nat} {Ds : List Nat} {W W' : World} {bs : List Int} (h : PS w o Ds W bs) (f : Fr nob W W') : PS w o Ds W' bs := h.turn f (fun _ x => x.elim) (fun _ x => x.elim)
theorem fr_of_grownBy {W W' : World} {row : Option Nat} (h : W.grownBy W' row) : Fr (fun k => row = some k) W W' :=
  ⟨h.os, h.tape, h.output, h.size, fun k hk hn => h.block k hk (fun e => hn e.symm)⟩
theorem PS.own {w : World} {o B : Nat} {Ds : List Nat} {L : List Int} (hB : w.heap.size ≤ B) (hD : ∀ D ∈ Ds, D < B) : OwnFrom B (fun (pre : List Int) W => PS w o Ds W (L ++ pre)) := fun s W W' row hs hg hr =>
  hs.turn (fr_of_grownBy hg) (fun k hk => by have := (hr k hk).1; omega) (fun k hk => by
    obtain ⟨h1, ob, h2, h3⟩ := hr k hk
    refine ⟨fun hm => by have := hD k hm; omega, fun cs t hc => ?_⟩
    rw [hc] at h2
    obtain rfl := Option.some.inj h2
    simp [Obj.isCells] at h3)
theorem PS.box {w : World} {o Bn : Nat} {Ds : List Nat} {L : List Int} (hBn : w.heap.size ≤ Bn) : ∀ (pre : List Int) W (u v : Int), PS w o Ds W (L ++ pre) → W.heap[Bn]? = some (.cells #[.int .i64 u] 3 (0, 0)) → PS w o Ds (W.setCell ⟨Bn, 0, none⟩ (.int .i64 v)) (L ++ pre) := fun pre W u v h hb =>
  h.turn (S := fun k => k = Bn) ((Fr.refl (fun k => k = Bn) W).setIn 0 _) (fun k hk => hk ▸ hBn) (fun k hk => by
    subst hk
    refine ⟨fun hm => ?_, fun cs t hc => ?_⟩
    · have := (h.ms _ hm).2
      rw [hb] at this
      cases this
    · rw [hb] at hc
      simp only [Option.some.injEq, Obj.cells.injEq] at hc
      obtain ⟨-, rfl, -⟩ := hc
      exact ⟨by decide, by decide⟩)

/-- One byte more. -/
theorem PS.push {w : World} {o : Nat} {Ds : List Nat} {W W3 : World} {bs : List Int} {v v3 : Value} {x : Int} (h : PS w o Ds W bs) (h1 : W.heap[o]? = some (.cells #[v] 34 (0, 0))) (h2 : W.ownsRow (o + 1) 5 1 v bs.length (bc bs))
    (h3 : W3.ownsRow (o + 1) 5 1 v3 (bs.length + 1) (bc (bs ++ [x]))) (hg : (W.alloc (.cells #[.int .u8 x] 5)).grownBy W3 v.ownBlock) :
    PS w o Ds (W3.setCell ⟨o, 0, none⟩ v3) (bs ++ [x]) ∧ KeepsOthers W (W3.setCell ⟨o, 0, none⟩ v3) ∧ ∀ (Bn : Nat) (u : Int), W.heap[Bn]? = some (Obj.cells #[.int .i64 u] 3 (0, 0)) → (W3.setCell ⟨o, 0, none⟩ v3).heap[Bn]? = some (Obj.cells #[.int .i64 u] 3 (0, 0)) := by
  have hown : ∀ k, v.ownBlock = some k → o + 1 ≤ k ∧ ∃ cs, W.heap[k]? = some (.cells cs 5 (0, 0)) := fun k hk => owns_obj h2 hk
  have f3 : Fr (fun k => v.ownBlock = some k) W W3 := ((Fr.refl nob W).alloc _).trans (fr_of_grownBy hg) (fun _ _ x => x.elim) (fun _ _ x => x)
  have no : ¬ v.ownBlock = some o := fun e => by have := (hown o e).1; omega
  have o3 : W3.heap[o]? = some (.cells #[v] 34 (0, 0)) := f3.heap_some h1 no
  have fo : Fr (fun k => v.ownBlock = some k ∨ k = o) W (W3.setCell ⟨o, 0, none⟩ v3) := (f3.trans (T := nob) (U := fun k => v.ownBlock = some k ∨ k = o) (Fr.refl nob W3) (fun _ _ x => .inl x) (fun _ _ x => x.elim)).setCell _ (fun _ => .inr rfl) _
  refine ⟨⟨⟨v3, by have := obj_set o3 0 v3; simpa using this, ?_⟩, h.lo, ?_, fun D hD => ⟨(h.ms D hD).1, fo.heap_some (h.ms D hD).2 ?_⟩⟩, ?_, fun Bn u hb => fo.heap_some hb ?_⟩
  · rw [List.length_append, List.length_singleton]
    exact ownsRow_setCell_below h3 (by show o < o + 1; omega) _
  · exact h.fr.trans fo (fun _ _ x => x) (fun i hi x => by
      have := h.lo
      rcases x with x | x
      · have := (hown i x).1; omega
      · omega)
  · rintro (x | x)
    · obtain ⟨_, cs, hc⟩ := hown D x
      rw [(h.ms D hD).2] at hc
      cases hc
    · subst x
      rw [(h.ms D hD).2] at h1
      cases h1
  · refine ((KeepsOthers.alloc W _).trans (KeepsOthers.of_grownBy hg (fun j ob hj hob => ?_))).trans (KeepsOthers.setCell _ _ _)
    obtain ⟨_, cs, hc⟩ := hown j hj
    rw [obj_alloc hc] at hob
    obtain rfl := Option.some.inj hob
    rfl
  · rintro (x | x)
    · obtain ⟨_, cs, hc⟩ := hown Bn x
      rw [hb] at hc
      simp at hc
    · subst x
      rw [hb] at h1
      simp at h1

def by8 (l : List Int) : List UInt8 := l.map fun n => UInt8.ofNat n.toNat
theorem run_str {w : World} {base n : Nat} {v : Value} {l : List Int} (hl : l.length = n) (h : w.ownsRow base 5 1 v n (bc l)) : (convert 34 9 v).run Try.prog w = .ok (.string ⟨(by8 l).toArray⟩) w := by
  rcases h.2 with ⟨rfl, h0⟩ | ⟨g, cap, cur, rfl, hb, hg, hn, hc, hs, ht⟩
  · have : l = [] := List.eq_nil_of_length_eq_zero (by omega)
    subst this
    exact run_convert_bytes_nil w 34 5 Try.underlying34 Try.underlying5 0 0 9 Try.underlying9
  · show _ = Result.ok (Value.string (strOfNums l)) w
    refine run_convert_bytes_arg w 34 5 Try.underlying34 Try.underlying5 g 0 n cap l hl (fun i hi => ?_) 9 Try.underlying9
    have := h.cells (g := g) rfl i (.int .u8 (l.getD i 0)) (by simp [bc, List.getD, show i < l.length by omega])
    rw [Addr.add_lit] at this
    exact this
/-- The bytes of many, as numbers. -/
def encJ (l : List Int) : List Int := l.flatMap fun x => encI (x + 1).toNat
theorem by8_encI (n : Nat) : by8 (encI n) = enc7 n := by
  unfold by8 encI
  rw [List.map_map]
  conv => rhs; rw [← List.map_id (enc7 n)]
  refine List.map_congr_left fun c _ => ?_
  simp
theorem by8_app (l m : List Int) : by8 (l ++ m) = by8 l ++ by8 m := by simp [by8]
theorem by8_encJ (l : List Int) : by8 (encJ l) = encL l := by
  induction l with
  | nil => rfl
  | cons x l ih =>
    have h1 : encJ (x :: l) = encI (x + 1).toNat ++ encJ l := by simp [encJ]
    rw [h1, by8_app, by8_encI, ih, encL_cons]
theorem encJ_snoc {l : List Int} {k : Nat} {x : Int} (h : l[k]? = some x) : encJ (l.take (k + 1)) = encJ (l.take k) ++ encI (x + 1).toNat := by
  rw [take_snoc h]; simp [encJ]
theorem encJ_len {l : List Int} (h : l.all okN = true) : (encJ l).length ≤ 5 * l.length := by
  have := encL_len h
  rw [← by8_encJ] at this
  simpa [by8] using this
theorem encI_len {n : Nat} (h : n ≤ 2147483648) : (encI n).length ≤ 5 := by have := enc7_five h; simpa [encI] using this

set_option maxRecDepth 100000 in
theorem put_many (a : Option Addr) (cap : Nat) (l : List Int) (w : World) (h : 100000 < l.length) :
    Calls Try.prog 8 #[.slice a l.length cap] w (PT l w) := by
  go_enter Try.func8, Try.ntmps8
  go_wp2
  go_ret2
  exact PT.many h (Fr.refl _ _)

set_option maxRecDepth 100000 in
set_option maxHeartbeats 1000000 in
theorem put_some (a : Option Addr) (b off cap : Nat) (l : List Int) (w : World) (hp : IAt w a b off l) (h : ¬ 100000 < l.length) :
    Calls Try.prog 8 #[.slice a l.length cap] w (PT l w) := by
  have H := Lib.hid hp
  have hlb : l.length ≤ 2147483648 := by omega
  clear hp
  refine calls_of_marks Try.func8 rfl ?_
  simp only [Try.ntmps8, List.size_toArray, List.length_cons, List.length_nil, Nat.reduceAdd, Nat.reduceSub, Array.replicate_succ, Array.replicate_zero, List.push_toArray, List.append_toArray, List.nil_append, List.cons_append]
  go_wp2_with (go_at_call 13; refine stop ?_)
  refine Stop.go ((groups_any _ _).mono ?_)
  rintro e w1 ⟨rfl, rfl⟩
  have hdec : decide (100000 < (l.length : Int)) = false := by simp; omega
  go_wp2_with fail
  obtain ⟨o, ho⟩ : ∃ o, o = w.heap.size := ⟨_, rfl⟩
  obtain ⟨W2, hW2⟩ : ∃ W2, W2 = (w.alloc (.cells #[.slice none 0 0] 34)).alloc (.cells #[.int .i64 (l.length : Int)] 3) := ⟨_, rfl⟩
  rw [← hW2, ← ho]
  have hb2 : W2.heap[o + 1]? = some (.cells #[.int .i64 (l.length : Int)] 3 (0, 0)) := by rw [hW2, ho]; exact obj_new (by simp) _
  have P2 : PS w o [] W2 [] := ⟨⟨.slice none 0 0, by rw [hW2, ho]; exact obj_alloc (obj_new rfl _) _, World.ownsRow_nil _ _ _ _⟩, by omega, by rw [hW2]; exact ((Fr.refl nob w).alloc _).alloc _, by simp⟩
  have hsz : w.heap.size ≤ W2.heap.size := P2.fr.size
  have HO := Lib.hid ho
  clear hW2 ho
  refine wp_groups l.length (o + 1) hlb rfl rfl hb2 (fun pre W => PS w o [] W ([] ++ pre)) (PS.own hsz (by simp)) (PS.box (by have := HO.out; omega)) P2
    (fun x => { tmps := #[.slice a l.length cap, undef, .string { data := #[] }, .int .i64 0, .pointer (some ⟨o, 0, none⟩), .int .u8 x, undef, undef, undef, .slice a l.length cap, .int .i64 l.length, .bool false, .slice a l.length cap, .int .i64 l.length,
      .func (.func 17) #[] #[.pointer (some ⟨o + 1, 0, none⟩)], .int .u8 x, undef, undef, undef, undef, undef, undef, undef, undef, undef, undef, undef, undef, undef, undef, undef, undef, undef, undef, undef, undef, undef, undef, undef, undef, undef, undef, undef], defers := [] }) ?assign ?body ?done
  case assign =>
    intro l' x W K hK
    gi_wp2
    exact hK
  case body =>
    intro l' pre x u W hI hb hx0 hx1 hpl
    rw [List.nil_append] at hI
    obtain ⟨v, h1, h2⟩ := hI.row
    obtain ⟨a3, cap3, rfl, -, -⟩ := owns_shape h2
    have c0 : W.cell? ⟨o, 0, none⟩ = some (.slice a3 pre.length cap3) := obj_cell h1 0
    have z0 := obj_free h1 0
    have II := Lib.hid hI
    have H1 := Lib.hid h1
    have H2 := Lib.hid h2
    have HB := Lib.hid hb
    clear hI h1 h2 hb P2 hb2
    gi_wp2_with (gi_at_builtin; refine stop ?_)
    refine Stop.go (wpListIn_app rfl (.tmp 16) (.tmp 18) rfl appByte rfl (base := o + 1) (n := pre.length) (xs := bc pre) ?p1 (m := 1) (news := bc [x]) rfl rfl ?p3 ?p4 ?p5 ?p6 ?p7)
    case p1 => exact H2.out.alloc _
    case p3 => exact Src.block (cs := #[.int .u8 x]) (obj_new rfl _) (bc_one [x])
    case p4 => omega
    case p5 => simp only [maxLen]; omega
    case p6 => have := obj_lt H1.out; simp; omega
    case p7 =>
      intro v3 w3 ho3 hg3 _
      obtain ⟨a4, cap4, rfl, -, -⟩ := owns_shape ho3
      rw [← bc_app] at ho3
      have PP := II.out.push H1.out H2.out ho3 hg3
      have PQ := Lib.hid PP
      have hlt3 : o < w3.heap.size := by have := hg3.size; have := obj_lt H1.out; simp at *; omega
      have c3 : w3.cell? ⟨o, 0, none⟩ = some (.slice a3 pre.length cap3) := by
        have := (fr_of_grownBy hg3).heap_some (obj_alloc H1.out _) (fun e => by have := (owns_obj H2.out e).1; omega)
        exact obj_cell this 0
      have z3 : w3.frozen? ⟨o, 0, none⟩ = false := by
        have := (fr_of_grownBy hg3).heap_some (obj_alloc H1.out _) (fun e => by have := (owns_obj H2.out e).1; omega)
        exact obj_free this 0
      clear PP ho3 hg3 c0 z0
      gi_wp2
      exact ⟨PQ.out.2.1, by rw [PQ.out.2.2 _ _ HB.out, HB.out], PQ.out.1⟩
  case done =>
    intro D W hD hI hK
    have DD : w.heap.size ≤ D := by omega
    have P3 : PS w o [D] W (encI l.length ++ encJ (l.take 0)) := ⟨by have := hI.row; simpa [encJ] using this, hI.lo, hI.fr, by simp; exact ⟨DD, hK⟩⟩
    have PP := Lib.hid P3
    clear hI hK hD P3 P2 hb2
    go_wp2_with fail
    refine wp_loop_ghost (fun gk a' W' => ∃ (k : Nat) (Ds : List Nat) (u7 u23 u24 u25 u26 u27 u28 u29 u30 u31 u32 u33 u34 u40 : Value), k + gk = l.length ∧ a' = { tmps := #[Value.slice a l.length cap, undef, .string { data := #[] }, .int .i64 0, .pointer (some ⟨o, 0, none⟩), undef, undef, u7, undef, Value.slice a l.length cap, .int .i64 l.length, .bool false, Value.slice a l.length cap, .int .i64 l.length, .func (.func 17) #[] #[.pointer (some ⟨o + 1, 0, none⟩)], undef, undef, undef, undef, undef, Value.slice a l.length cap, .int .i64 l.length, .int .i64 (k : Nat), u23, u24, u25, u26, u27, u28, u29, u30, u31, u32, u33, u34, undef, undef, undef, undef, undef, u40, undef, undef], defers := Ds.map mark } ∧
      (l.take k).all okN = true ∧ Ds.Nodup ∧ PS w o Ds W' (encI l.length ++ encJ (l.take k))) l.length ?_ ?_
    · exact ⟨0, [D], undef, undef, undef, undef, undef, undef, undef, undef, undef, undef, undef, undef, undef, undef, Nat.zero_add _, rfl, rfl, by simp, PP.out⟩
    · rintro gk a' W' ⟨k, Ds, u7, u23, u24, u25, u26, u27, u28, u29, u30, u31, u32, u33, u34, u40, hk, rfl, hall, hnd, hps⟩
      have HK := Lib.hid hk
      have HA := Lib.hid hall
      have HN := Lib.hid hnd
      have PW := Lib.hid hps
      have hkl : k ≤ l.length := by omega
      clear hk hall hnd hps PP
      by_cases hlt : k < l.length
      · obtain ⟨x, hx⟩ : ∃ x, l[k]? = some x := ⟨_, List.getElem?_eq_getElem hlt⟩
        obtain rfl := H.out.addr hx
        have d0 := (H.out.nob PW.out.fr).2 k x hx
        have HX := Lib.hid hx
        clear hx
        have hidx0 : (0 : Int) ≤ (k : Int) := Int.natCast_nonneg _
        have hidx1 : (k : Int) < (l.length : Int) := by omega
        by_cases hlo : x < -1
        · have RES := Lib.hid (putE_no h k x HX.out (okN_no (.inl hlo)))
          go_wp2
          refine leaves_marks (v := .tuple #[.string { data := #[] }, .int .i64 1]) (w0 := w) Ds W' HN.out PW.out.ms PW.out.fr (fun _ => by simp [results, Try.results8, go_sem]) (fun W' f => PT.no RES.out f)
        · by_cases hhi : 2147483647 < x
          · have RES := Lib.hid (putE_no h k x HX.out (okN_no (.inr hhi)))
            go_wp2
            refine leaves_marks (v := .tuple #[.string { data := #[] }, .int .i64 1]) (w0 := w) Ds W' HN.out PW.out.ms PW.out.fr (fun _ => by simp [results, Try.results8, go_sem]) (fun W' f => PT.no RES.out f)
          · obtain ⟨u, hu⟩ : ∃ u, u = (x + 1).toNat := ⟨_, rfl⟩
            have hux : x + 1 = (u : Int) := by omega
            have huw : IntKind.i64.wrap (x + 1) = x + 1 := IntWalk.i64_in _ (by omega)
            have hub : u ≤ 2147483648 := by omega
            have hok : okN x = true := okN_yes hlo hhi
            have HA2 : Hid ((l.take (k + 1)).all okN = true) := Lib.hid (by rw [take_snoc HX.out, List.all_append, HA.out]; simp [hok])
            have HJ2 : Hid (encJ (l.take (k + 1)) = encJ (l.take k) ++ encI u) := Lib.hid (by rw [hu]; exact encJ_snoc HX.out)
            have hlen : (encI l.length ++ encJ (l.take k)).length ≤ 600000 := by
              have h1 := encJ_len HA.out
              have h2 := encI_len hlb
              rw [List.length_take] at h1
              rw [List.length_append]; omega
            clear hu hok
            go_wp2_with (go_at_call 13; refine stop ?_)
            refine Stop.go ((groups_any _ _).mono ?_)
            rintro e w3 ⟨rfl, rfl⟩
            go_wp2_with fail
            obtain ⟨Bn, hBn⟩ : ∃ Bn, Bn = W'.heap.size := ⟨_, rfl⟩
            obtain ⟨W4, hW4⟩ : ∃ W4, W4 = W'.alloc (.cells #[.int .i64 (u : Int)] 3) := ⟨_, rfl⟩
            rw [← hW4, ← hBn]
            have f4 : Fr nob W' W4 := by rw [hW4]; exact (Fr.refl nob W').alloc _
            have P4 : PS w o Ds W4 ((encI l.length ++ encJ (l.take k)) ++ []) := by rw [List.append_nil]; exact PW.out.keep f4
            have hb4 : W4.heap[Bn]? = some (.cells #[.int .i64 (u : Int)] 3 (0, 0)) := by rw [hW4, hBn]; exact obj_new rfl _
            have hs4 : W4.heap.size = Bn + 1 := by rw [hW4, hBn]; simp
            have hsB : w.heap.size ≤ Bn := by have := PW.out.fr.size; omega
            have hDB : ∀ D ∈ Ds, D < Bn := fun D hD => by have := obj_lt (PW.out.ms D hD).2; omega
            clear hW4 hBn f4 d0 HX
            refine wp_groups u Bn hub rfl rfl hb4 (fun pre W => PS w o Ds W ((encI l.length ++ encJ (l.take k)) ++ pre)) (PS.own (by omega) (fun D hD => by have := hDB D hD; omega)) (PS.box hsB) P4
              (fun x' => { tmps := #[.slice (some ⟨b, off, none⟩) l.length cap, undef, .string { data := #[] }, .int .i64 0, .pointer (some ⟨o, 0, none⟩), undef, undef, .int .i64 x, .int .u8 x', .slice (some ⟨b, off, none⟩) l.length cap, .int .i64 l.length, .bool false, .slice (some ⟨b, off, none⟩) l.length cap, .int .i64 l.length,
                .func (.func 17) #[] #[.pointer (some ⟨o + 1, 0, none⟩)], undef, undef, undef, undef, undef, .slice (some ⟨b, off, none⟩) l.length cap, .int .i64 l.length, .int .i64 k, .bool true, .pointer (some ⟨b, off + k, none⟩), .int .i64 x, .int .i64 x, .bool false, .bool false, .int .i64 x, .bool false, .bool false, .int .i64 x, .int .i64 u,
                .func (.func 17) #[] #[.pointer (some ⟨Bn, 0, none⟩)], .int .u8 x', undef, undef, undef, undef, u40, undef, undef], defers := [] }) ?assign ?body ?done
            case assign =>
              intro l' x' W K hK
              gi_wp2
              exact hK
            case body =>
              intro l' pre x' u' W hI hb hx0 hx1 hpl
              obtain ⟨L, hL⟩ : ∃ L, L = encI l.length ++ encJ (l.take k) ++ pre := ⟨_, rfl⟩
              have hLl : L.length ≤ 600005 := by rw [hL, List.length_append]; omega
              have HL := Lib.hid hL
              rw [← hL] at hI
              clear hL
              obtain ⟨v, h1, h2⟩ := hI.row
              obtain ⟨a3, cap3, rfl, -, -⟩ := owns_shape h2
              have c0 : W.cell? ⟨o, 0, none⟩ = some (.slice a3 L.length cap3) := obj_cell h1 0
              have z0 := obj_free h1 0
              have II := Lib.hid hI
              have H1 := Lib.hid h1
              have H2 := Lib.hid h2
              have HB := Lib.hid hb
              clear hI h1 h2 hb P4 hb4
              gi_wp2_with (gi_at_builtin; refine stop ?_)
              refine Stop.go (wpListIn_app rfl (.tmp 36) (.tmp 38) rfl appByte rfl (base := o + 1) (n := L.length) (xs := bc L) ?p1 (m := 1) (news := bc [x']) rfl rfl ?p3 ?p4 ?p5 ?p6 ?p7)
              case p1 => exact H2.out.alloc _
              case p3 => exact Src.block (cs := #[.int .u8 x']) (obj_new rfl _) (bc_one [x'])
              case p4 => omega
              case p5 => simp only [maxLen]; omega
              case p6 => have := obj_lt H1.out; simp; omega
              case p7 =>
                intro v3 w3 ho3 hg3 _
                obtain ⟨a4, cap4, rfl, -, -⟩ := owns_shape ho3
                rw [← bc_app] at ho3
                have PP := II.out.push H1.out H2.out ho3 hg3
                have PQ := Lib.hid PP
                have hlt3 : o < w3.heap.size := by have := hg3.size; have := obj_lt H1.out; simp at *; omega
                have c3 : w3.cell? ⟨o, 0, none⟩ = some (.slice a3 L.length cap3) := by
                  have := (fr_of_grownBy hg3).heap_some (obj_alloc H1.out _) (fun e => by have := (owns_obj H2.out e).1; omega)
                  exact obj_cell this 0
                have z3 : w3.frozen? ⟨o, 0, none⟩ = false := by
                  have := (fr_of_grownBy hg3).heap_some (obj_alloc H1.out _) (fun e => by have := (owns_obj H2.out e).1; omega)
                  exact obj_free this 0
                clear PP ho3 hg3 c0 z0
                gi_wp2
                exact ⟨PQ.out.2.1, by rw [PQ.out.2.2 _ _ HB.out, HB.out], by have hp := PQ.out.1; have hl : L ++ [x'] = encI l.length ++ encJ (l.take k) ++ (pre ++ [x']) := (by rw [HL.out]; simp); rw [hl] at hp; exact hp⟩
            case done =>
              intro D W hD hI hK
              have HN2 : Hid (D :: Ds).Nodup := Lib.hid (List.nodup_cons.2 ⟨fun hm => by have := hDB D hm; omega, HN.out⟩)
              have PP : Hid (PS w o (D :: Ds) W (encI l.length ++ encJ (l.take (k + 1)))) := Lib.hid (by
                rw [HJ2.out, ← List.append_assoc]
                exact ⟨hI.row, hI.lo, hI.fr, fun E hE => by
                  rcases List.mem_cons.1 hE with rfl | hE
                  · exact ⟨by omega, hK⟩
                  · exact hI.ms E hE⟩)
              clear hI hK P4 hb4 hs4 hsB hDB hD HN PW HJ2 HA
              go_wp2_with fail
              refine ⟨gk - 1, by have := HK.out; omega, k + 1, D :: Ds, _, _, _, _, _, _, _, _, _, _, _, _, _, _, by have := HK.out; omega, rfl, HA2.out, HN2.out, PP.out⟩
      · have hkk : k = l.length := by omega
        have RES : Hid (putE l = 0 ∧ by8 (encI l.length ++ encJ (l.take k)) = putL l) := Lib.hid (by
          have h1 := HA.out
          rw [hkk, List.take_length] at h1
          have h2 := putE_ok (by omega) h1
          refine ⟨h2.1, ?_⟩
          rw [h2.2, hkk, List.take_length, by8_app, by8_encI, by8_encJ])
        obtain ⟨L, hL⟩ : ∃ L, L = encI l.length ++ encJ (l.take k) := ⟨_, rfl⟩
        have PL := PW.out
        have RL := RES.out
        rw [← hL] at PL RL
        obtain ⟨v, h1, h2⟩ := PL.row
        obtain ⟨a3, cap3, rfl, -, -⟩ := owns_shape h2
        have c0 : W'.cell? ⟨o, 0, none⟩ = some (.slice a3 L.length cap3) := obj_cell h1 0
        have z0 := obj_free h1 0
        have hst := run_str rfl h2
        have RES := Lib.hid RL
        have PW := Lib.hid PL
        clear h1 h2 hkk hL PL RL
        go_wp2
        refine leaves_marks (v := .tuple #[.string { data := (by8 L).toArray }, .int .i64 0]) (w0 := w) Ds W' HN.out PW.out.ms PW.out.fr (fun _ => by simp [results, Try.results8, go_sem]) (fun W' f => PT.ok RES.out.1 (by rw [RES.out.2]) f)

theorem put_any (v : Value) (l : List Int) (w : World) (h : RI w v l) : Calls Try.prog 8 #[v] w (PT l w) := by
  obtain ⟨a, b, off, cap, rfl, h1, h2, h3⟩ := h
  by_cases hm : 100000 < l.length
  · exact put_many a cap l w hm
  · exact put_some a b off cap l w h3 hm

end Go.Proofs.Ytgjgonnlkponiaa
