/- Events. -/
import Derived.Test.YtlmaloikhmkokaaGrI
namespace Go.Proofs.Ytlmaloikhmkokaa
open Go.RowKit

def evs1 (t : Tx) : List Ev := ⟨0, t.s, 0, 0⟩ :: (t.o ++ [⟨if t.d then 3 else 4, t.s, 0, 0⟩])
def evs (ts : List Tx) : List Ev := ts.flatMap evs1
theorem evs_snoc {ts : List Tx} {k : Nat} {t : Tx} (h : ts[k]? = some t) : evs (ts.take (k + 1)) = evs (ts.take k) ++ evs1 t := by
  rw [take_snoc h]; simp [evs]
theorem evs_len {ts : List Tx} {c : Nat} (h : ∀ t ∈ ts, t.o.length ≤ c) : (evs ts).length ≤ ts.length * (c + 2) := by
  induction ts with
  | nil => simp [evs]
  | cons t r ih =>
    have h1 := ih (fun x hx => h x (List.mem_cons_of_mem _ hx))
    have h2 := h t (List.mem_cons_self ..)
    have h3 : (evs (t :: r)).length = t.o.length + 2 + (evs r).length := by simp [evs, evs1]; omega
    rw [h3, List.length_cons, Nat.add_mul]
    omega
theorem RE.src {w : World} {a : Option Addr} {n cap : Nat} {es : List Ev} (h : RE w (.slice a n cap) es) : Src w a (ec es) := by
  obtain ⟨a', b, off, cap', h1, h2, h3, h4⟩ := h
  obtain ⟨rfl, rfl, rfl⟩ : a = a' ∧ n = es.length ∧ cap = cap' := by simpa using h1
  refine ⟨?_, ec_one _⟩
  rcases h4.1 with e | e
  · exact .inl (by rw [e]; rfl)
  · subst e
    refine .inr ⟨_, rfl, fun j u hj => ?_⟩
    have hjl : j < es.length * 4 := by
      have := (List.getElem?_eq_some_iff.1 hj).1
      rwa [ec_len] at this
    obtain ⟨e, he⟩ : ∃ e, es[j / 4]? = some e := ⟨_, List.getElem?_eq_getElem (by omega)⟩
    have hc := flat4 Ev.cells (fun _ => rfl) es (j / 4) (j % 4) e he (by omega)
    rw [show j / 4 * 4 + j % 4 = j from by omega] at hc
    have hu : e.cells[j % 4]? = some u := by rw [← hc]; exact hj
    obtain ⟨c0, c1, c2, c3⟩ := h4.2 (j / 4) e he
    have hj4 : j % 4 = 0 ∨ j % 4 = 1 ∨ j % 4 = 2 ∨ j % 4 = 3 := by omega
    rw [Addr.add_lit]
    rcases hj4 with q | q | q | q <;> rw [q] at hu <;> simp [Ev.cells] at hu <;> subst hu
    · rw [show off + j = off + j / 4 * 4 from by omega]; exact c0
    · rw [show off + j = off + j / 4 * 4 + 1 from by omega]; exact c1
    · rw [show off + j = off + j / 4 * 4 + 2 from by omega]; exact c2
    · rw [show off + j = off + j / 4 * 4 + 3 from by omega]; exact c3

theorem fr8 {w W w' : World} {r : Option Nat} (f : Fr nob w W) (hg : W.grownBy w' r) : Fr (fun k => r = some k) w w' := f.trans (fr_of_grownBy hg) (fun _ _ x => x.elim) (fun _ _ x => x)

set_option maxRecDepth 100000 in
set_option maxHeartbeats 1000000 in
theorem events_any (v : Value) (ts : List Tx) (w : World) (h : RT w v ts) (hl : ts.length ≤ 100) (hc : ∀ t ∈ ts, t.o.length ≤ 100000) : Calls Try.prog 13 #[v] w fun e w' => ∃ v', e = .returned v' ∧ RE w' v' (evs ts) ∧ Fr nob w w' := by
  obtain ⟨a, b, off, cap, rfl, -, -, h3⟩ := h
  have H := Lib.hid h3
  have HC := Lib.hid hc
  clear h3 hc
  obtain ⟨n, hn⟩ : ∃ n, n = ts.length := ⟨_, rfl⟩
  rw [← hn]
  have HN := Lib.hid hn
  have hnb : n ≤ 100 := by omega
  obtain ⟨B, hB⟩ : ∃ B, B = w.heap.size := ⟨_, rfl⟩
  have HB := Lib.hid hB
  clear hn hl hB
  go_enter Try.func13, Try.ntmps13
  go_wp2_with fail
  go_loopg [3, 9] n (fun gk s3 i wr => ∃ k : Nat, k + gk = n ∧ i = .int .i64 k ∧ wr.ownsRow B 44 4 s3 (evs (ts.take k)).length (ec (evs (ts.take k))) ∧ Fr nob w wr)
  case atStart => exact ⟨0, Nat.zero_add _, rfl, World.ownsRow_nil _ _ _ _, Fr.refl _ _⟩
  case round =>
    obtain ⟨k, hk, rfl, hrow, hf⟩ := hrel
    have HK := Lib.hid hk
    have hql : (evs (ts.take k)).length ≤ 20000000 := by
      have h1 := evs_len (ts := ts.take k) (c := 100000) (fun t ht => HC.out t (List.mem_of_mem_take ht))
      rw [List.length_take] at h1
      have h2 : min k ts.length ≤ 100 := by have := HN.out; omega
      have := Nat.mul_le_mul_right (100000 + 2) h2
      omega
    obtain ⟨P, hP⟩ : ∃ P, P = evs (ts.take k) := ⟨_, rfl⟩
    obtain ⟨q, hq⟩ : ∃ q, q = P.length := ⟨_, rfl⟩
    rw [← hP, ← hq] at hrow hql
    have HP := Lib.hid hP
    have HQ := Lib.hid hq
    have HR := Lib.hid hrow
    have F := Lib.hid hf
    have hkl : k ≤ n := by omega
    obtain ⟨a3, cap3, rfl, -, -⟩ := owns_shape hrow
    clear hk hP hq hrow hf
    by_cases hlt : k < n
    · obtain ⟨x, hx⟩ : ∃ x, ts[k]? = some x := ⟨_, List.getElem?_eq_getElem (by have := HN.out; omega)⟩
      obtain rfl := H.out.addr hx
      obtain ⟨sv, d0, d1, d2, d3, hsv⟩ := (H.out.nob F.out).2 k x hx
      obtain ⟨sv', -, -, -, d3', hsv'⟩ := H.out.2 k x hx
      obtain rfl : sv' = sv := by have := F.out.cell_some d3' (fun x => x); rw [d3] at this; exact (Option.some.inj this).symm
      obtain ⟨a6, n6, rfl, -⟩ := hsv.slice
      have hol : x.o.length ≤ 100000 := HC.out x (List.mem_of_getElem? hx)
      have HS := Lib.hid hsv'
      have HX := Lib.hid hx
      have hidx0 : (0 : Int) ≤ (k : Int) := Int.natCast_nonneg _
      have hidx1 : (k : Int) < (n : Int) := by omega
      have HSN := Lib.hid (evs_snoc hx)
      obtain ⟨xs, xd, xf, xo⟩ := x
      simp only at *
      clear hx hsv hsv' d3'
      cases xd
      · skip
        go_wp2_with (at_builtin; refine stop ?_)
        obtain ⟨X, hX⟩ : ∃ X, X = wr.heap.size := ⟨_, rfl⟩
        obtain ⟨Wx, hWx⟩ : ∃ Wx, Wx = (wr.alloc (.cells #[.int .i64 xs, .bool false, .int .i64 xf, .slice a6 xo.length n6] 26)).alloc (.cells #[.int .i64 4, .int .i64 xs, .int .i64 0, .int .i64 0] 44) := ⟨_, rfl⟩
        have fx : Fr nob wr Wx := by rw [hWx]; exact ((Fr.refl nob wr).alloc _).alloc _
        have x1 : Wx.heap[X]? = some (.cells #[.int .i64 xs, .bool false, .int .i64 xf, .slice a6 xo.length n6] 26 (0, 0)) := by rw [hWx]; exact obj_alloc (obj_new hX _) _
        have x2 : Wx.heap[X + 1]? = some (.cells #[.int .i64 4, .int .i64 xs, .int .i64 0, .int .i64 0] 44 (0, 0)) := by rw [hWx]; exact obj_new (by simp [hX]) _
        have hxs : Wx.heap.size = X + 2 := by rw [hWx]; simp [hX]
        rw [← hWx, ← hX]
        have FX := Lib.hid (F.out.step fx)
        have RX : Hid (Wx.ownsRow B 44 4 (.slice a3 q cap3) q (ec P)) := Lib.hid (fx.owns HR.out (fun _ _ x => x))
        have X1 := Lib.hid x1
        have X2 := Lib.hid x2
        have hown3 : ∀ i, (Value.slice a3 q cap3).ownBlock = some i → i < X := fun i hi => by have := own_lt HR.out hi; omega
        have hBX : B ≤ X := by have := F.out.size; have := HB.out; omega
        clear hWx hX fx x1 x2 d0 d1 d2 d3 HR F
        refine Stop.go (wpList_app rfl (.tmp 19) (.tmp 23) rfl appEv rfl (base := B) (n := q) (xs := ec P) ?p1 (m := 1) (news := ec [⟨0, xs, 0, 0⟩]) rfl rfl ?p3 ?p4 ?p5 ?p6 ?p7)
        case p1 => exact RX.out.alloc _
        case p3 => exact Src.block (cs := #[.int .i64 0, .int .i64 xs, .int .i64 0, .int .i64 0]) (obj_new (by omega) _) (ec_one [⟨0, xs, 0, 0⟩])
        case p4 => omega
        case p5 => simp only [maxLen]; omega
        case p6 => simp; omega
        case p7 =>
          intro v3 w3 ho3 hg3 hdd
          have ne : ∀ o : Obj, Fr nob Wx (Wx.alloc o) := fun o => (Fr.refl nob Wx).alloc o
          have F3 := Lib.hid ((FX.out.alloc _).grownOwn (by have := HB.out; omega) (RX.out.alloc _) hg3)
          have hkx : ∀ i, i < X + 2 → X ≤ i → ¬ (Value.slice a3 q cap3).ownBlock = some i := fun i h1 h2 hk => by have := hown3 i hk; omega
          have Y1 : Hid (w3.heap[X]? = some (.cells #[.int .i64 xs, .bool false, .int .i64 xf, .slice a6 xo.length n6] 26 (0, 0))) := Lib.hid ((fr_of_grownBy hg3).heap_some (obj_alloc X1.out _) (hkx X (by omega) (by omega)))
          have Y2 : Hid (w3.heap[X + 1]? = some (.cells #[.int .i64 4, .int .i64 xs, .int .i64 0, .int .i64 0] 44 (0, 0))) := Lib.hid ((fr_of_grownBy hg3).heap_some (obj_alloc X2.out _) (hkx (X + 1) (by omega) (by omega)))
          have S3 : Hid (RE w3 (.slice a6 xo.length n6) xo) := Lib.hid (HS.out.fr F3.out)
          have hnew : Hid (∀ i, v3.ownBlock = some i → X ≤ i → i < X + 2 → False) := Lib.hid (fun i hi h1 h2 => by
            rcases hdd with hd | hd
            · rw [hd] at hi; have := hown3 i hi; omega
            · have := hd i hi; simp at this; omega)
          obtain ⟨a4, cap4, rfl, -, -⟩ := owns_shape ho3
          have R3 : Hid (w3.ownsRow B 44 4 (.slice a4 (q + 1) cap4) (q + 1) (ec (P ++ [⟨0, xs, 0, 0⟩]))) := Lib.hid (by rw [ec_app]; exact ho3)
          have z3 : w3.cell? ⟨X, 3, none⟩ = some (.slice a6 xo.length n6) := obj_cell Y1.out 3
          have y0 : w3.cell? ⟨X + 1, 0, none⟩ = some (.int .i64 4) := obj_cell Y2.out 0
          have y1 : w3.cell? ⟨X + 1, 1, none⟩ = some (.int .i64 xs) := obj_cell Y2.out 1
          have y2 : w3.cell? ⟨X + 1, 2, none⟩ = some (.int .i64 0) := obj_cell Y2.out 2
          have y3 : w3.cell? ⟨X + 1, 3, none⟩ = some (.int .i64 0) := obj_cell Y2.out 3
          have hB3 : B < w3.heap.size := by have := obj_lt Y1.out; omega
          have hX3 : X + 1 < w3.heap.size := obj_lt Y2.out
          have own4 : Hid (∀ i, (Value.slice a4 (q + 1) cap4).ownBlock = some i → i < w3.heap.size ∧ B ≤ i ∧ i ≠ X ∧ i ≠ X + 1) := Lib.hid (fun i hi => by
            refine ⟨own_lt R3.out hi, (own_kind R3.out hi).1, fun e => ?_, fun e => ?_⟩
            · exact hnew.out i hi (by omega) (by omega)
            · exact hnew.out i hi (by omega) (by omega))
          have OD : Hid (w3.drew.ownsRow B 44 4 (.slice a4 (q + 1) cap4) (q + 1) (ec (P ++ [⟨0, xs, 0, 0⟩]))) := Lib.hid (((Fr.refl nob w3).drew).owns R3.out (fun _ _ x => x))
          have RD : Hid (RE w3.drew (.slice a6 xo.length n6) xo) := Lib.hid (S3.out.fr ((Fr.refl nob w3).drew))
          have hb1 : (q + 1 + xo.length) * 32 ≤ 140737488355328 := by omega
          have hb2 : q + 1 + xo.length ≤ maxLen := by simp only [maxLen]; omega
          have hb3 : (q + 1 + xo.length + 1) * 32 ≤ 140737488355328 := by omega
          have hb4 : q + 1 + xo.length + 1 ≤ maxLen := by simp only [maxLen]; omega
          clear ho3 hg3 hdd hkx ne RX X1 X2 FX hown3 hnew
          go_wp2_with fail
          go_region_held3 (fun w' => w'.cell? ⟨X, 3, none⟩ = some (.slice a6 xo.length n6) ∧ w'.cell? ⟨X + 1, 0, none⟩ = some (.int .i64 4) ∧ w'.cell? ⟨X + 1, 1, none⟩ = some (.int .i64 xs) ∧ w'.cell? ⟨X + 1, 2, none⟩ = some (.int .i64 0) ∧ w'.cell? ⟨X + 1, 3, none⟩ = some (.int .i64 0)) (first | go_keep | assumption)
            (first
              | ((refine step_app rfl (.tmp 25) (.tmp 27) rfl appEv rfl (base := B) (n := q + 1) (xs := ec (P ++ [⟨0, xs, 0, 0⟩])) (by first | exact OD.out | exact World.ownsRow.alloc (w := w3.drew) OD.out _) (m := xo.length) (news := ec xo) rfl (ec_len xo) (by first | exact RD.out.src | exact (RD.out.fr ((Fr.refl nob w3.drew).alloc _)).src) hb1 hb2 (by first | (simp; omega) | omega) ?_)
                 (intro v8 w8 ho8 hg8 hd8)
                 (obtain ⟨a8, cap8, rfl, -, -⟩ := owns_shape ho8)
                 (try (have OBS : Hid (w8.heap[w3.heap.size]? = some (.cells #[.int .i64 4, .int .i64 xs, .int .i64 0, .int .i64 0] 44 (0, 0))) := Lib.hid ((fr_of_grownBy hg8).heap_some (obj_new (w := w3.drew) rfl _) (fun x => by have := (own4.out _ x).1; omega))))
                 (have FR8 : Hid (Fr (fun k => (Value.slice a4 (q + 1) cap4).ownBlock = some k) w3 w8) := (by first | exact Lib.hid (fr8 ((Fr.refl nob w3).drew) hg8) | exact Lib.hid (fr8 (((Fr.refl nob w3).drew).alloc _) hg8)))
                 (have HO8 := Lib.hid ho8)
                 (have HN8 : Hid (∀ i, (Value.slice a8 (q + 1 + xo.length) cap8).ownBlock = some i → i ≠ X ∧ i ≠ X + 1) := Lib.hid (fun i hi => by
                   rcases hd8 with hd | hd
                   · rw [hd] at hi; exact (own4.out i hi).2.2
                   · have := hd i hi; simp at this; omega))
                 (have hB8 : B < w8.heap.size := (by have := FR8.out.size; omega))
                 (have KP : w8.cell? ⟨X, 3, none⟩ = some (.slice a6 xo.length n6) ∧ w8.cell? ⟨X + 1, 0, none⟩ = some (.int .i64 4) ∧ w8.cell? ⟨X + 1, 1, none⟩ = some (.int .i64 xs) ∧ w8.cell? ⟨X + 1, 2, none⟩ = some (.int .i64 0) ∧ w8.cell? ⟨X + 1, 3, none⟩ = some (.int .i64 0) := ⟨FR8.out.cell_some z3 (fun x => (own4.out _ x).2.2.1 rfl), FR8.out.cell_some y0 (fun x => (own4.out _ x).2.2.2 rfl), FR8.out.cell_some y1 (fun x => (own4.out _ x).2.2.2 rfl), FR8.out.cell_some y2 (fun x => (own4.out _ x).2.2.2 rfl), FR8.out.cell_some y3 (fun x => (own4.out _ x).2.2.2 rfl)⟩)
                 (clear ho8 hg8 hd8))
              | ((refine step_app rfl (.tmp 28) (.tmp 30) rfl appEv rfl (base := B) (n := q + 1 + xo.length) (xs := ec (P ++ [⟨0, xs, 0, 0⟩]) ++ ec xo) (by first | exact HO8.out | exact HO8.out.alloc _) (m := 1) (news := ec [⟨4, xs, 0, 0⟩]) rfl rfl (by first | exact Src.block (cs := #[.int .i64 4, .int .i64 xs, .int .i64 0, .int .i64 0]) OBS.out (ec_one [⟨4, xs, 0, 0⟩]) | exact Src.block (cs := #[.int .i64 4, .int .i64 xs, .int .i64 0, .int .i64 0]) (obj_new rfl _) (ec_one [⟨4, xs, 0, 0⟩])) hb3 hb4 (by first | (simp; omega) | omega) ?_)
                 (intro v9 w9 ho9 hg9 _)
                 (obtain ⟨a9, cap9, rfl, -, -⟩ := owns_shape ho9)
                 (have F9 : Hid (Fr nob w w9) := (by
                   have f8 : Fr nob w w8 := F3.out.keep FR8.out (fun i hi => by have := (own4.out i hi).2.1; have := HB.out; omega)
                   first
                     | exact Lib.hid (f8.grownOwn (by have := HB.out; omega) HO8.out hg9)
                     | exact Lib.hid ((f8.alloc _).grownOwn (by have := HB.out; omega) (HO8.out.alloc _) hg9)))
                 (have HO9 := Lib.hid ho9)
                 (have KP9 : w9.cell? ⟨X, 3, none⟩ = some (.slice a6 xo.length n6) ∧ w9.cell? ⟨X + 1, 0, none⟩ = some (.int .i64 4) ∧ w9.cell? ⟨X + 1, 1, none⟩ = some (.int .i64 xs) ∧ w9.cell? ⟨X + 1, 2, none⟩ = some (.int .i64 0) ∧ w9.cell? ⟨X + 1, 3, none⟩ = some (.int .i64 0) := (by
                   obtain ⟨k1, k2, k3, k4, k5⟩ := KP
                   have f9 := fr_of_grownBy hg9
                   first
                     | exact ⟨f9.cell_some k1 (fun x => (HN8.out _ x).1 rfl), f9.cell_some k2 (fun x => (HN8.out _ x).2 rfl), f9.cell_some k3 (fun x => (HN8.out _ x).2 rfl), f9.cell_some k4 (fun x => (HN8.out _ x).2 rfl), f9.cell_some k5 (fun x => (HN8.out _ x).2 rfl)⟩
                     | exact ⟨f9.cell_some (((Fr.refl nob w8).alloc _).cell_some k1 (fun x => x)) (fun x => (HN8.out _ x).1 rfl), f9.cell_some (((Fr.refl nob w8).alloc _).cell_some k2 (fun x => x)) (fun x => (HN8.out _ x).2 rfl), f9.cell_some (((Fr.refl nob w8).alloc _).cell_some k3 (fun x => x)) (fun x => (HN8.out _ x).2 rfl), f9.cell_some (((Fr.refl nob w8).alloc _).cell_some k4 (fun x => x)) (fun x => (HN8.out _ x).2 rfl), f9.cell_some (((Fr.refl nob w8).alloc _).cell_some k5 (fun x => x)) (fun x => (HN8.out _ x).2 rfl)⟩))
                 (clear ho9 hg9)))
          all_goals
            have R9 : Hid (w9.ownsRow B 44 4 (.slice a9 (q + 1 + xo.length + 1) cap9) (evs (ts.take (k + 1))).length (ec (evs (ts.take (k + 1))))) := Lib.hid (by
              have hN : evs (ts.take (k + 1)) = P ++ [⟨0, xs, 0, 0⟩] ++ xo ++ [⟨4, xs, 0, 0⟩] := by rw [HSN.out, ← HP.out]; simp [evs1]
              have hl : (evs (ts.take (k + 1))).length = q + 1 + xo.length + 1 := by rw [hN]; have := HQ.out; simp; omega
              rw [hl, hN, ec_app, ec_app]
              exact HO9.out)
            clear HO9 HO8 OD RD R3 S3 Y1 Y2 z3 y0 y1 y2 y3
            go_wp2
            go_roundg (gk - 1)
            case measure => have := HK.out; omega
            case rel => exact ⟨k + 1, by have := HK.out; omega, by go_num, R9.out, F9.out⟩
      · skip
        go_wp2_with (at_builtin; refine stop ?_)
        obtain ⟨X, hX⟩ : ∃ X, X = wr.heap.size := ⟨_, rfl⟩
        obtain ⟨Wx, hWx⟩ : ∃ Wx, Wx = (wr.alloc (.cells #[.int .i64 xs, .bool true, .int .i64 xf, .slice a6 xo.length n6] 26)).alloc (.cells #[.int .i64 3, .int .i64 xs, .int .i64 0, .int .i64 0] 44) := ⟨_, rfl⟩
        have fx : Fr nob wr Wx := by rw [hWx]; exact ((Fr.refl nob wr).alloc _).alloc _
        have x1 : Wx.heap[X]? = some (.cells #[.int .i64 xs, .bool true, .int .i64 xf, .slice a6 xo.length n6] 26 (0, 0)) := by rw [hWx]; exact obj_alloc (obj_new hX _) _
        have x2 : Wx.heap[X + 1]? = some (.cells #[.int .i64 3, .int .i64 xs, .int .i64 0, .int .i64 0] 44 (0, 0)) := by rw [hWx]; exact obj_new (by simp [hX]) _
        have hxs : Wx.heap.size = X + 2 := by rw [hWx]; simp [hX]
        rw [← hWx, ← hX]
        have FX := Lib.hid (F.out.step fx)
        have RX : Hid (Wx.ownsRow B 44 4 (.slice a3 q cap3) q (ec P)) := Lib.hid (fx.owns HR.out (fun _ _ x => x))
        have X1 := Lib.hid x1
        have X2 := Lib.hid x2
        have hown3 : ∀ i, (Value.slice a3 q cap3).ownBlock = some i → i < X := fun i hi => by have := own_lt HR.out hi; omega
        have hBX : B ≤ X := by have := F.out.size; have := HB.out; omega
        clear hWx hX fx x1 x2 d0 d1 d2 d3 HR F
        refine Stop.go (wpList_app rfl (.tmp 19) (.tmp 23) rfl appEv rfl (base := B) (n := q) (xs := ec P) ?p1 (m := 1) (news := ec [⟨0, xs, 0, 0⟩]) rfl rfl ?p3 ?p4 ?p5 ?p6 ?p7)
        case p1 => exact RX.out.alloc _
        case p3 => exact Src.block (cs := #[.int .i64 0, .int .i64 xs, .int .i64 0, .int .i64 0]) (obj_new (by omega) _) (ec_one [⟨0, xs, 0, 0⟩])
        case p4 => omega
        case p5 => simp only [maxLen]; omega
        case p6 => simp; omega
        case p7 =>
          intro v3 w3 ho3 hg3 hdd
          have ne : ∀ o : Obj, Fr nob Wx (Wx.alloc o) := fun o => (Fr.refl nob Wx).alloc o
          have F3 := Lib.hid ((FX.out.alloc _).grownOwn (by have := HB.out; omega) (RX.out.alloc _) hg3)
          have hkx : ∀ i, i < X + 2 → X ≤ i → ¬ (Value.slice a3 q cap3).ownBlock = some i := fun i h1 h2 hk => by have := hown3 i hk; omega
          have Y1 : Hid (w3.heap[X]? = some (.cells #[.int .i64 xs, .bool true, .int .i64 xf, .slice a6 xo.length n6] 26 (0, 0))) := Lib.hid ((fr_of_grownBy hg3).heap_some (obj_alloc X1.out _) (hkx X (by omega) (by omega)))
          have Y2 : Hid (w3.heap[X + 1]? = some (.cells #[.int .i64 3, .int .i64 xs, .int .i64 0, .int .i64 0] 44 (0, 0))) := Lib.hid ((fr_of_grownBy hg3).heap_some (obj_alloc X2.out _) (hkx (X + 1) (by omega) (by omega)))
          have S3 : Hid (RE w3 (.slice a6 xo.length n6) xo) := Lib.hid (HS.out.fr F3.out)
          have hnew : Hid (∀ i, v3.ownBlock = some i → X ≤ i → i < X + 2 → False) := Lib.hid (fun i hi h1 h2 => by
            rcases hdd with hd | hd
            · rw [hd] at hi; have := hown3 i hi; omega
            · have := hd i hi; simp at this; omega)
          obtain ⟨a4, cap4, rfl, -, -⟩ := owns_shape ho3
          have R3 : Hid (w3.ownsRow B 44 4 (.slice a4 (q + 1) cap4) (q + 1) (ec (P ++ [⟨0, xs, 0, 0⟩]))) := Lib.hid (by rw [ec_app]; exact ho3)
          have z3 : w3.cell? ⟨X, 3, none⟩ = some (.slice a6 xo.length n6) := obj_cell Y1.out 3
          have y0 : w3.cell? ⟨X + 1, 0, none⟩ = some (.int .i64 3) := obj_cell Y2.out 0
          have y1 : w3.cell? ⟨X + 1, 1, none⟩ = some (.int .i64 xs) := obj_cell Y2.out 1
          have y2 : w3.cell? ⟨X + 1, 2, none⟩ = some (.int .i64 0) := obj_cell Y2.out 2
          have y3 : w3.cell? ⟨X + 1, 3, none⟩ = some (.int .i64 0) := obj_cell Y2.out 3
          have hB3 : B < w3.heap.size := by have := obj_lt Y1.out; omega
          have hX3 : X + 1 < w3.heap.size := obj_lt Y2.out
          have own4 : Hid (∀ i, (Value.slice a4 (q + 1) cap4).ownBlock = some i → i < w3.heap.size ∧ B ≤ i ∧ i ≠ X ∧ i ≠ X + 1) := Lib.hid (fun i hi => by
            refine ⟨own_lt R3.out hi, (own_kind R3.out hi).1, fun e => ?_, fun e => ?_⟩
            · exact hnew.out i hi (by omega) (by omega)
            · exact hnew.out i hi (by omega) (by omega))
          have OD : Hid (w3.drew.ownsRow B 44 4 (.slice a4 (q + 1) cap4) (q + 1) (ec (P ++ [⟨0, xs, 0, 0⟩]))) := Lib.hid (((Fr.refl nob w3).drew).owns R3.out (fun _ _ x => x))
          have RD : Hid (RE w3.drew (.slice a6 xo.length n6) xo) := Lib.hid (S3.out.fr ((Fr.refl nob w3).drew))
          have hb1 : (q + 1 + xo.length) * 32 ≤ 140737488355328 := by omega
          have hb2 : q + 1 + xo.length ≤ maxLen := by simp only [maxLen]; omega
          have hb3 : (q + 1 + xo.length + 1) * 32 ≤ 140737488355328 := by omega
          have hb4 : q + 1 + xo.length + 1 ≤ maxLen := by simp only [maxLen]; omega
          clear ho3 hg3 hdd hkx ne RX X1 X2 FX hown3 hnew
          go_wp2_with fail
          go_region_held3 (fun w' => w'.cell? ⟨X, 3, none⟩ = some (.slice a6 xo.length n6) ∧ w'.cell? ⟨X + 1, 0, none⟩ = some (.int .i64 3) ∧ w'.cell? ⟨X + 1, 1, none⟩ = some (.int .i64 xs) ∧ w'.cell? ⟨X + 1, 2, none⟩ = some (.int .i64 0) ∧ w'.cell? ⟨X + 1, 3, none⟩ = some (.int .i64 0)) (first | go_keep | assumption)
            (first
              | ((refine step_app rfl (.tmp 25) (.tmp 27) rfl appEv rfl (base := B) (n := q + 1) (xs := ec (P ++ [⟨0, xs, 0, 0⟩])) (by first | exact OD.out | exact World.ownsRow.alloc (w := w3.drew) OD.out _) (m := xo.length) (news := ec xo) rfl (ec_len xo) (by first | exact RD.out.src | exact (RD.out.fr ((Fr.refl nob w3.drew).alloc _)).src) hb1 hb2 (by first | (simp; omega) | omega) ?_)
                 (intro v8 w8 ho8 hg8 hd8)
                 (obtain ⟨a8, cap8, rfl, -, -⟩ := owns_shape ho8)
                 (try (have OBS : Hid (w8.heap[w3.heap.size]? = some (.cells #[.int .i64 3, .int .i64 xs, .int .i64 0, .int .i64 0] 44 (0, 0))) := Lib.hid ((fr_of_grownBy hg8).heap_some (obj_new (w := w3.drew) rfl _) (fun x => by have := (own4.out _ x).1; omega))))
                 (have FR8 : Hid (Fr (fun k => (Value.slice a4 (q + 1) cap4).ownBlock = some k) w3 w8) := (by first | exact Lib.hid (fr8 ((Fr.refl nob w3).drew) hg8) | exact Lib.hid (fr8 (((Fr.refl nob w3).drew).alloc _) hg8)))
                 (have HO8 := Lib.hid ho8)
                 (have HN8 : Hid (∀ i, (Value.slice a8 (q + 1 + xo.length) cap8).ownBlock = some i → i ≠ X ∧ i ≠ X + 1) := Lib.hid (fun i hi => by
                   rcases hd8 with hd | hd
                   · rw [hd] at hi; exact (own4.out i hi).2.2
                   · have := hd i hi; simp at this; omega))
                 (have hB8 : B < w8.heap.size := (by have := FR8.out.size; omega))
                 (have KP : w8.cell? ⟨X, 3, none⟩ = some (.slice a6 xo.length n6) ∧ w8.cell? ⟨X + 1, 0, none⟩ = some (.int .i64 3) ∧ w8.cell? ⟨X + 1, 1, none⟩ = some (.int .i64 xs) ∧ w8.cell? ⟨X + 1, 2, none⟩ = some (.int .i64 0) ∧ w8.cell? ⟨X + 1, 3, none⟩ = some (.int .i64 0) := ⟨FR8.out.cell_some z3 (fun x => (own4.out _ x).2.2.1 rfl), FR8.out.cell_some y0 (fun x => (own4.out _ x).2.2.2 rfl), FR8.out.cell_some y1 (fun x => (own4.out _ x).2.2.2 rfl), FR8.out.cell_some y2 (fun x => (own4.out _ x).2.2.2 rfl), FR8.out.cell_some y3 (fun x => (own4.out _ x).2.2.2 rfl)⟩)
                 (clear ho8 hg8 hd8))
              | ((refine step_app rfl (.tmp 28) (.tmp 30) rfl appEv rfl (base := B) (n := q + 1 + xo.length) (xs := ec (P ++ [⟨0, xs, 0, 0⟩]) ++ ec xo) (by first | exact HO8.out | exact HO8.out.alloc _) (m := 1) (news := ec [⟨3, xs, 0, 0⟩]) rfl rfl (by first | exact Src.block (cs := #[.int .i64 3, .int .i64 xs, .int .i64 0, .int .i64 0]) OBS.out (ec_one [⟨3, xs, 0, 0⟩]) | exact Src.block (cs := #[.int .i64 3, .int .i64 xs, .int .i64 0, .int .i64 0]) (obj_new rfl _) (ec_one [⟨3, xs, 0, 0⟩])) hb3 hb4 (by first | (simp; omega) | omega) ?_)
                 (intro v9 w9 ho9 hg9 _)
                 (obtain ⟨a9, cap9, rfl, -, -⟩ := owns_shape ho9)
                 (have F9 : Hid (Fr nob w w9) := (by
                   have f8 : Fr nob w w8 := F3.out.keep FR8.out (fun i hi => by have := (own4.out i hi).2.1; have := HB.out; omega)
                   first
                     | exact Lib.hid (f8.grownOwn (by have := HB.out; omega) HO8.out hg9)
                     | exact Lib.hid ((f8.alloc _).grownOwn (by have := HB.out; omega) (HO8.out.alloc _) hg9)))
                 (have HO9 := Lib.hid ho9)
                 (have KP9 : w9.cell? ⟨X, 3, none⟩ = some (.slice a6 xo.length n6) ∧ w9.cell? ⟨X + 1, 0, none⟩ = some (.int .i64 3) ∧ w9.cell? ⟨X + 1, 1, none⟩ = some (.int .i64 xs) ∧ w9.cell? ⟨X + 1, 2, none⟩ = some (.int .i64 0) ∧ w9.cell? ⟨X + 1, 3, none⟩ = some (.int .i64 0) := (by
                   obtain ⟨k1, k2, k3, k4, k5⟩ := KP
                   have f9 := fr_of_grownBy hg9
                   first
                     | exact ⟨f9.cell_some k1 (fun x => (HN8.out _ x).1 rfl), f9.cell_some k2 (fun x => (HN8.out _ x).2 rfl), f9.cell_some k3 (fun x => (HN8.out _ x).2 rfl), f9.cell_some k4 (fun x => (HN8.out _ x).2 rfl), f9.cell_some k5 (fun x => (HN8.out _ x).2 rfl)⟩
                     | exact ⟨f9.cell_some (((Fr.refl nob w8).alloc _).cell_some k1 (fun x => x)) (fun x => (HN8.out _ x).1 rfl), f9.cell_some (((Fr.refl nob w8).alloc _).cell_some k2 (fun x => x)) (fun x => (HN8.out _ x).2 rfl), f9.cell_some (((Fr.refl nob w8).alloc _).cell_some k3 (fun x => x)) (fun x => (HN8.out _ x).2 rfl), f9.cell_some (((Fr.refl nob w8).alloc _).cell_some k4 (fun x => x)) (fun x => (HN8.out _ x).2 rfl), f9.cell_some (((Fr.refl nob w8).alloc _).cell_some k5 (fun x => x)) (fun x => (HN8.out _ x).2 rfl)⟩))
                 (clear ho9 hg9)))
          all_goals
            have R9 : Hid (w9.ownsRow B 44 4 (.slice a9 (q + 1 + xo.length + 1) cap9) (evs (ts.take (k + 1))).length (ec (evs (ts.take (k + 1))))) := Lib.hid (by
              have hN : evs (ts.take (k + 1)) = P ++ [⟨0, xs, 0, 0⟩] ++ xo ++ [⟨3, xs, 0, 0⟩] := by rw [HSN.out, ← HP.out]; simp [evs1]
              have hl : (evs (ts.take (k + 1))).length = q + 1 + xo.length + 1 := by rw [hN]; have := HQ.out; simp; omega
              rw [hl, hN, ec_app, ec_app]
              exact HO9.out)
            clear HO9 HO8 OD RD R3 S3 Y1 Y2 z3 y0 y1 y2 y3
            go_wp2
            go_roundg (gk - 1)
            case measure => have := HK.out; omega
            case rel => exact ⟨k + 1, by have := HK.out; omega, by go_num, R9.out, F9.out⟩
    · have hkn : k = n := by omega
      have RES : Hid (RE wr (.slice a3 q cap3) (evs ts)) := Lib.hid (by
        have hp := HP.out
        rw [List.take_of_length_le (by have := HN.out; omega)] at hp
        rw [← hp]
        exact RE.of_owns HQ.out HR.out)
      clear hkn
      go_wp2
      go_ret
      exact ⟨_, rfl, RES.out, F.out⟩

end Go.Proofs.Ytlmaloikhmkokaa
