/- StackDoes: the walk. -/
import Derived.Test.YtnbdomhikbfabaaDoesA
namespace Go.Proofs.Ytnbdomhikbfabaa
open Go.RowKit

set_option maxRecDepth 100000 in
set_option maxHeartbeats 1000000 in
theorem does_some (most : Int) (b off len cap : Nat) (K N : Nat → Int) (w : World) (h200 : len ≤ 200)
    (hK : ∀ j, j < len → w.cell? ⟨b, off + j * 2, none⟩ = some (.int .u8 (K j))) (hN : ∀ j, j < len → w.cell? ⟨b, off + j * 2 + 1, none⟩ = some (.int .i64 (N j))) :
    Calls Try.prog 3 #[.int .i64 most, .slice (some ⟨b, off, none⟩) len cap] w fun e w' => e = .returned (.bool true) ∧ Fr nob w w' := by
  have HK := Lib.hid hK
  have HN := Lib.hid hN
  clear hK hN
  go_enter Try.func3, Try.ntmps3
  go_wp2_with (go_at_call 7; refine stop ?_)
  refine Stop.go ((awake_any w).mono ?_)
  rintro e w0 ⟨rfl, f0⟩
  have F0 := Lib.hid f0
  have hz0 := f0.size
  clear f0
  go_wp2_with (go_at_call 8; refine stop ?_)
  refine Stop.go ((ints_new most w0).mono ?_)
  rintro e w1 ⟨rfl, rfl⟩
  go_wp2_with (go_at_call 9; refine stop ?_)
  refine Stop.go ((rnew_any most _).mono ?_)
  rintro e w2 ⟨rfl, f2⟩
  have hz2 : w0.heap.size + 1 ≤ w2.heap.size := by have := f2.size; simpa using this
  have S0 := Lib.hid ((ST.new most w0).fr (f2.alloc (.cells #[.int .i64 most, .slice none 0 0] 28)) (fun x => x) (fun _ _ x => x))
  have F2 := Lib.hid (((F0.out.alloc _).trans f2 (U := nob) (fun _ _ x => x) (fun _ _ x => x)).alloc (.cells #[.int .i64 most, .slice none 0 0] 28))
  clear f2
  go_wp2_with fail
  have I0 : SI w (w2.alloc (.cells #[.int .i64 most, .slice none 0 0] 28)) w0.heap.size w2.heap.size most [] (.slice none 0 0) (.slice none 0 0) :=
    ⟨S0.out, obj_new rfl _, World.ownsRow_nil _ _ _ _, by omega, fun k hk => by simp [Value.ownBlock] at hk, by omega, F2.out⟩
  go_loopg [8] len (fun gk i wr => ∃ (k : Nat) (xs : List Int) (v vr : Value), k + gk = len ∧ xs.length ≤ k ∧ i = .int .i64 k ∧ SI w wr w0.heap.size w2.heap.size most xs v vr)
  case atStart => exact ⟨0, [], _, _, Nat.zero_add _, Nat.le_refl _, rfl, I0⟩
  case round =>
    obtain ⟨k, xs, v, vr, hk, hxk, rfl, hI⟩ := hrel
    have hkl : k ≤ len := by omega
    have HG := Lib.hid hk
    clear hk
    have I := Lib.hid hI
    clear hI I0
    by_cases hlt : k < len
    · obtain ⟨kd, hkd⟩ : ∃ kd, kd = K k := ⟨_, rfl⟩
      obtain ⟨n, hn⟩ : ∃ n, n = N k := ⟨_, rfl⟩
      have ck0 := HK.out k hlt
      have cn0 := HN.out k hlt
      rw [← hkd] at ck0
      rw [← hn] at cn0
      have ck := I.out.fr.cell_some ck0 (fun x => x)
      have cn := I.out.fr.cell_some cn0 (fun x => x)
      have CK := Lib.hid ck0
      have CN := Lib.hid cn0
      clear ck0 cn0 hkd hn
      go_upto_block 2 with fail
      go_cut [9] (fun s9 wx => ∃ (ys : List Int) (v' vr' : Value), ys.length ≤ k + 1 ∧ SI w wx w0.heap.size w2.heap.size most ys v' vr')
      case first =>
        by_cases h0 : kd = 0
        · subst h0
          obtain ⟨ys, hy⟩ : ∃ ys, pushed most n xs = ys := ⟨_, rfl⟩
          have hyl : ys.length ≤ k + 1 := by have := pushed_le most n xs; rw [hy] at this; omega
          have HY := Lib.hid hy
          clear hy
          go_wp2_with (go_at_call 10; refine stop ?_)
          refine Stop.go ((push_as _ v most n xs ys HY.out wr I.out.s (by omega)).mono ?_)
          rintro e w3 ⟨rfl, v3, s3, f3, n3⟩
          have H := Lib.hid (I.out.half s3 f3 n3)
          have cn3 := H.out.fr.cell_some CN.out (fun x => x)
          have r0 : w3.cell? ⟨w2.heap.size, 0, none⟩ = some (.int .i64 most) := obj_cell H.out.r 0
          have r1 : w3.cell? ⟨w2.heap.size, 1, none⟩ = some vr := obj_cell H.out.r 1
          clear s3 f3 n3
          go_upto_region 20 with fail
          have e1 := World.new_ne w3 _ r0
          have e2 := World.new_ne w3 _ r1
          have e3 := World.new_ne w3 _ cn3
          have hidx0 : (0 : Int) ≤ (k : Int) := Int.natCast_nonneg _
          have hidx1 : (k : Int) < (len : Int) := by omega
          go_cut [10, 11] (fun s10 s11 wx => ∃ (g : Nat) (a4 : Option Addr) (cap4 : Nat), s10 = .pointer (some ⟨g, 0, none⟩) ∧ s11 = .bool (decide (xs.length < most)) ∧ SR w wx w0.heap.size w2.heap.size g most ys v3 vr (.slice a4 ys.length cap4))
          case first =>
            go_region_held3 (fun w' => w'.cell? ⟨w2.heap.size, 0, none⟩ = some (.int .i64 most) ∧ w'.cell? ⟨w2.heap.size, 1, none⟩ = some vr ∧ w'.cell? ⟨b, off + k * 2 + 1, none⟩ = some (.int .i64 n))
              (go_keep)
              (first
                | (go_at_call 11; refine (rpush_as most n vr (w2.heap.size + 1) xs ys HY.out _ ?_ (by omega)).mono ?_; exact H.out.o; rintro e w4 ⟨vr4, rfl, o4, n4, f4⟩; obtain ⟨a4, cap4, rfl, -, -⟩ := owns_shape o4; have q1 := f4.cell_some (obj_cell (w := w3.drew) H.out.r 0) (fun x => x); have q2 := f4.cell_some (obj_cell (w := w3.drew) H.out.r 1) (fun x => x); have q3 := (H.out.fr.drew.trans f4 (fun _ _ x => x) (fun _ _ x => x)).cell_some CN.out (fun x => x); have p1 := World.new_ne w4 _ q1; have p2 := World.new_ne w4 _ q2; have p3 := World.new_ne w4 _ q3)
                | (go_at_call 11; refine (rpush_as most n vr (w2.heap.size + 1) xs ys HY.out _ ?_ (by omega)).mono ?_; exact World.ownsRow.alloc (w := w3.drew) H.out.o _; rintro e w4 ⟨vr4, rfl, o4, n4, f4⟩; obtain ⟨a4, cap4, rfl, -, -⟩ := owns_shape o4; have g4 := f4.heap_some (obj_new (w := w3.drew) rfl _) (fun x => x); have g40 : w4.cell? ⟨w3.heap.size, 0, none⟩ = some (.int .i64 0) := obj_cell g4 0; have g41 : w4.cell? ⟨w3.heap.size, 1, none⟩ = some (.slice none 0 0) := obj_cell g4 1; have g42 : w4.frozen? ⟨w3.heap.size, 0, none⟩ = false := obj_free g4 0; have g43 : w4.frozen? ⟨w3.heap.size, 1, none⟩ = false := obj_free g4 1; clear g4; have q1 := f4.cell_some (obj_cell (obj_alloc (w := w3.drew) H.out.r _) 0) (fun x => x); have q2 := f4.cell_some (obj_cell (obj_alloc (w := w3.drew) H.out.r _) 1) (fun x => x); have q3 := ((H.out.fr.drew.alloc _).trans f4 (fun _ _ x => x) (fun _ _ x => x)).cell_some CN.out (fun x => x); have p1 := World.new_ne w4 _ q1; have p2 := World.new_ne w4 _ q2; have p3 := World.new_ne w4 _ q3))
            · go_wp2_with fail
              go_meet
              exact ⟨_, _, _, rfl, rfl, H.out.sr1 f4 o4 n4⟩
            · go_wp2_with fail
              go_meet
              exact ⟨_, _, _, rfl, rfl, H.out.sr2 rfl f4 (by simpa using o4) (by simpa using n4)⟩
          case rest =>
            obtain ⟨g, a4, cap4, rfl, rfl, hsr⟩ := hcut
            have T := Lib.hid hsr
            have t0 : wc.cell? ⟨g, 0, none⟩ = some (.int .i64 most) := obj_cell hsr.t 0
            have t1 : wc.cell? ⟨g, 1, none⟩ = some (.slice a4 ys.length cap4) := obj_cell hsr.t 1
            have z0 : wc.cell? ⟨w2.heap.size, 0, none⟩ = some (.int .i64 most) := obj_cell hsr.r 0
            have z1 : wc.cell? ⟨w2.heap.size, 1, none⟩ = some vr := obj_cell hsr.r 1
            have y0 := obj_free hsr.r 0
            have y1 := obj_free hsr.r 1
            clear hsr
            go_wp2_with fail
            go_meet
            exact ⟨ys, _, _, hyl, T.out.stored⟩
        · have h0b : (kd == 0) = false := by simpa using h0
          obtain ⟨x, hx⟩ : ∃ x, xs.getLast?.getD 0 = x := ⟨_, rfl⟩
          obtain ⟨is, hi⟩ : ∃ is, (!xs.isEmpty) = is := ⟨_, rfl⟩
          have HX := Lib.hid hx
          have HI := Lib.hid hi
          clear hx hi
          by_cases h1 : kd = 1
          · subst h1
            obtain ⟨ys, hy⟩ : ∃ ys, xs.dropLast = ys := ⟨_, rfl⟩
            have hyl : ys.length ≤ k + 1 := by rw [← hy, List.length_dropLast]; omega
            have HY := Lib.hid hy
            clear hy h0 h0b
            go_wp2_with (go_at_call 12; refine stop ?_)
            refine Stop.go ((pop_as _ v most x is xs ys HX.out HI.out HY.out wr I.out.s).mono ?_)
            rintro e w3 ⟨rfl, v3, s3, f3, n3⟩
            have H := Lib.hid (I.out.half s3 (f3.mono (fun _ _ z => Or.inl z)) (.inl n3))
            have r0 : w3.cell? ⟨w2.heap.size, 0, none⟩ = some (.int .i64 most) := obj_cell H.out.r 0
            have r1 : w3.cell? ⟨w2.heap.size, 1, none⟩ = some vr := obj_cell H.out.r 1
            clear s3 f3 n3
            go_wp2_with (go_at_call 13; refine stop ?_)
            refine Stop.go ((rpop_as most x is vr (w2.heap.size + 1) xs ys HX.out HI.out HY.out w3 H.out.o (by omega)).mono ?_)
            rintro e w4 ⟨vr4, rfl, o4, n4, f4⟩
            obtain ⟨a4, cap4, rfl, -, -⟩ := owns_shape o4
            have hsr := H.out.sr1 f4.undrew o4 n4
            have T := Lib.hid hsr
            have y0 := obj_free hsr.r 0
            have y1 := obj_free hsr.r 1
            have z0 : (w4.alloc (.cells #[.int .i64 most, .slice a4 ys.length cap4] 28)).cell? ⟨w2.heap.size, 0, none⟩ = some (.int .i64 most) := obj_cell hsr.r 0
            have z1 : (w4.alloc (.cells #[.int .i64 most, .slice a4 ys.length cap4] 28)).cell? ⟨w2.heap.size, 1, none⟩ = some vr := obj_cell hsr.r 1
            clear hsr o4 n4 f4
            go_wp2_with fail
            go_meet
            exact ⟨ys, _, _, hyl, T.out.stored⟩
          · have h1b : (kd == 1) = false := by simpa using h1
            clear h0 h1
            go_wp2_with (go_at_call 14; refine stop ?_)
            refine Stop.go ((top_as _ v most x is xs HX.out HI.out wr I.out.s).mono ?_)
            rintro e w3 ⟨rfl, m3, rfl⟩
            have r0 : wr.cell? ⟨w2.heap.size, 0, none⟩ = some (.int .i64 most) := obj_cell I.out.r 0
            have r1 : wr.cell? ⟨w2.heap.size, 1, none⟩ = some vr := obj_cell I.out.r 1
            go_wp2_with (go_at_call 15; refine stop ?_)
            refine Stop.go ((rtop_as most x is vr (w2.heap.size + 1) xs HX.out HI.out (wr.drewN m3) I.out.o).mono ?_)
            rintro e w4 ⟨rfl, f4⟩
            have T := Lib.hid (I.out.keep (((Fr.refl nob wr).drewN m3).trans f4 (fun _ _ x => x) (fun _ _ x => x)))
            clear f4
            go_wp2_with fail
            go_meet
            exact ⟨xs, _, _, by omega, T.out⟩
      case rest =>
        obtain ⟨ys, v', vr', hyl, hsi⟩ := hcut
        obtain ⟨a4, cap4, rfl, -, -⟩ := owns_shape hsi.o
        have T := Lib.hid hsi
        have z1 : wc.cell? ⟨w2.heap.size, 1, none⟩ = some (.slice a4 ys.length cap4) := obj_cell hsi.r 1
        have e1 := World.new_ne wc _ z1
        clear hsi
        go_wp2_with fail
        go_region_held3 (fun w' => w'.cell? ⟨w2.heap.size, 1, none⟩ = some (.slice a4 ys.length cap4))
          (go_keep)
          (first
            | (go_at_call 16; refine (len_any _ v' most ys _ ?_).mono ?_; exact T.out.s; rintro e w5 ⟨rfl, rfl⟩)
            | (go_at_call 18; refine (all_any _ v' most ys _ ?_ (by omega)).mono ?_; exact T.out.s; rintro e w5 ⟨va, rfl, oa, fa⟩; obtain ⟨aa, capa, rfl, -, -⟩ := owns_shape oa; have za := fa.cell_some (w := wc.drew) z1 (fun x => x))
            | (go_at_call 17; refine (same_any _ _ ys ys _ (Rd.of_owns oa) (fa.rd (w := wc.drew) (Rd.of_owns (w := wc) T.out.o) (fun _ _ x => x))).mono ?_; rintro e w6 ⟨rfl, m6, rfl⟩))
        have Z := Lib.hid (T.out.keep (((Fr.refl nob wc).drew.trans fa (fun _ _ x => x) (fun _ _ x => x)).drewN m6))
        clear oa fa za z1 e1
        go_wp2
        go_roundg (gk - 1)
        case measure => have := HG.out; omega
        case rel => exact ⟨k + 1, ys, _, _, by have := HG.out; omega, hyl, by go_num, Z.out⟩
    · go_wp2
      go_ret
      exact ⟨rfl, I.out.fr⟩

set_option maxRecDepth 100000 in
/-- No call is asked for. -/
theorem does_none (most : Int) (a : Option Addr) (cap : Nat) (w : World) : Calls Try.prog 3 #[.int .i64 most, .slice a 0 cap] w fun e w' => e = .returned (.bool true) ∧ Fr nob w w' := by
  go_enter Try.func3, Try.ntmps3
  go_wp2_with (go_at_call 7; refine stop ?_)
  refine Stop.go ((awake_any w).mono ?_)
  rintro e w0 ⟨rfl, f0⟩
  go_wp2_with (go_at_call 8; refine stop ?_)
  refine Stop.go ((ints_new most w0).mono ?_)
  rintro e w1 ⟨rfl, rfl⟩
  go_wp2_with (go_at_call 9; refine stop ?_)
  refine Stop.go ((rnew_any most _).mono ?_)
  rintro e w2 ⟨rfl, f2⟩
  have F2 := Lib.hid (((f0.alloc _).trans f2 (U := nob) (fun _ _ x => x) (fun _ _ x => x)).alloc (.cells #[.int .i64 most, .slice none 0 0] 28))
  clear f0 f2
  go_wp2_with fail
  refine wp_loop_rounds 1 ?_
  rw [rounds_succ]
  go_wp2
  go_ret
  exact ⟨rfl, F2.out⟩

set_option maxRecDepth 100000 in
/-- More than 200 calls: true at once. -/
theorem does_many (most : Int) (a : Option Addr) (len cap : Nat) (w : World) (h : 200 < len) : Calls Try.prog 3 #[.int .i64 most, .slice a len cap] w fun e w' => e = .returned (.bool true) ∧ Fr nob w w' := by
  go_enter Try.func3, Try.ntmps3
  go_wp2_with (go_at_call 7; refine stop ?_)
  refine Stop.go ((awake_any w).mono ?_)
  rintro e w0 ⟨rfl, f0⟩
  go_wp2
  go_ret
  exact ⟨rfl, f0⟩

end Go.Proofs.Ytnbdomhikbfabaa
