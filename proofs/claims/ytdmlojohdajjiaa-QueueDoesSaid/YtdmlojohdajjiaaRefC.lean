/- The reference's queue: Fill; plain. -/
import Derived.Test.YtdmlojohdajjiaaRefB
namespace Go.Proofs.Ytdmlojohdajjiaa
open Go.RowKit

/-- A variable that holds a queue by value. -/
structure RV (w : World) (h : Nat) (room : Int) (v : Value) (ys : List Pk) : Prop where
  o : w.heap[h]? = some (.cells #[.int .i64 room, v] 30 (0, 0))
  r : RP w v ys
theorem PAt.ne_var {w : World} {a a' : Option Addr} {b off h n cap : Nat} {room : Int} {t : TypeId} {f : Nat × Nat} {ps : List Pk} (hp : PAt w a b off ps) (hv : w.heap[h]? = some (.cells #[.int .i64 room, .slice a' n cap] t f)) : ps ≠ [] → ¬ b = h := fun hne e => by
  subst e
  cases ps with
  | nil => exact absurd rfl hne
  | cons x r =>
    obtain ⟨h0, h1⟩ := hp.2 0 x rfl
    rw [obj_cell hv] at h0 h1
    match hoff : off + 0 * 2, h0, h1 with
    | 0, h0, h1 => simp at h1
    | 1, h0, h1 => simp at h0
    | n + 2, h0, h1 => simp at h0
theorem RP.slice {w : World} {v : Value} {xs : List Pk} (h : RP w v xs) : ∃ a n cap, v = .slice a n cap := by
  obtain ⟨a, b, off, cap, rfl, _⟩ := h
  exact ⟨_, _, _, rfl⟩
theorem RP.frv {w w' : World} {v u : Value} {xs ys : List Pk} {h : Nat} {room : Int} (hr : RP w v xs) (hv : RV w h room u ys) (f : Fr (fun k => k = h) w w') : RP w' v xs := by
  obtain ⟨a, b, off, cap, h1, h2, h3, h4⟩ := hr
  obtain ⟨a', n', cap', rfl⟩ := hv.r.slice
  exact ⟨a, b, off, cap, h1, h2, h3, h4.fr f (h4.ne_var hv.o)⟩
theorem RV.fr {w w' : World} {h : Nat} {room : Int} {v : Value} {ys : List Pk} (hv : RV w h room v ys) (f : Fr nob w w') : RV w' h room v ys := ⟨f.heap_some hv.o (fun x => x), hv.r.fr f⟩
theorem RV.frc {w w' : World} {h p c n : Nat} {room : Int} {v : Value} {ys qs : List Pk} (hv : RV w h room v ys) (q : QC w p c n qs) (f : Fr (fun k => k = c) w w') : RV w' h room v ys := by
  have hne : ¬ h = c := fun e => by
    obtain ⟨_, s, r, h2⟩ := q
    have := hv.o
    rw [e, h2] at this
    cases this
  refine ⟨f.heap_some hv.o hne, ?_⟩
  obtain ⟨a, b, off, cap, h1, h2, h3, h4⟩ := hv.r
  exact ⟨a, b, off, cap, h1, h2, h3, h4.fr f (h4.ne_chan q)⟩
theorem RV.set {w : World} {h : Nat} {room : Int} {v v' : Value} {ys zs : List Pk} (hv : RV w h room v ys) (hr : RP w v' zs) : RV ((w.setCell ⟨h, 0, none⟩ (.int .i64 room)).setCell ⟨h, 1, none⟩ v') h room v' zs :=
  ⟨by have := obj_set (obj_set hv.o 0 (.int .i64 room)) 1 v'; simpa using this, hr.frv hv (((Fr.refl (fun k => k = h) w).setIn 0 _).setIn 1 _)⟩

def pushed (room : Int) (x : Pk) (xs : List Pk) : List Pk := if (xs.length : Int) < room then xs ++ [x] else xs
theorem pushed_le (room : Int) (x : Pk) (xs : List Pk) : (pushed room x xs).length ≤ xs.length + 1 := by unfold pushed; split <;> simp
theorem rpush_any (room : Int) (x : Pk) (v : Value) (xs ys : List Pk) (hy : pushed room x xs = ys) (w : World) (h : RP w v xs) (hb : xs.length ≤ 1000) :
    Calls Try.prog 9 #[.agg #[.int .i64 room, v], pv x] w fun e w' => ∃ v', e = .returned (.tuple #[.agg #[.int .i64 room, v'], .bool (decide ((xs.length : Int) < room))]) ∧ RP w' v' ys ∧ Fr nob w w' := by
  obtain ⟨a, b, off, cap, rfl, h1, h2, h3⟩ := h
  subst hy
  unfold pushed
  by_cases hm : (xs.length : Int) < room
  · rw [if_pos hm, decide_eq_true hm]
    exact rpush_room room x a b off cap xs w h3 hm hb
  · rw [if_neg hm, decide_eq_false hm]
    refine (rpush_full room x a _ cap w (by omega)).mono ?_
    rintro e w' ⟨rfl, F⟩
    exact ⟨_, rfl, ⟨a, b, off, cap, rfl, h1, h2, h3.fr F (fun _ x => x)⟩, F⟩

set_option maxRecDepth 100000 in
theorem plain_any (a : Option Addr) (b off cap : Nat) (ps : List Pk) (w : World) (h : PAt w a b off ps) (hb : ps.length ≤ 1000) :
    Calls Try.prog 15 #[.slice a ps.length cap] w fun e w' => ∃ v', e = .returned v' ∧ RP w' v' ps ∧ Fr nob w w' := by
  have H := Lib.hid h
  clear h
  go_enter Try.func15, Try.ntmps15
  go_wp2_with fail
  go_loopg [3, 4] ps.length (fun gk s3 i wr => ∃ k : Nat, k + gk = ps.length ∧ i = .int .i64 k ∧ wr.ownsRow w.heap.size 39 2 s3 k (cp (ps.take k)) ∧ Fr nob w wr)
  case atStart => exact ⟨0, Nat.zero_add _, rfl, World.ownsRow_nil _ _ _ _, Fr.refl _ _⟩
  case round =>
    obtain ⟨k, hk, rfl, ho, hf⟩ := hrel
    obtain ⟨a3, cap3, rfl, -, -⟩ := owns_shape ho
    have O := Lib.hid ho
    have F := Lib.hid hf
    have HK := Lib.hid hk
    have hkl : k ≤ ps.length := by omega
    clear ho hf hk
    by_cases hlt : k < ps.length
    · obtain ⟨x, hx⟩ : ∃ x, ps[k]? = some x := ⟨_, List.getElem?_eq_getElem hlt⟩
      obtain rfl := H.out.1.resolve_left (fun e => by rw [e] at hlt; simp at hlt)
      obtain ⟨d0, d1⟩ := (H.out.fr F.out (fun _ x => x)).2 k x hx
      have HX := Lib.hid hx
      clear hx
      have hidx0 : (0 : Int) ≤ (k : Int) := Int.natCast_nonneg _
      have hidx1 : (k : Int) < (ps.length : Int) := by omega
      go_wp2_with (go_at_call 10; refine stop ?_)
      refine Stop.go ((one_any x wr).mono ?_)
      rintro e w2 ⟨rfl, f2⟩
      have F2 := Lib.hid f2
      clear d0 d1 f2
      unfold pv
      go_wp2_with (at_builtin; refine stop ?_)
      refine Stop.go (wpList_app rfl (.tmp 11) (.tmp 17) rfl appP rfl (base := w.heap.size) (n := k) (xs := cp (ps.take k)) ?p1 (m := 1) (news := cp [x]) rfl rfl ?p3 ?p4 ?p5 ?p6 ?p7)
      case p1 => exact (F2.out.owns O.out (fun _ _ x => x)).alloc _
      case p3 => exact Src.block (cs := #[.int .i64 x.1, .int .i64 x.2]) (obj_new (by simp) _) (cp_one [x])
      case p4 => omega
      case p5 => simp only [maxLen]; omega
      case p6 => have := F.out.size; have := F2.out.size; simp; omega
      case p7 =>
        intro v3 w3 ho3 hg3 _
        rw [← cp_app, ← take_snoc HX.out] at ho3
        have F3 := Lib.hid (((F.out.trans F2.out (U := nob) (fun _ _ x => x) (fun _ _ x => x)).alloc _).grown hg3 (fun i hi hl => by have := (O.out.lt i hi).1; omega))
        have O3 := Lib.hid ho3
        clear ho3 hg3
        go_wp2
        go_roundg (gk - 1)
        case measure => have := HK.out; omega
        case rel => exact ⟨k + 1, by have := HK.out; omega, by go_num, O3.out, F3.out⟩
    · have hkk : k = ps.length := by omega
      have R : Hid (RP wr (.slice a3 k cap3) ps) := by
        have := O.out
        rw [hkk, List.take_length] at this
        rw [hkk]
        exact RP.of_owns rfl this
      go_wp2
      go_ret
      exact ⟨_, rfl, R.out, F.out⟩

end Go.Proofs.Ytdmlojohdajjiaa
