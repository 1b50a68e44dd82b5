/- Plain. -/
import Derived.Test.YtlmaloikhmkokaaGrH
namespace Go.Proofs.Ytlmaloikhmkokaa
open Go.RowKit

set_option maxRecDepth 100000 in
set_option maxHeartbeats 1000000 in
theorem plain_any (v : Value) (ts : List Tx) (w : World) (h : RT w v ts) (hl : ts.length ≤ 10000) : Calls Try.prog 11 #[v] w fun e w' => ∃ v', e = .returned v' ∧ RT w' v' ts ∧ Fr nob w w' := by
  obtain ⟨a, b, off, cap, rfl, -, -, h3⟩ := h
  have H := Lib.hid h3
  clear h3
  obtain ⟨n, hn⟩ : ∃ n, n = ts.length := ⟨_, rfl⟩
  rw [← hn]
  have HN := Lib.hid hn
  have hnb : n ≤ 10000 := by omega
  obtain ⟨B, hB⟩ : ∃ B, B = w.heap.size := ⟨_, rfl⟩
  have HB := Lib.hid hB
  clear hn hl hB
  go_enter Try.func11, Try.ntmps11
  go_wp2_with fail
  go_loopg [3, 4] n (fun gk s3 i wr => ∃ (k : Nat) (L : List (Tx × Value)), k + gk = n ∧ i = .int .i64 k ∧ L.map Prod.fst = ts.take k ∧ wr.ownsRow B 40 4 s3 k (tc L) ∧ (∀ x ∈ L, RE w x.2 x.1.o) ∧ Fr nob w wr)
  case atStart => exact ⟨0, [], Nat.zero_add _, rfl, rfl, World.ownsRow_nil _ _ _ _, by simp, Fr.refl _ _⟩
  case round =>
    obtain ⟨k, L, hk, rfl, hL, hrow, hre, hf⟩ := hrel
    have HK := Lib.hid hk
    have HL := Lib.hid hL
    have HR := Lib.hid hrow
    have HE := Lib.hid hre
    have F := Lib.hid hf
    have hkl : k ≤ n := by omega
    obtain ⟨a3, cap3, rfl, -, -⟩ := owns_shape hrow
    clear hk hL hrow hre hf
    by_cases hlt : k < n
    · obtain ⟨x, hx⟩ : ∃ x, ts[k]? = some x := ⟨_, List.getElem?_eq_getElem (by have := HN.out; omega)⟩
      obtain rfl := H.out.addr hx
      obtain ⟨sv, d0, d1, d2, d3, hsv⟩ := (H.out.nob F.out).2 k x hx
      obtain ⟨sv', e0, e1, e2, d3', hsv'⟩ := H.out.2 k x hx
      obtain rfl : sv' = sv := by have := F.out.cell_some d3' (fun x => x); rw [d3] at this; exact (Option.some.inj this).symm
      obtain ⟨a6, n6, rfl, -⟩ := hsv.slice
      have HS := Lib.hid hsv'
      have KEEP : Hid (∀ w' : World, Fr nob w w' → (w'.cell? ⟨b, off + k * 4, none⟩ = some (.int .i64 x.s) ∧ w'.cell? ⟨b, off + k * 4 + 1, none⟩ = some (.bool x.d) ∧ w'.cell? ⟨b, off + k * 4 + 2, none⟩ = some (.int .i64 x.f) ∧ w'.cell? ⟨b, off + k * 4 + 3, none⟩ = some (.slice a6 x.o.length n6))) :=
        Lib.hid (fun w' f => ⟨f.cell_some e0 (fun x => x), f.cell_some e1 (fun x => x), f.cell_some e2 (fun x => x), f.cell_some d3' (fun x => x)⟩)
      have HX := Lib.hid hx
      have hidx0 : (0 : Int) ≤ (k : Int) := Int.natCast_nonneg _
      have hidx1 : (k : Int) < (n : Int) := by omega
      have hb1 : (k + 1) * 48 ≤ 140737488355328 := by omega
      have hb2 : k + 1 ≤ maxLen := by simp only [maxLen]; omega
      have hb3 : B ≤ (wr.drew.alloc (.cells #[.int .i64 x.s, .bool x.d, .int .i64 x.f, .slice a6 x.o.length n6] 40)).heap.size := by have := F.out.size; have := HB.out; simp; omega
      have HRD : Hid (wr.drew.ownsRow B 40 4 (.slice a3 k cap3) k (tc L)) := Lib.hid (((Fr.refl nob wr).drew).owns HR.out (fun _ _ x => x))
      have FD := Lib.hid F.out.drew
      clear hx hsv hsv' d3' e0 e1 e2
      go_wp2_with fail
      go_region_held3 (fun w' => w'.cell? ⟨b, off + k * 4, none⟩ = some (.int .i64 x.s) ∧ w'.cell? ⟨b, off + k * 4 + 1, none⟩ = some (.bool x.d) ∧ w'.cell? ⟨b, off + k * 4 + 2, none⟩ = some (.int .i64 x.f) ∧ w'.cell? ⟨b, off + k * 4 + 3, none⟩ = some (.slice a6 x.o.length n6)) (first | go_keep | (exact KEEP.out _ F3.out)) ((refine step_app rfl (.tmp 11) (.tmp 33) rfl appTx40' rfl (base := B) (n := k) (xs := tc L) (World.ownsRow.alloc (w := wr.drew) HRD.out _) (m := 1) (news := tc [(x, .slice a6 x.o.length n6)]) rfl rfl (Src.block (w := wr.drew.alloc _) (cs := #[.int .i64 x.s, .bool x.d, .int .i64 x.f, .slice a6 x.o.length n6]) (obj_new (w := wr.drew) rfl _) (by simp [Value.oneCell'])) hb1 hb2 hb3 ?_; intro v3 w3 ho3 hg3 _; have F3 := Lib.hid ((FD.out.alloc _).grownOwn (by have := HB.out; omega) (World.ownsRow.alloc (w := wr.drew) HRD.out _) hg3); have R3 : Hid (w3.ownsRow B 40 4 v3 (k + 1) (tc (L ++ [(x, .slice a6 x.o.length n6)]))) := Lib.hid (by rw [tc_app]; exact ho3); clear ho3 hg3))
      all_goals
        clear HRD FD d0 d1 d2 d3
        go_wp2
        go_roundg (gk - 1)
        case measure => have := HK.out; omega
        case rel =>
          refine ⟨k + 1, L ++ [(x, .slice a6 x.o.length n6)], by have := HK.out; omega, by go_num, by rw [List.map_append, HL.out, take_snoc HX.out]; rfl, R3.out, fun y hy => ?_, F3.out⟩
          rcases List.mem_append.1 hy with hy | hy
          · exact HE.out y hy
          · simp at hy; subst hy; exact HS.out
    · have hkn : k = n := by omega
      have RES : Hid (RT wr (.slice a3 k cap3) ts) := Lib.hid (by
        have hl := congrArg List.length HL.out
        have := RT.of_row (by simp at hl; have := HN.out; omega) HR.out (fun x hx => (HE.out x hx).fr F.out)
        rw [HL.out, List.take_of_length_le (by have := HN.out; omega)] at this
        exact this)
      clear hkn
      go_wp2
      go_ret
      exact ⟨_, rfl, RES.out, F.out⟩

end Go.Proofs.Ytlmaloikhmkokaa
