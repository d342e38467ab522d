/- Contract of 'Turned'. -/
import Derived.Test.YtehehnhomlcimaaQ
import Derived.Deep.RegionHeld
import Derived.Deep.Cut
namespace Go.Proofs.Ytehehnhomlcimaa
open Go.RowKit
attribute [local go_sem ↓ high] loadAt45 storeAt45
attribute [local go_sem] and65535
theorem tm (x m : Int) (hx : 0 ≤ x) (hm : 0 < m) : ∃ i : Nat, (i : Int) < m ∧ x.tmod m = i := ⟨(x.tmod m).toNat, by have := Int.tmod_lt_of_pos x hm; have := Int.tmod_nonneg m hx; omega, by have := Int.tmod_nonneg m hx; omega⟩

set_option maxRecDepth 100000 in
set_option maxHeartbeats 8000000 in
theorem Turned_any (w : World) (base : Nat) (sv pv ov : Value) (at_ pg : List Int) (ops : List OpT) (q0 q1 q2 : Int) (H : BLK w base sv pv ov at_ pg ops) (ha : at_.length ≤ 1000) (hp : pg.length ≤ 1000) (ho : ops.length ≤ 1000) :
    Calls Try.prog 5 #[.agg #[sv, pv, ov], .agg #[.int .i64 q0, .int .i64 q1, .int .i64 q2]] w (TurnedOut w) := by
  obtain ⟨i1, hi1, hz10, hz11, hz12⟩ := info_parts info24
  obtain ⟨i2, hi2, hz20, hz21, hz22⟩ := info_parts info3
  obtain ⟨i3, hi3, hz30, hz31, hz32⟩ := info_parts info45
  obtain ⟨a0, n0, c0, rfl⟩ := own_form H.a
  obtain ⟨a9, n9, c9, rfl⟩ := own_form H.p
  obtain ⟨a8, n8, c8, rfl⟩ := own_form H.o
  have HH := Lib.hid H
  clear H
  go_enter Try.func5, Try.ntmps5
  go_wp2_with fail
  refine (Own_any _ base _ _ _ at_ pg ops (((HH.out.below ?b1))) (by omega) (by omega) (by omega)).mono ?_
  case b1 => (repeat (first | exact Below.refl _ _ | assumption | refine Below.drew ?_ | refine Below.alloc ?_ (by first | exact Nat.le_refl _ | omega | (simp; done) | (simp; omega)) _ | refine Below.setCell ?_ (by first | exact Nat.le_refl _ | omega | (simp; done) | (simp; omega)) _ | refine below_row ?_ _ (by first | exact Nat.le_refl _ | omega | (simp; done) | (simp; omega)) _))
  rintro e wA ⟨sv, pv, ov, rfl, hB, hbel⟩
  obtain ⟨a1, c1, rfl⟩ := own_form' hB.a
  obtain ⟨a2, c2, rfl⟩ := own_form' hB.p
  obtain ⟨a3, c3, rfl⟩ := own_form' hB.o
  have HI := Lib.hid (IT.start hB hbel)
  clear hB hbel
  go_upto_region 2 with (fail)
  generalize (wA.alloc (.cells #[.slice a1 at_.length c1, .slice a2 pg.length c2, .slice a3 ops.length c3] 38)) = W1 at HI ⊢
  generalize wA.heap.size = bb at HI ⊢
  clear wA
  obtain ⟨cb0, fb0, lt0, cq0⟩ := HI.out.cells
  obtain ⟨cr0, fr0, ne1, ne2⟩ := HI.out.rcells
  by_cases hz : ops.length = 0
  · have hz' : ((ops.length : Int) == 0) = true := by rw [hz]; rfl
    clear hz
    go_wp2_with fail
    exact fin_ret (by rfl) HI.out (by omega) (by omega) (by omega)
  have hz' : ((ops.length : Int) == 0) = false := beq_false_of_ne (by omega)
  obtain ⟨g, c3', he⟩ := HI.out.nonil (by omega)
  simp only [Value.slice.injEq] at he
  obtain ⟨rfl, -, rfl⟩ := he
  obtain ⟨i, hi, hx⟩ := tm (q1 % 65536) (ops.length : Int) (by omega) (by omega)
  have hi : i < ops.length := by omega
  obtain ⟨N, hN⟩ : ∃ N, q2 % 65536 = N := ⟨_, rfl⟩
  have hN0 : 0 ≤ N := by omega
  have hN1 : N < 65536 := by omega
  have hq : -11 < q0.tmod 11 ∧ q0.tmod 11 < 11 := by
    have := rem_bd q0 11 (by omega); omega
  obtain ⟨s, hs11, hs⟩ := tm (q0.tmod 11 + 11) 11 (by omega) (by omega)
  obtain ⟨⟨x0, x1, x2, x3, x4⟩, hx0, hx1, hx2, hx3, hx4, hxf, hgl, hgb, hgb', hgr, hgr'⟩ := HI.out.op rfl hi
  have hcap := own_cap HI.out.blk.o
  have hii : i + 1 ≤ ops.length := by omega
  have hic : i ≤ c3 := by omega
  have hil : i ≤ ops.length := by omega
  have hic1 : i + 1 ≤ c3 := by omega
  have hq1 := hq.1
  have hq2 := hq.2
  clear hq
  have hss : s = 0 ∨ s = 1 ∨ s = 2 ∨ s = 3 ∨ s = 4 ∨ s = 5 ∨ s = 6 ∨ s = 7 ∨ s = 8 ∨ s = 9 ∨ s = 10 := by omega
  rcases hss with rfl | rfl | rfl | rfl | rfl | rfl | rfl | rfl | rfl | rfl | rfl
  · go_wp2_with fail
    exact fin_ret (by rfl) (HI.out.field rfl hi 0 (by omega) _ ⟨_, rfl⟩) (by omega) (by omega) (by rw [fld_len]; omega)
  · go_wp2_with fail
    exact fin_ret (by rfl) (HI.out.field rfl hi 1 (by omega) _ ⟨_, rfl⟩) (by omega) (by omega) (by rw [fld_len]; omega)
  · go_wp2_with fail
    exact fin_ret (by rfl) (HI.out.field rfl hi 2 (by omega) _ ⟨_, rfl⟩) (by omega) (by omega) (by rw [fld_len]; omega)
  · go_wp2_with fail
    exact fin_ret (by rfl) (HI.out.field rfl hi 3 (by omega) _ ⟨_, rfl⟩) (by omega) (by omega) (by rw [fld_len]; omega)
  · go_wp2_with fail
    refine wp_region_held_drew (S := (fun w' => w'.cell? ⟨bb, 2, none⟩ = some (.slice (some ⟨g, 0, none⟩) ops.length c3))) (by kernel_rfl) (by go_simp) (fun hHeld => ?_)
    refine wpAnyH_take (i := 0) (v := ?v0x1) rfl (by kernel_rfl) (by kernel_rfl) (by kernel_rfl) (fun _ _ _ h => h) (Or.inl ⟨by rfl, ?hy0x1⟩) (by assumption) ?rest0x1
    case hy0x1 => (intro w hSw; (try dsimp only at hSw); go_simp; (try with_reducible rfl))
    try simp only [Act.put, List.getElem_toArray, List.getElem_cons_zero, List.getElem_cons_succ, List.setIfInBounds_toArray, List.set_cons_zero, List.set_cons_succ]
    refine wpAnyH_take (i := 1) (v := ?v1x2) rfl (by kernel_rfl) (by kernel_rfl) (by kernel_rfl) (fun _ _ _ h => h) (Or.inl ⟨by rfl, ?hy1x2⟩) (by assumption) ?rest1x2
    case hy1x2 => (intro w hSw; (try dsimp only at hSw); go_simp; (try with_reducible rfl))
    try simp only [Act.put, List.getElem_toArray, List.getElem_cons_zero, List.getElem_cons_succ, List.setIfInBounds_toArray, List.set_cons_zero, List.set_cons_succ]
    refine wpAnyH_take (i := 2) (v := ?v2x3) rfl (by kernel_rfl) (by kernel_rfl) (by kernel_rfl) (fun _ _ _ h => h) (Or.inl ⟨by rfl, ?hy2x3⟩) (by assumption) ?rest2x3
    case hy2x3 => (intro w hSw; (try dsimp only at hSw); go_simp; (try with_reducible rfl))
    try simp only [Act.put, List.getElem_toArray, List.getElem_cons_zero, List.getElem_cons_succ, List.setIfInBounds_toArray, List.set_cons_zero, List.set_cons_succ]
    refine wpAnyH_take (i := 3) (v := ?v3x4) rfl (by kernel_rfl) (by kernel_rfl) (by kernel_rfl) (fun _ _ _ h => h) (Or.inl ⟨by rfl, ?hy3x4⟩) (by assumption) ?rest3x4
    case hy3x4 => (intro w hSw; (try dsimp only at hSw); go_simp; (try with_reducible rfl))
    try simp only [Act.put, List.getElem_toArray, List.getElem_cons_zero, List.getElem_cons_succ, List.setIfInBounds_toArray, List.set_cons_zero, List.set_cons_succ]
    refine wpAnyH_take (i := 4) (v := ?v4x5) rfl (by kernel_rfl) (by kernel_rfl) (by kernel_rfl) (fun _ _ _ h => h) (Or.inl ⟨by rfl, ?hy4x5⟩) (by assumption) ?rest4x5
    case hy4x5 => (intro w hSw; (try dsimp only at hSw); go_simp; (try with_reducible rfl))
    try simp only [Act.put, List.getElem_toArray, List.getElem_cons_zero, List.getElem_cons_succ, List.setIfInBounds_toArray, List.set_cons_zero, List.set_cons_succ]
    refine wpAnyH_take (i := 5) (v := ?v5x6) rfl (by kernel_rfl) (by kernel_rfl) (by kernel_rfl) (fun _ _ _ h => h) (Or.inl ⟨by rfl, ?hy5x6⟩) (by assumption) ?rest5x6
    case hy5x6 => (intro w hSw; (try dsimp only at hSw); go_simp; (try with_reducible rfl))
    try simp only [Act.put, List.getElem_toArray, List.getElem_cons_zero, List.getElem_cons_succ, List.setIfInBounds_toArray, List.set_cons_zero, List.set_cons_succ]
    refine wpAnyH_take (i := 6) (v := ?v6x7) rfl (by kernel_rfl) (by kernel_rfl) (by kernel_rfl) (fun _ _ _ h => h) (Or.inl ⟨by rfl, ?hy6x7⟩) (by assumption) ?rest6x7
    case hy6x7 => (intro w hSw; (try dsimp only at hSw); go_simp; (try with_reducible rfl))
    try simp only [Act.put, List.getElem_toArray, List.getElem_cons_zero, List.getElem_cons_succ, List.setIfInBounds_toArray, List.set_cons_zero, List.set_cons_succ]
    refine wpAnyH_take (i := 7) (v := ?v7x8) rfl (by kernel_rfl) (by kernel_rfl) (by kernel_rfl) (fun _ _ _ h => h) (Or.inl ⟨by rfl, ?hy7x8⟩) (by assumption) ?rest7x8
    case hy7x8 => (intro w hSw; (try dsimp only at hSw); go_simp; (try with_reducible rfl))
    try simp only [Act.put, List.getElem_toArray, List.getElem_cons_zero, List.getElem_cons_succ, List.setIfInBounds_toArray, List.set_cons_zero, List.set_cons_succ]
    refine wpAnyH_take (i := 9) (v := ?v9x9) rfl (by kernel_rfl) (by kernel_rfl) (by kernel_rfl) (fun _ _ _ h => h) (Or.inl ⟨by rfl, ?hy9x9⟩) (by assumption) ?rest9x9
    case hy9x9 => (intro w hSw; (try dsimp only at hSw); go_simp; (try with_reducible rfl))
    try simp only [Act.put, List.getElem_toArray, List.getElem_cons_zero, List.getElem_cons_succ, List.setIfInBounds_toArray, List.set_cons_zero, List.set_cons_succ]
    refine wpAnyH_take (i := 10) (v := ?v10x10) rfl (by kernel_rfl) (by kernel_rfl) (by kernel_rfl) (fun _ _ _ h => h) (Or.inl ⟨by rfl, ?hy10x10⟩) (by assumption) ?rest10x10
    case hy10x10 => (intro w hSw; (try dsimp only at hSw); go_simp; (try with_reducible rfl))
    try simp only [Act.put, List.getElem_toArray, List.getElem_cons_zero, List.getElem_cons_succ, List.setIfInBounds_toArray, List.set_cons_zero, List.set_cons_succ]
    refine wpAnyH_take (i := 11) (v := ?v11x11) rfl (by kernel_rfl) (by kernel_rfl) (by kernel_rfl) (fun _ _ _ h => h) (Or.inl ⟨by rfl, ?hy11x11⟩) (by assumption) ?rest11x11
    case hy11x11 => (intro w hSw; (try dsimp only at hSw); go_simp; (try with_reducible rfl))
    try simp only [Act.put, List.getElem_toArray, List.getElem_cons_zero, List.getElem_cons_succ, List.setIfInBounds_toArray, List.set_cons_zero, List.set_cons_succ]
    refine wpAnyH_ready (rs := [8]) (by kernel_rfl) (by simp) ?_
    refine AllReadyH.cons rfl (fun K hK => ?_) AllReadyH.nil
    go_simp
    refine hK.out _ _ (by go_simp) (fun hHeld8 => ?_)
    clear hK K
    try simp only [Act.put, List.getElem_toArray, List.getElem_cons_zero, List.getElem_cons_succ, List.setIfInBounds_toArray, List.set_cons_zero, List.set_cons_succ]
    refine wpAnyH_take (i := 12) (v := ?v12x12) rfl (by kernel_rfl) (by kernel_rfl) (by kernel_rfl) (fun _ _ _ h => h) (Or.inl ⟨by rfl, ?hy12x12⟩) (by assumption) ?rest12x12
    case hy12x12 => (intro w hSw; (try dsimp only at hSw); go_simp; (try with_reducible rfl))
    try simp only [Act.put, List.getElem_toArray, List.getElem_cons_zero, List.getElem_cons_succ, List.setIfInBounds_toArray, List.set_cons_zero, List.set_cons_succ]
    refine wpAnyH_take (i := 13) (v := ?v13x13) rfl (by kernel_rfl) (by kernel_rfl) (by kernel_rfl) (fun _ _ _ h => h) (Or.inl ⟨by rfl, ?hy13x13⟩) (by assumption) ?rest13x13
    case hy13x13 => (intro w hSw; (try dsimp only at hSw); go_simp; (try with_reducible rfl))
    try simp only [Act.put, List.getElem_toArray, List.getElem_cons_zero, List.getElem_cons_succ, List.setIfInBounds_toArray, List.set_cons_zero, List.set_cons_succ]
    refine wpAnyH_take (i := 14) (v := ?v14x14) rfl (by kernel_rfl) (by kernel_rfl) (by kernel_rfl) (fun _ _ _ h => h) (Or.inl ⟨by rfl, ?hy14x14⟩) (by assumption) ?rest14x14
    case hy14x14 => (intro w hSw; (try dsimp only at hSw); go_simp; (try with_reducible rfl))
    try simp only [Act.put, List.getElem_toArray, List.getElem_cons_zero, List.getElem_cons_succ, List.setIfInBounds_toArray, List.set_cons_zero, List.set_cons_succ]
    refine wpAnyH_take (i := 15) (v := ?v15x15) rfl (by kernel_rfl) (by kernel_rfl) (by kernel_rfl) (fun _ _ _ h => h) (Or.inl ⟨by rfl, ?hy15x15⟩) (by assumption) ?rest15x15
    case hy15x15 => (intro w hSw; (try dsimp only at hSw); go_simp; (try with_reducible rfl))
    try simp only [Act.put, List.getElem_toArray, List.getElem_cons_zero, List.getElem_cons_succ, List.setIfInBounds_toArray, List.set_cons_zero, List.set_cons_succ]
    refine wpAnyH_ready (rs := [16]) (by kernel_rfl) (by simp) ?_
    refine AllReadyH.cons rfl (fun K hK => ?_) AllReadyH.nil
    go_simp
    refine hK.out _ _ (by go_simp) (fun hHeld16 => ?_)
    clear hK K
    try simp only [Act.put, List.getElem_toArray, List.getElem_cons_zero, List.getElem_cons_succ, List.setIfInBounds_toArray, List.set_cons_zero, List.set_cons_succ]
    refine wpAnyH_done (by kernel_rfl) ?_ _
    go_wp2_with fail
    exact fin_ret (by rfl) (HI.out.drew.field rfl hi 4 (by omega) _ ⟨_, rfl⟩) (by omega) (by omega) (by rw [fld_len]; omega)
  · by_cases hcc : c3 = i + 1
    · have e1 : ops.length - (i + 1) = 0 := by omega
      have e2 : flat (ops.drop (i + 1)) = [] := by rw [List.drop_of_length_le (by omega)]; rfl
      subst hcc
      go_wp2_with (at_builtin; (refine wpList_append_own _ rfl _ _ 36 rfl w.heap.size 45 i3 (.agg #[.int .i64 0, .int .i64 0, .int .i64 0, .int .i64 0, .int .u32 0]) 5 40 Try.underlying36 hi3 hz30 hz31 hz32 rfl (by decide) (.slice (some ⟨g, 0, none⟩) i (i + 1)) i _ rfl (own_head HI.out.blk.o i hil) ⟨g, 0, none⟩ 0 _ [] rfl rfl (fun j u h => by cases h) (fun u h => by cases h) (by unfold maxLen; omega) (by omega) HI.out.bel.size ?_); intro v9 w9 hown9 hg9 _; have H9 := Lib.hid (HI.out.del hi (by rw [e1, e2]; exact hown9) hg9); obtain ⟨a9', m9, c9', rfl⟩ := own_form hown9; clear hown9 hg9; obtain ⟨cb9, fb9, lt9, cq9⟩ := H9.out.cells; obtain ⟨cr9, fr9, ne19, ne29⟩ := H9.out.rcells; skip)
      exact fin_ret (by rfl) (H9.out.set 2 _) (by omega) (by omega) (by simp; omega)
    · go_wp2_with (at_builtin; (refine wpList_append_own _ rfl _ _ 36 rfl w.heap.size 45 i3 (.agg #[.int .i64 0, .int .i64 0, .int .i64 0, .int .i64 0, .int .u32 0]) 5 40 Try.underlying36 hi3 hz30 hz31 hz32 rfl (by decide) (.slice (some ⟨g, 0, none⟩) i c3) i _ rfl (own_head HI.out.blk.o i hil) ⟨g, (i + 1) * 5, none⟩ (ops.length - (i + 1)) _ (flat (ops.drop (i + 1))) rfl (rest_len _) (rest_cells HI.out.blk.o rfl _) (flat_one _) (by unfold maxLen; omega) (by omega) HI.out.bel.size ?_); intro v9 w9 hown9 hg9 _; have H9 := Lib.hid (HI.out.del hi hown9 hg9); obtain ⟨a9', m9, c9', rfl⟩ := own_form hown9; clear hown9 hg9; obtain ⟨cb9, fb9, lt9, cq9⟩ := H9.out.cells; obtain ⟨cr9, fr9, ne19, ne29⟩ := H9.out.rcells; skip)
      exact fin_ret (by rfl) (H9.out.set 2 _) (by omega) (by omega) (by simp; omega)
  · have hci : ¬ (c3 = i) := by omega
    go_upto_region 23 with (fail)
    generalize hW2 : (W1.alloc (.cells #[.int .i64 x0, .int .i64 x1, .int .i64 x2, .int .i64 x3, .int .u32 x4] 45)) = W2
    have hop : W2.heap[W1.heap.size]? = some (.cells #[.int .i64 x0, .int .i64 x1, .int .i64 x2, .int .i64 x3, .int .u32 x4] 45 (0, 0)) := by rw [← hW2, World.heap_alloc_get, if_pos rfl]
    have HA := Lib.hid (show IT w _ bb _ _ _ _ at_ pg ops W2 from hW2 ▸ HI.out.alloc _)
    generalize W1.heap.size = bo at hop ⊢
    clear hW2 cb0 fb0 lt0 cq0 cr0 fr0 ne1 ne2 hx0 hx1 hx2 hx3 hx4 hxf hgl hgb hgb' hgr hgr' HI
    clear W1
    have hol := blk_lt hop
    obtain ⟨cb0, fb0, lt0, cq0⟩ := HA.out.cells
    obtain ⟨cr0, fr0, ne1, ne2⟩ := HA.out.rcells
    have co0 := fun k => blk_cell hop k
    go_wp2_with (first | (at_builtin; (refine wpList_append_own_row rfl _ _ 36 rfl W2.heap.size 45 i3 (.agg #[.int .i64 0, .int .i64 0, .int .i64 0, .int .i64 0, .int .u32 0]) 5 40 Try.underlying36 hi3 hz30 hz31 hz32 rfl (by decide) _ 0 _ rfl (World.ownsRow_nil _ _ _ _) _ _ i _ rfl (own_head HA.out.blk.o i hil) (fun u hu => flat_one _ u (List.mem_of_mem_take hu)) (by unfold maxLen; omega) (by omega) (Nat.le_refl _) ?_); intro v9 w4 hown9 hg9; have b4 := Lib.hid (below_none hg9); have H4 := Lib.hid (HA.out.below b4.out); obtain ⟨aw4, mw4, cw4, rfl⟩ := own_form hown9; have R4 := Lib.hid hown9; clear hown9 hg9; obtain ⟨cbw4, fbw4, ltw4, cqw4⟩ := H4.out.cells; obtain ⟨crw4, frw4, ne1w4, ne2w4⟩ := H4.out.rcells; have cow4 := fun k => (blk_cell ((b4.out.block _ hol).trans hop)) k; have fow4 := fun k => (blk_free ((b4.out.block _ hol).trans hop)) k; skip; skip) | (at_builtin; (refine wpList_append_own_row rfl _ _ 36 rfl W2.heap.size 45 i3 (.agg #[.int .i64 0, .int .i64 0, .int .i64 0, .int .i64 0, .int .u32 0]) 5 40 Try.underlying36 hi3 hz30 hz31 hz32 rfl (by decide) _ (0 + i) _ rfl (R4.out.alloc _) _ _ 1 _ rfl (lit45 _ (Nat.zero_le _) (by simp) [(x0, x1, x2, x3, x4)] (by simp)) (flat_one _) (by unfold maxLen; omega) (by omega) (b4.out.alloc b4.out.size _).size ?_); intro v9 w5 hown9 hg9; have b5 := Lib.hid (below_app b4.out R4.out hg9); have H5 := Lib.hid (HA.out.below b5.out); obtain ⟨aw5, mw5, cw5, rfl⟩ := own_form hown9; have R5 := Lib.hid hown9; clear hown9 hg9; obtain ⟨cbw5, fbw5, ltw5, cqw5⟩ := H5.out.cells; obtain ⟨crw5, frw5, ne1w5, ne2w5⟩ := H5.out.rcells; have cow5 := fun k => (blk_cell ((b5.out.block _ hol).trans hop)) k; have fow5 := fun k => (blk_free ((b5.out.block _ hol).trans hop)) k; skip; skip) | (at_builtin; (refine wpList_append_own _ rfl _ _ 36 rfl W2.heap.size 45 i3 (.agg #[.int .i64 0, .int .i64 0, .int .i64 0, .int .i64 0, .int .u32 0]) 5 40 Try.underlying36 hi3 hz30 hz31 hz32 rfl (by decide) _ (0 + i + 1) _ rfl R5.out ⟨g, i * 5, none⟩ (ops.length - i) _ (flat (ops.drop i)) rfl (rest_len _) (rest_cells H5.out.blk.o rfl _) (flat_one _) (by unfold maxLen; omega) (by omega) b5.out.size ?_); intro v9 w6 hown9 hg9 _; have b6 := Lib.hid (below_app0 b5.out R5.out hg9); have H6 := Lib.hid (HA.out.below b6.out); obtain ⟨aw6, mw6, cw6, rfl⟩ := own_form hown9; have R6 := Lib.hid hown9; clear hown9 hg9; obtain ⟨cbw6, fbw6, ltw6, cqw6⟩ := H6.out.cells; obtain ⟨crw6, frw6, ne1w6, ne2w6⟩ := H6.out.rcells; have cow6 := fun k => (blk_cell ((b6.out.block _ hol).trans hop)) k; have fow6 := fun k => (blk_free ((b6.out.block _ hol).trans hop)) k; skip))
    exact fin_ret (by rfl) ((H6.out.putO (q := 0 + i + 1 + (ops.length - i)) (ops' := ops.take i ++ [(x0, x1, x2, x3, x4)] ++ ops.drop i) (by simp only [List.length_append, List.length_take, List.length_drop, List.length_cons, List.length_nil]; omega) (by simpa [flat_append, flat_take, flat] using R6.out) HA.out.bel.size).set 2 _) (by omega) (by omega) (by simp only [List.length_append, List.length_take, List.length_drop, List.length_cons, List.length_nil]; omega)
  · obtain ⟨j, hj, hy⟩ := tm N (ops.length : Int) (by omega) (by omega)
    have hj : j < ops.length := by omega
    go_upto_region 30 with (fail)
    generalize hW2 : (W1.alloc (.cells #[.int .i64 x0, .int .i64 x1, .int .i64 x2, .int .i64 x3, .int .u32 x4] 45)) = W2
    have hop : W2.heap[W1.heap.size]? = some (.cells #[.int .i64 x0, .int .i64 x1, .int .i64 x2, .int .i64 x3, .int .u32 x4] 45 (0, 0)) := by rw [← hW2, World.heap_alloc_get, if_pos rfl]
    have HA := Lib.hid (show IT w _ bb _ _ _ _ at_ pg ops W2 from hW2 ▸ HI.out.alloc _)
    have hgo : ¬ (g = W1.heap.size) ∧ ¬ (W1.heap.size = g) := ⟨by omega, by omega⟩
    generalize W1.heap.size = bo at hop hgo ⊢
    obtain ⟨hgo1, hgo2⟩ := hgo
    clear hW2 cb0 fb0 lt0 cq0 cr0 fr0 ne1 ne2 hx0 hx1 hx2 hx3 hx4 hxf hgl hgb hgb' hgr hgr' HI
    clear W1
    have hol := blk_lt hop
    obtain ⟨cb0, fb0, lt0, cq0⟩ := HA.out.cells
    obtain ⟨cr0, fr0, ne1, ne2⟩ := HA.out.rcells
    have co0 := fun k => blk_cell hop k
    obtain ⟨⟨_, _, _, _, _⟩, _, _, _, _, _, _, hgl, hgb, hgb', hgr, hgr'⟩ := HA.out.op rfl hj
    obtain ⟨⟨y0, y1, y2, y3, y4⟩, hye, hjf, hpl⟩ := HA.out.ex5 hj
    obtain ⟨_, _, hif, _⟩ := HA.out.ex5 hi
    have hOn : On := trivial
    have hldj : (ldB 45 (.pointer (some ⟨g, j * 5, none⟩))).run Try.prog W2.drew = .ok (.agg #[.int .i64 y0, .int .i64 y1, .int .i64 y2, .int .i64 y3, .int .u32 y4]) W2.drew := (ld45 W2.drew g (j * 5) hjf).trans (by rw [← hye]; rfl)
    obtain ⟨o1, l1, H1⟩ := HA.out.drew.row5 hi (y0, y1, y2, y3, y4)
    have hsti := st45 W2.drew g (i * 5) y0 y1 y2 y3 y4 hpl hif
    have hop3 : (W2.drew.setRow g (spl (W2.drew.cs g) (i * 5) #[.int .i64 y0, .int .i64 y1, .int .i64 y2, .int .i64 y3, .int .u32 y4])).heap[bo]? = some (.cells #[.int .i64 x0, .int .i64 x1, .int .i64 x2, .int .i64 x3, .int .u32 x4] 45 (0, 0)) := by rw [World.heap_setRow, if_neg hgo2]; exact hop
    generalize W2.drew.setRow g (spl (W2.drew.cs g) (i * 5) #[.int .i64 y0, .int .i64 y1, .int .i64 y2, .int .i64 y3, .int .u32 y4]) = W3 at hsti H1 hop3
    have H1 := Lib.hid H1
    obtain ⟨cb3, fb3, lt3, cq3⟩ := H1.out.cells
    obtain ⟨cr3, fr3, ne13, ne23⟩ := H1.out.rcells
    have hcs3 := World.cs_of _ _ _ _ hop3
    have hldo : (ldB 45 (.pointer (some ⟨bo, 0, none⟩))).run Try.prog W3 = .ok (.agg #[.int .i64 x0, .int .i64 x1, .int .i64 x2, .int .i64 x3, .int .u32 x4]) W3 := (ld45 W3 bo 0 (by rw [hcs3]; exact Nat.le_refl 5)).trans (by rw [hcs3]; rfl)
    obtain ⟨_, _, hjf3, hpl3⟩ := H1.out.ex5 (i := j) (by omega)
    obtain ⟨o2, l2, H2⟩ := H1.out.row5 (i := j) (by omega) (x0, x1, x2, x3, x4)
    have hstj := st45 W3 g (j * 5) x0 x1 x2 x3 x4 hpl3 hjf3
    generalize W3.setRow g (spl (W3.cs g) (j * 5) #[.int .i64 x0, .int .i64 x1, .int .i64 x2, .int .i64 x3, .int .u32 x4]) = W4 at hstj H2
    have H2 := Lib.hid H2
    obtain ⟨cb4, fb4, lt4, cq4⟩ := H2.out.cells
    obtain ⟨cr4, fr4, ne14, ne24⟩ := H2.out.rcells
    clear hye hjf hpl hjf3 hpl3 hcs3 hop3 hif
    refine wp_region_held_drew (S := (fun w' => w'.cell? ⟨bb, 2, none⟩ = some (.slice (some ⟨g, 0, none⟩) ops.length c3))) (by kernel_rfl) (by go_simp) (fun hHeld => ?_)
    refine wpAnyH_take (i := 0) (v := ?v0x16) rfl (by kernel_rfl) (by kernel_rfl) (by kernel_rfl) (fun _ _ _ h => h) (Or.inl ⟨by rfl, ?hy0x16⟩) (by assumption) ?rest0x16
    case hy0x16 => (intro w hSw; (try dsimp only at hSw); go_simp; (try with_reducible rfl))
    try simp only [Act.put, List.getElem_toArray, List.getElem_cons_zero, List.getElem_cons_succ, List.setIfInBounds_toArray, List.set_cons_zero, List.set_cons_succ]
    refine wpAnyH_take (i := 1) (v := ?v1x17) rfl (by kernel_rfl) (by kernel_rfl) (by kernel_rfl) (fun _ _ _ h => h) (Or.inl ⟨by rfl, ?hy1x17⟩) (by assumption) ?rest1x17
    case hy1x17 => (intro w hSw; (try dsimp only at hSw); go_simp; (try with_reducible rfl))
    try simp only [Act.put, List.getElem_toArray, List.getElem_cons_zero, List.getElem_cons_succ, List.setIfInBounds_toArray, List.set_cons_zero, List.set_cons_succ]
    refine wpAnyH_take (i := 2) (v := ?v2x18) rfl (by kernel_rfl) (by kernel_rfl) (by kernel_rfl) (fun _ _ _ h => h) (Or.inl ⟨by rfl, ?hy2x18⟩) (by assumption) ?rest2x18
    case hy2x18 => (intro w hSw; (try dsimp only at hSw); go_simp; (try with_reducible rfl))
    try simp only [Act.put, List.getElem_toArray, List.getElem_cons_zero, List.getElem_cons_succ, List.setIfInBounds_toArray, List.set_cons_zero, List.set_cons_succ]
    refine wpAnyH_take (i := 3) (v := ?v3x19) rfl (by kernel_rfl) (by kernel_rfl) (by kernel_rfl) (fun _ _ _ h => h) (Or.inl ⟨by rfl, ?hy3x19⟩) (by assumption) ?rest3x19
    case hy3x19 => (intro w hSw; (try dsimp only at hSw); go_simp; (try with_reducible rfl))
    try simp only [Act.put, List.getElem_toArray, List.getElem_cons_zero, List.getElem_cons_succ, List.setIfInBounds_toArray, List.set_cons_zero, List.set_cons_succ]
    refine wpAnyH_take (i := 4) (v := ?v4x20) rfl (by kernel_rfl) (by kernel_rfl) (by kernel_rfl) (fun _ _ _ h => h) (Or.inl ⟨by rfl, ?hy4x20⟩) (by assumption) ?rest4x20
    case hy4x20 => (intro w hSw; (try dsimp only at hSw); go_simp; (try with_reducible rfl))
    try simp only [Act.put, List.getElem_toArray, List.getElem_cons_zero, List.getElem_cons_succ, List.setIfInBounds_toArray, List.set_cons_zero, List.set_cons_succ]
    refine wpAnyH_take (i := 5) (v := ?v5x21) rfl (by kernel_rfl) (by kernel_rfl) (by kernel_rfl) (fun _ _ _ h => h) (Or.inl ⟨by rfl, ?hy5x21⟩) (by assumption) ?rest5x21
    case hy5x21 => (intro w hSw; (try dsimp only at hSw); go_simp; (try with_reducible rfl))
    try simp only [Act.put, List.getElem_toArray, List.getElem_cons_zero, List.getElem_cons_succ, List.setIfInBounds_toArray, List.set_cons_zero, List.set_cons_succ]
    refine wpAnyH_take (i := 6) (v := ?v6x22) rfl (by kernel_rfl) (by kernel_rfl) (by kernel_rfl) (fun _ _ _ h => h) (Or.inl ⟨by rfl, ?hy6x22⟩) (by assumption) ?rest6x22
    case hy6x22 => (intro w hSw; (try dsimp only at hSw); go_simp; (try with_reducible rfl))
    try simp only [Act.put, List.getElem_toArray, List.getElem_cons_zero, List.getElem_cons_succ, List.setIfInBounds_toArray, List.set_cons_zero, List.set_cons_succ]
    refine wpAnyH_ready (rs := [7]) (by kernel_rfl) (by simp) ?_
    refine AllReadyH.cons rfl (fun K hK => ?_) AllReadyH.nil
    go_simp
    refine hK.out _ _ (by go_simp) (fun hHeld7 => ?_)
    clear hK K
    try simp only [Act.put, List.getElem_toArray, List.getElem_cons_zero, List.getElem_cons_succ, List.setIfInBounds_toArray, List.set_cons_zero, List.set_cons_succ]
    refine wpAnyH_take (i := 8) (v := ?v8x23) rfl (by kernel_rfl) (by kernel_rfl) (by kernel_rfl) (fun _ _ _ h => h) (Or.inl ⟨by rfl, ?hy8x23⟩) (by assumption) ?rest8x23
    case hy8x23 => (intro w hSw; (try dsimp only at hSw); go_simp; (try with_reducible rfl))
    try simp only [Act.put, List.getElem_toArray, List.getElem_cons_zero, List.getElem_cons_succ, List.setIfInBounds_toArray, List.set_cons_zero, List.set_cons_succ]
    refine wpAnyH_ready (rs := [9]) (by kernel_rfl) (by simp) ?_
    refine AllReadyH.cons rfl (fun K hK => ?_) AllReadyH.nil
    go_simp
    refine hK.out _ _ (by go_simp) (fun hHeld9 => ?_)
    clear hK K
    try simp only [Act.put, List.getElem_toArray, List.getElem_cons_zero, List.getElem_cons_succ, List.setIfInBounds_toArray, List.set_cons_zero, List.set_cons_succ]
    refine wpAnyH_done (by kernel_rfl) ?_ _
    go_wp2_with fail
    exact fin_ret (by rfl) H2.out (by omega) (by omega) (by omega)
  · go_wp2_with (at_builtin; (refine wpList_append_own_row rfl _ _ 35 rfl w.heap.size 24 i1 (.int .u32 0) 1 4 Try.underlying35 hi1 hz10 hz11 hz12 rfl (by decide) _ _ _ rfl (HI.out.alloc _).blk.a _ w.heap.size 1 _ rfl (lit24 _ HI.out.bel.size (by simp) _) (one24 _) (by unfold maxLen; omega) (by omega) (HI.out.alloc _).bel.size ?_); intro v9 w9 hown9 hg9; have H9 := Lib.hid ((HI.out.alloc _).appA hown9 hg9); obtain ⟨a9', m9, c9', rfl⟩ := own_form hown9; clear hown9 hg9; obtain ⟨cb9, fb9, lt9, cq9⟩ := H9.out.cells; obtain ⟨cr9, fr9, ne19, ne29⟩ := H9.out.rcells; skip)
    exact fin_ret (by rfl) (H9.out.set 0 _) (by simp; omega) (by omega) (by omega)
  · go_wp2_with (at_builtin; (refine wpList_append_own_row rfl _ _ 22 rfl w.heap.size 3 i2 (.int .i64 0) 1 8 Try.underlying22 hi2 hz20 hz21 hz22 rfl (by decide) _ _ _ rfl (HI.out.alloc _).blk.p _ w.heap.size 1 _ rfl (lit3 _ HI.out.bel.size (by simp) _) (one3 _) (by unfold maxLen; omega) (by omega) (HI.out.alloc _).bel.size ?_); intro v9 w9 hown9 hg9; have H9 := Lib.hid ((HI.out.alloc _).appP hown9 hg9); obtain ⟨a9', m9, c9', rfl⟩ := own_form hown9; clear hown9 hg9; obtain ⟨cb9, fb9, lt9, cq9⟩ := H9.out.cells; obtain ⟨cr9, fr9, ne19, ne29⟩ := H9.out.rcells; skip)
    exact fin_ret (by rfl) (H9.out.set 1 _) (by omega) (by simp; omega) (by omega)
  · obtain ⟨k, hk, hkx⟩ := tm N ((at_.length : Int) + 1) (by omega) (by omega)
    have hk : k ≤ at_.length := by omega
    have hkc := own_cap HI.out.blk.a
    have hkc' : k ≤ c1 := by omega
    have hcz : ((at_.length : Int) + 1 == 0) = false := beq_false_of_ne (by omega)
    have hcz2 : ¬ ((at_.length : Int) + 1 = 0) := by omega
    have hwr : IntKind.i64.wrap ((at_.length : Int) + 1) = (at_.length : Int) + 1 := by rw [IntKind.wrap_i64]; omega
    go_wp2_with fail
    refine wp_region_held_drew (S := (fun _ => True)) (by kernel_rfl) trivial (fun hHeld => ?_)
    refine wpAnyH_take (i := 0) (v := ?v0x24) rfl (by kernel_rfl) (by kernel_rfl) (by kernel_rfl) (fun _ _ _ h => h) (Or.inl ⟨by rfl, ?hy0x24⟩) (by assumption) ?rest0x24
    case hy0x24 => (intro w hSw; (try dsimp only at hSw); go_simp; (try with_reducible rfl))
    try simp only [Act.put, List.getElem_toArray, List.getElem_cons_zero, List.getElem_cons_succ, List.setIfInBounds_toArray, List.set_cons_zero, List.set_cons_succ]
    refine wpAnyH_take (i := 2) (v := ?v2x25) rfl (by kernel_rfl) (by kernel_rfl) (by kernel_rfl) (fun _ _ _ h => h) (Or.inl ⟨by rfl, ?hy2x25⟩) (by assumption) ?rest2x25
    case hy2x25 => (intro w hSw; (try dsimp only at hSw); go_simp; (try with_reducible rfl))
    try simp only [Act.put, List.getElem_toArray, List.getElem_cons_zero, List.getElem_cons_succ, List.setIfInBounds_toArray, List.set_cons_zero, List.set_cons_succ]
    refine wpAnyH_take (i := 3) (v := ?v3x26) rfl (by kernel_rfl) (by kernel_rfl) (by kernel_rfl) (fun _ _ _ h => h) (Or.inl ⟨by rfl, ?hy3x26⟩) (by assumption) ?rest3x26
    case hy3x26 => (intro w hSw; (try dsimp only at hSw); go_simp; (try with_reducible rfl))
    try simp only [Act.put, List.getElem_toArray, List.getElem_cons_zero, List.getElem_cons_succ, List.setIfInBounds_toArray, List.set_cons_zero, List.set_cons_succ]
    refine wpAnyH_ready (rs := [1, 4]) (by kernel_rfl) (by simp) ?_
    refine AllReadyH.cons rfl (fun K hK => ?_) (AllReadyH.cons rfl (fun K hK => ?_) AllReadyH.nil)
    · go_simp
      refine hK.out _ _ (trivial) (fun hHeld1 => ?_)
      clear hK K
      try simp only [Act.put, List.getElem_toArray, List.getElem_cons_zero, List.getElem_cons_succ, List.setIfInBounds_toArray, List.set_cons_zero, List.set_cons_succ]
      refine wpAnyH_ready (rs := [4]) (by kernel_rfl) (by simp) ?_
      refine AllReadyH.cons rfl (fun K hK => ?_) AllReadyH.nil
      go_simp
      refine hK.out _ _ (trivial) (fun hHeld4 => ?_)
      clear hK K
      try simp only [Act.put, List.getElem_toArray, List.getElem_cons_zero, List.getElem_cons_succ, List.setIfInBounds_toArray, List.set_cons_zero, List.set_cons_succ]
      refine wpAnyH_take (i := 5) (v := ?v5x27) rfl (by kernel_rfl) (by kernel_rfl) (by kernel_rfl) (fun _ _ _ h => h) (Or.inl ⟨by rfl, ?hy5x27⟩) (by assumption) ?rest5x27
      case hy5x27 => (intro w hSw; (try dsimp only at hSw); go_simp; (try with_reducible rfl))
      try simp only [Act.put, List.getElem_toArray, List.getElem_cons_zero, List.getElem_cons_succ, List.setIfInBounds_toArray, List.set_cons_zero, List.set_cons_succ]
      refine wpAnyH_take (i := 6) (v := ?v6x28) rfl (by kernel_rfl) (by kernel_rfl) (by kernel_rfl) (fun _ _ _ h => h) (Or.inl ⟨by rfl, ?hy6x28⟩) (by assumption) ?rest6x28
      case hy6x28 => (intro w hSw; (try dsimp only at hSw); go_simp; (try with_reducible rfl))
      try simp only [Act.put, List.getElem_toArray, List.getElem_cons_zero, List.getElem_cons_succ, List.setIfInBounds_toArray, List.set_cons_zero, List.set_cons_succ]
      refine wpAnyH_take (i := 7) (v := ?v7x29) rfl (by kernel_rfl) (by kernel_rfl) (by kernel_rfl) (fun _ _ _ h => h) (Or.inl ⟨by rfl, ?hy7x29⟩) (by assumption) ?rest7x29
      case hy7x29 => (intro w hSw; (try dsimp only at hSw); go_simp; (try with_reducible rfl))
      try simp only [Act.put, List.getElem_toArray, List.getElem_cons_zero, List.getElem_cons_succ, List.setIfInBounds_toArray, List.set_cons_zero, List.set_cons_succ]
      refine wpAnyH_take (i := 8) (v := ?v8x30) rfl (by kernel_rfl) (by kernel_rfl) (by kernel_rfl) (fun _ _ _ h => h) (Or.inl ⟨by rfl, ?hy8x30⟩) (by assumption) ?rest8x30
      case hy8x30 => (intro w hSw; (try dsimp only at hSw); go_simp; (try with_reducible rfl))
      try simp only [Act.put, List.getElem_toArray, List.getElem_cons_zero, List.getElem_cons_succ, List.setIfInBounds_toArray, List.set_cons_zero, List.set_cons_succ]
      refine wpAnyH_take (i := 9) (v := ?v9x31) rfl (by kernel_rfl) (by kernel_rfl) (by kernel_rfl) (fun _ _ _ h => h) (Or.inl ⟨by rfl, ?hy9x31⟩) (by assumption) ?rest9x31
      case hy9x31 => (intro w hSw; (try dsimp only at hSw); go_simp; (try with_reducible rfl))
      try simp only [Act.put, List.getElem_toArray, List.getElem_cons_zero, List.getElem_cons_succ, List.setIfInBounds_toArray, List.set_cons_zero, List.set_cons_succ]
      refine wpAnyH_ready (rs := [10]) (by kernel_rfl) (by simp) ?_
      refine AllReadyH.cons rfl (fun K hK => ?_) AllReadyH.nil
      go_simp
      refine hK.out _ _ (trivial) (fun hHeld10 => ?_)
      clear hK K
      try simp only [Act.put, List.getElem_toArray, List.getElem_cons_zero, List.getElem_cons_succ, List.setIfInBounds_toArray, List.set_cons_zero, List.set_cons_succ]
      refine wpAnyH_done (by kernel_rfl) ?_ _
      go_wp2_with fail
      exact fin_ret (by rfl) ((HI.out.drew.cutA rfl hk).set 0 _) (by simp; omega) (by omega) (by omega)
    · go_simp
      refine hK.out _ _ (trivial) (fun hHeld4 => ?_)
      clear hK K
      try simp only [Act.put, List.getElem_toArray, List.getElem_cons_zero, List.getElem_cons_succ, List.setIfInBounds_toArray, List.set_cons_zero, List.set_cons_succ]
      refine wpAnyH_take (i := 5) (v := ?v5x32) rfl (by kernel_rfl) (by kernel_rfl) (by kernel_rfl) (fun _ _ _ h => h) (Or.inl ⟨by rfl, ?hy5x32⟩) (by assumption) ?rest5x32
      case hy5x32 => (intro w hSw; (try dsimp only at hSw); go_simp; (try with_reducible rfl))
      try simp only [Act.put, List.getElem_toArray, List.getElem_cons_zero, List.getElem_cons_succ, List.setIfInBounds_toArray, List.set_cons_zero, List.set_cons_succ]
      refine wpAnyH_take (i := 6) (v := ?v6x33) rfl (by kernel_rfl) (by kernel_rfl) (by kernel_rfl) (fun _ _ _ h => h) (Or.inl ⟨by rfl, ?hy6x33⟩) (by assumption) ?rest6x33
      case hy6x33 => (intro w hSw; (try dsimp only at hSw); go_simp; (try with_reducible rfl))
      try simp only [Act.put, List.getElem_toArray, List.getElem_cons_zero, List.getElem_cons_succ, List.setIfInBounds_toArray, List.set_cons_zero, List.set_cons_succ]
      refine wpAnyH_take (i := 7) (v := ?v7x34) rfl (by kernel_rfl) (by kernel_rfl) (by kernel_rfl) (fun _ _ _ h => h) (Or.inl ⟨by rfl, ?hy7x34⟩) (by assumption) ?rest7x34
      case hy7x34 => (intro w hSw; (try dsimp only at hSw); go_simp; (try with_reducible rfl))
      try simp only [Act.put, List.getElem_toArray, List.getElem_cons_zero, List.getElem_cons_succ, List.setIfInBounds_toArray, List.set_cons_zero, List.set_cons_succ]
      refine wpAnyH_ready (rs := [1]) (by kernel_rfl) (by simp) ?_
      refine AllReadyH.cons rfl (fun K hK => ?_) AllReadyH.nil
      go_simp
      refine hK.out _ _ (trivial) (fun hHeld1 => ?_)
      clear hK K
      try simp only [Act.put, List.getElem_toArray, List.getElem_cons_zero, List.getElem_cons_succ, List.setIfInBounds_toArray, List.set_cons_zero, List.set_cons_succ]
      refine wpAnyH_take (i := 8) (v := ?v8x35) rfl (by kernel_rfl) (by kernel_rfl) (by kernel_rfl) (fun _ _ _ h => h) (Or.inl ⟨by rfl, ?hy8x35⟩) (by assumption) ?rest8x35
      case hy8x35 => (intro w hSw; (try dsimp only at hSw); go_simp; (try with_reducible rfl))
      try simp only [Act.put, List.getElem_toArray, List.getElem_cons_zero, List.getElem_cons_succ, List.setIfInBounds_toArray, List.set_cons_zero, List.set_cons_succ]
      refine wpAnyH_take (i := 9) (v := ?v9x36) rfl (by kernel_rfl) (by kernel_rfl) (by kernel_rfl) (fun _ _ _ h => h) (Or.inl ⟨by rfl, ?hy9x36⟩) (by assumption) ?rest9x36
      case hy9x36 => (intro w hSw; (try dsimp only at hSw); go_simp; (try with_reducible rfl))
      try simp only [Act.put, List.getElem_toArray, List.getElem_cons_zero, List.getElem_cons_succ, List.setIfInBounds_toArray, List.set_cons_zero, List.set_cons_succ]
      refine wpAnyH_ready (rs := [10]) (by kernel_rfl) (by simp) ?_
      refine AllReadyH.cons rfl (fun K hK => ?_) AllReadyH.nil
      go_simp
      refine hK.out _ _ (trivial) (fun hHeld10 => ?_)
      clear hK K
      try simp only [Act.put, List.getElem_toArray, List.getElem_cons_zero, List.getElem_cons_succ, List.setIfInBounds_toArray, List.set_cons_zero, List.set_cons_succ]
      refine wpAnyH_done (by kernel_rfl) ?_ _
      go_wp2_with fail
      exact fin_ret (by rfl) ((HI.out.drew.cutA rfl hk).set 0 _) (by simp; omega) (by omega) (by omega)

end Go.Proofs.Ytehehnhomlcimaa
