/- The law's own function: the walk. -/
import Derived.Test.YtehehnhomlcimaaZ
namespace Go.Proofs.Ytehehnhomlcimaa
open Go.RowKit
attribute [local go_sem ↓ high] loadAt25 storeAt25 ld25 st25 loadAt28 storeAt28 ld28 st28 loadAt31 storeAt31 ld31 st31 loadAt32 storeAt32 ld32 st32 copyB copy35
attribute [local go_sem] allOne_inst World.cs_alloc_at World.cs_alloc_past World.cs_drew World.plainRow_alloc_at World.plainRow_alloc_past World.plainRow_drew World.setRow_alloc_at World.setRow_alloc_past World.setRow_drew spl_all extract_all size_spl World.cs_setCell_same World.cs_setCell_other World.plainRow_setCell World.cs_setRow_same World.cs_setRow_other World.plainRow_setRow World.size_setRow' World.cell_setRow World.frozen_setRow ne_up1 ne_dn1 ne_up2 ne_dn2 ne_up3 ne_dn3 ne_up4 ne_dn4 ne_up5 ne_dn5 ne_up6 ne_dn6 ne_up7 ne_dn7 ne_up8 ne_dn8 ne_up9 ne_dn9 ne_up10 ne_dn10 ne_up11 ne_dn11 ne_up12 ne_dn12 ne_up13 ne_dn13 ne_up14 ne_dn14 ne_up15 ne_dn15 lt_up2 lt_up3 lt_up4 lt_up5 lt_up6 lt_up7 lt_up8 lt_up9 lt_up10 lt_up11 lt_up12 lt_up13 lt_up14 lt_up15

set_option maxRecDepth 100000 in
set_option maxHeartbeats 8000000 in
theorem Law_any (w : World) (sa : Option Addr) (n c : Nat) (hN : NumsAt w sa n) (hnc : n ≤ c) (hc : c ≤ 9223372036854775807) (hsa : (sa = none ∧ n = 0 ∧ c = 0) ∨ ∃ a, sa = some a) (q0 q1 q2 : Int) (X : Array Value) (hX : XOK X) :
    Calls Try.prog 3 #[.slice sa n c, .agg #[.int .i64 q0, .int .i64 q1, .int .i64 q2], .agg X] w fun e w' => e = .returned (.bool true) ∧ Below w.heap.size w w' := by
  have HX := Lib.hid hX
  have HN0 := Lib.hid hN
  have HSA := Lib.hid hsa
  have hXs := hX.size
  haveI := hX.one
  clear hX hN hsa
  go_enter Try.func3, Try.ntmps3
  go_wp2_with fail
  refine (sanity_any _).mono ?_
  rintro e w1 ⟨rfl, hb⟩
  have hL : LB w X w1 := by
    refine LB.below (W := (w.alloc (.cells #[.int .i64 q0, .int .i64 q1, .int .i64 q2] 23)).alloc (.cells X 33)) ⟨?_, ?_, ?_⟩ hb
    · exact World.cs_alloc_at _ _ _ _ (by simp)
    · simp
    · exact ((Below.refl _ _).alloc (Nat.le_refl _) _).alloc (by simp) _
  have hQ : QS w.heap.size q0 q1 q2 w1 := by
    refine QS.below (W := (w.alloc (.cells #[.int .i64 q0, .int .i64 q1, .int .i64 q2] 23)).alloc (.cells X 33)) ⟨?_, ?_⟩ hb
    · rw [World.cs_alloc_past _ _ (by simp)]; exact World.cs_alloc_at _ _ _ _ rfl
    · simp; omega
  have HL := Lib.hid hL
  have HQ := Lib.hid hQ
  have HN1 := Lib.hid (HN0.out.below hL.bel)
  clear hL hQ hb HN0 hXs
  go_upto_region 2 with (fail)
  go_cut [8] (fun s8 wx => LW w X s8 wx)
  case first =>
    rcases HSA.out with ⟨rfl, rfl, rfl⟩ | ⟨a, rfl⟩
    · have HN2 := Lib.hid (HN1.out)
      refine wp_region_held_drew (S := (QS w.heap.size q0 q1 q2)) (by kernel_rfl) HQ.out.drew (fun hHeld => ?_)
      have HLd := Lib.hid HL.out.drew
      have HNd := Lib.hid (show NumsAt w1.drew _ _ from HN2.out)
      generalize w1.drew = wd at HLd HNd hHeld ⊢
      refine wpAnyH_take (i := 0) (v := ?v0x44) rfl (by kernel_rfl) (by kernel_rfl) (by kernel_rfl) (fun _ _ _ h => h) (Or.inl ⟨by rfl, ?hy0x44⟩) (by assumption) ?rest0x44
      case hy0x44 => (intro w hSw; (try dsimp only at hSw); go_simp; (try with_reducible rfl))
      try simp only [Act.put, List.getElem_toArray, List.getElem_cons_zero, List.getElem_cons_succ, List.setIfInBounds_toArray, List.set_cons_zero, List.set_cons_succ]
      refine wpAnyH_take (i := 1) (v := ?v1x45) rfl (by kernel_rfl) (by kernel_rfl) (by kernel_rfl) (fun _ _ _ h => h) (Or.inl ⟨by rfl, ?hy1x45⟩) (by assumption) ?rest1x45
      case hy1x45 => (intro w hSw; (try dsimp only at hSw); go_simp; (try with_reducible rfl))
      try simp only [Act.put, List.getElem_toArray, List.getElem_cons_zero, List.getElem_cons_succ, List.setIfInBounds_toArray, List.set_cons_zero, List.set_cons_succ]
      refine wpAnyH_take (i := 2) (v := ?v2x46) rfl (by kernel_rfl) (by kernel_rfl) (by kernel_rfl) (fun _ _ _ h => h) (Or.inl ⟨by rfl, ?hy2x46⟩) (by assumption) ?rest2x46
      case hy2x46 => (intro w hSw; (try dsimp only at hSw); go_simp; (try with_reducible rfl))
      try simp only [Act.put, List.getElem_toArray, List.getElem_cons_zero, List.getElem_cons_succ, List.setIfInBounds_toArray, List.set_cons_zero, List.set_cons_succ]
      refine wpAnyH_take (i := 3) (v := ?v3x47) rfl (by kernel_rfl) (by kernel_rfl) (by kernel_rfl) (fun _ _ _ h => h) (Or.inl ⟨by rfl, ?hy3x47⟩) (by assumption) ?rest3x47
      case hy3x47 => (intro w hSw; (try dsimp only at hSw); go_simp; (try with_reducible rfl))
      try simp only [Act.put, List.getElem_toArray, List.getElem_cons_zero, List.getElem_cons_succ, List.setIfInBounds_toArray, List.set_cons_zero, List.set_cons_succ]
      refine wpAnyH_take (i := 4) (v := ?v4x48) rfl (by kernel_rfl) (by kernel_rfl) (by kernel_rfl) (fun _ _ _ h => h) (Or.inl ⟨by rfl, ?hy4x48⟩) (by assumption) ?rest4x48
      case hy4x48 => (intro w hSw; (try dsimp only at hSw); go_simp; (try with_reducible rfl))
      try simp only [Act.put, List.getElem_toArray, List.getElem_cons_zero, List.getElem_cons_succ, List.setIfInBounds_toArray, List.set_cons_zero, List.set_cons_succ]
      refine wpAnyH_take (i := 6) (v := ?v6x49) rfl (by kernel_rfl) (by kernel_rfl) (by kernel_rfl) (fun _ _ _ h => h) (Or.inl ⟨by rfl, ?hy6x49⟩) (by assumption) ?rest6x49
      case hy6x49 => (intro w hSw; (try dsimp only at hSw); (have q1 := hSw.cell 0; have q2 := hSw.cell 1; have q3 := hSw.cell 2; go_simp); (try with_reducible rfl))
      try simp only [Act.put, List.getElem_toArray, List.getElem_cons_zero, List.getElem_cons_succ, List.setIfInBounds_toArray, List.set_cons_zero, List.set_cons_succ]
      refine wpAnyH_ready (rs := [5, 8]) (by kernel_rfl) (by simp) ?_
      refine AllReadyH.cons rfl (fun K hK => ?_) (AllReadyH.cons rfl (fun K hK => ?_) AllReadyH.nil)
      · go_simp
        refine (Made_any _ _ _ _ (by exact HNd.out) (by omega)).mono ?_
        rintro e w2 ⟨sv2, pv2, ov2, at2, pg2, ops2, rfl, k2, b2, la2, lp2, lo2⟩
        have K2 := Lib.hid k2
        have HL2 := Lib.hid (LB.below HLd.out b2)
        have hKeep2 := hHeld.below b2
        obtain ⟨a20, n20, c20, rfl⟩ := own_form k2.a
        obtain ⟨a21, n21, c21, rfl⟩ := own_form k2.p
        obtain ⟨a22, n22, c22, rfl⟩ := own_form k2.o
        clear k2
        refine hK.out _ _ (hKeep2) (fun hHeld5 => ?_)
        clear hK K
        try simp only [Act.put, List.getElem_toArray, List.getElem_cons_zero, List.getElem_cons_succ, List.setIfInBounds_toArray, List.set_cons_zero, List.set_cons_succ]
        refine wpAnyH_ready (rs := [7, 8]) (by kernel_rfl) (by simp) ?_
        refine AllReadyH.cons rfl (fun K hK => ?_) (AllReadyH.cons rfl (fun K hK => ?_) AllReadyH.nil)
        · go_simp
          refine (Turned_any _ _ _ _ _ _ _ _ q0 q1 q2 K2.out (by omega) (by omega) (by omega)).mono ?_
          rintro e w5 ⟨sv5, pv5, ov5, at5, pg5, ops5, rfl, k5, b5, la5, lp5, lo5⟩
          have K5 := Lib.hid k5
          have HL5 := Lib.hid (LB.below HL2.out b5)
          have hKeep5 := hHeld5.below b5
          obtain ⟨a50, n50, c50, rfl⟩ := own_form k5.a
          obtain ⟨a51, n51, c51, rfl⟩ := own_form k5.p
          obtain ⟨a52, n52, c52, rfl⟩ := own_form k5.o
          clear k5
          refine hK.out _ _ (hKeep5) (fun hHeld7 => ?_)
          clear hK K
          try simp only [Act.put, List.getElem_toArray, List.getElem_cons_zero, List.getElem_cons_succ, List.setIfInBounds_toArray, List.set_cons_zero, List.set_cons_succ]
          refine wpAnyH_ready (rs := [8]) (by kernel_rfl) (by simp) ?_
          refine AllReadyH.cons rfl (fun K hK => ?_) AllReadyH.nil
          go_simp
          have A8 := alloc_at w5 (.cells #[.slice none 0 0, .slice none 0 0, .slice none 0 0] 38)
          have B8 : Below (w5).heap.size w5 ((w5).alloc (.cells #[.slice none 0 0, .slice none 0 0, .slice none 0 0] 38)) := (Below.refl _ _).alloc (Nat.le_refl _) _
          have HL8 := Lib.hid (LB.below HL5.out B8)
          have hKeep8 := hHeld7.below B8
          have hlt8 := (HL5.out).lX
          have hsz8 : (w5).heap.size < ((w5).alloc (.cells #[.slice none 0 0, .slice none 0 0, .slice none 0 0] 38)).heap.size := by simp
          have K8 := Lib.hid (K5.out.below B8)
          generalize ((w5).alloc (.cells #[.slice none 0 0, .slice none 0 0, .slice none 0 0] 38)) = w8 at A8 B8 HL8 hKeep8 hsz8 K8 ⊢
          generalize hb8 : (w5).heap.size = b8 at A8 hlt8 hsz8 ⊢
          clear hb8
          refine hK.out _ _ (hKeep8) (fun hHeld8 => ?_)
          clear hK K
          try simp only [Act.put, List.getElem_toArray, List.getElem_cons_zero, List.getElem_cons_succ, List.setIfInBounds_toArray, List.set_cons_zero, List.set_cons_succ]
          have hc8 := blk_cell A8
          have hf8 := blk_free A8
          have hne8 : w.heap.size ≠ b8 := by omega
          refine wpAnyH_ready (rs := [9]) (by kernel_rfl) (by simp) ?_
          refine AllReadyH.cons rfl (fun K hK => ?_) AllReadyH.nil
          go_simp
          refine hK.out _ _ ((((hHeld8.set hne8 0 _).set hne8 1 _).set hne8 2 _)) (fun hHeld9 => ?_)
          clear hK K
          try simp only [Act.put, List.getElem_toArray, List.getElem_cons_zero, List.getElem_cons_succ, List.setIfInBounds_toArray, List.set_cons_zero, List.set_cons_succ]
          refine wpAnyH_done (by kernel_rfl) ?_ _
          go_wp2_with fail
          go_meet
          case rel => exact lw_of A8 rfl K8.out (by have := HL2.out.bel.size; have := HL5.out.bel.size; omega) lo5 HL8.out hlt8
        · go_simp
          have A8 := alloc_at w2 (.cells #[.slice none 0 0, .slice none 0 0, .slice none 0 0] 38)
          have B8 : Below (w2).heap.size w2 ((w2).alloc (.cells #[.slice none 0 0, .slice none 0 0, .slice none 0 0] 38)) := (Below.refl _ _).alloc (Nat.le_refl _) _
          have HL8 := Lib.hid (LB.below HL2.out B8)
          have hKeep8 := hHeld5.below B8
          have hlt8 := (HL2.out).lX
          have hsz8 : (w2).heap.size < ((w2).alloc (.cells #[.slice none 0 0, .slice none 0 0, .slice none 0 0] 38)).heap.size := by simp
          have K8 := Lib.hid (K2.out.below B8)
          generalize ((w2).alloc (.cells #[.slice none 0 0, .slice none 0 0, .slice none 0 0] 38)) = w8 at A8 B8 HL8 hKeep8 hsz8 K8 ⊢
          generalize hb8 : (w2).heap.size = b8 at A8 hlt8 hsz8 ⊢
          clear hb8
          refine hK.out _ _ (hKeep8) (fun hHeld8 => ?_)
          clear hK K
          try simp only [Act.put, List.getElem_toArray, List.getElem_cons_zero, List.getElem_cons_succ, List.setIfInBounds_toArray, List.set_cons_zero, List.set_cons_succ]
          refine wpAnyH_ready (rs := [7]) (by kernel_rfl) (by simp) ?_
          refine AllReadyH.cons rfl (fun K hK => ?_) AllReadyH.nil
          go_simp
          refine (Turned_any _ _ _ _ _ _ _ _ q0 q1 q2 K8.out (by omega) (by omega) (by omega)).mono ?_
          rintro e w5 ⟨sv5, pv5, ov5, at5, pg5, ops5, rfl, k5, b5, la5, lp5, lo5⟩
          have K5 := Lib.hid k5
          have HL5 := Lib.hid (LB.below HL8.out b5)
          have hKeep5 := hHeld8.below b5
          have A5 := (b5.block _ hsz8).trans A8
          obtain ⟨a50, n50, c50, rfl⟩ := own_form k5.a
          obtain ⟨a51, n51, c51, rfl⟩ := own_form k5.p
          obtain ⟨a52, n52, c52, rfl⟩ := own_form k5.o
          clear k5
          refine hK.out _ _ (hKeep5) (fun hHeld7 => ?_)
          clear hK K
          try simp only [Act.put, List.getElem_toArray, List.getElem_cons_zero, List.getElem_cons_succ, List.setIfInBounds_toArray, List.set_cons_zero, List.set_cons_succ]
          have hc8 := blk_cell A5
          have hf8 := blk_free A5
          have hne8 : w.heap.size ≠ b8 := by omega
          refine wpAnyH_ready (rs := [9]) (by kernel_rfl) (by simp) ?_
          refine AllReadyH.cons rfl (fun K hK => ?_) AllReadyH.nil
          go_simp
          refine hK.out _ _ ((((hHeld7.set hne8 0 _).set hne8 1 _).set hne8 2 _)) (fun hHeld9 => ?_)
          clear hK K
          try simp only [Act.put, List.getElem_toArray, List.getElem_cons_zero, List.getElem_cons_succ, List.setIfInBounds_toArray, List.set_cons_zero, List.set_cons_succ]
          refine wpAnyH_done (by kernel_rfl) ?_ _
          go_wp2_with fail
          go_meet
          case rel => exact lw_of A5 rfl K5.out (by have := HL2.out.bel.size; have := HL8.out.bel.size; omega) lo5 HL5.out hlt8
      · go_simp
        have A8 := alloc_at wd (.cells #[.slice none 0 0, .slice none 0 0, .slice none 0 0] 38)
        have B8 : Below (wd).heap.size wd ((wd).alloc (.cells #[.slice none 0 0, .slice none 0 0, .slice none 0 0] 38)) := (Below.refl _ _).alloc (Nat.le_refl _) _
        have HL8 := Lib.hid (LB.below HLd.out B8)
        have hKeep8 := hHeld.below B8
        have hlt8 := (HLd.out).lX
        have hsz8 : (wd).heap.size < ((wd).alloc (.cells #[.slice none 0 0, .slice none 0 0, .slice none 0 0] 38)).heap.size := by simp
        have HN8 := Lib.hid (NumsAt.below HNd.out B8)
        generalize ((wd).alloc (.cells #[.slice none 0 0, .slice none 0 0, .slice none 0 0] 38)) = w8 at A8 B8 HL8 hKeep8 hsz8 HN8 ⊢
        generalize hb8 : (wd).heap.size = b8 at A8 hlt8 hsz8 ⊢
        clear hb8
        refine hK.out _ _ (hKeep8) (fun hHeld8 => ?_)
        clear hK K
        try simp only [Act.put, List.getElem_toArray, List.getElem_cons_zero, List.getElem_cons_succ, List.setIfInBounds_toArray, List.set_cons_zero, List.set_cons_succ]
        refine wpAnyH_ready (rs := [5]) (by kernel_rfl) (by simp) ?_
        refine AllReadyH.cons rfl (fun K hK => ?_) AllReadyH.nil
        go_simp
        refine (Made_any _ _ _ _ (by exact HN8.out) (by omega)).mono ?_
        rintro e w2 ⟨sv2, pv2, ov2, at2, pg2, ops2, rfl, k2, b2, la2, lp2, lo2⟩
        have K2 := Lib.hid k2
        have HL2 := Lib.hid (LB.below HL8.out b2)
        have hKeep2 := hHeld8.below b2
        obtain ⟨a20, n20, c20, rfl⟩ := own_form k2.a
        obtain ⟨a21, n21, c21, rfl⟩ := own_form k2.p
        obtain ⟨a22, n22, c22, rfl⟩ := own_form k2.o
        clear k2
        have A2 := (b2.block _ hsz8).trans A8
        have hsz2 := Nat.lt_of_lt_of_le hsz8 b2.size
        refine hK.out _ _ (hKeep2) (fun hHeld5 => ?_)
        clear hK K
        try simp only [Act.put, List.getElem_toArray, List.getElem_cons_zero, List.getElem_cons_succ, List.setIfInBounds_toArray, List.set_cons_zero, List.set_cons_succ]
        refine wpAnyH_ready (rs := [7]) (by kernel_rfl) (by simp) ?_
        refine AllReadyH.cons rfl (fun K hK => ?_) AllReadyH.nil
        go_simp
        refine (Turned_any _ _ _ _ _ _ _ _ q0 q1 q2 K2.out (by omega) (by omega) (by omega)).mono ?_
        rintro e w5 ⟨sv5, pv5, ov5, at5, pg5, ops5, rfl, k5, b5, la5, lp5, lo5⟩
        have K5 := Lib.hid k5
        have HL5 := Lib.hid (LB.below HL2.out b5)
        have hKeep5 := hHeld5.below b5
        have A5 := (b5.block _ hsz2).trans A2
        obtain ⟨a50, n50, c50, rfl⟩ := own_form k5.a
        obtain ⟨a51, n51, c51, rfl⟩ := own_form k5.p
        obtain ⟨a52, n52, c52, rfl⟩ := own_form k5.o
        clear k5
        refine hK.out _ _ (hKeep5) (fun hHeld7 => ?_)
        clear hK K
        try simp only [Act.put, List.getElem_toArray, List.getElem_cons_zero, List.getElem_cons_succ, List.setIfInBounds_toArray, List.set_cons_zero, List.set_cons_succ]
        have hc8 := blk_cell A5
        have hf8 := blk_free A5
        have hne8 : w.heap.size ≠ b8 := by omega
        refine wpAnyH_ready (rs := [9]) (by kernel_rfl) (by simp) ?_
        refine AllReadyH.cons rfl (fun K hK => ?_) AllReadyH.nil
        go_simp
        refine hK.out _ _ ((((hHeld7.set hne8 0 _).set hne8 1 _).set hne8 2 _)) (fun hHeld9 => ?_)
        clear hK K
        try simp only [Act.put, List.getElem_toArray, List.getElem_cons_zero, List.getElem_cons_succ, List.setIfInBounds_toArray, List.set_cons_zero, List.set_cons_succ]
        refine wpAnyH_done (by kernel_rfl) ?_ _
        go_wp2_with fail
        go_meet
        case rel => exact lw_of A5 rfl K5.out (by have := HL2.out.bel.size; have := HL8.out.bel.size; omega) lo5 HL5.out hlt8
    · by_cases hlt : (150 : Int) < n
      · have h1 : 150 ≤ c := by omega
        have h2 : (150 : Int) ≤ c := by omega
        have HN2 := Lib.hid (HN1.out.cut (m := 150) (by omega))
        refine wp_region_held_drew (S := (QS w.heap.size q0 q1 q2)) (by kernel_rfl) HQ.out.drew (fun hHeld => ?_)
        have HLd := Lib.hid HL.out.drew
        have HNd := Lib.hid (show NumsAt w1.drew _ _ from HN2.out)
        generalize w1.drew = wd at HLd HNd hHeld ⊢
        refine wpAnyH_take (i := 0) (v := ?v0x50) rfl (by kernel_rfl) (by kernel_rfl) (by kernel_rfl) (fun _ _ _ h => h) (Or.inl ⟨by rfl, ?hy0x50⟩) (by assumption) ?rest0x50
        case hy0x50 => (intro w hSw; (try dsimp only at hSw); go_simp; (try with_reducible rfl))
        try simp only [Act.put, List.getElem_toArray, List.getElem_cons_zero, List.getElem_cons_succ, List.setIfInBounds_toArray, List.set_cons_zero, List.set_cons_succ]
        refine wpAnyH_take (i := 1) (v := ?v1x51) rfl (by kernel_rfl) (by kernel_rfl) (by kernel_rfl) (fun _ _ _ h => h) (Or.inl ⟨by rfl, ?hy1x51⟩) (by assumption) ?rest1x51
        case hy1x51 => (intro w hSw; (try dsimp only at hSw); go_simp; (try with_reducible rfl))
        try simp only [Act.put, List.getElem_toArray, List.getElem_cons_zero, List.getElem_cons_succ, List.setIfInBounds_toArray, List.set_cons_zero, List.set_cons_succ]
        refine wpAnyH_take (i := 2) (v := ?v2x52) rfl (by kernel_rfl) (by kernel_rfl) (by kernel_rfl) (fun _ _ _ h => h) (Or.inl ⟨by rfl, ?hy2x52⟩) (by assumption) ?rest2x52
        case hy2x52 => (intro w hSw; (try dsimp only at hSw); go_simp; (try with_reducible rfl))
        try simp only [Act.put, List.getElem_toArray, List.getElem_cons_zero, List.getElem_cons_succ, List.setIfInBounds_toArray, List.set_cons_zero, List.set_cons_succ]
        refine wpAnyH_take (i := 3) (v := ?v3x53) rfl (by kernel_rfl) (by kernel_rfl) (by kernel_rfl) (fun _ _ _ h => h) (Or.inl ⟨by rfl, ?hy3x53⟩) (by assumption) ?rest3x53
        case hy3x53 => (intro w hSw; (try dsimp only at hSw); go_simp; (try with_reducible rfl))
        try simp only [Act.put, List.getElem_toArray, List.getElem_cons_zero, List.getElem_cons_succ, List.setIfInBounds_toArray, List.set_cons_zero, List.set_cons_succ]
        refine wpAnyH_take (i := 4) (v := ?v4x54) rfl (by kernel_rfl) (by kernel_rfl) (by kernel_rfl) (fun _ _ _ h => h) (Or.inl ⟨by rfl, ?hy4x54⟩) (by assumption) ?rest4x54
        case hy4x54 => (intro w hSw; (try dsimp only at hSw); go_simp; (try with_reducible rfl))
        try simp only [Act.put, List.getElem_toArray, List.getElem_cons_zero, List.getElem_cons_succ, List.setIfInBounds_toArray, List.set_cons_zero, List.set_cons_succ]
        refine wpAnyH_take (i := 6) (v := ?v6x55) rfl (by kernel_rfl) (by kernel_rfl) (by kernel_rfl) (fun _ _ _ h => h) (Or.inl ⟨by rfl, ?hy6x55⟩) (by assumption) ?rest6x55
        case hy6x55 => (intro w hSw; (try dsimp only at hSw); (have q1 := hSw.cell 0; have q2 := hSw.cell 1; have q3 := hSw.cell 2; go_simp); (try with_reducible rfl))
        try simp only [Act.put, List.getElem_toArray, List.getElem_cons_zero, List.getElem_cons_succ, List.setIfInBounds_toArray, List.set_cons_zero, List.set_cons_succ]
        refine wpAnyH_ready (rs := [5, 8]) (by kernel_rfl) (by simp) ?_
        refine AllReadyH.cons rfl (fun K hK => ?_) (AllReadyH.cons rfl (fun K hK => ?_) AllReadyH.nil)
        · go_simp
          refine (Made_any _ _ _ _ (by exact HNd.out) (by omega)).mono ?_
          rintro e w2 ⟨sv2, pv2, ov2, at2, pg2, ops2, rfl, k2, b2, la2, lp2, lo2⟩
          have K2 := Lib.hid k2
          have HL2 := Lib.hid (LB.below HLd.out b2)
          have hKeep2 := hHeld.below b2
          obtain ⟨a20, n20, c20, rfl⟩ := own_form k2.a
          obtain ⟨a21, n21, c21, rfl⟩ := own_form k2.p
          obtain ⟨a22, n22, c22, rfl⟩ := own_form k2.o
          clear k2
          refine hK.out _ _ (hKeep2) (fun hHeld5 => ?_)
          clear hK K
          try simp only [Act.put, List.getElem_toArray, List.getElem_cons_zero, List.getElem_cons_succ, List.setIfInBounds_toArray, List.set_cons_zero, List.set_cons_succ]
          refine wpAnyH_ready (rs := [7, 8]) (by kernel_rfl) (by simp) ?_
          refine AllReadyH.cons rfl (fun K hK => ?_) (AllReadyH.cons rfl (fun K hK => ?_) AllReadyH.nil)
          · go_simp
            refine (Turned_any _ _ _ _ _ _ _ _ q0 q1 q2 K2.out (by omega) (by omega) (by omega)).mono ?_
            rintro e w5 ⟨sv5, pv5, ov5, at5, pg5, ops5, rfl, k5, b5, la5, lp5, lo5⟩
            have K5 := Lib.hid k5
            have HL5 := Lib.hid (LB.below HL2.out b5)
            have hKeep5 := hHeld5.below b5
            obtain ⟨a50, n50, c50, rfl⟩ := own_form k5.a
            obtain ⟨a51, n51, c51, rfl⟩ := own_form k5.p
            obtain ⟨a52, n52, c52, rfl⟩ := own_form k5.o
            clear k5
            refine hK.out _ _ (hKeep5) (fun hHeld7 => ?_)
            clear hK K
            try simp only [Act.put, List.getElem_toArray, List.getElem_cons_zero, List.getElem_cons_succ, List.setIfInBounds_toArray, List.set_cons_zero, List.set_cons_succ]
            refine wpAnyH_ready (rs := [8]) (by kernel_rfl) (by simp) ?_
            refine AllReadyH.cons rfl (fun K hK => ?_) AllReadyH.nil
            go_simp
            have A8 := alloc_at w5 (.cells #[.slice none 0 0, .slice none 0 0, .slice none 0 0] 38)
            have B8 : Below (w5).heap.size w5 ((w5).alloc (.cells #[.slice none 0 0, .slice none 0 0, .slice none 0 0] 38)) := (Below.refl _ _).alloc (Nat.le_refl _) _
            have HL8 := Lib.hid (LB.below HL5.out B8)
            have hKeep8 := hHeld7.below B8
            have hlt8 := (HL5.out).lX
            have hsz8 : (w5).heap.size < ((w5).alloc (.cells #[.slice none 0 0, .slice none 0 0, .slice none 0 0] 38)).heap.size := by simp
            have K8 := Lib.hid (K5.out.below B8)
            generalize ((w5).alloc (.cells #[.slice none 0 0, .slice none 0 0, .slice none 0 0] 38)) = w8 at A8 B8 HL8 hKeep8 hsz8 K8 ⊢
            generalize hb8 : (w5).heap.size = b8 at A8 hlt8 hsz8 ⊢
            clear hb8
            refine hK.out _ _ (hKeep8) (fun hHeld8 => ?_)
            clear hK K
            try simp only [Act.put, List.getElem_toArray, List.getElem_cons_zero, List.getElem_cons_succ, List.setIfInBounds_toArray, List.set_cons_zero, List.set_cons_succ]
            have hc8 := blk_cell A8
            have hf8 := blk_free A8
            have hne8 : w.heap.size ≠ b8 := by omega
            refine wpAnyH_ready (rs := [9]) (by kernel_rfl) (by simp) ?_
            refine AllReadyH.cons rfl (fun K hK => ?_) AllReadyH.nil
            go_simp
            refine hK.out _ _ ((((hHeld8.set hne8 0 _).set hne8 1 _).set hne8 2 _)) (fun hHeld9 => ?_)
            clear hK K
            try simp only [Act.put, List.getElem_toArray, List.getElem_cons_zero, List.getElem_cons_succ, List.setIfInBounds_toArray, List.set_cons_zero, List.set_cons_succ]
            refine wpAnyH_done (by kernel_rfl) ?_ _
            go_wp2_with fail
            go_meet
            case rel => exact lw_of A8 rfl K8.out (by have := HL2.out.bel.size; have := HL5.out.bel.size; omega) lo5 HL8.out hlt8
          · go_simp
            have A8 := alloc_at w2 (.cells #[.slice none 0 0, .slice none 0 0, .slice none 0 0] 38)
            have B8 : Below (w2).heap.size w2 ((w2).alloc (.cells #[.slice none 0 0, .slice none 0 0, .slice none 0 0] 38)) := (Below.refl _ _).alloc (Nat.le_refl _) _
            have HL8 := Lib.hid (LB.below HL2.out B8)
            have hKeep8 := hHeld5.below B8
            have hlt8 := (HL2.out).lX
            have hsz8 : (w2).heap.size < ((w2).alloc (.cells #[.slice none 0 0, .slice none 0 0, .slice none 0 0] 38)).heap.size := by simp
            have K8 := Lib.hid (K2.out.below B8)
            generalize ((w2).alloc (.cells #[.slice none 0 0, .slice none 0 0, .slice none 0 0] 38)) = w8 at A8 B8 HL8 hKeep8 hsz8 K8 ⊢
            generalize hb8 : (w2).heap.size = b8 at A8 hlt8 hsz8 ⊢
            clear hb8
            refine hK.out _ _ (hKeep8) (fun hHeld8 => ?_)
            clear hK K
            try simp only [Act.put, List.getElem_toArray, List.getElem_cons_zero, List.getElem_cons_succ, List.setIfInBounds_toArray, List.set_cons_zero, List.set_cons_succ]
            refine wpAnyH_ready (rs := [7]) (by kernel_rfl) (by simp) ?_
            refine AllReadyH.cons rfl (fun K hK => ?_) AllReadyH.nil
            go_simp
            refine (Turned_any _ _ _ _ _ _ _ _ q0 q1 q2 K8.out (by omega) (by omega) (by omega)).mono ?_
            rintro e w5 ⟨sv5, pv5, ov5, at5, pg5, ops5, rfl, k5, b5, la5, lp5, lo5⟩
            have K5 := Lib.hid k5
            have HL5 := Lib.hid (LB.below HL8.out b5)
            have hKeep5 := hHeld8.below b5
            have A5 := (b5.block _ hsz8).trans A8
            obtain ⟨a50, n50, c50, rfl⟩ := own_form k5.a
            obtain ⟨a51, n51, c51, rfl⟩ := own_form k5.p
            obtain ⟨a52, n52, c52, rfl⟩ := own_form k5.o
            clear k5
            refine hK.out _ _ (hKeep5) (fun hHeld7 => ?_)
            clear hK K
            try simp only [Act.put, List.getElem_toArray, List.getElem_cons_zero, List.getElem_cons_succ, List.setIfInBounds_toArray, List.set_cons_zero, List.set_cons_succ]
            have hc8 := blk_cell A5
            have hf8 := blk_free A5
            have hne8 : w.heap.size ≠ b8 := by omega
            refine wpAnyH_ready (rs := [9]) (by kernel_rfl) (by simp) ?_
            refine AllReadyH.cons rfl (fun K hK => ?_) AllReadyH.nil
            go_simp
            refine hK.out _ _ ((((hHeld7.set hne8 0 _).set hne8 1 _).set hne8 2 _)) (fun hHeld9 => ?_)
            clear hK K
            try simp only [Act.put, List.getElem_toArray, List.getElem_cons_zero, List.getElem_cons_succ, List.setIfInBounds_toArray, List.set_cons_zero, List.set_cons_succ]
            refine wpAnyH_done (by kernel_rfl) ?_ _
            go_wp2_with fail
            go_meet
            case rel => exact lw_of A5 rfl K5.out (by have := HL2.out.bel.size; have := HL8.out.bel.size; omega) lo5 HL5.out hlt8
        · go_simp
          have A8 := alloc_at wd (.cells #[.slice none 0 0, .slice none 0 0, .slice none 0 0] 38)
          have B8 : Below (wd).heap.size wd ((wd).alloc (.cells #[.slice none 0 0, .slice none 0 0, .slice none 0 0] 38)) := (Below.refl _ _).alloc (Nat.le_refl _) _
          have HL8 := Lib.hid (LB.below HLd.out B8)
          have hKeep8 := hHeld.below B8
          have hlt8 := (HLd.out).lX
          have hsz8 : (wd).heap.size < ((wd).alloc (.cells #[.slice none 0 0, .slice none 0 0, .slice none 0 0] 38)).heap.size := by simp
          have HN8 := Lib.hid (NumsAt.below HNd.out B8)
          generalize ((wd).alloc (.cells #[.slice none 0 0, .slice none 0 0, .slice none 0 0] 38)) = w8 at A8 B8 HL8 hKeep8 hsz8 HN8 ⊢
          generalize hb8 : (wd).heap.size = b8 at A8 hlt8 hsz8 ⊢
          clear hb8
          refine hK.out _ _ (hKeep8) (fun hHeld8 => ?_)
          clear hK K
          try simp only [Act.put, List.getElem_toArray, List.getElem_cons_zero, List.getElem_cons_succ, List.setIfInBounds_toArray, List.set_cons_zero, List.set_cons_succ]
          refine wpAnyH_ready (rs := [5]) (by kernel_rfl) (by simp) ?_
          refine AllReadyH.cons rfl (fun K hK => ?_) AllReadyH.nil
          go_simp
          refine (Made_any _ _ _ _ (by exact HN8.out) (by omega)).mono ?_
          rintro e w2 ⟨sv2, pv2, ov2, at2, pg2, ops2, rfl, k2, b2, la2, lp2, lo2⟩
          have K2 := Lib.hid k2
          have HL2 := Lib.hid (LB.below HL8.out b2)
          have hKeep2 := hHeld8.below b2
          obtain ⟨a20, n20, c20, rfl⟩ := own_form k2.a
          obtain ⟨a21, n21, c21, rfl⟩ := own_form k2.p
          obtain ⟨a22, n22, c22, rfl⟩ := own_form k2.o
          clear k2
          have A2 := (b2.block _ hsz8).trans A8
          have hsz2 := Nat.lt_of_lt_of_le hsz8 b2.size
          refine hK.out _ _ (hKeep2) (fun hHeld5 => ?_)
          clear hK K
          try simp only [Act.put, List.getElem_toArray, List.getElem_cons_zero, List.getElem_cons_succ, List.setIfInBounds_toArray, List.set_cons_zero, List.set_cons_succ]
          refine wpAnyH_ready (rs := [7]) (by kernel_rfl) (by simp) ?_
          refine AllReadyH.cons rfl (fun K hK => ?_) AllReadyH.nil
          go_simp
          refine (Turned_any _ _ _ _ _ _ _ _ q0 q1 q2 K2.out (by omega) (by omega) (by omega)).mono ?_
          rintro e w5 ⟨sv5, pv5, ov5, at5, pg5, ops5, rfl, k5, b5, la5, lp5, lo5⟩
          have K5 := Lib.hid k5
          have HL5 := Lib.hid (LB.below HL2.out b5)
          have hKeep5 := hHeld5.below b5
          have A5 := (b5.block _ hsz2).trans A2
          obtain ⟨a50, n50, c50, rfl⟩ := own_form k5.a
          obtain ⟨a51, n51, c51, rfl⟩ := own_form k5.p
          obtain ⟨a52, n52, c52, rfl⟩ := own_form k5.o
          clear k5
          refine hK.out _ _ (hKeep5) (fun hHeld7 => ?_)
          clear hK K
          try simp only [Act.put, List.getElem_toArray, List.getElem_cons_zero, List.getElem_cons_succ, List.setIfInBounds_toArray, List.set_cons_zero, List.set_cons_succ]
          have hc8 := blk_cell A5
          have hf8 := blk_free A5
          have hne8 : w.heap.size ≠ b8 := by omega
          refine wpAnyH_ready (rs := [9]) (by kernel_rfl) (by simp) ?_
          refine AllReadyH.cons rfl (fun K hK => ?_) AllReadyH.nil
          go_simp
          refine hK.out _ _ ((((hHeld7.set hne8 0 _).set hne8 1 _).set hne8 2 _)) (fun hHeld9 => ?_)
          clear hK K
          try simp only [Act.put, List.getElem_toArray, List.getElem_cons_zero, List.getElem_cons_succ, List.setIfInBounds_toArray, List.set_cons_zero, List.set_cons_succ]
          refine wpAnyH_done (by kernel_rfl) ?_ _
          go_wp2_with fail
          go_meet
          case rel => exact lw_of A5 rfl K5.out (by have := HL2.out.bel.size; have := HL8.out.bel.size; omega) lo5 HL5.out hlt8
      · have h2 : (n : Int) ≤ c := by omega
        have HN2 := Lib.hid HN1.out
        refine wp_region_held_drew (S := (QS w.heap.size q0 q1 q2)) (by kernel_rfl) HQ.out.drew (fun hHeld => ?_)
        have HLd := Lib.hid HL.out.drew
        have HNd := Lib.hid (show NumsAt w1.drew _ _ from HN2.out)
        generalize w1.drew = wd at HLd HNd hHeld ⊢
        refine wpAnyH_take (i := 0) (v := ?v0x56) rfl (by kernel_rfl) (by kernel_rfl) (by kernel_rfl) (fun _ _ _ h => h) (Or.inl ⟨by rfl, ?hy0x56⟩) (by assumption) ?rest0x56
        case hy0x56 => (intro w hSw; (try dsimp only at hSw); go_simp; (try with_reducible rfl))
        try simp only [Act.put, List.getElem_toArray, List.getElem_cons_zero, List.getElem_cons_succ, List.setIfInBounds_toArray, List.set_cons_zero, List.set_cons_succ]
        refine wpAnyH_take (i := 1) (v := ?v1x57) rfl (by kernel_rfl) (by kernel_rfl) (by kernel_rfl) (fun _ _ _ h => h) (Or.inl ⟨by rfl, ?hy1x57⟩) (by assumption) ?rest1x57
        case hy1x57 => (intro w hSw; (try dsimp only at hSw); go_simp; (try with_reducible rfl))
        try simp only [Act.put, List.getElem_toArray, List.getElem_cons_zero, List.getElem_cons_succ, List.setIfInBounds_toArray, List.set_cons_zero, List.set_cons_succ]
        refine wpAnyH_take (i := 2) (v := ?v2x58) rfl (by kernel_rfl) (by kernel_rfl) (by kernel_rfl) (fun _ _ _ h => h) (Or.inl ⟨by rfl, ?hy2x58⟩) (by assumption) ?rest2x58
        case hy2x58 => (intro w hSw; (try dsimp only at hSw); go_simp; (try with_reducible rfl))
        try simp only [Act.put, List.getElem_toArray, List.getElem_cons_zero, List.getElem_cons_succ, List.setIfInBounds_toArray, List.set_cons_zero, List.set_cons_succ]
        refine wpAnyH_take (i := 3) (v := ?v3x59) rfl (by kernel_rfl) (by kernel_rfl) (by kernel_rfl) (fun _ _ _ h => h) (Or.inl ⟨by rfl, ?hy3x59⟩) (by assumption) ?rest3x59
        case hy3x59 => (intro w hSw; (try dsimp only at hSw); go_simp; (try with_reducible rfl))
        try simp only [Act.put, List.getElem_toArray, List.getElem_cons_zero, List.getElem_cons_succ, List.setIfInBounds_toArray, List.set_cons_zero, List.set_cons_succ]
        refine wpAnyH_take (i := 4) (v := ?v4x60) rfl (by kernel_rfl) (by kernel_rfl) (by kernel_rfl) (fun _ _ _ h => h) (Or.inl ⟨by rfl, ?hy4x60⟩) (by assumption) ?rest4x60
        case hy4x60 => (intro w hSw; (try dsimp only at hSw); go_simp; (try with_reducible rfl))
        try simp only [Act.put, List.getElem_toArray, List.getElem_cons_zero, List.getElem_cons_succ, List.setIfInBounds_toArray, List.set_cons_zero, List.set_cons_succ]
        refine wpAnyH_take (i := 6) (v := ?v6x61) rfl (by kernel_rfl) (by kernel_rfl) (by kernel_rfl) (fun _ _ _ h => h) (Or.inl ⟨by rfl, ?hy6x61⟩) (by assumption) ?rest6x61
        case hy6x61 => (intro w hSw; (try dsimp only at hSw); (have q1 := hSw.cell 0; have q2 := hSw.cell 1; have q3 := hSw.cell 2; go_simp); (try with_reducible rfl))
        try simp only [Act.put, List.getElem_toArray, List.getElem_cons_zero, List.getElem_cons_succ, List.setIfInBounds_toArray, List.set_cons_zero, List.set_cons_succ]
        refine wpAnyH_ready (rs := [5, 8]) (by kernel_rfl) (by simp) ?_
        refine AllReadyH.cons rfl (fun K hK => ?_) (AllReadyH.cons rfl (fun K hK => ?_) AllReadyH.nil)
        · go_simp
          refine (Made_any _ _ _ _ (by exact HNd.out) (by omega)).mono ?_
          rintro e w2 ⟨sv2, pv2, ov2, at2, pg2, ops2, rfl, k2, b2, la2, lp2, lo2⟩
          have K2 := Lib.hid k2
          have HL2 := Lib.hid (LB.below HLd.out b2)
          have hKeep2 := hHeld.below b2
          obtain ⟨a20, n20, c20, rfl⟩ := own_form k2.a
          obtain ⟨a21, n21, c21, rfl⟩ := own_form k2.p
          obtain ⟨a22, n22, c22, rfl⟩ := own_form k2.o
          clear k2
          refine hK.out _ _ (hKeep2) (fun hHeld5 => ?_)
          clear hK K
          try simp only [Act.put, List.getElem_toArray, List.getElem_cons_zero, List.getElem_cons_succ, List.setIfInBounds_toArray, List.set_cons_zero, List.set_cons_succ]
          refine wpAnyH_ready (rs := [7, 8]) (by kernel_rfl) (by simp) ?_
          refine AllReadyH.cons rfl (fun K hK => ?_) (AllReadyH.cons rfl (fun K hK => ?_) AllReadyH.nil)
          · go_simp
            refine (Turned_any _ _ _ _ _ _ _ _ q0 q1 q2 K2.out (by omega) (by omega) (by omega)).mono ?_
            rintro e w5 ⟨sv5, pv5, ov5, at5, pg5, ops5, rfl, k5, b5, la5, lp5, lo5⟩
            have K5 := Lib.hid k5
            have HL5 := Lib.hid (LB.below HL2.out b5)
            have hKeep5 := hHeld5.below b5
            obtain ⟨a50, n50, c50, rfl⟩ := own_form k5.a
            obtain ⟨a51, n51, c51, rfl⟩ := own_form k5.p
            obtain ⟨a52, n52, c52, rfl⟩ := own_form k5.o
            clear k5
            refine hK.out _ _ (hKeep5) (fun hHeld7 => ?_)
            clear hK K
            try simp only [Act.put, List.getElem_toArray, List.getElem_cons_zero, List.getElem_cons_succ, List.setIfInBounds_toArray, List.set_cons_zero, List.set_cons_succ]
            refine wpAnyH_ready (rs := [8]) (by kernel_rfl) (by simp) ?_
            refine AllReadyH.cons rfl (fun K hK => ?_) AllReadyH.nil
            go_simp
            have A8 := alloc_at w5 (.cells #[.slice none 0 0, .slice none 0 0, .slice none 0 0] 38)
            have B8 : Below (w5).heap.size w5 ((w5).alloc (.cells #[.slice none 0 0, .slice none 0 0, .slice none 0 0] 38)) := (Below.refl _ _).alloc (Nat.le_refl _) _
            have HL8 := Lib.hid (LB.below HL5.out B8)
            have hKeep8 := hHeld7.below B8
            have hlt8 := (HL5.out).lX
            have hsz8 : (w5).heap.size < ((w5).alloc (.cells #[.slice none 0 0, .slice none 0 0, .slice none 0 0] 38)).heap.size := by simp
            have K8 := Lib.hid (K5.out.below B8)
            generalize ((w5).alloc (.cells #[.slice none 0 0, .slice none 0 0, .slice none 0 0] 38)) = w8 at A8 B8 HL8 hKeep8 hsz8 K8 ⊢
            generalize hb8 : (w5).heap.size = b8 at A8 hlt8 hsz8 ⊢
            clear hb8
            refine hK.out _ _ (hKeep8) (fun hHeld8 => ?_)
            clear hK K
            try simp only [Act.put, List.getElem_toArray, List.getElem_cons_zero, List.getElem_cons_succ, List.setIfInBounds_toArray, List.set_cons_zero, List.set_cons_succ]
            have hc8 := blk_cell A8
            have hf8 := blk_free A8
            have hne8 : w.heap.size ≠ b8 := by omega
            refine wpAnyH_ready (rs := [9]) (by kernel_rfl) (by simp) ?_
            refine AllReadyH.cons rfl (fun K hK => ?_) AllReadyH.nil
            go_simp
            refine hK.out _ _ ((((hHeld8.set hne8 0 _).set hne8 1 _).set hne8 2 _)) (fun hHeld9 => ?_)
            clear hK K
            try simp only [Act.put, List.getElem_toArray, List.getElem_cons_zero, List.getElem_cons_succ, List.setIfInBounds_toArray, List.set_cons_zero, List.set_cons_succ]
            refine wpAnyH_done (by kernel_rfl) ?_ _
            go_wp2_with fail
            go_meet
            case rel => exact lw_of A8 rfl K8.out (by have := HL2.out.bel.size; have := HL5.out.bel.size; omega) lo5 HL8.out hlt8
          · go_simp
            have A8 := alloc_at w2 (.cells #[.slice none 0 0, .slice none 0 0, .slice none 0 0] 38)
            have B8 : Below (w2).heap.size w2 ((w2).alloc (.cells #[.slice none 0 0, .slice none 0 0, .slice none 0 0] 38)) := (Below.refl _ _).alloc (Nat.le_refl _) _
            have HL8 := Lib.hid (LB.below HL2.out B8)
            have hKeep8 := hHeld5.below B8
            have hlt8 := (HL2.out).lX
            have hsz8 : (w2).heap.size < ((w2).alloc (.cells #[.slice none 0 0, .slice none 0 0, .slice none 0 0] 38)).heap.size := by simp
            have K8 := Lib.hid (K2.out.below B8)
            generalize ((w2).alloc (.cells #[.slice none 0 0, .slice none 0 0, .slice none 0 0] 38)) = w8 at A8 B8 HL8 hKeep8 hsz8 K8 ⊢
            generalize hb8 : (w2).heap.size = b8 at A8 hlt8 hsz8 ⊢
            clear hb8
            refine hK.out _ _ (hKeep8) (fun hHeld8 => ?_)
            clear hK K
            try simp only [Act.put, List.getElem_toArray, List.getElem_cons_zero, List.getElem_cons_succ, List.setIfInBounds_toArray, List.set_cons_zero, List.set_cons_succ]
            refine wpAnyH_ready (rs := [7]) (by kernel_rfl) (by simp) ?_
            refine AllReadyH.cons rfl (fun K hK => ?_) AllReadyH.nil
            go_simp
            refine (Turned_any _ _ _ _ _ _ _ _ q0 q1 q2 K8.out (by omega) (by omega) (by omega)).mono ?_
            rintro e w5 ⟨sv5, pv5, ov5, at5, pg5, ops5, rfl, k5, b5, la5, lp5, lo5⟩
            have K5 := Lib.hid k5
            have HL5 := Lib.hid (LB.below HL8.out b5)
            have hKeep5 := hHeld8.below b5
            have A5 := (b5.block _ hsz8).trans A8
            obtain ⟨a50, n50, c50, rfl⟩ := own_form k5.a
            obtain ⟨a51, n51, c51, rfl⟩ := own_form k5.p
            obtain ⟨a52, n52, c52, rfl⟩ := own_form k5.o
            clear k5
            refine hK.out _ _ (hKeep5) (fun hHeld7 => ?_)
            clear hK K
            try simp only [Act.put, List.getElem_toArray, List.getElem_cons_zero, List.getElem_cons_succ, List.setIfInBounds_toArray, List.set_cons_zero, List.set_cons_succ]
            have hc8 := blk_cell A5
            have hf8 := blk_free A5
            have hne8 : w.heap.size ≠ b8 := by omega
            refine wpAnyH_ready (rs := [9]) (by kernel_rfl) (by simp) ?_
            refine AllReadyH.cons rfl (fun K hK => ?_) AllReadyH.nil
            go_simp
            refine hK.out _ _ ((((hHeld7.set hne8 0 _).set hne8 1 _).set hne8 2 _)) (fun hHeld9 => ?_)
            clear hK K
            try simp only [Act.put, List.getElem_toArray, List.getElem_cons_zero, List.getElem_cons_succ, List.setIfInBounds_toArray, List.set_cons_zero, List.set_cons_succ]
            refine wpAnyH_done (by kernel_rfl) ?_ _
            go_wp2_with fail
            go_meet
            case rel => exact lw_of A5 rfl K5.out (by have := HL2.out.bel.size; have := HL8.out.bel.size; omega) lo5 HL5.out hlt8
        · go_simp
          have A8 := alloc_at wd (.cells #[.slice none 0 0, .slice none 0 0, .slice none 0 0] 38)
          have B8 : Below (wd).heap.size wd ((wd).alloc (.cells #[.slice none 0 0, .slice none 0 0, .slice none 0 0] 38)) := (Below.refl _ _).alloc (Nat.le_refl _) _
          have HL8 := Lib.hid (LB.below HLd.out B8)
          have hKeep8 := hHeld.below B8
          have hlt8 := (HLd.out).lX
          have hsz8 : (wd).heap.size < ((wd).alloc (.cells #[.slice none 0 0, .slice none 0 0, .slice none 0 0] 38)).heap.size := by simp
          have HN8 := Lib.hid (NumsAt.below HNd.out B8)
          generalize ((wd).alloc (.cells #[.slice none 0 0, .slice none 0 0, .slice none 0 0] 38)) = w8 at A8 B8 HL8 hKeep8 hsz8 HN8 ⊢
          generalize hb8 : (wd).heap.size = b8 at A8 hlt8 hsz8 ⊢
          clear hb8
          refine hK.out _ _ (hKeep8) (fun hHeld8 => ?_)
          clear hK K
          try simp only [Act.put, List.getElem_toArray, List.getElem_cons_zero, List.getElem_cons_succ, List.setIfInBounds_toArray, List.set_cons_zero, List.set_cons_succ]
          refine wpAnyH_ready (rs := [5]) (by kernel_rfl) (by simp) ?_
          refine AllReadyH.cons rfl (fun K hK => ?_) AllReadyH.nil
          go_simp
          refine (Made_any _ _ _ _ (by exact HN8.out) (by omega)).mono ?_
          rintro e w2 ⟨sv2, pv2, ov2, at2, pg2, ops2, rfl, k2, b2, la2, lp2, lo2⟩
          have K2 := Lib.hid k2
          have HL2 := Lib.hid (LB.below HL8.out b2)
          have hKeep2 := hHeld8.below b2
          obtain ⟨a20, n20, c20, rfl⟩ := own_form k2.a
          obtain ⟨a21, n21, c21, rfl⟩ := own_form k2.p
          obtain ⟨a22, n22, c22, rfl⟩ := own_form k2.o
          clear k2
          have A2 := (b2.block _ hsz8).trans A8
          have hsz2 := Nat.lt_of_lt_of_le hsz8 b2.size
          refine hK.out _ _ (hKeep2) (fun hHeld5 => ?_)
          clear hK K
          try simp only [Act.put, List.getElem_toArray, List.getElem_cons_zero, List.getElem_cons_succ, List.setIfInBounds_toArray, List.set_cons_zero, List.set_cons_succ]
          refine wpAnyH_ready (rs := [7]) (by kernel_rfl) (by simp) ?_
          refine AllReadyH.cons rfl (fun K hK => ?_) AllReadyH.nil
          go_simp
          refine (Turned_any _ _ _ _ _ _ _ _ q0 q1 q2 K2.out (by omega) (by omega) (by omega)).mono ?_
          rintro e w5 ⟨sv5, pv5, ov5, at5, pg5, ops5, rfl, k5, b5, la5, lp5, lo5⟩
          have K5 := Lib.hid k5
          have HL5 := Lib.hid (LB.below HL2.out b5)
          have hKeep5 := hHeld5.below b5
          have A5 := (b5.block _ hsz2).trans A2
          obtain ⟨a50, n50, c50, rfl⟩ := own_form k5.a
          obtain ⟨a51, n51, c51, rfl⟩ := own_form k5.p
          obtain ⟨a52, n52, c52, rfl⟩ := own_form k5.o
          clear k5
          refine hK.out _ _ (hKeep5) (fun hHeld7 => ?_)
          clear hK K
          try simp only [Act.put, List.getElem_toArray, List.getElem_cons_zero, List.getElem_cons_succ, List.setIfInBounds_toArray, List.set_cons_zero, List.set_cons_succ]
          have hc8 := blk_cell A5
          have hf8 := blk_free A5
          have hne8 : w.heap.size ≠ b8 := by omega
          refine wpAnyH_ready (rs := [9]) (by kernel_rfl) (by simp) ?_
          refine AllReadyH.cons rfl (fun K hK => ?_) AllReadyH.nil
          go_simp
          refine hK.out _ _ ((((hHeld7.set hne8 0 _).set hne8 1 _).set hne8 2 _)) (fun hHeld9 => ?_)
          clear hK K
          try simp only [Act.put, List.getElem_toArray, List.getElem_cons_zero, List.getElem_cons_succ, List.setIfInBounds_toArray, List.set_cons_zero, List.set_cons_succ]
          refine wpAnyH_done (by kernel_rfl) ?_ _
          go_wp2_with fail
          go_meet
          case rel => exact lw_of A5 rfl K5.out (by have := HL2.out.bel.size; have := HL8.out.bel.size; omega) lo5 HL5.out hlt8
  case rest =>
    obtain ⟨b8, sa', sp, so, n', ca, np, cp, m, co, at_, pg, ops, rfl, hB, hl8, hblk, ho, hLB⟩ := hcut
    have hnm := own_n hblk.o
    have hS0 : LS (w.heap.size + 1) b8 X sa' sp so n' ca np cp m co (fun i => at_.getD i 0) (lastC ops) wc := ⟨hLB.cX, hB, hLB.lX, hl8, gin_any HX.out (atIs_of hblk.a) (lastIs_of hblk.o) (by omega), HX.out⟩
    have G0 := Lib.hid (gin_any HX.out (atIs_0 wc none (fun _ => 0)) (lastIs_0 wc none 0) (Nat.zero_le _))
    have hst := HX.out.st
    obtain ⟨r, hr, hform⟩ := both_any (numAt X 0) _ _ _ _ _ _ sa' so sp n' m ca co np cp _ _ (numAt X 25) (numAt X 26) (numAt X 27) (numAt X 28) (numAt X 29) (numAt X 30) wc hS0.G
    have hok : StOK r := by
      rcases hform with rfl | ⟨f, pc, done, rfl⟩
      · exact hst
      · exact hst.out hS0.G.hvs hS0.G.hV _ _ _ _ _
    have hbel := hLB.bel
    have heq := hok.eq
    have heq0 := hst.eq
    have HR := Lib.hid hr
    have HS := Lib.hid hS0
    clear hS0 hB hl8 hblk ho hLB hnm hst hform hok hr HN1 HL HQ HSA
    generalize (fun i => at_.getD i 0) = At at HS HR
    generalize lastC ops = code at HS HR
    clear at_ pg ops
    go_wp2_with fail
    refine wp_region_held_drew (S := (LS (w.heap.size + 1) b8 X sa' sp so n' ca np cp m co At code)) (by kernel_rfl) HS.out.drew (fun hHeld => ?_)
    refine wpAnyH_take (i := 0) (v := ?v0x1) rfl (by kernel_rfl) (by kernel_rfl) (by kernel_rfl) (fun _ _ _ h => h) (Or.inl ⟨by rfl, ?hy0x1⟩) (by assumption) ?rest0x1
    case hy0x1 => (intro w hSw; (try dsimp only at hSw); go_simp; (try with_reducible rfl))
    try simp only [Act.put, List.getElem_toArray, List.getElem_cons_zero, List.getElem_cons_succ, List.setIfInBounds_toArray, List.set_cons_zero, List.set_cons_succ]
    refine wpAnyH_take (i := 1) (v := ?v1x2) rfl (by kernel_rfl) (by kernel_rfl) (by kernel_rfl) (fun _ _ _ h => h) (Or.inl ⟨by rfl, ?hy1x2⟩) (by assumption) ?rest1x2
    case hy1x2 => (intro w hSw; (try dsimp only at hSw); go_simp; (try with_reducible rfl))
    try simp only [Act.put, List.getElem_toArray, List.getElem_cons_zero, List.getElem_cons_succ, List.setIfInBounds_toArray, List.set_cons_zero, List.set_cons_succ]
    refine wpAnyH_take (i := 2) (v := ?v2x3) rfl (by kernel_rfl) (by kernel_rfl) (by kernel_rfl) (fun _ _ _ h => h) (Or.inl ⟨by rfl, ?hy2x3⟩) (by assumption) ?rest2x3
    case hy2x3 => (intro w hSw; (try dsimp only at hSw); go_simp; (try with_reducible rfl))
    try simp only [Act.put, List.getElem_toArray, List.getElem_cons_zero, List.getElem_cons_succ, List.setIfInBounds_toArray, List.set_cons_zero, List.set_cons_succ]
    refine wpAnyH_take (i := 3) (v := ?v3x4) rfl (by kernel_rfl) (by kernel_rfl) (by kernel_rfl) (fun _ _ _ h => h) (Or.inl ⟨by rfl, ?hy3x4⟩) (by assumption) ?rest3x4
    case hy3x4 => (intro w hSw; (try dsimp only at hSw); (have q1 := hSw.cX; have q0 := hSw.ok.size; have q2 := hSw.f64 0 (by omega) rfl; have q3 := hSw.f64 25 (by omega) rfl; have q4 := hSw.f64 26 (by omega) rfl; have q5 := hSw.f64 27 (by omega) rfl; have q6 := hSw.f32 28 (by omega) rfl; have q7 := hSw.f32 29 (by omega) rfl; have q8 := hSw.f64 30 (by omega) rfl; have q9 := hSw.g 0; have q10 := hSw.g 1; have q11 := hSw.g 2; go_simp); (try with_reducible rfl))
    try simp only [Act.put, List.getElem_toArray, List.getElem_cons_zero, List.getElem_cons_succ, List.setIfInBounds_toArray, List.set_cons_zero, List.set_cons_succ]
    refine wpAnyH_take (i := 4) (v := ?v4x5) rfl (by kernel_rfl) (by kernel_rfl) (by kernel_rfl) (fun _ _ _ h => h) (Or.inl ⟨by rfl, ?hy4x5⟩) (by assumption) ?rest4x5
    case hy4x5 => (intro w hSw; (try dsimp only at hSw); go_simp; (try with_reducible rfl))
    try simp only [Act.put, List.getElem_toArray, List.getElem_cons_zero, List.getElem_cons_succ, List.setIfInBounds_toArray, List.set_cons_zero, List.set_cons_succ]
    refine wpAnyH_take (i := 5) (v := ?v5x6) rfl (by kernel_rfl) (by kernel_rfl) (by kernel_rfl) (fun _ _ _ h => h) (Or.inl ⟨by rfl, ?hy5x6⟩) (by assumption) ?rest5x6
    case hy5x6 => (intro w hSw; (try dsimp only at hSw); (have q1 := hSw.cX; have q0 := hSw.ok.size; have q2 := hSw.f64 0 (by omega) rfl; have q3 := hSw.f64 25 (by omega) rfl; have q4 := hSw.f64 26 (by omega) rfl; have q5 := hSw.f64 27 (by omega) rfl; have q6 := hSw.f32 28 (by omega) rfl; have q7 := hSw.f32 29 (by omega) rfl; have q8 := hSw.f64 30 (by omega) rfl; have q9 := hSw.g 0; have q10 := hSw.g 1; have q11 := hSw.g 2; go_simp); (try with_reducible rfl))
    try simp only [Act.put, List.getElem_toArray, List.getElem_cons_zero, List.getElem_cons_succ, List.setIfInBounds_toArray, List.set_cons_zero, List.set_cons_succ]
    refine wpAnyH_take (i := 6) (v := ?v6x7) rfl (by kernel_rfl) (by kernel_rfl) (by kernel_rfl) (fun _ _ _ h => h) (Or.inl ⟨by rfl, ?hy6x7⟩) (by assumption) ?rest6x7
    case hy6x7 => (intro w hSw; (try dsimp only at hSw); (have q1 := hSw.cX; have q0 := hSw.ok.size; have q2 := hSw.f64 0 (by omega) rfl; have q3 := hSw.f64 25 (by omega) rfl; have q4 := hSw.f64 26 (by omega) rfl; have q5 := hSw.f64 27 (by omega) rfl; have q6 := hSw.f32 28 (by omega) rfl; have q7 := hSw.f32 29 (by omega) rfl; have q8 := hSw.f64 30 (by omega) rfl; have q9 := hSw.g 0; have q10 := hSw.g 1; have q11 := hSw.g 2; go_simp); (try with_reducible rfl))
    try simp only [Act.put, List.getElem_toArray, List.getElem_cons_zero, List.getElem_cons_succ, List.setIfInBounds_toArray, List.set_cons_zero, List.set_cons_succ]
    refine wpAnyH_take (i := 7) (v := ?v7x8) rfl (by kernel_rfl) (by kernel_rfl) (by kernel_rfl) (fun _ _ _ h => h) (Or.inl ⟨by rfl, ?hy7x8⟩) (by assumption) ?rest7x8
    case hy7x8 => (intro w hSw; (try dsimp only at hSw); go_simp; (try with_reducible rfl))
    try simp only [Act.put, List.getElem_toArray, List.getElem_cons_zero, List.getElem_cons_succ, List.setIfInBounds_toArray, List.set_cons_zero, List.set_cons_succ]
    refine wpAnyH_take (i := 8) (v := ?v8x9) rfl (by kernel_rfl) (by kernel_rfl) (by kernel_rfl) (fun _ _ _ h => h) (Or.inl ⟨by rfl, ?hy8x9⟩) (by assumption) ?rest8x9
    case hy8x9 => (intro w hSw; (try dsimp only at hSw); (have q1 := hSw.cX; have q0 := hSw.ok.size; have q2 := hSw.f64 0 (by omega) rfl; have q3 := hSw.f64 25 (by omega) rfl; have q4 := hSw.f64 26 (by omega) rfl; have q5 := hSw.f64 27 (by omega) rfl; have q6 := hSw.f32 28 (by omega) rfl; have q7 := hSw.f32 29 (by omega) rfl; have q8 := hSw.f64 30 (by omega) rfl; have q9 := hSw.g 0; have q10 := hSw.g 1; have q11 := hSw.g 2; go_simp); (try with_reducible rfl))
    try simp only [Act.put, List.getElem_toArray, List.getElem_cons_zero, List.getElem_cons_succ, List.setIfInBounds_toArray, List.set_cons_zero, List.set_cons_succ]
    refine wpAnyH_take (i := 9) (v := ?v9x10) rfl (by kernel_rfl) (by kernel_rfl) (by kernel_rfl) (fun _ _ _ h => h) (Or.inl ⟨by rfl, ?hy9x10⟩) (by assumption) ?rest9x10
    case hy9x10 => (intro w hSw; (try dsimp only at hSw); go_simp; (try with_reducible rfl))
    try simp only [Act.put, List.getElem_toArray, List.getElem_cons_zero, List.getElem_cons_succ, List.setIfInBounds_toArray, List.set_cons_zero, List.set_cons_succ]
    refine wpAnyH_take (i := 10) (v := ?v10x11) rfl (by kernel_rfl) (by kernel_rfl) (by kernel_rfl) (fun _ _ _ h => h) (Or.inl ⟨by rfl, ?hy10x11⟩) (by assumption) ?rest10x11
    case hy10x11 => (intro w hSw; (try dsimp only at hSw); (have q1 := hSw.cX; have q0 := hSw.ok.size; have q2 := hSw.f64 0 (by omega) rfl; have q3 := hSw.f64 25 (by omega) rfl; have q4 := hSw.f64 26 (by omega) rfl; have q5 := hSw.f64 27 (by omega) rfl; have q6 := hSw.f32 28 (by omega) rfl; have q7 := hSw.f32 29 (by omega) rfl; have q8 := hSw.f64 30 (by omega) rfl; have q9 := hSw.g 0; have q10 := hSw.g 1; have q11 := hSw.g 2; go_simp); (try with_reducible rfl))
    try simp only [Act.put, List.getElem_toArray, List.getElem_cons_zero, List.getElem_cons_succ, List.setIfInBounds_toArray, List.set_cons_zero, List.set_cons_succ]
    refine wpAnyH_take (i := 11) (v := ?v11x12) rfl (by kernel_rfl) (by kernel_rfl) (by kernel_rfl) (fun _ _ _ h => h) (Or.inl ⟨by rfl, ?hy11x12⟩) (by assumption) ?rest11x12
    case hy11x12 => (intro w hSw; (try dsimp only at hSw); go_simp; (try with_reducible rfl))
    try simp only [Act.put, List.getElem_toArray, List.getElem_cons_zero, List.getElem_cons_succ, List.setIfInBounds_toArray, List.set_cons_zero, List.set_cons_succ]
    refine wpAnyH_take (i := 12) (v := ?v12x13) rfl (by kernel_rfl) (by kernel_rfl) (by kernel_rfl) (fun _ _ _ h => h) (Or.inl ⟨by rfl, ?hy12x13⟩) (by assumption) ?rest12x13
    case hy12x13 => (intro w hSw; (try dsimp only at hSw); (have q1 := hSw.cX; have q0 := hSw.ok.size; have q2 := hSw.f64 0 (by omega) rfl; have q3 := hSw.f64 25 (by omega) rfl; have q4 := hSw.f64 26 (by omega) rfl; have q5 := hSw.f64 27 (by omega) rfl; have q6 := hSw.f32 28 (by omega) rfl; have q7 := hSw.f32 29 (by omega) rfl; have q8 := hSw.f64 30 (by omega) rfl; have q9 := hSw.g 0; have q10 := hSw.g 1; have q11 := hSw.g 2; go_simp); (try with_reducible rfl))
    try simp only [Act.put, List.getElem_toArray, List.getElem_cons_zero, List.getElem_cons_succ, List.setIfInBounds_toArray, List.set_cons_zero, List.set_cons_succ]
    refine wpAnyH_take (i := 14) (v := ?v14x14) rfl (by kernel_rfl) (by kernel_rfl) (by kernel_rfl) (fun _ _ _ h => h) (Or.inl ⟨by rfl, ?hy14x14⟩) (by assumption) ?rest14x14
    case hy14x14 => (intro w hSw; (try dsimp only at hSw); go_simp; (try with_reducible rfl))
    try simp only [Act.put, List.getElem_toArray, List.getElem_cons_zero, List.getElem_cons_succ, List.setIfInBounds_toArray, List.set_cons_zero, List.set_cons_succ]
    refine wpAnyH_take (i := 15) (v := ?v15x15) rfl (by kernel_rfl) (by kernel_rfl) (by kernel_rfl) (fun _ _ _ h => h) (Or.inl ⟨by rfl, ?hy15x15⟩) (by assumption) ?rest15x15
    case hy15x15 => (intro w hSw; (try dsimp only at hSw); (have q1 := hSw.cX; have q0 := hSw.ok.size; have q2 := hSw.f64 0 (by omega) rfl; have q3 := hSw.f64 25 (by omega) rfl; have q4 := hSw.f64 26 (by omega) rfl; have q5 := hSw.f64 27 (by omega) rfl; have q6 := hSw.f32 28 (by omega) rfl; have q7 := hSw.f32 29 (by omega) rfl; have q8 := hSw.f64 30 (by omega) rfl; have q9 := hSw.g 0; have q10 := hSw.g 1; have q11 := hSw.g 2; go_simp); (try with_reducible rfl))
    try simp only [Act.put, List.getElem_toArray, List.getElem_cons_zero, List.getElem_cons_succ, List.setIfInBounds_toArray, List.set_cons_zero, List.set_cons_succ]
    refine wpAnyH_take (i := 16) (v := ?v16x16) rfl (by kernel_rfl) (by kernel_rfl) (by kernel_rfl) (fun _ _ _ h => h) (Or.inl ⟨by rfl, ?hy16x16⟩) (by assumption) ?rest16x16
    case hy16x16 => (intro w hSw; (try dsimp only at hSw); go_simp; (try with_reducible rfl))
    try simp only [Act.put, List.getElem_toArray, List.getElem_cons_zero, List.getElem_cons_succ, List.setIfInBounds_toArray, List.set_cons_zero, List.set_cons_succ]
    refine wpAnyH_take (i := 17) (v := ?v17x17) rfl (by kernel_rfl) (by kernel_rfl) (by kernel_rfl) (fun _ _ _ h => h) (Or.inl ⟨by rfl, ?hy17x17⟩) (by assumption) ?rest17x17
    case hy17x17 => (intro w hSw; (try dsimp only at hSw); (have q1 := hSw.cX; have q0 := hSw.ok.size; have q2 := hSw.f64 0 (by omega) rfl; have q3 := hSw.f64 25 (by omega) rfl; have q4 := hSw.f64 26 (by omega) rfl; have q5 := hSw.f64 27 (by omega) rfl; have q6 := hSw.f32 28 (by omega) rfl; have q7 := hSw.f32 29 (by omega) rfl; have q8 := hSw.f64 30 (by omega) rfl; have q9 := hSw.g 0; have q10 := hSw.g 1; have q11 := hSw.g 2; go_simp); (try with_reducible rfl))
    try simp only [Act.put, List.getElem_toArray, List.getElem_cons_zero, List.getElem_cons_succ, List.setIfInBounds_toArray, List.set_cons_zero, List.set_cons_succ]
    refine wpAnyH_take (i := 18) (v := ?v18x18) rfl (by kernel_rfl) (by kernel_rfl) (by kernel_rfl) (fun _ _ _ h => h) (Or.inl ⟨by rfl, ?hy18x18⟩) (by assumption) ?rest18x18
    case hy18x18 => (intro w hSw; (try dsimp only at hSw); (have q1 := hSw.cX; have q0 := hSw.ok.size; have q2 := hSw.f64 0 (by omega) rfl; have q3 := hSw.f64 25 (by omega) rfl; have q4 := hSw.f64 26 (by omega) rfl; have q5 := hSw.f64 27 (by omega) rfl; have q6 := hSw.f32 28 (by omega) rfl; have q7 := hSw.f32 29 (by omega) rfl; have q8 := hSw.f64 30 (by omega) rfl; have q9 := hSw.g 0; have q10 := hSw.g 1; have q11 := hSw.g 2; go_simp); (try with_reducible rfl))
    try simp only [Act.put, List.getElem_toArray, List.getElem_cons_zero, List.getElem_cons_succ, List.setIfInBounds_toArray, List.set_cons_zero, List.set_cons_succ]
    refine wpAnyH_take (i := 19) (v := ?v19x19) rfl (by kernel_rfl) (by kernel_rfl) (by kernel_rfl) (fun _ _ _ h => h) (Or.inl ⟨by rfl, ?hy19x19⟩) (by assumption) ?rest19x19
    case hy19x19 => (intro w hSw; (try dsimp only at hSw); go_simp; (try with_reducible rfl))
    try simp only [Act.put, List.getElem_toArray, List.getElem_cons_zero, List.getElem_cons_succ, List.setIfInBounds_toArray, List.set_cons_zero, List.set_cons_succ]
    refine wpAnyH_take (i := 20) (v := ?v20x20) rfl (by kernel_rfl) (by kernel_rfl) (by kernel_rfl) (fun _ _ _ h => h) (Or.inl ⟨by rfl, ?hy20x20⟩) (by assumption) ?rest20x20
    case hy20x20 => (intro w hSw; (try dsimp only at hSw); (have q1 := hSw.cX; have q0 := hSw.ok.size; have q2 := hSw.f64 0 (by omega) rfl; have q3 := hSw.f64 25 (by omega) rfl; have q4 := hSw.f64 26 (by omega) rfl; have q5 := hSw.f64 27 (by omega) rfl; have q6 := hSw.f32 28 (by omega) rfl; have q7 := hSw.f32 29 (by omega) rfl; have q8 := hSw.f64 30 (by omega) rfl; have q9 := hSw.g 0; have q10 := hSw.g 1; have q11 := hSw.g 2; go_simp); (try with_reducible rfl))
    try simp only [Act.put, List.getElem_toArray, List.getElem_cons_zero, List.getElem_cons_succ, List.setIfInBounds_toArray, List.set_cons_zero, List.set_cons_succ]
    refine wpAnyH_take (i := 21) (v := ?v21x21) rfl (by kernel_rfl) (by kernel_rfl) (by kernel_rfl) (fun _ _ _ h => h) (Or.inl ⟨by rfl, ?hy21x21⟩) (by assumption) ?rest21x21
    case hy21x21 => (intro w hSw; (try dsimp only at hSw); go_simp; (try with_reducible rfl))
    try simp only [Act.put, List.getElem_toArray, List.getElem_cons_zero, List.getElem_cons_succ, List.setIfInBounds_toArray, List.set_cons_zero, List.set_cons_succ]
    refine wpAnyH_take (i := 22) (v := ?v22x22) rfl (by kernel_rfl) (by kernel_rfl) (by kernel_rfl) (fun _ _ _ h => h) (Or.inl ⟨by rfl, ?hy22x22⟩) (by assumption) ?rest22x22
    case hy22x22 => (intro w hSw; (try dsimp only at hSw); (have q1 := hSw.cX; have q0 := hSw.ok.size; have q2 := hSw.f64 0 (by omega) rfl; have q3 := hSw.f64 25 (by omega) rfl; have q4 := hSw.f64 26 (by omega) rfl; have q5 := hSw.f64 27 (by omega) rfl; have q6 := hSw.f32 28 (by omega) rfl; have q7 := hSw.f32 29 (by omega) rfl; have q8 := hSw.f64 30 (by omega) rfl; have q9 := hSw.g 0; have q10 := hSw.g 1; have q11 := hSw.g 2; go_simp); (try with_reducible rfl))
    try simp only [Act.put, List.getElem_toArray, List.getElem_cons_zero, List.getElem_cons_succ, List.setIfInBounds_toArray, List.set_cons_zero, List.set_cons_succ]
    refine wpAnyH_take (i := 23) (v := ?v23x23) rfl (by kernel_rfl) (by kernel_rfl) (by kernel_rfl) (fun _ _ _ h => h) (Or.inl ⟨by rfl, ?hy23x23⟩) (by assumption) ?rest23x23
    case hy23x23 => (intro w hSw; (try dsimp only at hSw); go_simp; (try with_reducible rfl))
    try simp only [Act.put, List.getElem_toArray, List.getElem_cons_zero, List.getElem_cons_succ, List.setIfInBounds_toArray, List.set_cons_zero, List.set_cons_succ]
    refine wpAnyH_take (i := 24) (v := ?v24x24) rfl (by kernel_rfl) (by kernel_rfl) (by kernel_rfl) (fun _ _ _ h => h) (Or.inl ⟨by rfl, ?hy24x24⟩) (by assumption) ?rest24x24
    case hy24x24 => (intro w hSw; (try dsimp only at hSw); (have q1 := hSw.cX; have q0 := hSw.ok.size; have q2 := hSw.f64 0 (by omega) rfl; have q3 := hSw.f64 25 (by omega) rfl; have q4 := hSw.f64 26 (by omega) rfl; have q5 := hSw.f64 27 (by omega) rfl; have q6 := hSw.f32 28 (by omega) rfl; have q7 := hSw.f32 29 (by omega) rfl; have q8 := hSw.f64 30 (by omega) rfl; have q9 := hSw.g 0; have q10 := hSw.g 1; have q11 := hSw.g 2; go_simp); (try with_reducible rfl))
    try simp only [Act.put, List.getElem_toArray, List.getElem_cons_zero, List.getElem_cons_succ, List.setIfInBounds_toArray, List.set_cons_zero, List.set_cons_succ]
    refine wpAnyH_ready (rs := [13]) (by kernel_rfl) (by simp) ?_
    refine AllReadyH.cons rfl (fun K hK => ?_) AllReadyH.nil
    go_simp
    refine (HR.out.1 _ hHeld.G).mono ?_
    rintro e w7 ⟨rfl, b7⟩
    have hKeep7 := hHeld.below b7
    refine hK.out _ _ (hKeep7) (fun hHeld13 => ?_)
    clear hK K
    try simp only [Act.put, List.getElem_toArray, List.getElem_cons_zero, List.getElem_cons_succ, List.setIfInBounds_toArray, List.set_cons_zero, List.set_cons_succ]
    refine wpAnyH_ready (rs := [25]) (by kernel_rfl) (by simp) ?_
    refine AllReadyH.cons rfl (fun K hK => ?_) AllReadyH.nil
    go_simp
    refine (HR.out.2 _ hHeld13.G).mono ?_
    rintro e wq ⟨rfl, bq⟩
    have hKeepq := hHeld13.below bq
    refine hK.out _ _ (hKeepq) (fun hHeld25 => ?_)
    clear hK K
    try simp only [Act.put, List.getElem_toArray, List.getElem_cons_zero, List.getElem_cons_succ, List.setIfInBounds_toArray, List.set_cons_zero, List.set_cons_succ]
    refine wpAnyH_take (i := 26) (v := ?v26x25) rfl (by kernel_rfl) (by kernel_rfl) (by kernel_rfl) (fun _ _ _ h => h) (Or.inl ⟨by rfl, ?hy26x25⟩) (by assumption) ?rest26x25
    case hy26x25 => (intro w hSw; (try dsimp only at hSw); (have q1 := heq; go_simp); (try with_reducible rfl))
    try simp only [Act.put, List.getElem_toArray, List.getElem_cons_zero, List.getElem_cons_succ, List.setIfInBounds_toArray, List.set_cons_zero, List.set_cons_succ]
    refine wpAnyH_take (i := 27) (v := ?v27x26) rfl (by kernel_rfl) (by kernel_rfl) (by kernel_rfl) (fun _ _ _ h => h) (Or.inl ⟨by rfl, ?hy27x26⟩) (by assumption) ?rest27x26
    case hy27x26 => (intro w hSw; (try dsimp only at hSw); go_simp; (try with_reducible rfl))
    try simp only [Act.put, List.getElem_toArray, List.getElem_cons_zero, List.getElem_cons_succ, List.setIfInBounds_toArray, List.set_cons_zero, List.set_cons_succ]
    refine wpAnyH_take (i := 28) (v := ?v28x27) rfl (by kernel_rfl) (by kernel_rfl) (by kernel_rfl) (fun _ _ _ h => h) (Or.inl ⟨by rfl, ?hy28x27⟩) (by assumption) ?rest28x27
    case hy28x27 => (intro w hSw; (try dsimp only at hSw); go_simp; (try with_reducible rfl))
    try simp only [Act.put, List.getElem_toArray, List.getElem_cons_zero, List.getElem_cons_succ, List.setIfInBounds_toArray, List.set_cons_zero, List.set_cons_succ]
    refine wpAnyH_take (i := 29) (v := ?v29x28) rfl (by kernel_rfl) (by kernel_rfl) (by kernel_rfl) (fun _ _ _ h => h) (Or.inl ⟨by rfl, ?hy29x28⟩) (by assumption) ?rest29x28
    case hy29x28 => (intro w hSw; (try dsimp only at hSw); go_simp; (try with_reducible rfl))
    try simp only [Act.put, List.getElem_toArray, List.getElem_cons_zero, List.getElem_cons_succ, List.setIfInBounds_toArray, List.set_cons_zero, List.set_cons_succ]
    refine wpAnyH_take (i := 30) (v := ?v30x29) rfl (by kernel_rfl) (by kernel_rfl) (by kernel_rfl) (fun _ _ _ h => h) (Or.inl ⟨by rfl, ?hy30x29⟩) (by assumption) ?rest30x29
    case hy30x29 => (intro w hSw; (try dsimp only at hSw); (have q1 := hSw.cX; have q0 := hSw.ok.size; have q2 := hSw.f64 0 (by omega) rfl; have q3 := hSw.f64 25 (by omega) rfl; have q4 := hSw.f64 26 (by omega) rfl; have q5 := hSw.f64 27 (by omega) rfl; have q6 := hSw.f32 28 (by omega) rfl; have q7 := hSw.f32 29 (by omega) rfl; have q8 := hSw.f64 30 (by omega) rfl; have q9 := hSw.g 0; have q10 := hSw.g 1; have q11 := hSw.g 2; go_simp); (try with_reducible rfl))
    try simp only [Act.put, List.getElem_toArray, List.getElem_cons_zero, List.getElem_cons_succ, List.setIfInBounds_toArray, List.set_cons_zero, List.set_cons_succ]
    refine wpAnyH_take (i := 31) (v := ?v31x30) rfl (by kernel_rfl) (by kernel_rfl) (by kernel_rfl) (fun _ _ _ h => h) (Or.inl ⟨by rfl, ?hy31x30⟩) (by assumption) ?rest31x30
    case hy31x30 => (intro w hSw; (try dsimp only at hSw); go_simp; (try with_reducible rfl))
    try simp only [Act.put, List.getElem_toArray, List.getElem_cons_zero, List.getElem_cons_succ, List.setIfInBounds_toArray, List.set_cons_zero, List.set_cons_succ]
    refine wpAnyH_take (i := 32) (v := ?v32x31) rfl (by kernel_rfl) (by kernel_rfl) (by kernel_rfl) (fun _ _ _ h => h) (Or.inl ⟨by rfl, ?hy32x31⟩) (by assumption) ?rest32x31
    case hy32x31 => (intro w hSw; (try dsimp only at hSw); (have q1 := hSw.cX; have q0 := hSw.ok.size; have q2 := hSw.f64 0 (by omega) rfl; have q3 := hSw.f64 25 (by omega) rfl; have q4 := hSw.f64 26 (by omega) rfl; have q5 := hSw.f64 27 (by omega) rfl; have q6 := hSw.f32 28 (by omega) rfl; have q7 := hSw.f32 29 (by omega) rfl; have q8 := hSw.f64 30 (by omega) rfl; have q9 := hSw.g 0; have q10 := hSw.g 1; have q11 := hSw.g 2; go_simp); (try with_reducible rfl))
    try simp only [Act.put, List.getElem_toArray, List.getElem_cons_zero, List.getElem_cons_succ, List.setIfInBounds_toArray, List.set_cons_zero, List.set_cons_succ]
    refine wpAnyH_take (i := 33) (v := ?v33x32) rfl (by kernel_rfl) (by kernel_rfl) (by kernel_rfl) (fun _ _ _ h => h) (Or.inl ⟨by rfl, ?hy33x32⟩) (by assumption) ?rest33x32
    case hy33x32 => (intro w hSw; (try dsimp only at hSw); go_simp; (try with_reducible rfl))
    try simp only [Act.put, List.getElem_toArray, List.getElem_cons_zero, List.getElem_cons_succ, List.setIfInBounds_toArray, List.set_cons_zero, List.set_cons_succ]
    refine wpAnyH_take (i := 34) (v := ?v34x33) rfl (by kernel_rfl) (by kernel_rfl) (by kernel_rfl) (fun _ _ _ h => h) (Or.inl ⟨by rfl, ?hy34x33⟩) (by assumption) ?rest34x33
    case hy34x33 => (intro w hSw; (try dsimp only at hSw); go_simp; (try with_reducible rfl))
    try simp only [Act.put, List.getElem_toArray, List.getElem_cons_zero, List.getElem_cons_succ, List.setIfInBounds_toArray, List.set_cons_zero, List.set_cons_succ]
    refine wpAnyH_take (i := 35) (v := ?v35x34) rfl (by kernel_rfl) (by kernel_rfl) (by kernel_rfl) (fun _ _ _ h => h) (Or.inl ⟨by rfl, ?hy35x34⟩) (by assumption) ?rest35x34
    case hy35x34 => (intro w hSw; (try dsimp only at hSw); (have q1 := hSw.cX; have q0 := hSw.ok.size; have q2 := hSw.f64 0 (by omega) rfl; have q3 := hSw.f64 25 (by omega) rfl; have q4 := hSw.f64 26 (by omega) rfl; have q5 := hSw.f64 27 (by omega) rfl; have q6 := hSw.f32 28 (by omega) rfl; have q7 := hSw.f32 29 (by omega) rfl; have q8 := hSw.f64 30 (by omega) rfl; have q9 := hSw.g 0; have q10 := hSw.g 1; have q11 := hSw.g 2; go_simp); (try with_reducible rfl))
    try simp only [Act.put, List.getElem_toArray, List.getElem_cons_zero, List.getElem_cons_succ, List.setIfInBounds_toArray, List.set_cons_zero, List.set_cons_succ]
    refine wpAnyH_take (i := 36) (v := ?v36x35) rfl (by kernel_rfl) (by kernel_rfl) (by kernel_rfl) (fun _ _ _ h => h) (Or.inl ⟨by rfl, ?hy36x35⟩) (by assumption) ?rest36x35
    case hy36x35 => (intro w hSw; (try dsimp only at hSw); go_simp; (try with_reducible rfl))
    try simp only [Act.put, List.getElem_toArray, List.getElem_cons_zero, List.getElem_cons_succ, List.setIfInBounds_toArray, List.set_cons_zero, List.set_cons_succ]
    refine wpAnyH_take (i := 37) (v := ?v37x36) rfl (by kernel_rfl) (by kernel_rfl) (by kernel_rfl) (fun _ _ _ h => h) (Or.inl ⟨by rfl, ?hy37x36⟩) (by assumption) ?rest37x36
    case hy37x36 => (intro w hSw; (try dsimp only at hSw); (have q1 := hSw.cX; have q0 := hSw.ok.size; have q2 := hSw.f64 0 (by omega) rfl; have q3 := hSw.f64 25 (by omega) rfl; have q4 := hSw.f64 26 (by omega) rfl; have q5 := hSw.f64 27 (by omega) rfl; have q6 := hSw.f32 28 (by omega) rfl; have q7 := hSw.f32 29 (by omega) rfl; have q8 := hSw.f64 30 (by omega) rfl; have q9 := hSw.g 0; have q10 := hSw.g 1; have q11 := hSw.g 2; go_simp); (try with_reducible rfl))
    try simp only [Act.put, List.getElem_toArray, List.getElem_cons_zero, List.getElem_cons_succ, List.setIfInBounds_toArray, List.set_cons_zero, List.set_cons_succ]
    refine wpAnyH_take (i := 38) (v := ?v38x37) rfl (by kernel_rfl) (by kernel_rfl) (by kernel_rfl) (fun _ _ _ h => h) (Or.inl ⟨by rfl, ?hy38x37⟩) (by assumption) ?rest38x37
    case hy38x37 => (intro w hSw; (try dsimp only at hSw); go_simp; (try with_reducible rfl))
    try simp only [Act.put, List.getElem_toArray, List.getElem_cons_zero, List.getElem_cons_succ, List.setIfInBounds_toArray, List.set_cons_zero, List.set_cons_succ]
    refine wpAnyH_take (i := 39) (v := ?v39x38) rfl (by kernel_rfl) (by kernel_rfl) (by kernel_rfl) (fun _ _ _ h => h) (Or.inl ⟨by rfl, ?hy39x38⟩) (by assumption) ?rest39x38
    case hy39x38 => (intro w hSw; (try dsimp only at hSw); (have q1 := hSw.cX; have q0 := hSw.ok.size; have q2 := hSw.f64 0 (by omega) rfl; have q3 := hSw.f64 25 (by omega) rfl; have q4 := hSw.f64 26 (by omega) rfl; have q5 := hSw.f64 27 (by omega) rfl; have q6 := hSw.f32 28 (by omega) rfl; have q7 := hSw.f32 29 (by omega) rfl; have q8 := hSw.f64 30 (by omega) rfl; have q9 := hSw.g 0; have q10 := hSw.g 1; have q11 := hSw.g 2; go_simp); (try with_reducible rfl))
    try simp only [Act.put, List.getElem_toArray, List.getElem_cons_zero, List.getElem_cons_succ, List.setIfInBounds_toArray, List.set_cons_zero, List.set_cons_succ]
    refine wpAnyH_take (i := 41) (v := ?v41x39) rfl (by kernel_rfl) (by kernel_rfl) (by kernel_rfl) (fun _ _ _ h => h) (Or.inl ⟨by rfl, ?hy41x39⟩) (by assumption) ?rest41x39
    case hy41x39 => (intro w hSw; (try dsimp only at hSw); go_simp; (try with_reducible rfl))
    try simp only [Act.put, List.getElem_toArray, List.getElem_cons_zero, List.getElem_cons_succ, List.setIfInBounds_toArray, List.set_cons_zero, List.set_cons_succ]
    refine wpAnyH_take (i := 42) (v := ?v42x40) rfl (by kernel_rfl) (by kernel_rfl) (by kernel_rfl) (fun _ _ _ h => h) (Or.inl ⟨by rfl, ?hy42x40⟩) (by assumption) ?rest42x40
    case hy42x40 => (intro w hSw; (try dsimp only at hSw); (have q1 := hSw.cX; have q0 := hSw.ok.size; have q2 := hSw.f64 0 (by omega) rfl; have q3 := hSw.f64 25 (by omega) rfl; have q4 := hSw.f64 26 (by omega) rfl; have q5 := hSw.f64 27 (by omega) rfl; have q6 := hSw.f32 28 (by omega) rfl; have q7 := hSw.f32 29 (by omega) rfl; have q8 := hSw.f64 30 (by omega) rfl; have q9 := hSw.g 0; have q10 := hSw.g 1; have q11 := hSw.g 2; go_simp); (try with_reducible rfl))
    try simp only [Act.put, List.getElem_toArray, List.getElem_cons_zero, List.getElem_cons_succ, List.setIfInBounds_toArray, List.set_cons_zero, List.set_cons_succ]
    refine wpAnyH_ready (rs := [40]) (by kernel_rfl) (by simp) ?_
    refine AllReadyH.cons rfl (fun K hK => ?_) AllReadyH.nil
    go_simp
    refine (Guest_0 (numAt X 0) _ _ _ _ _ _ none none none 0 0 0 0 0 0 _ _ (numAt X 25) (numAt X 27) (numAt X 28) (numAt X 29) (numAt X 30) _ (gin_any hHeld25.ok (atIs_0 _ none (fun _ => 0)) (lastIs_0 _ none 0) (Nat.zero_le _)) (numAt X 26) (by simp [validF])).mono ?_
    rintro e w9 ⟨rfl, b9⟩
    have hKeep9 := hHeld25.below b9
    refine hK.out _ _ (hKeep9) (fun hHeld40 => ?_)
    clear hK K
    try simp only [Act.put, List.getElem_toArray, List.getElem_cons_zero, List.getElem_cons_succ, List.setIfInBounds_toArray, List.set_cons_zero, List.set_cons_succ]
    refine wpAnyH_take (i := 43) (v := ?v43x41) rfl (by kernel_rfl) (by kernel_rfl) (by kernel_rfl) (fun _ _ _ h => h) (Or.inl ⟨by rfl, ?hy43x41⟩) (by assumption) ?rest43x41
    case hy43x41 => (intro w hSw; (try dsimp only at hSw); (have q1 := heq0; go_simp); (try with_reducible rfl))
    try simp only [Act.put, List.getElem_toArray, List.getElem_cons_zero, List.getElem_cons_succ, List.setIfInBounds_toArray, List.set_cons_zero, List.set_cons_succ]
    refine wpAnyH_take (i := 44) (v := ?v44x42) rfl (by kernel_rfl) (by kernel_rfl) (by kernel_rfl) (fun _ _ _ h => h) (Or.inl ⟨by rfl, ?hy44x42⟩) (by assumption) ?rest44x42
    case hy44x42 => (intro w hSw; (try dsimp only at hSw); go_simp; (try with_reducible rfl))
    try simp only [Act.put, List.getElem_toArray, List.getElem_cons_zero, List.getElem_cons_succ, List.setIfInBounds_toArray, List.set_cons_zero, List.set_cons_succ]
    refine wpAnyH_take (i := 45) (v := ?v45x43) rfl (by kernel_rfl) (by kernel_rfl) (by kernel_rfl) (fun _ _ _ h => h) (Or.inl ⟨by rfl, ?hy45x43⟩) (by assumption) ?rest45x43
    case hy45x43 => (intro w hSw; (try dsimp only at hSw); go_simp; (try with_reducible rfl))
    try simp only [Act.put, List.getElem_toArray, List.getElem_cons_zero, List.getElem_cons_succ, List.setIfInBounds_toArray, List.set_cons_zero, List.set_cons_succ]
    refine wpAnyH_done (by kernel_rfl) ?_ _
    go_wp2_with fail
    go_ret
    exact ⟨rfl, below_call (below_call (below_call hbel.drew b7) bq) b9⟩
end Go.Proofs.Ytehehnhomlcimaa
