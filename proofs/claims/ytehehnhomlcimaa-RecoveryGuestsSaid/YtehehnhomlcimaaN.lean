/- Contract of 'Made'. -/
import Derived.Test.YtehehnhomlcimaaM
import Derived.Deep.RegionHeld
namespace Go.Proofs.Ytehehnhomlcimaa
open Go.RowKit
def MadeOut (w : World) (e : Ending) (w' : World) : Prop :=
  ∃ sv pv ov at_ pg ops, e = .returned (.agg #[sv, pv, ov]) ∧ BLK w' w.heap.size sv pv ov at_ pg ops ∧ Below w.heap.size w w' ∧ at_.length ≤ 1000 ∧ pg.length ≤ 1000 ∧ ops.length ≤ 1000

set_option maxRecDepth 100000 in
set_option maxHeartbeats 8000000 in
theorem Made_any (w : World) (sa : Option Addr) (n c : Nat) (hN : NumsAt w sa n) (hn : n ≤ 1000000000000000) : Calls Try.prog 6 #[.slice sa n c] w (MadeOut w) := by
  obtain ⟨i1, hi1, hz10, hz11, hz12⟩ := info_parts info24
  obtain ⟨i3, hi3, hz30, hz31, hz32⟩ := info_parts info45
  have H0 := Lib.hid (IZ.start (c := c) hN hn)
  clear hN
  go_enter Try.func6, Try.ntmps6
  go_wp2_with fail
  refine (take_any w (w.heap.size + 1) sa n c 0 12 _ H0.out.mw (by omega) (by omega) (by omega)).mono ?_
  rintro e wA ⟨a, rfl, a0, a1, T⟩
  have HA := Lib.hid (H0.out.took T)
  clear T
  go_wp2_with fail
  refine (take_any w (w.heap.size + 1) sa n c (0 + 1) 64 _ HA.out.mw (by omega) (by omega) (by omega)).mono ?_
  rintro e wB ⟨d, rfl, d0, d1, T⟩
  have HB := Lib.hid (HA.out.took T)
  clear T
  go_wp2_with fail
  go_loopw [7] (fun ii wr => ∃ (i k : Nat) (sv pv ov : Value) (at_ pg : List Int) (ops : List OpT), ii = .int .i64 i ∧ (i : Int) ≤ 1 + a ∧ k ≤ 2 + 102 * i ∧ at_.length ≤ i ∧ pg.length ≤ 1 ∧ ops.length ≤ 8 * i ∧ IM w sa n c (wB.heap.size + 1) k #[sv, pv, ov] sv pv ov at_ pg ops wr) (fun ii _ => ((1 + a) - intOf ii).toNat)
  case atStart => exact ⟨0, _, _, _, _, _, _, _, rfl, by omega, by omega, by simp, by simp, by simp, IM.start HB.out rfl⟩
  case round =>
    obtain ⟨i, k, sv, pv, ov, at_, pg, ops, rfl, hi, hk, hla, hlp, hlo, HI⟩ := hrel
    have HI := Lib.hid HI
    obtain ⟨a0', n0, c0, rfl⟩ := own_form HI.out.blk.a
    obtain ⟨a5, n5, c5, rfl⟩ := own_form HI.out.blk.p
    obtain ⟨a6, n6, c6, rfl⟩ := own_form HI.out.blk.o
    obtain ⟨cb0, fb0, lt0⟩ := HI.out.cells
    by_cases hlt : (i : Int) < 1 + a
    · by_cases hlt2 : (i : Int) < 1 + a - 1
      · go_wp2_with (first | (at_builtin; (refine wpList_append_own_row rfl _ _ 35 rfl w.heap.size 24 i1 (.int .u32 0) 1 4 Try.underlying35 hi1 hz10 hz11 hz12 rfl (by decide) _ _ _ rfl (HI.out.alloc _).blk.a _ w.heap.size 1 _ rfl (lit24 wr HI.out.mw.below.size (by simp) _) (one24 _) (by unfold maxLen; (try simp only [List.length_append, List.length_cons, List.length_nil]); omega) (by (try simp only [List.length_append, List.length_cons, List.length_nil]); omega) (HI.out.alloc _).mw.below.size ?_); intro v9 w1 hown9 hg9; have H1 := Lib.hid ((HI.out.alloc _).appA hown9 hg9); obtain ⟨a9, m9, c9, rfl⟩ := own_form hown9; clear hown9 hg9; obtain ⟨cbw1, fbw1, ltw1⟩ := H1.out.cells; skip) | (at_builtin; (refine wpList_append_own_row rfl _ _ 36 rfl w.heap.size 45 i3 (.agg #[.int .i64 0, .int .i64 0, .int .i64 0, .int .i64 0, .int .u32 0]) 5 40 Try.underlying36 hi3 hz30 hz31 hz32 rfl (by decide) _ _ _ rfl ((H1.out.set 0 _).alloc _).blk.o _ w.heap.size 1 _ rfl (lit45 _ (H1.out.set 0 _).mw.below.size (by simp) [(20, 0, 0, 0, (i : Int))] (by simp)) (flat_one _) (by unfold maxLen; (try simp only [List.length_append, List.length_cons, List.length_nil]); omega) (by (try simp only [List.length_append, List.length_cons, List.length_nil]); omega) ((H1.out.set 0 _).alloc _).mw.below.size ?_); intro v9 w2 hown9 hg9; have H2 := Lib.hid (((H1.out.set 0 _).alloc _).appO (l := [(20, 0, 0, 0, (i : Int))]) (q := 1) rfl hown9 hg9); obtain ⟨a8, m8, c8, rfl⟩ := own_form hown9; clear hown9 hg9; obtain ⟨cbw2, fbw2, ltw2⟩ := H2.out.cells; skip))
        obtain ⟨cbR, fbR, ltR⟩ := ((H2.out.set 2 (.slice a8 m8 c8))).cells
        refine wp_region_held_drew (S := (fun _ => True)) (by kernel_rfl) trivial (fun hHeld => ?_)
        refine wpAnyH_take (i := 0) (v := ?v0x36) rfl (by kernel_rfl) (by kernel_rfl) (by kernel_rfl) (fun _ _ _ h => h) (Or.inl ⟨by rfl, ?hy0x36⟩) (by assumption) ?rest0x36
        case hy0x36 => (intro w hSw; (try dsimp only at hSw); go_simp; (try with_reducible rfl))
        try simp only [Act.put, List.getElem_toArray, List.getElem_cons_zero, List.getElem_cons_succ, List.setIfInBounds_toArray, List.set_cons_zero, List.set_cons_succ]
        refine wpAnyH_take (i := 2) (v := ?v2x37) rfl (by kernel_rfl) (by kernel_rfl) (by kernel_rfl) (fun _ _ _ h => h) (Or.inl ⟨by rfl, ?hy2x37⟩) (by assumption) ?rest2x37
        case hy2x37 => (intro w hSw; (try dsimp only at hSw); go_simp; (try with_reducible rfl))
        try simp only [Act.put, List.getElem_toArray, List.getElem_cons_zero, List.getElem_cons_succ, List.setIfInBounds_toArray, List.set_cons_zero, List.set_cons_succ]
        refine wpAnyH_ready (rs := [1, 3]) (by kernel_rfl) (by simp) ?_
        refine AllReadyH.cons rfl (fun K hK => ?_) (AllReadyH.cons rfl (fun K hK => ?_) AllReadyH.nil)
        · go_simp
          refine hK.out _ _ trivial (fun hHeld1 => ?_)
          clear hK K
          try simp only [Act.put, List.getElem_toArray, List.getElem_cons_zero, List.getElem_cons_succ, List.setIfInBounds_toArray, List.set_cons_zero, List.set_cons_succ]
          refine wpAnyH_ready (rs := [3]) (by kernel_rfl) (by simp) ?_
          refine AllReadyH.cons rfl (fun K hK => ?_) AllReadyH.nil
          go_simp
          refine (instruction_any w (w.heap.size + 1) sa n c k (w2.setCell ⟨wB.heap.size + 1, 2, none⟩ (.slice a8 m8 c8)).drew (H2.out.set 2 (.slice a8 m8 c8)).drew.mw (by omega)).mono ?_
          rintro e wI ⟨vi, iops, cwI, fI, k9, rfl, hlen, hINV⟩
          have HX := Lib.hid ((H2.out.set 2 (.slice a8 m8 c8)).drew.after hINV.grown hINV.mkr)
          have hkl := hINV.lo
          have hkh := hINV.hi
          have hio := hINV.own
          clear hINV
          obtain ⟨ai, ni, ci, rfl⟩ := own_form hio
          have hio := Lib.hid hio
          obtain ⟨cbI, fbI, ltI⟩ := HX.out.cells
          refine hK.out _ _ trivial (fun hHeld3 => ?_)
          clear hK K
          try simp only [Act.put, List.getElem_toArray, List.getElem_cons_zero, List.getElem_cons_succ, List.setIfInBounds_toArray, List.set_cons_zero, List.set_cons_succ]
          refine wpAnyH_ready (rs := [4]) (by kernel_rfl) (by simp) ?_
          refine AllReadyH.cons rfl (fun K hK => ?_) AllReadyH.nil
          refine (if_pos (by rfl)).mpr ?_
          refine wp_append_own_row _ _ 36 rfl w.heap.size 45 i3 (.agg #[.int .i64 0, .int .i64 0, .int .i64 0, .int .i64 0, .int .u32 0]) 5 40 Try.underlying36 hi3 hz30 hz31 hz32 rfl (by decide) (.slice a8 m8 c8) (ops ++ [(20, 0, 0, 0, (i : Int))]).length _ rfl HX.out.blk.o (.slice ai ni ci) _ iops.length _ rfl hio.out (flat_one _) (by unfold maxLen; (try simp only [List.length_append, List.length_cons, List.length_nil]); omega) (by (try simp only [List.length_append, List.length_cons, List.length_nil]); omega) HX.out.mw.below.size ?_
          intro v9 w9 hown9 hg9
          have H9 := Lib.hid (HX.out.appO (l := iops) (q := iops.length) rfl hown9 hg9)
          obtain ⟨a7, m7, c7, rfl⟩ := own_form hown9
          clear hown9 hg9
          obtain ⟨cbw9, fbw9, ltw9⟩ := H9.out.cells
          refine hK.out _ _ trivial (fun hHeld4 => ?_)
          clear hK K
          try simp only [Act.put, List.getElem_toArray, List.getElem_cons_zero, List.getElem_cons_succ, List.setIfInBounds_toArray, List.set_cons_zero, List.set_cons_succ]
          refine wpAnyH_take (i := 5) (v := ?v5x38) rfl (by kernel_rfl) (by kernel_rfl) (by kernel_rfl) (fun _ _ _ h => h) (Or.inl ⟨by rfl, ?hy5x38⟩) (by assumption) ?rest5x38
          case hy5x38 => (intro w hSw; (try dsimp only at hSw); go_simp; (try with_reducible rfl))
          try simp only [Act.put, List.getElem_toArray, List.getElem_cons_zero, List.getElem_cons_succ, List.setIfInBounds_toArray, List.set_cons_zero, List.set_cons_succ]
          refine wpAnyH_ready (rs := [6]) (by kernel_rfl) (by simp) ?_
          refine AllReadyH.cons rfl (fun K hK => ?_) AllReadyH.nil
          go_simp
          refine hK.out _ _ trivial (fun hHeld6 => ?_)
          clear hK K
          try simp only [Act.put, List.getElem_toArray, List.getElem_cons_zero, List.getElem_cons_succ, List.setIfInBounds_toArray, List.set_cons_zero, List.set_cons_succ]
          refine wpAnyH_done (by kernel_rfl) ?_ _
          go_wp2_with fail
          go_roundw
          case rel => exact ⟨i + 1, _, _, _, _, _, _, _, rfl, by omega, by omega, by simp; omega, by omega, by simp; omega, (H9.out.set 2 (.slice a7 m7 c7))⟩
          case measure => simp [intOf]; omega
        · go_simp
          refine (instruction_any w (w.heap.size + 1) sa n c k (w2.setCell ⟨wB.heap.size + 1, 2, none⟩ (.slice a8 m8 c8)).drew (H2.out.set 2 (.slice a8 m8 c8)).drew.mw (by omega)).mono ?_
          rintro e wI ⟨vi, iops, cwI, fI, k9, rfl, hlen, hINV⟩
          have HX := Lib.hid ((H2.out.set 2 (.slice a8 m8 c8)).drew.after hINV.grown hINV.mkr)
          have hkl := hINV.lo
          have hkh := hINV.hi
          have hio := hINV.own
          clear hINV
          obtain ⟨ai, ni, ci, rfl⟩ := own_form hio
          have hio := Lib.hid hio
          obtain ⟨cbI, fbI, ltI⟩ := HX.out.cells
          refine hK.out _ _ trivial (fun hHeld3 => ?_)
          clear hK K
          try simp only [Act.put, List.getElem_toArray, List.getElem_cons_zero, List.getElem_cons_succ, List.setIfInBounds_toArray, List.set_cons_zero, List.set_cons_succ]
          refine wpAnyH_ready (rs := [1]) (by kernel_rfl) (by simp) ?_
          refine AllReadyH.cons rfl (fun K hK => ?_) AllReadyH.nil
          go_simp
          refine hK.out _ _ trivial (fun hHeld1 => ?_)
          clear hK K
          try simp only [Act.put, List.getElem_toArray, List.getElem_cons_zero, List.getElem_cons_succ, List.setIfInBounds_toArray, List.set_cons_zero, List.set_cons_succ]
          refine wpAnyH_ready (rs := [4]) (by kernel_rfl) (by simp) ?_
          refine AllReadyH.cons rfl (fun K hK => ?_) AllReadyH.nil
          refine (if_pos (by rfl)).mpr ?_
          refine wp_append_own_row _ _ 36 rfl w.heap.size 45 i3 (.agg #[.int .i64 0, .int .i64 0, .int .i64 0, .int .i64 0, .int .u32 0]) 5 40 Try.underlying36 hi3 hz30 hz31 hz32 rfl (by decide) (.slice a8 m8 c8) (ops ++ [(20, 0, 0, 0, (i : Int))]).length _ rfl HX.out.blk.o (.slice ai ni ci) _ iops.length _ rfl hio.out (flat_one _) (by unfold maxLen; (try simp only [List.length_append, List.length_cons, List.length_nil]); omega) (by (try simp only [List.length_append, List.length_cons, List.length_nil]); omega) HX.out.mw.below.size ?_
          intro v9 w9 hown9 hg9
          have H9 := Lib.hid (HX.out.appO (l := iops) (q := iops.length) rfl hown9 hg9)
          obtain ⟨a7, m7, c7, rfl⟩ := own_form hown9
          clear hown9 hg9
          obtain ⟨cbw9, fbw9, ltw9⟩ := H9.out.cells
          refine hK.out _ _ trivial (fun hHeld4 => ?_)
          clear hK K
          try simp only [Act.put, List.getElem_toArray, List.getElem_cons_zero, List.getElem_cons_succ, List.setIfInBounds_toArray, List.set_cons_zero, List.set_cons_succ]
          refine wpAnyH_take (i := 5) (v := ?v5x39) rfl (by kernel_rfl) (by kernel_rfl) (by kernel_rfl) (fun _ _ _ h => h) (Or.inl ⟨by rfl, ?hy5x39⟩) (by assumption) ?rest5x39
          case hy5x39 => (intro w hSw; (try dsimp only at hSw); go_simp; (try with_reducible rfl))
          try simp only [Act.put, List.getElem_toArray, List.getElem_cons_zero, List.getElem_cons_succ, List.setIfInBounds_toArray, List.set_cons_zero, List.set_cons_succ]
          refine wpAnyH_ready (rs := [6]) (by kernel_rfl) (by simp) ?_
          refine AllReadyH.cons rfl (fun K hK => ?_) AllReadyH.nil
          go_simp
          refine hK.out _ _ trivial (fun hHeld6 => ?_)
          clear hK K
          try simp only [Act.put, List.getElem_toArray, List.getElem_cons_zero, List.getElem_cons_succ, List.setIfInBounds_toArray, List.set_cons_zero, List.set_cons_succ]
          refine wpAnyH_done (by kernel_rfl) ?_ _
          go_wp2_with fail
          go_roundw
          case rel => exact ⟨i + 1, _, _, _, _, _, _, _, rfl, by omega, by omega, by simp; omega, by omega, by simp; omega, (H9.out.set 2 (.slice a7 m7 c7))⟩
          case measure => simp [intOf]; omega

      · go_wp2_with (first | (at_builtin; (refine wpList_append_own_row rfl _ _ 35 rfl w.heap.size 24 i1 (.int .u32 0) 1 4 Try.underlying35 hi1 hz10 hz11 hz12 rfl (by decide) _ _ _ rfl (HI.out.alloc _).blk.a _ w.heap.size 1 _ rfl (lit24 wr HI.out.mw.below.size (by simp) _) (one24 _) (by unfold maxLen; (try simp only [List.length_append, List.length_cons, List.length_nil]); omega) (by (try simp only [List.length_append, List.length_cons, List.length_nil]); omega) (HI.out.alloc _).mw.below.size ?_); intro v9 w1 hown9 hg9; have H1 := Lib.hid ((HI.out.alloc _).appA hown9 hg9); obtain ⟨a9, m9, c9, rfl⟩ := own_form hown9; clear hown9 hg9; obtain ⟨cbw1, fbw1, ltw1⟩ := H1.out.cells; skip) | (at_builtin; (refine wpList_append_own_row rfl _ _ 36 rfl w.heap.size 45 i3 (.agg #[.int .i64 0, .int .i64 0, .int .i64 0, .int .i64 0, .int .u32 0]) 5 40 Try.underlying36 hi3 hz30 hz31 hz32 rfl (by decide) _ _ _ rfl ((H1.out.set 0 _).alloc _).blk.o _ w.heap.size 1 _ rfl (lit45 _ (H1.out.set 0 _).mw.below.size (by simp) [(20, 0, 0, 0, (i : Int))] (by simp)) (flat_one _) (by unfold maxLen; (try simp only [List.length_append, List.length_cons, List.length_nil]); omega) (by (try simp only [List.length_append, List.length_cons, List.length_nil]); omega) ((H1.out.set 0 _).alloc _).mw.below.size ?_); intro v9 w2 hown9 hg9; have H2 := Lib.hid (((H1.out.set 0 _).alloc _).appO (l := [(20, 0, 0, 0, (i : Int))]) (q := 1) rfl hown9 hg9); obtain ⟨a8, m8, c8, rfl⟩ := own_form hown9; clear hown9 hg9; obtain ⟨cbw2, fbw2, ltw2⟩ := H2.out.cells; skip))
        have HS := Lib.hid (H2.out.set 2 (.slice a8 m8 c8))
        refine (take_any w (w.heap.size + 1) sa n c k 4 _ HS.out.mw (by omega) (by omega) (by omega)).mono ?_
        rintro e wU ⟨u, rfl, u0, u1, T⟩
        have HU := Lib.hid (HS.out.took T)
        clear T

        by_cases hu0 : (0 : Int) < u
        · go_wp2_with fail
          obtain ⟨cbR, fbR, ltR⟩ := (HU.out).cells
          refine wp_region_held_drew (S := (fun _ => True)) (by kernel_rfl) trivial (fun hHeld => ?_)
          refine wpAnyH_take (i := 0) (v := ?v0x40) rfl (by kernel_rfl) (by kernel_rfl) (by kernel_rfl) (fun _ _ _ h => h) (Or.inl ⟨by rfl, ?hy0x40⟩) (by assumption) ?rest0x40
          case hy0x40 => (intro w hSw; (try dsimp only at hSw); go_simp; (try with_reducible rfl))
          try simp only [Act.put, List.getElem_toArray, List.getElem_cons_zero, List.getElem_cons_succ, List.setIfInBounds_toArray, List.set_cons_zero, List.set_cons_succ]
          refine wpAnyH_take (i := 2) (v := ?v2x41) rfl (by kernel_rfl) (by kernel_rfl) (by kernel_rfl) (fun _ _ _ h => h) (Or.inl ⟨by rfl, ?hy2x41⟩) (by assumption) ?rest2x41
          case hy2x41 => (intro w hSw; (try dsimp only at hSw); go_simp; (try with_reducible rfl))
          try simp only [Act.put, List.getElem_toArray, List.getElem_cons_zero, List.getElem_cons_succ, List.setIfInBounds_toArray, List.set_cons_zero, List.set_cons_succ]
          refine wpAnyH_ready (rs := [1, 3]) (by kernel_rfl) (by simp) ?_
          refine AllReadyH.cons rfl (fun K hK => ?_) (AllReadyH.cons rfl (fun K hK => ?_) AllReadyH.nil)
          · go_simp
            refine hK.out _ _ trivial (fun hHeld1 => ?_)
            clear hK K
            try simp only [Act.put, List.getElem_toArray, List.getElem_cons_zero, List.getElem_cons_succ, List.setIfInBounds_toArray, List.set_cons_zero, List.set_cons_succ]
            refine wpAnyH_ready (rs := [3]) (by kernel_rfl) (by simp) ?_
            refine AllReadyH.cons rfl (fun K hK => ?_) AllReadyH.nil
            go_simp
            refine (instruction_any w (w.heap.size + 1) sa n c (k + 1) wU.drew HU.out.drew.mw (by omega)).mono ?_
            rintro e wI ⟨vi, iops, cwI, fI, k9, rfl, hlen, hINV⟩
            have HX := Lib.hid (HU.out.drew.after hINV.grown hINV.mkr)
            have hkl := hINV.lo
            have hkh := hINV.hi
            have hio := hINV.own
            clear hINV
            obtain ⟨ai, ni, ci, rfl⟩ := own_form hio
            have hio := Lib.hid hio
            obtain ⟨cbI, fbI, ltI⟩ := HX.out.cells
            refine hK.out _ _ trivial (fun hHeld3 => ?_)
            clear hK K
            try simp only [Act.put, List.getElem_toArray, List.getElem_cons_zero, List.getElem_cons_succ, List.setIfInBounds_toArray, List.set_cons_zero, List.set_cons_succ]
            refine wpAnyH_ready (rs := [4]) (by kernel_rfl) (by simp) ?_
            refine AllReadyH.cons rfl (fun K hK => ?_) AllReadyH.nil
            refine (if_pos (by rfl)).mpr ?_
            refine wp_append_own_row _ _ 36 rfl w.heap.size 45 i3 (.agg #[.int .i64 0, .int .i64 0, .int .i64 0, .int .i64 0, .int .u32 0]) 5 40 Try.underlying36 hi3 hz30 hz31 hz32 rfl (by decide) (.slice a8 m8 c8) (ops ++ [(20, 0, 0, 0, (i : Int))]).length _ rfl HX.out.blk.o (.slice ai ni ci) _ iops.length _ rfl hio.out (flat_one _) (by unfold maxLen; (try simp only [List.length_append, List.length_cons, List.length_nil]); omega) (by (try simp only [List.length_append, List.length_cons, List.length_nil]); omega) HX.out.mw.below.size ?_
            intro v9 w9 hown9 hg9
            have H9 := Lib.hid (HX.out.appO (l := iops) (q := iops.length) rfl hown9 hg9)
            obtain ⟨a7, m7, c7, rfl⟩ := own_form hown9
            clear hown9 hg9
            obtain ⟨cbw9, fbw9, ltw9⟩ := H9.out.cells
            refine hK.out _ _ trivial (fun hHeld4 => ?_)
            clear hK K
            try simp only [Act.put, List.getElem_toArray, List.getElem_cons_zero, List.getElem_cons_succ, List.setIfInBounds_toArray, List.set_cons_zero, List.set_cons_succ]
            refine wpAnyH_take (i := 5) (v := ?v5x42) rfl (by kernel_rfl) (by kernel_rfl) (by kernel_rfl) (fun _ _ _ h => h) (Or.inl ⟨by rfl, ?hy5x42⟩) (by assumption) ?rest5x42
            case hy5x42 => (intro w hSw; (try dsimp only at hSw); go_simp; (try with_reducible rfl))
            try simp only [Act.put, List.getElem_toArray, List.getElem_cons_zero, List.getElem_cons_succ, List.setIfInBounds_toArray, List.set_cons_zero, List.set_cons_succ]
            refine wpAnyH_ready (rs := [6]) (by kernel_rfl) (by simp) ?_
            refine AllReadyH.cons rfl (fun K hK => ?_) AllReadyH.nil
            go_simp
            refine hK.out _ _ trivial (fun hHeld6 => ?_)
            clear hK K
            try simp only [Act.put, List.getElem_toArray, List.getElem_cons_zero, List.getElem_cons_succ, List.setIfInBounds_toArray, List.set_cons_zero, List.set_cons_succ]
            refine wpAnyH_done (by kernel_rfl) ?_ _
            go_wp2_with fail
            go_roundw
            case rel => exact ⟨i + 1, _, _, _, _, _, _, _, rfl, by omega, by omega, by simp; omega, by omega, by simp; omega, (H9.out.set 2 (.slice a7 m7 c7))⟩
            case measure => simp [intOf]; omega
          · go_simp
            refine (instruction_any w (w.heap.size + 1) sa n c (k + 1) wU.drew HU.out.drew.mw (by omega)).mono ?_
            rintro e wI ⟨vi, iops, cwI, fI, k9, rfl, hlen, hINV⟩
            have HX := Lib.hid (HU.out.drew.after hINV.grown hINV.mkr)
            have hkl := hINV.lo
            have hkh := hINV.hi
            have hio := hINV.own
            clear hINV
            obtain ⟨ai, ni, ci, rfl⟩ := own_form hio
            have hio := Lib.hid hio
            obtain ⟨cbI, fbI, ltI⟩ := HX.out.cells
            refine hK.out _ _ trivial (fun hHeld3 => ?_)
            clear hK K
            try simp only [Act.put, List.getElem_toArray, List.getElem_cons_zero, List.getElem_cons_succ, List.setIfInBounds_toArray, List.set_cons_zero, List.set_cons_succ]
            refine wpAnyH_ready (rs := [1]) (by kernel_rfl) (by simp) ?_
            refine AllReadyH.cons rfl (fun K hK => ?_) AllReadyH.nil
            go_simp
            refine hK.out _ _ trivial (fun hHeld1 => ?_)
            clear hK K
            try simp only [Act.put, List.getElem_toArray, List.getElem_cons_zero, List.getElem_cons_succ, List.setIfInBounds_toArray, List.set_cons_zero, List.set_cons_succ]
            refine wpAnyH_ready (rs := [4]) (by kernel_rfl) (by simp) ?_
            refine AllReadyH.cons rfl (fun K hK => ?_) AllReadyH.nil
            refine (if_pos (by rfl)).mpr ?_
            refine wp_append_own_row _ _ 36 rfl w.heap.size 45 i3 (.agg #[.int .i64 0, .int .i64 0, .int .i64 0, .int .i64 0, .int .u32 0]) 5 40 Try.underlying36 hi3 hz30 hz31 hz32 rfl (by decide) (.slice a8 m8 c8) (ops ++ [(20, 0, 0, 0, (i : Int))]).length _ rfl HX.out.blk.o (.slice ai ni ci) _ iops.length _ rfl hio.out (flat_one _) (by unfold maxLen; (try simp only [List.length_append, List.length_cons, List.length_nil]); omega) (by (try simp only [List.length_append, List.length_cons, List.length_nil]); omega) HX.out.mw.below.size ?_
            intro v9 w9 hown9 hg9
            have H9 := Lib.hid (HX.out.appO (l := iops) (q := iops.length) rfl hown9 hg9)
            obtain ⟨a7, m7, c7, rfl⟩ := own_form hown9
            clear hown9 hg9
            obtain ⟨cbw9, fbw9, ltw9⟩ := H9.out.cells
            refine hK.out _ _ trivial (fun hHeld4 => ?_)
            clear hK K
            try simp only [Act.put, List.getElem_toArray, List.getElem_cons_zero, List.getElem_cons_succ, List.setIfInBounds_toArray, List.set_cons_zero, List.set_cons_succ]
            refine wpAnyH_take (i := 5) (v := ?v5x43) rfl (by kernel_rfl) (by kernel_rfl) (by kernel_rfl) (fun _ _ _ h => h) (Or.inl ⟨by rfl, ?hy5x43⟩) (by assumption) ?rest5x43
            case hy5x43 => (intro w hSw; (try dsimp only at hSw); go_simp; (try with_reducible rfl))
            try simp only [Act.put, List.getElem_toArray, List.getElem_cons_zero, List.getElem_cons_succ, List.setIfInBounds_toArray, List.set_cons_zero, List.set_cons_succ]
            refine wpAnyH_ready (rs := [6]) (by kernel_rfl) (by simp) ?_
            refine AllReadyH.cons rfl (fun K hK => ?_) AllReadyH.nil
            go_simp
            refine hK.out _ _ trivial (fun hHeld6 => ?_)
            clear hK K
            try simp only [Act.put, List.getElem_toArray, List.getElem_cons_zero, List.getElem_cons_succ, List.setIfInBounds_toArray, List.set_cons_zero, List.set_cons_succ]
            refine wpAnyH_done (by kernel_rfl) ?_ _
            go_wp2_with fail
            go_roundw
            case rel => exact ⟨i + 1, _, _, _, _, _, _, _, rfl, by omega, by omega, by simp; omega, by omega, by simp; omega, (H9.out.set 2 (.slice a7 m7 c7))⟩
            case measure => simp [intOf]; omega

        · first | done | go_wp2_with fail
          go_roundw
          case rel => exact ⟨i + 1, _, _, _, _, _, _, _, rfl, by omega, by omega, by simp; omega, by omega, by simp; omega, HU.out⟩
          case measure => simp [intOf]; omega

    · go_wp2_with fail
      refine (take_any w (w.heap.size + 1) sa n c k 128 _ HI.out.mw (by omega) (by omega) (by omega)).mono ?_
      rintro e wE ⟨e', rfl, e'0, e'1, T⟩
      have HE := Lib.hid (HI.out.took T)
      clear T
      go_wp2_with fail
      refine (take_any w (w.heap.size + 1) sa n c (k + 1) 6 _ HE.out.mw (by omega) (by omega) (by omega)).mono ?_
      rintro e wF ⟨f, rfl, f0, f1, T⟩
      have HF := Lib.hid (HE.out.took T)
      clear T
      obtain ⟨cbF, fbF, ltF⟩ := HF.out.cells

      by_cases f0' : f = 0
      · subst f0'
        go_wp2_with (first | (at_builtin; (refine wpList_append_own_row rfl _ _ 36 rfl w.heap.size 45 i3 (.agg #[.int .i64 0, .int .i64 0, .int .i64 0, .int .i64 0, .int .u32 0]) 5 40 Try.underlying36 hi3 hz30 hz31 hz32 rfl (by decide) _ _ _ rfl (HF.out.alloc _).blk.o _ w.heap.size 2 _ rfl (lit45 _ HF.out.mw.below.size (by simp) [(20, 0, 0, 0, _), (22, 0, 0, 0, 0)] (by simp)) (flat_one _) (by unfold maxLen; (try simp only [List.length_append, List.length_cons, List.length_nil]); omega) (by (try simp only [List.length_append, List.length_cons, List.length_nil]); omega) (HF.out.alloc _).mw.below.size ?_); intro v9 w1 hown9 hg9; have H1 := Lib.hid ((HF.out.alloc _).appO (l := [(20, 0, 0, 0, _), (22, 0, 0, 0, 0)]) (q := 2) rfl hown9 hg9); obtain ⟨a8, m8, c8, rfl⟩ := own_form hown9; clear hown9 hg9; obtain ⟨cbw1, fbw1, ltw1⟩ := H1.out.cells; obtain ⟨crH1, frH1, ne1H1, ne2H1⟩ := H1.out.rcells; skip) | (at_builtin; (refine wpList_append_own_row rfl _ _ 35 rfl w.heap.size 24 i1 (.int .u32 0) 1 4 Try.underlying35 hi1 hz10 hz11 hz12 rfl (by decide) _ _ _ rfl ((Lib.hid (H1.out.set 2 (.slice a8 m8 c8))).out.alloc _).blk.a _ w.heap.size 1 _ rfl (lit24 _ (Lib.hid (H1.out.set 2 (.slice a8 m8 c8))).out.mw.below.size (by simp) _) (one24 _) (by unfold maxLen; (try simp only [List.length_append, List.length_cons, List.length_nil]); omega) (by (try simp only [List.length_append, List.length_cons, List.length_nil]); omega) ((Lib.hid (H1.out.set 2 (.slice a8 m8 c8))).out.alloc _).mw.below.size ?_); intro v9 w2 hown9 hg9; have H2 := Lib.hid (((Lib.hid (H1.out.set 2 (.slice a8 m8 c8))).out.alloc _).appA hown9 hg9); obtain ⟨a9, m9, c9, rfl⟩ := own_form hown9; clear hown9 hg9; obtain ⟨cbw2, fbw2, ltw2⟩ := H2.out.cells; obtain ⟨crH2, frH2, ne1H2, ne2H2⟩ := H2.out.rcells; skip))
        have HZ := H2.out.set 0 (.slice a9 m9 c9)
        obtain ⟨ecs, eblk, ebel⟩ := fin_res HZ.mw.below HZ.hr rfl HZ.blk
        refine bodyPost_ret_by (results_blk (n := 3) rfl _ Try.underlying38 rfl (by kernel_rfl) (by omega) _ _ _ rfl _ (by rw [ecs]) (by rw [ecs]; exact Nat.le_refl 3)) rfl ?_
        exact ⟨_, _, _, _, _, _, rfl, eblk, ebel, by (try simp); omega, by (try simp); omega, by (try simp); omega⟩

      · by_cases f1' : f = 1
        · subst f1'
          go_wp2_with fail
          obtain ⟨cbR, fbR, ltR⟩ := (HF.out).cells
          refine wp_region_held_drew (S := (fun _ => True)) (by kernel_rfl) trivial (fun hHeld => ?_)
          refine wpAnyH_take (i := 0) (v := ?v0x1) rfl (by kernel_rfl) (by kernel_rfl) (by kernel_rfl) (fun _ _ _ h => h) (Or.inl ⟨by rfl, ?hy0x1⟩) (by assumption) ?rest0x1
          case hy0x1 => (intro w hSw; (try dsimp only at hSw); go_simp; (try with_reducible rfl))
          try simp only [Act.put, List.getElem_toArray, List.getElem_cons_zero, List.getElem_cons_succ, List.setIfInBounds_toArray, List.set_cons_zero, List.set_cons_succ]
          refine wpAnyH_take (i := 2) (v := ?v2x2) rfl (by kernel_rfl) (by kernel_rfl) (by kernel_rfl) (fun _ _ _ h => h) (Or.inl ⟨by rfl, ?hy2x2⟩) (by assumption) ?rest2x2
          case hy2x2 => (intro w hSw; (try dsimp only at hSw); go_simp; (try with_reducible rfl))
          try simp only [Act.put, List.getElem_toArray, List.getElem_cons_zero, List.getElem_cons_succ, List.setIfInBounds_toArray, List.set_cons_zero, List.set_cons_succ]
          refine wpAnyH_ready (rs := [1, 3]) (by kernel_rfl) (by simp) ?_
          refine AllReadyH.cons rfl (fun K hK => ?_) (AllReadyH.cons rfl (fun K hK => ?_) AllReadyH.nil)
          · go_simp
            refine hK.out _ _ trivial (fun hHeld1 => ?_)
            clear hK K
            try simp only [Act.put, List.getElem_toArray, List.getElem_cons_zero, List.getElem_cons_succ, List.setIfInBounds_toArray, List.set_cons_zero, List.set_cons_succ]
            refine wpAnyH_ready (rs := [3]) (by kernel_rfl) (by simp) ?_
            refine AllReadyH.cons rfl (fun K hK => ?_) AllReadyH.nil
            go_simp
            refine (take_any w (w.heap.size + 1) sa n c (k + 1 + 1) 19 wF.drew HF.out.drew.mw (by omega) (by omega) (by omega)).mono ?_
            rintro e wT ⟨z, rfl, z0, z1, T⟩
            have HT := Lib.hid (HF.out.drew.took T)
            clear T
            obtain ⟨cbT, fbT, ltT⟩ := HT.out.cells
            refine hK.out _ _ trivial (fun hHeld3 => ?_)
            clear hK K
            try simp only [Act.put, List.getElem_toArray, List.getElem_cons_zero, List.getElem_cons_succ, List.setIfInBounds_toArray, List.set_cons_zero, List.set_cons_succ]
            refine wpAnyH_take (i := 4) (v := ?v4x3) rfl (by kernel_rfl) (by kernel_rfl) (by kernel_rfl) (fun _ _ _ h => h) (Or.inl ⟨by rfl, ?hy4x3⟩) (by assumption) ?rest4x3
            case hy4x3 => (intro w hSw; (try dsimp only at hSw); go_simp; (try with_reducible rfl))
            try simp only [Act.put, List.getElem_toArray, List.getElem_cons_zero, List.getElem_cons_succ, List.setIfInBounds_toArray, List.set_cons_zero, List.set_cons_succ]
            refine wpAnyH_ready (rs := [5]) (by kernel_rfl) (by simp) ?_
            refine AllReadyH.cons rfl (fun K hK => ?_) AllReadyH.nil
            go_simp
            refine hK.out _ _ trivial (fun hHeld5 => ?_)
            clear hK K
            try simp only [Act.put, List.getElem_toArray, List.getElem_cons_zero, List.getElem_cons_succ, List.setIfInBounds_toArray, List.set_cons_zero, List.set_cons_succ]
            refine wpAnyH_ready (rs := [6]) (by kernel_rfl) (by simp) ?_
            refine AllReadyH.cons rfl (fun K hK => ?_) AllReadyH.nil
            refine (if_pos (by rfl)).mpr ?_
            refine wp_append_own_row _ _ 36 rfl w.heap.size 45 i3 (.agg #[.int .i64 0, .int .i64 0, .int .i64 0, .int .i64 0, .int .u32 0]) 5 40 Try.underlying36 hi3 hz30 hz31 hz32 rfl (by decide) (.slice a6 n6 c6) ops.length _ rfl (HT.out.alloc _).blk.o (.slice (some ⟨wT.heap.size, 0, none⟩) 1 1) _ 1 _ rfl (lit45 wT HT.out.mw.below.size (by simp) [(25, 0, z, 0, 0)] (by simp)) (flat_one _) (by unfold maxLen; (try simp only [List.length_append, List.length_cons, List.length_nil]); omega) (by (try simp only [List.length_append, List.length_cons, List.length_nil]); omega) (HT.out.alloc _).mw.below.size ?_
            intro v9 w9 hown9 hg9
            have H9 := Lib.hid ((HT.out.alloc _).appO (l := [(25, 0, z, 0, 0)]) (q := 1) rfl hown9 hg9)
            obtain ⟨a7, m7, c7, rfl⟩ := own_form hown9
            clear hown9 hg9
            obtain ⟨cbw9, fbw9, ltw9⟩ := H9.out.cells
            refine hK.out _ _ trivial (fun hHeld6 => ?_)
            clear hK K
            try simp only [Act.put, List.getElem_toArray, List.getElem_cons_zero, List.getElem_cons_succ, List.setIfInBounds_toArray, List.set_cons_zero, List.set_cons_succ]
            refine wpAnyH_take (i := 7) (v := ?v7x4) rfl (by kernel_rfl) (by kernel_rfl) (by kernel_rfl) (fun _ _ _ h => h) (Or.inl ⟨by rfl, ?hy7x4⟩) (by assumption) ?rest7x4
            case hy7x4 => (intro w hSw; (try dsimp only at hSw); go_simp; (try with_reducible rfl))
            try simp only [Act.put, List.getElem_toArray, List.getElem_cons_zero, List.getElem_cons_succ, List.setIfInBounds_toArray, List.set_cons_zero, List.set_cons_succ]
            refine wpAnyH_ready (rs := [8]) (by kernel_rfl) (by simp) ?_
            refine AllReadyH.cons rfl (fun K hK => ?_) AllReadyH.nil
            go_simp
            refine hK.out _ _ trivial (fun hHeld8 => ?_)
            clear hK K
            try simp only [Act.put, List.getElem_toArray, List.getElem_cons_zero, List.getElem_cons_succ, List.setIfInBounds_toArray, List.set_cons_zero, List.set_cons_succ]
            refine wpAnyH_done (by kernel_rfl) ?_ _
            obtain ⟨cbY, fbY, ltY⟩ := (H9.out.set 2 (.slice a7 m7 c7)).cells
            obtain ⟨crY, frY, ne1, ne2⟩ := (H9.out.set 2 (.slice a7 m7 c7)).rcells
            go_wp2_with fail
            have HZ := H9.out.set 2 (.slice a7 m7 c7)
            obtain ⟨ecs, eblk, ebel⟩ := fin_res HZ.mw.below HZ.hr rfl HZ.blk
            refine bodyPost_ret_by (results_blk (n := 3) rfl _ Try.underlying38 rfl (by kernel_rfl) (by omega) _ _ _ rfl _ (by rw [ecs]) (by rw [ecs]; exact Nat.le_refl 3)) rfl ?_
            exact ⟨_, _, _, _, _, _, rfl, eblk, ebel, by (try simp); omega, by (try simp); omega, by (try simp); omega⟩
          · go_simp
            refine (take_any w (w.heap.size + 1) sa n c (k + 1 + 1) 19 wF.drew HF.out.drew.mw (by omega) (by omega) (by omega)).mono ?_
            rintro e wT ⟨z, rfl, z0, z1, T⟩
            have HT := Lib.hid (HF.out.drew.took T)
            clear T
            obtain ⟨cbT, fbT, ltT⟩ := HT.out.cells
            refine hK.out _ _ trivial (fun hHeld3 => ?_)
            clear hK K
            try simp only [Act.put, List.getElem_toArray, List.getElem_cons_zero, List.getElem_cons_succ, List.setIfInBounds_toArray, List.set_cons_zero, List.set_cons_succ]
            refine wpAnyH_take (i := 4) (v := ?v4x5) rfl (by kernel_rfl) (by kernel_rfl) (by kernel_rfl) (fun _ _ _ h => h) (Or.inl ⟨by rfl, ?hy4x5⟩) (by assumption) ?rest4x5
            case hy4x5 => (intro w hSw; (try dsimp only at hSw); go_simp; (try with_reducible rfl))
            try simp only [Act.put, List.getElem_toArray, List.getElem_cons_zero, List.getElem_cons_succ, List.setIfInBounds_toArray, List.set_cons_zero, List.set_cons_succ]
            refine wpAnyH_ready (rs := [1, 5]) (by kernel_rfl) (by simp) ?_
            refine AllReadyH.cons rfl (fun K hK => ?_) (AllReadyH.cons rfl (fun K hK => ?_) AllReadyH.nil)
            · go_simp
              refine hK.out _ _ trivial (fun hHeld1 => ?_)
              clear hK K
              try simp only [Act.put, List.getElem_toArray, List.getElem_cons_zero, List.getElem_cons_succ, List.setIfInBounds_toArray, List.set_cons_zero, List.set_cons_succ]
              refine wpAnyH_ready (rs := [5]) (by kernel_rfl) (by simp) ?_
              refine AllReadyH.cons rfl (fun K hK => ?_) AllReadyH.nil
              go_simp
              refine hK.out _ _ trivial (fun hHeld5 => ?_)
              clear hK K
              try simp only [Act.put, List.getElem_toArray, List.getElem_cons_zero, List.getElem_cons_succ, List.setIfInBounds_toArray, List.set_cons_zero, List.set_cons_succ]
              refine wpAnyH_ready (rs := [6]) (by kernel_rfl) (by simp) ?_
              refine AllReadyH.cons rfl (fun K hK => ?_) AllReadyH.nil
              refine (if_pos (by rfl)).mpr ?_
              refine wp_append_own_row _ _ 36 rfl w.heap.size 45 i3 (.agg #[.int .i64 0, .int .i64 0, .int .i64 0, .int .i64 0, .int .u32 0]) 5 40 Try.underlying36 hi3 hz30 hz31 hz32 rfl (by decide) (.slice a6 n6 c6) ops.length _ rfl (HT.out.alloc _).blk.o (.slice (some ⟨wT.heap.size, 0, none⟩) 1 1) _ 1 _ rfl (lit45 wT HT.out.mw.below.size (by simp) [(25, 0, z, 0, 0)] (by simp)) (flat_one _) (by unfold maxLen; (try simp only [List.length_append, List.length_cons, List.length_nil]); omega) (by (try simp only [List.length_append, List.length_cons, List.length_nil]); omega) (HT.out.alloc _).mw.below.size ?_
              intro v9 w9 hown9 hg9
              have H9 := Lib.hid ((HT.out.alloc _).appO (l := [(25, 0, z, 0, 0)]) (q := 1) rfl hown9 hg9)
              obtain ⟨a7, m7, c7, rfl⟩ := own_form hown9
              clear hown9 hg9
              obtain ⟨cbw9, fbw9, ltw9⟩ := H9.out.cells
              refine hK.out _ _ trivial (fun hHeld6 => ?_)
              clear hK K
              try simp only [Act.put, List.getElem_toArray, List.getElem_cons_zero, List.getElem_cons_succ, List.setIfInBounds_toArray, List.set_cons_zero, List.set_cons_succ]
              refine wpAnyH_take (i := 7) (v := ?v7x6) rfl (by kernel_rfl) (by kernel_rfl) (by kernel_rfl) (fun _ _ _ h => h) (Or.inl ⟨by rfl, ?hy7x6⟩) (by assumption) ?rest7x6
              case hy7x6 => (intro w hSw; (try dsimp only at hSw); go_simp; (try with_reducible rfl))
              try simp only [Act.put, List.getElem_toArray, List.getElem_cons_zero, List.getElem_cons_succ, List.setIfInBounds_toArray, List.set_cons_zero, List.set_cons_succ]
              refine wpAnyH_ready (rs := [8]) (by kernel_rfl) (by simp) ?_
              refine AllReadyH.cons rfl (fun K hK => ?_) AllReadyH.nil
              go_simp
              refine hK.out _ _ trivial (fun hHeld8 => ?_)
              clear hK K
              try simp only [Act.put, List.getElem_toArray, List.getElem_cons_zero, List.getElem_cons_succ, List.setIfInBounds_toArray, List.set_cons_zero, List.set_cons_succ]
              refine wpAnyH_done (by kernel_rfl) ?_ _
              obtain ⟨cbY, fbY, ltY⟩ := (H9.out.set 2 (.slice a7 m7 c7)).cells
              obtain ⟨crY, frY, ne1, ne2⟩ := (H9.out.set 2 (.slice a7 m7 c7)).rcells
              go_wp2_with fail
              have HZ := H9.out.set 2 (.slice a7 m7 c7)
              obtain ⟨ecs, eblk, ebel⟩ := fin_res HZ.mw.below HZ.hr rfl HZ.blk
              refine bodyPost_ret_by (results_blk (n := 3) rfl _ Try.underlying38 rfl (by kernel_rfl) (by omega) _ _ _ rfl _ (by rw [ecs]) (by rw [ecs]; exact Nat.le_refl 3)) rfl ?_
              exact ⟨_, _, _, _, _, _, rfl, eblk, ebel, by (try simp); omega, by (try simp); omega, by (try simp); omega⟩
            · go_simp
              refine hK.out _ _ trivial (fun hHeld5 => ?_)
              clear hK K
              try simp only [Act.put, List.getElem_toArray, List.getElem_cons_zero, List.getElem_cons_succ, List.setIfInBounds_toArray, List.set_cons_zero, List.set_cons_succ]
              refine wpAnyH_ready (rs := [1]) (by kernel_rfl) (by simp) ?_
              refine AllReadyH.cons rfl (fun K hK => ?_) AllReadyH.nil
              go_simp
              refine hK.out _ _ trivial (fun hHeld1 => ?_)
              clear hK K
              try simp only [Act.put, List.getElem_toArray, List.getElem_cons_zero, List.getElem_cons_succ, List.setIfInBounds_toArray, List.set_cons_zero, List.set_cons_succ]
              refine wpAnyH_ready (rs := [6]) (by kernel_rfl) (by simp) ?_
              refine AllReadyH.cons rfl (fun K hK => ?_) AllReadyH.nil
              refine (if_pos (by rfl)).mpr ?_
              refine wp_append_own_row _ _ 36 rfl w.heap.size 45 i3 (.agg #[.int .i64 0, .int .i64 0, .int .i64 0, .int .i64 0, .int .u32 0]) 5 40 Try.underlying36 hi3 hz30 hz31 hz32 rfl (by decide) (.slice a6 n6 c6) ops.length _ rfl (HT.out.alloc _).blk.o (.slice (some ⟨wT.heap.size, 0, none⟩) 1 1) _ 1 _ rfl (lit45 wT HT.out.mw.below.size (by simp) [(25, 0, z, 0, 0)] (by simp)) (flat_one _) (by unfold maxLen; (try simp only [List.length_append, List.length_cons, List.length_nil]); omega) (by (try simp only [List.length_append, List.length_cons, List.length_nil]); omega) (HT.out.alloc _).mw.below.size ?_
              intro v9 w9 hown9 hg9
              have H9 := Lib.hid ((HT.out.alloc _).appO (l := [(25, 0, z, 0, 0)]) (q := 1) rfl hown9 hg9)
              obtain ⟨a7, m7, c7, rfl⟩ := own_form hown9
              clear hown9 hg9
              obtain ⟨cbw9, fbw9, ltw9⟩ := H9.out.cells
              refine hK.out _ _ trivial (fun hHeld6 => ?_)
              clear hK K
              try simp only [Act.put, List.getElem_toArray, List.getElem_cons_zero, List.getElem_cons_succ, List.setIfInBounds_toArray, List.set_cons_zero, List.set_cons_succ]
              refine wpAnyH_take (i := 7) (v := ?v7x7) rfl (by kernel_rfl) (by kernel_rfl) (by kernel_rfl) (fun _ _ _ h => h) (Or.inl ⟨by rfl, ?hy7x7⟩) (by assumption) ?rest7x7
              case hy7x7 => (intro w hSw; (try dsimp only at hSw); go_simp; (try with_reducible rfl))
              try simp only [Act.put, List.getElem_toArray, List.getElem_cons_zero, List.getElem_cons_succ, List.setIfInBounds_toArray, List.set_cons_zero, List.set_cons_succ]
              refine wpAnyH_ready (rs := [8]) (by kernel_rfl) (by simp) ?_
              refine AllReadyH.cons rfl (fun K hK => ?_) AllReadyH.nil
              go_simp
              refine hK.out _ _ trivial (fun hHeld8 => ?_)
              clear hK K
              try simp only [Act.put, List.getElem_toArray, List.getElem_cons_zero, List.getElem_cons_succ, List.setIfInBounds_toArray, List.set_cons_zero, List.set_cons_succ]
              refine wpAnyH_done (by kernel_rfl) ?_ _
              obtain ⟨cbY, fbY, ltY⟩ := (H9.out.set 2 (.slice a7 m7 c7)).cells
              obtain ⟨crY, frY, ne1, ne2⟩ := (H9.out.set 2 (.slice a7 m7 c7)).rcells
              go_wp2_with fail
              have HZ := H9.out.set 2 (.slice a7 m7 c7)
              obtain ⟨ecs, eblk, ebel⟩ := fin_res HZ.mw.below HZ.hr rfl HZ.blk
              refine bodyPost_ret_by (results_blk (n := 3) rfl _ Try.underlying38 rfl (by kernel_rfl) (by omega) _ _ _ rfl _ (by rw [ecs]) (by rw [ecs]; exact Nat.le_refl 3)) rfl ?_
              exact ⟨_, _, _, _, _, _, rfl, eblk, ebel, by (try simp); omega, by (try simp); omega, by (try simp); omega⟩

        · by_cases f2' : f = 2
          · subst f2'
            go_wp2_with fail
            obtain ⟨cbR, fbR, ltR⟩ := (HF.out).cells
            refine wp_region_held_drew (S := (fun _ => True)) (by kernel_rfl) trivial (fun hHeld => ?_)
            refine wpAnyH_take (i := 0) (v := ?v0x8) rfl (by kernel_rfl) (by kernel_rfl) (by kernel_rfl) (fun _ _ _ h => h) (Or.inl ⟨by rfl, ?hy0x8⟩) (by assumption) ?rest0x8
            case hy0x8 => (intro w hSw; (try dsimp only at hSw); go_simp; (try with_reducible rfl))
            try simp only [Act.put, List.getElem_toArray, List.getElem_cons_zero, List.getElem_cons_succ, List.setIfInBounds_toArray, List.set_cons_zero, List.set_cons_succ]
            refine wpAnyH_take (i := 2) (v := ?v2x9) rfl (by kernel_rfl) (by kernel_rfl) (by kernel_rfl) (fun _ _ _ h => h) (Or.inl ⟨by rfl, ?hy2x9⟩) (by assumption) ?rest2x9
            case hy2x9 => (intro w hSw; (try dsimp only at hSw); go_simp; (try with_reducible rfl))
            try simp only [Act.put, List.getElem_toArray, List.getElem_cons_zero, List.getElem_cons_succ, List.setIfInBounds_toArray, List.set_cons_zero, List.set_cons_succ]
            refine wpAnyH_take (i := 4) (v := ?v4x10) rfl (by kernel_rfl) (by kernel_rfl) (by kernel_rfl) (fun _ _ _ h => h) (Or.inl ⟨by rfl, ?hy4x10⟩) (by assumption) ?rest4x10
            case hy4x10 => (intro w hSw; (try dsimp only at hSw); go_simp; (try with_reducible rfl))
            try simp only [Act.put, List.getElem_toArray, List.getElem_cons_zero, List.getElem_cons_succ, List.setIfInBounds_toArray, List.set_cons_zero, List.set_cons_succ]
            refine wpAnyH_take (i := 6) (v := ?v6x11) rfl (by kernel_rfl) (by kernel_rfl) (by kernel_rfl) (fun _ _ _ h => h) (Or.inl ⟨by rfl, ?hy6x11⟩) (by assumption) ?rest6x11
            case hy6x11 => (intro w hSw; (try dsimp only at hSw); go_simp; (try with_reducible rfl))
            try simp only [Act.put, List.getElem_toArray, List.getElem_cons_zero, List.getElem_cons_succ, List.setIfInBounds_toArray, List.set_cons_zero, List.set_cons_succ]
            refine wpAnyH_take (i := 7) (v := ?v7x12) rfl (by kernel_rfl) (by kernel_rfl) (by kernel_rfl) (fun _ _ _ h => h) (Or.inl ⟨by rfl, ?hy7x12⟩) (by assumption) ?rest7x12
            case hy7x12 => (intro w hSw; (try dsimp only at hSw); go_simp; (try with_reducible rfl))
            try simp only [Act.put, List.getElem_toArray, List.getElem_cons_zero, List.getElem_cons_succ, List.setIfInBounds_toArray, List.set_cons_zero, List.set_cons_succ]
            refine wpAnyH_take (i := 8) (v := ?v8x13) rfl (by kernel_rfl) (by kernel_rfl) (by kernel_rfl) (fun _ _ _ h => h) (Or.inl ⟨by rfl, ?hy8x13⟩) (by assumption) ?rest8x13
            case hy8x13 => (intro w hSw; (try dsimp only at hSw); go_simp; (try with_reducible rfl))
            try simp only [Act.put, List.getElem_toArray, List.getElem_cons_zero, List.getElem_cons_succ, List.setIfInBounds_toArray, List.set_cons_zero, List.set_cons_succ]
            refine wpAnyH_take (i := 9) (v := ?v9x14) rfl (by kernel_rfl) (by kernel_rfl) (by kernel_rfl) (fun _ _ _ h => h) (Or.inl ⟨by rfl, ?hy9x14⟩) (by assumption) ?rest9x14
            case hy9x14 => (intro w hSw; (try dsimp only at hSw); go_simp; (try with_reducible rfl))
            try simp only [Act.put, List.getElem_toArray, List.getElem_cons_zero, List.getElem_cons_succ, List.setIfInBounds_toArray, List.set_cons_zero, List.set_cons_succ]
            refine wpAnyH_take (i := 10) (v := ?v10x15) rfl (by kernel_rfl) (by kernel_rfl) (by kernel_rfl) (fun _ _ _ h => h) (Or.inl ⟨by rfl, ?hy10x15⟩) (by assumption) ?rest10x15
            case hy10x15 => (intro w hSw; (try dsimp only at hSw); go_simp; (try with_reducible rfl))
            try simp only [Act.put, List.getElem_toArray, List.getElem_cons_zero, List.getElem_cons_succ, List.setIfInBounds_toArray, List.set_cons_zero, List.set_cons_succ]
            refine wpAnyH_take (i := 11) (v := ?v11x16) rfl (by kernel_rfl) (by kernel_rfl) (by kernel_rfl) (fun _ _ _ h => h) (Or.inl ⟨by rfl, ?hy11x16⟩) (by assumption) ?rest11x16
            case hy11x16 => (intro w hSw; (try dsimp only at hSw); go_simp; (try with_reducible rfl))
            try simp only [Act.put, List.getElem_toArray, List.getElem_cons_zero, List.getElem_cons_succ, List.setIfInBounds_toArray, List.set_cons_zero, List.set_cons_succ]
            refine wpAnyH_ready (rs := [1, 3]) (by kernel_rfl) (by simp) ?_
            refine AllReadyH.cons rfl (fun K hK => ?_) (AllReadyH.cons rfl (fun K hK => ?_) AllReadyH.nil)
            · go_simp
              refine hK.out _ _ trivial (fun hHeld1 => ?_)
              clear hK K
              try simp only [Act.put, List.getElem_toArray, List.getElem_cons_zero, List.getElem_cons_succ, List.setIfInBounds_toArray, List.set_cons_zero, List.set_cons_succ]
              refine wpAnyH_ready (rs := [3]) (by kernel_rfl) (by simp) ?_
              refine AllReadyH.cons rfl (fun K hK => ?_) AllReadyH.nil
              go_simp
              refine (take_any w (w.heap.size + 1) sa n c (k + 1 + 1) 19 wF.drew HF.out.drew.mw (by omega) (by omega) (by omega)).mono ?_
              rintro e wT ⟨z, rfl, z0, z1, T⟩
              have HT := Lib.hid (HF.out.drew.took T)
              clear T
              obtain ⟨cbT, fbT, ltT⟩ := HT.out.cells
              refine hK.out _ _ trivial (fun hHeld3 => ?_)
              clear hK K
              try simp only [Act.put, List.getElem_toArray, List.getElem_cons_zero, List.getElem_cons_succ, List.setIfInBounds_toArray, List.set_cons_zero, List.set_cons_succ]
              refine wpAnyH_take (i := 5) (v := ?v5x17) rfl (by kernel_rfl) (by kernel_rfl) (by kernel_rfl) (fun _ _ _ h => h) (Or.inl ⟨by rfl, ?hy5x17⟩) (by assumption) ?rest5x17
              case hy5x17 => (intro w hSw; (try dsimp only at hSw); go_simp; (try with_reducible rfl))
              try simp only [Act.put, List.getElem_toArray, List.getElem_cons_zero, List.getElem_cons_succ, List.setIfInBounds_toArray, List.set_cons_zero, List.set_cons_succ]
              refine wpAnyH_ready (rs := [12]) (by kernel_rfl) (by simp) ?_
              refine AllReadyH.cons rfl (fun K hK => ?_) AllReadyH.nil
              go_simp
              refine hK.out _ _ trivial (fun hHeld12 => ?_)
              clear hK K
              try simp only [Act.put, List.getElem_toArray, List.getElem_cons_zero, List.getElem_cons_succ, List.setIfInBounds_toArray, List.set_cons_zero, List.set_cons_succ]
              refine wpAnyH_ready (rs := [13]) (by kernel_rfl) (by simp) ?_
              refine AllReadyH.cons rfl (fun K hK => ?_) AllReadyH.nil
              refine (if_pos (by rfl)).mpr ?_
              refine wp_append_own_row _ _ 36 rfl w.heap.size 45 i3 (.agg #[.int .i64 0, .int .i64 0, .int .i64 0, .int .i64 0, .int .u32 0]) 5 40 Try.underlying36 hi3 hz30 hz31 hz32 rfl (by decide) (.slice a6 n6 c6) ops.length _ rfl (HT.out.alloc _).blk.o (.slice (some ⟨wT.heap.size, 0, none⟩) 2 2) _ 2 _ rfl (lit45 wT HT.out.mw.below.size (by simp) [(23, 0, z, 0, _), (24, 0, 0, 0, _)] (by simp)) (flat_one _) (by unfold maxLen; (try simp only [List.length_append, List.length_cons, List.length_nil]); omega) (by (try simp only [List.length_append, List.length_cons, List.length_nil]); omega) (HT.out.alloc _).mw.below.size ?_
              intro v9 w9 hown9 hg9
              have H9 := Lib.hid ((HT.out.alloc _).appO (l := [(23, 0, z, 0, _), (24, 0, 0, 0, _)]) (q := 2) rfl hown9 hg9)
              obtain ⟨a7, m7, c7, rfl⟩ := own_form hown9
              clear hown9 hg9
              obtain ⟨cbw9, fbw9, ltw9⟩ := H9.out.cells
              refine hK.out _ _ trivial (fun hHeld13 => ?_)
              clear hK K
              try simp only [Act.put, List.getElem_toArray, List.getElem_cons_zero, List.getElem_cons_succ, List.setIfInBounds_toArray, List.set_cons_zero, List.set_cons_succ]
              refine wpAnyH_take (i := 14) (v := ?v14x18) rfl (by kernel_rfl) (by kernel_rfl) (by kernel_rfl) (fun _ _ _ h => h) (Or.inl ⟨by rfl, ?hy14x18⟩) (by assumption) ?rest14x18
              case hy14x18 => (intro w hSw; (try dsimp only at hSw); go_simp; (try with_reducible rfl))
              try simp only [Act.put, List.getElem_toArray, List.getElem_cons_zero, List.getElem_cons_succ, List.setIfInBounds_toArray, List.set_cons_zero, List.set_cons_succ]
              refine wpAnyH_ready (rs := [15]) (by kernel_rfl) (by simp) ?_
              refine AllReadyH.cons rfl (fun K hK => ?_) AllReadyH.nil
              go_simp
              refine hK.out _ _ trivial (fun hHeld15 => ?_)
              clear hK K
              try simp only [Act.put, List.getElem_toArray, List.getElem_cons_zero, List.getElem_cons_succ, List.setIfInBounds_toArray, List.set_cons_zero, List.set_cons_succ]
              refine wpAnyH_done (by kernel_rfl) ?_ _
              obtain ⟨cbY, fbY, ltY⟩ := (H9.out.set 2 (.slice a7 m7 c7)).cells
              obtain ⟨crY, frY, ne1, ne2⟩ := (H9.out.set 2 (.slice a7 m7 c7)).rcells
              go_wp2_with fail
              have HZ := H9.out.set 2 (.slice a7 m7 c7)
              obtain ⟨ecs, eblk, ebel⟩ := fin_res HZ.mw.below HZ.hr rfl HZ.blk
              refine bodyPost_ret_by (results_blk (n := 3) rfl _ Try.underlying38 rfl (by kernel_rfl) (by omega) _ _ _ rfl _ (by rw [ecs]) (by rw [ecs]; exact Nat.le_refl 3)) rfl ?_
              exact ⟨_, _, _, _, _, _, rfl, eblk, ebel, by (try simp); omega, by (try simp); omega, by (try simp); omega⟩
            · go_simp
              refine (take_any w (w.heap.size + 1) sa n c (k + 1 + 1) 19 wF.drew HF.out.drew.mw (by omega) (by omega) (by omega)).mono ?_
              rintro e wT ⟨z, rfl, z0, z1, T⟩
              have HT := Lib.hid (HF.out.drew.took T)
              clear T
              obtain ⟨cbT, fbT, ltT⟩ := HT.out.cells
              refine hK.out _ _ trivial (fun hHeld3 => ?_)
              clear hK K
              try simp only [Act.put, List.getElem_toArray, List.getElem_cons_zero, List.getElem_cons_succ, List.setIfInBounds_toArray, List.set_cons_zero, List.set_cons_succ]
              refine wpAnyH_take (i := 5) (v := ?v5x19) rfl (by kernel_rfl) (by kernel_rfl) (by kernel_rfl) (fun _ _ _ h => h) (Or.inl ⟨by rfl, ?hy5x19⟩) (by assumption) ?rest5x19
              case hy5x19 => (intro w hSw; (try dsimp only at hSw); go_simp; (try with_reducible rfl))
              try simp only [Act.put, List.getElem_toArray, List.getElem_cons_zero, List.getElem_cons_succ, List.setIfInBounds_toArray, List.set_cons_zero, List.set_cons_succ]
              refine wpAnyH_ready (rs := [1, 12]) (by kernel_rfl) (by simp) ?_
              refine AllReadyH.cons rfl (fun K hK => ?_) (AllReadyH.cons rfl (fun K hK => ?_) AllReadyH.nil)
              · go_simp
                refine hK.out _ _ trivial (fun hHeld1 => ?_)
                clear hK K
                try simp only [Act.put, List.getElem_toArray, List.getElem_cons_zero, List.getElem_cons_succ, List.setIfInBounds_toArray, List.set_cons_zero, List.set_cons_succ]
                refine wpAnyH_ready (rs := [12]) (by kernel_rfl) (by simp) ?_
                refine AllReadyH.cons rfl (fun K hK => ?_) AllReadyH.nil
                go_simp
                refine hK.out _ _ trivial (fun hHeld12 => ?_)
                clear hK K
                try simp only [Act.put, List.getElem_toArray, List.getElem_cons_zero, List.getElem_cons_succ, List.setIfInBounds_toArray, List.set_cons_zero, List.set_cons_succ]
                refine wpAnyH_ready (rs := [13]) (by kernel_rfl) (by simp) ?_
                refine AllReadyH.cons rfl (fun K hK => ?_) AllReadyH.nil
                refine (if_pos (by rfl)).mpr ?_
                refine wp_append_own_row _ _ 36 rfl w.heap.size 45 i3 (.agg #[.int .i64 0, .int .i64 0, .int .i64 0, .int .i64 0, .int .u32 0]) 5 40 Try.underlying36 hi3 hz30 hz31 hz32 rfl (by decide) (.slice a6 n6 c6) ops.length _ rfl (HT.out.alloc _).blk.o (.slice (some ⟨wT.heap.size, 0, none⟩) 2 2) _ 2 _ rfl (lit45 wT HT.out.mw.below.size (by simp) [(23, 0, z, 0, _), (24, 0, 0, 0, _)] (by simp)) (flat_one _) (by unfold maxLen; (try simp only [List.length_append, List.length_cons, List.length_nil]); omega) (by (try simp only [List.length_append, List.length_cons, List.length_nil]); omega) (HT.out.alloc _).mw.below.size ?_
                intro v9 w9 hown9 hg9
                have H9 := Lib.hid ((HT.out.alloc _).appO (l := [(23, 0, z, 0, _), (24, 0, 0, 0, _)]) (q := 2) rfl hown9 hg9)
                obtain ⟨a7, m7, c7, rfl⟩ := own_form hown9
                clear hown9 hg9
                obtain ⟨cbw9, fbw9, ltw9⟩ := H9.out.cells
                refine hK.out _ _ trivial (fun hHeld13 => ?_)
                clear hK K
                try simp only [Act.put, List.getElem_toArray, List.getElem_cons_zero, List.getElem_cons_succ, List.setIfInBounds_toArray, List.set_cons_zero, List.set_cons_succ]
                refine wpAnyH_take (i := 14) (v := ?v14x20) rfl (by kernel_rfl) (by kernel_rfl) (by kernel_rfl) (fun _ _ _ h => h) (Or.inl ⟨by rfl, ?hy14x20⟩) (by assumption) ?rest14x20
                case hy14x20 => (intro w hSw; (try dsimp only at hSw); go_simp; (try with_reducible rfl))
                try simp only [Act.put, List.getElem_toArray, List.getElem_cons_zero, List.getElem_cons_succ, List.setIfInBounds_toArray, List.set_cons_zero, List.set_cons_succ]
                refine wpAnyH_ready (rs := [15]) (by kernel_rfl) (by simp) ?_
                refine AllReadyH.cons rfl (fun K hK => ?_) AllReadyH.nil
                go_simp
                refine hK.out _ _ trivial (fun hHeld15 => ?_)
                clear hK K
                try simp only [Act.put, List.getElem_toArray, List.getElem_cons_zero, List.getElem_cons_succ, List.setIfInBounds_toArray, List.set_cons_zero, List.set_cons_succ]
                refine wpAnyH_done (by kernel_rfl) ?_ _
                obtain ⟨cbY, fbY, ltY⟩ := (H9.out.set 2 (.slice a7 m7 c7)).cells
                obtain ⟨crY, frY, ne1, ne2⟩ := (H9.out.set 2 (.slice a7 m7 c7)).rcells
                go_wp2_with fail
                have HZ := H9.out.set 2 (.slice a7 m7 c7)
                obtain ⟨ecs, eblk, ebel⟩ := fin_res HZ.mw.below HZ.hr rfl HZ.blk
                refine bodyPost_ret_by (results_blk (n := 3) rfl _ Try.underlying38 rfl (by kernel_rfl) (by omega) _ _ _ rfl _ (by rw [ecs]) (by rw [ecs]; exact Nat.le_refl 3)) rfl ?_
                exact ⟨_, _, _, _, _, _, rfl, eblk, ebel, by (try simp); omega, by (try simp); omega, by (try simp); omega⟩
              · go_simp
                refine hK.out _ _ trivial (fun hHeld12 => ?_)
                clear hK K
                try simp only [Act.put, List.getElem_toArray, List.getElem_cons_zero, List.getElem_cons_succ, List.setIfInBounds_toArray, List.set_cons_zero, List.set_cons_succ]
                refine wpAnyH_ready (rs := [1]) (by kernel_rfl) (by simp) ?_
                refine AllReadyH.cons rfl (fun K hK => ?_) AllReadyH.nil
                go_simp
                refine hK.out _ _ trivial (fun hHeld1 => ?_)
                clear hK K
                try simp only [Act.put, List.getElem_toArray, List.getElem_cons_zero, List.getElem_cons_succ, List.setIfInBounds_toArray, List.set_cons_zero, List.set_cons_succ]
                refine wpAnyH_ready (rs := [13]) (by kernel_rfl) (by simp) ?_
                refine AllReadyH.cons rfl (fun K hK => ?_) AllReadyH.nil
                refine (if_pos (by rfl)).mpr ?_
                refine wp_append_own_row _ _ 36 rfl w.heap.size 45 i3 (.agg #[.int .i64 0, .int .i64 0, .int .i64 0, .int .i64 0, .int .u32 0]) 5 40 Try.underlying36 hi3 hz30 hz31 hz32 rfl (by decide) (.slice a6 n6 c6) ops.length _ rfl (HT.out.alloc _).blk.o (.slice (some ⟨wT.heap.size, 0, none⟩) 2 2) _ 2 _ rfl (lit45 wT HT.out.mw.below.size (by simp) [(23, 0, z, 0, _), (24, 0, 0, 0, _)] (by simp)) (flat_one _) (by unfold maxLen; (try simp only [List.length_append, List.length_cons, List.length_nil]); omega) (by (try simp only [List.length_append, List.length_cons, List.length_nil]); omega) (HT.out.alloc _).mw.below.size ?_
                intro v9 w9 hown9 hg9
                have H9 := Lib.hid ((HT.out.alloc _).appO (l := [(23, 0, z, 0, _), (24, 0, 0, 0, _)]) (q := 2) rfl hown9 hg9)
                obtain ⟨a7, m7, c7, rfl⟩ := own_form hown9
                clear hown9 hg9
                obtain ⟨cbw9, fbw9, ltw9⟩ := H9.out.cells
                refine hK.out _ _ trivial (fun hHeld13 => ?_)
                clear hK K
                try simp only [Act.put, List.getElem_toArray, List.getElem_cons_zero, List.getElem_cons_succ, List.setIfInBounds_toArray, List.set_cons_zero, List.set_cons_succ]
                refine wpAnyH_take (i := 14) (v := ?v14x21) rfl (by kernel_rfl) (by kernel_rfl) (by kernel_rfl) (fun _ _ _ h => h) (Or.inl ⟨by rfl, ?hy14x21⟩) (by assumption) ?rest14x21
                case hy14x21 => (intro w hSw; (try dsimp only at hSw); go_simp; (try with_reducible rfl))
                try simp only [Act.put, List.getElem_toArray, List.getElem_cons_zero, List.getElem_cons_succ, List.setIfInBounds_toArray, List.set_cons_zero, List.set_cons_succ]
                refine wpAnyH_ready (rs := [15]) (by kernel_rfl) (by simp) ?_
                refine AllReadyH.cons rfl (fun K hK => ?_) AllReadyH.nil
                go_simp
                refine hK.out _ _ trivial (fun hHeld15 => ?_)
                clear hK K
                try simp only [Act.put, List.getElem_toArray, List.getElem_cons_zero, List.getElem_cons_succ, List.setIfInBounds_toArray, List.set_cons_zero, List.set_cons_succ]
                refine wpAnyH_done (by kernel_rfl) ?_ _
                obtain ⟨cbY, fbY, ltY⟩ := (H9.out.set 2 (.slice a7 m7 c7)).cells
                obtain ⟨crY, frY, ne1, ne2⟩ := (H9.out.set 2 (.slice a7 m7 c7)).rcells
                go_wp2_with fail
                have HZ := H9.out.set 2 (.slice a7 m7 c7)
                obtain ⟨ecs, eblk, ebel⟩ := fin_res HZ.mw.below HZ.hr rfl HZ.blk
                refine bodyPost_ret_by (results_blk (n := 3) rfl _ Try.underlying38 rfl (by kernel_rfl) (by omega) _ _ _ rfl _ (by rw [ecs]) (by rw [ecs]; exact Nat.le_refl 3)) rfl ?_
                exact ⟨_, _, _, _, _, _, rfl, eblk, ebel, by (try simp); omega, by (try simp); omega, by (try simp); omega⟩

          · by_cases f3' : f = 3
            · subst f3'
              go_wp2_with fail
              obtain ⟨cbR, fbR, ltR⟩ := (HF.out).cells
              refine wp_region_held_drew (S := (fun _ => True)) (by kernel_rfl) trivial (fun hHeld => ?_)
              refine wpAnyH_take (i := 0) (v := ?v0x22) rfl (by kernel_rfl) (by kernel_rfl) (by kernel_rfl) (fun _ _ _ h => h) (Or.inl ⟨by rfl, ?hy0x22⟩) (by assumption) ?rest0x22
              case hy0x22 => (intro w hSw; (try dsimp only at hSw); go_simp; (try with_reducible rfl))
              try simp only [Act.put, List.getElem_toArray, List.getElem_cons_zero, List.getElem_cons_succ, List.setIfInBounds_toArray, List.set_cons_zero, List.set_cons_succ]
              refine wpAnyH_take (i := 2) (v := ?v2x23) rfl (by kernel_rfl) (by kernel_rfl) (by kernel_rfl) (fun _ _ _ h => h) (Or.inl ⟨by rfl, ?hy2x23⟩) (by assumption) ?rest2x23
              case hy2x23 => (intro w hSw; (try dsimp only at hSw); go_simp; (try with_reducible rfl))
              try simp only [Act.put, List.getElem_toArray, List.getElem_cons_zero, List.getElem_cons_succ, List.setIfInBounds_toArray, List.set_cons_zero, List.set_cons_succ]
              refine wpAnyH_take (i := 4) (v := ?v4x24) rfl (by kernel_rfl) (by kernel_rfl) (by kernel_rfl) (fun _ _ _ h => h) (Or.inl ⟨by rfl, ?hy4x24⟩) (by assumption) ?rest4x24
              case hy4x24 => (intro w hSw; (try dsimp only at hSw); go_simp; (try with_reducible rfl))
              try simp only [Act.put, List.getElem_toArray, List.getElem_cons_zero, List.getElem_cons_succ, List.setIfInBounds_toArray, List.set_cons_zero, List.set_cons_succ]
              refine wpAnyH_take (i := 6) (v := ?v6x25) rfl (by kernel_rfl) (by kernel_rfl) (by kernel_rfl) (fun _ _ _ h => h) (Or.inl ⟨by rfl, ?hy6x25⟩) (by assumption) ?rest6x25
              case hy6x25 => (intro w hSw; (try dsimp only at hSw); go_simp; (try with_reducible rfl))
              try simp only [Act.put, List.getElem_toArray, List.getElem_cons_zero, List.getElem_cons_succ, List.setIfInBounds_toArray, List.set_cons_zero, List.set_cons_succ]
              refine wpAnyH_take (i := 7) (v := ?v7x26) rfl (by kernel_rfl) (by kernel_rfl) (by kernel_rfl) (fun _ _ _ h => h) (Or.inl ⟨by rfl, ?hy7x26⟩) (by assumption) ?rest7x26
              case hy7x26 => (intro w hSw; (try dsimp only at hSw); go_simp; (try with_reducible rfl))
              try simp only [Act.put, List.getElem_toArray, List.getElem_cons_zero, List.getElem_cons_succ, List.setIfInBounds_toArray, List.set_cons_zero, List.set_cons_succ]
              refine wpAnyH_take (i := 8) (v := ?v8x27) rfl (by kernel_rfl) (by kernel_rfl) (by kernel_rfl) (fun _ _ _ h => h) (Or.inl ⟨by rfl, ?hy8x27⟩) (by assumption) ?rest8x27
              case hy8x27 => (intro w hSw; (try dsimp only at hSw); go_simp; (try with_reducible rfl))
              try simp only [Act.put, List.getElem_toArray, List.getElem_cons_zero, List.getElem_cons_succ, List.setIfInBounds_toArray, List.set_cons_zero, List.set_cons_succ]
              refine wpAnyH_take (i := 9) (v := ?v9x28) rfl (by kernel_rfl) (by kernel_rfl) (by kernel_rfl) (fun _ _ _ h => h) (Or.inl ⟨by rfl, ?hy9x28⟩) (by assumption) ?rest9x28
              case hy9x28 => (intro w hSw; (try dsimp only at hSw); go_simp; (try with_reducible rfl))
              try simp only [Act.put, List.getElem_toArray, List.getElem_cons_zero, List.getElem_cons_succ, List.setIfInBounds_toArray, List.set_cons_zero, List.set_cons_succ]
              refine wpAnyH_take (i := 10) (v := ?v10x29) rfl (by kernel_rfl) (by kernel_rfl) (by kernel_rfl) (fun _ _ _ h => h) (Or.inl ⟨by rfl, ?hy10x29⟩) (by assumption) ?rest10x29
              case hy10x29 => (intro w hSw; (try dsimp only at hSw); go_simp; (try with_reducible rfl))
              try simp only [Act.put, List.getElem_toArray, List.getElem_cons_zero, List.getElem_cons_succ, List.setIfInBounds_toArray, List.set_cons_zero, List.set_cons_succ]
              refine wpAnyH_take (i := 11) (v := ?v11x30) rfl (by kernel_rfl) (by kernel_rfl) (by kernel_rfl) (fun _ _ _ h => h) (Or.inl ⟨by rfl, ?hy11x30⟩) (by assumption) ?rest11x30
              case hy11x30 => (intro w hSw; (try dsimp only at hSw); go_simp; (try with_reducible rfl))
              try simp only [Act.put, List.getElem_toArray, List.getElem_cons_zero, List.getElem_cons_succ, List.setIfInBounds_toArray, List.set_cons_zero, List.set_cons_succ]
              refine wpAnyH_ready (rs := [1, 3]) (by kernel_rfl) (by simp) ?_
              refine AllReadyH.cons rfl (fun K hK => ?_) (AllReadyH.cons rfl (fun K hK => ?_) AllReadyH.nil)
              · go_simp
                refine hK.out _ _ trivial (fun hHeld1 => ?_)
                clear hK K
                try simp only [Act.put, List.getElem_toArray, List.getElem_cons_zero, List.getElem_cons_succ, List.setIfInBounds_toArray, List.set_cons_zero, List.set_cons_succ]
                refine wpAnyH_ready (rs := [3]) (by kernel_rfl) (by simp) ?_
                refine AllReadyH.cons rfl (fun K hK => ?_) AllReadyH.nil
                go_simp
                refine (take_any w (w.heap.size + 1) sa n c (k + 1 + 1) 19 wF.drew HF.out.drew.mw (by omega) (by omega) (by omega)).mono ?_
                rintro e wT ⟨z, rfl, z0, z1, T⟩
                have HT := Lib.hid (HF.out.drew.took T)
                clear T
                obtain ⟨cbT, fbT, ltT⟩ := HT.out.cells
                refine hK.out _ _ trivial (fun hHeld3 => ?_)
                clear hK K
                try simp only [Act.put, List.getElem_toArray, List.getElem_cons_zero, List.getElem_cons_succ, List.setIfInBounds_toArray, List.set_cons_zero, List.set_cons_succ]
                refine wpAnyH_take (i := 5) (v := ?v5x31) rfl (by kernel_rfl) (by kernel_rfl) (by kernel_rfl) (fun _ _ _ h => h) (Or.inl ⟨by rfl, ?hy5x31⟩) (by assumption) ?rest5x31
                case hy5x31 => (intro w hSw; (try dsimp only at hSw); go_simp; (try with_reducible rfl))
                try simp only [Act.put, List.getElem_toArray, List.getElem_cons_zero, List.getElem_cons_succ, List.setIfInBounds_toArray, List.set_cons_zero, List.set_cons_succ]
                refine wpAnyH_ready (rs := [12]) (by kernel_rfl) (by simp) ?_
                refine AllReadyH.cons rfl (fun K hK => ?_) AllReadyH.nil
                go_simp
                refine hK.out _ _ trivial (fun hHeld12 => ?_)
                clear hK K
                try simp only [Act.put, List.getElem_toArray, List.getElem_cons_zero, List.getElem_cons_succ, List.setIfInBounds_toArray, List.set_cons_zero, List.set_cons_succ]
                refine wpAnyH_ready (rs := [13]) (by kernel_rfl) (by simp) ?_
                refine AllReadyH.cons rfl (fun K hK => ?_) AllReadyH.nil
                refine (if_pos (by rfl)).mpr ?_
                refine wp_append_own_row _ _ 36 rfl w.heap.size 45 i3 (.agg #[.int .i64 0, .int .i64 0, .int .i64 0, .int .i64 0, .int .u32 0]) 5 40 Try.underlying36 hi3 hz30 hz31 hz32 rfl (by decide) (.slice a6 n6 c6) ops.length _ rfl (HT.out.alloc _).blk.o (.slice (some ⟨wT.heap.size, 0, none⟩) 2 2) _ 2 _ rfl (lit45 wT HT.out.mw.below.size (by simp) [(23, 0, z, 0, _), (24, 0, 0, 0, _)] (by simp)) (flat_one _) (by unfold maxLen; (try simp only [List.length_append, List.length_cons, List.length_nil]); omega) (by (try simp only [List.length_append, List.length_cons, List.length_nil]); omega) (HT.out.alloc _).mw.below.size ?_
                intro v9 w9 hown9 hg9
                have H9 := Lib.hid ((HT.out.alloc _).appO (l := [(23, 0, z, 0, _), (24, 0, 0, 0, _)]) (q := 2) rfl hown9 hg9)
                obtain ⟨a7, m7, c7, rfl⟩ := own_form hown9
                clear hown9 hg9
                obtain ⟨cbw9, fbw9, ltw9⟩ := H9.out.cells
                refine hK.out _ _ trivial (fun hHeld13 => ?_)
                clear hK K
                try simp only [Act.put, List.getElem_toArray, List.getElem_cons_zero, List.getElem_cons_succ, List.setIfInBounds_toArray, List.set_cons_zero, List.set_cons_succ]
                refine wpAnyH_take (i := 14) (v := ?v14x32) rfl (by kernel_rfl) (by kernel_rfl) (by kernel_rfl) (fun _ _ _ h => h) (Or.inl ⟨by rfl, ?hy14x32⟩) (by assumption) ?rest14x32
                case hy14x32 => (intro w hSw; (try dsimp only at hSw); go_simp; (try with_reducible rfl))
                try simp only [Act.put, List.getElem_toArray, List.getElem_cons_zero, List.getElem_cons_succ, List.setIfInBounds_toArray, List.set_cons_zero, List.set_cons_succ]
                refine wpAnyH_ready (rs := [15]) (by kernel_rfl) (by simp) ?_
                refine AllReadyH.cons rfl (fun K hK => ?_) AllReadyH.nil
                go_simp
                refine hK.out _ _ trivial (fun hHeld15 => ?_)
                clear hK K
                try simp only [Act.put, List.getElem_toArray, List.getElem_cons_zero, List.getElem_cons_succ, List.setIfInBounds_toArray, List.set_cons_zero, List.set_cons_succ]
                refine wpAnyH_done (by kernel_rfl) ?_ _
                obtain ⟨cbY, fbY, ltY⟩ := (H9.out.set 2 (.slice a7 m7 c7)).cells
                obtain ⟨crY, frY, ne1, ne2⟩ := (H9.out.set 2 (.slice a7 m7 c7)).rcells
                go_wp2_with fail
                have HZ := H9.out.set 2 (.slice a7 m7 c7)
                obtain ⟨ecs, eblk, ebel⟩ := fin_res HZ.mw.below HZ.hr rfl HZ.blk
                refine bodyPost_ret_by (results_blk (n := 3) rfl _ Try.underlying38 rfl (by kernel_rfl) (by omega) _ _ _ rfl _ (by rw [ecs]) (by rw [ecs]; exact Nat.le_refl 3)) rfl ?_
                exact ⟨_, _, _, _, _, _, rfl, eblk, ebel, by (try simp); omega, by (try simp); omega, by (try simp); omega⟩
              · go_simp
                refine (take_any w (w.heap.size + 1) sa n c (k + 1 + 1) 19 wF.drew HF.out.drew.mw (by omega) (by omega) (by omega)).mono ?_
                rintro e wT ⟨z, rfl, z0, z1, T⟩
                have HT := Lib.hid (HF.out.drew.took T)
                clear T
                obtain ⟨cbT, fbT, ltT⟩ := HT.out.cells
                refine hK.out _ _ trivial (fun hHeld3 => ?_)
                clear hK K
                try simp only [Act.put, List.getElem_toArray, List.getElem_cons_zero, List.getElem_cons_succ, List.setIfInBounds_toArray, List.set_cons_zero, List.set_cons_succ]
                refine wpAnyH_take (i := 5) (v := ?v5x33) rfl (by kernel_rfl) (by kernel_rfl) (by kernel_rfl) (fun _ _ _ h => h) (Or.inl ⟨by rfl, ?hy5x33⟩) (by assumption) ?rest5x33
                case hy5x33 => (intro w hSw; (try dsimp only at hSw); go_simp; (try with_reducible rfl))
                try simp only [Act.put, List.getElem_toArray, List.getElem_cons_zero, List.getElem_cons_succ, List.setIfInBounds_toArray, List.set_cons_zero, List.set_cons_succ]
                refine wpAnyH_ready (rs := [1, 12]) (by kernel_rfl) (by simp) ?_
                refine AllReadyH.cons rfl (fun K hK => ?_) (AllReadyH.cons rfl (fun K hK => ?_) AllReadyH.nil)
                · go_simp
                  refine hK.out _ _ trivial (fun hHeld1 => ?_)
                  clear hK K
                  try simp only [Act.put, List.getElem_toArray, List.getElem_cons_zero, List.getElem_cons_succ, List.setIfInBounds_toArray, List.set_cons_zero, List.set_cons_succ]
                  refine wpAnyH_ready (rs := [12]) (by kernel_rfl) (by simp) ?_
                  refine AllReadyH.cons rfl (fun K hK => ?_) AllReadyH.nil
                  go_simp
                  refine hK.out _ _ trivial (fun hHeld12 => ?_)
                  clear hK K
                  try simp only [Act.put, List.getElem_toArray, List.getElem_cons_zero, List.getElem_cons_succ, List.setIfInBounds_toArray, List.set_cons_zero, List.set_cons_succ]
                  refine wpAnyH_ready (rs := [13]) (by kernel_rfl) (by simp) ?_
                  refine AllReadyH.cons rfl (fun K hK => ?_) AllReadyH.nil
                  refine (if_pos (by rfl)).mpr ?_
                  refine wp_append_own_row _ _ 36 rfl w.heap.size 45 i3 (.agg #[.int .i64 0, .int .i64 0, .int .i64 0, .int .i64 0, .int .u32 0]) 5 40 Try.underlying36 hi3 hz30 hz31 hz32 rfl (by decide) (.slice a6 n6 c6) ops.length _ rfl (HT.out.alloc _).blk.o (.slice (some ⟨wT.heap.size, 0, none⟩) 2 2) _ 2 _ rfl (lit45 wT HT.out.mw.below.size (by simp) [(23, 0, z, 0, _), (24, 0, 0, 0, _)] (by simp)) (flat_one _) (by unfold maxLen; (try simp only [List.length_append, List.length_cons, List.length_nil]); omega) (by (try simp only [List.length_append, List.length_cons, List.length_nil]); omega) (HT.out.alloc _).mw.below.size ?_
                  intro v9 w9 hown9 hg9
                  have H9 := Lib.hid ((HT.out.alloc _).appO (l := [(23, 0, z, 0, _), (24, 0, 0, 0, _)]) (q := 2) rfl hown9 hg9)
                  obtain ⟨a7, m7, c7, rfl⟩ := own_form hown9
                  clear hown9 hg9
                  obtain ⟨cbw9, fbw9, ltw9⟩ := H9.out.cells
                  refine hK.out _ _ trivial (fun hHeld13 => ?_)
                  clear hK K
                  try simp only [Act.put, List.getElem_toArray, List.getElem_cons_zero, List.getElem_cons_succ, List.setIfInBounds_toArray, List.set_cons_zero, List.set_cons_succ]
                  refine wpAnyH_take (i := 14) (v := ?v14x34) rfl (by kernel_rfl) (by kernel_rfl) (by kernel_rfl) (fun _ _ _ h => h) (Or.inl ⟨by rfl, ?hy14x34⟩) (by assumption) ?rest14x34
                  case hy14x34 => (intro w hSw; (try dsimp only at hSw); go_simp; (try with_reducible rfl))
                  try simp only [Act.put, List.getElem_toArray, List.getElem_cons_zero, List.getElem_cons_succ, List.setIfInBounds_toArray, List.set_cons_zero, List.set_cons_succ]
                  refine wpAnyH_ready (rs := [15]) (by kernel_rfl) (by simp) ?_
                  refine AllReadyH.cons rfl (fun K hK => ?_) AllReadyH.nil
                  go_simp
                  refine hK.out _ _ trivial (fun hHeld15 => ?_)
                  clear hK K
                  try simp only [Act.put, List.getElem_toArray, List.getElem_cons_zero, List.getElem_cons_succ, List.setIfInBounds_toArray, List.set_cons_zero, List.set_cons_succ]
                  refine wpAnyH_done (by kernel_rfl) ?_ _
                  obtain ⟨cbY, fbY, ltY⟩ := (H9.out.set 2 (.slice a7 m7 c7)).cells
                  obtain ⟨crY, frY, ne1, ne2⟩ := (H9.out.set 2 (.slice a7 m7 c7)).rcells
                  go_wp2_with fail
                  have HZ := H9.out.set 2 (.slice a7 m7 c7)
                  obtain ⟨ecs, eblk, ebel⟩ := fin_res HZ.mw.below HZ.hr rfl HZ.blk
                  refine bodyPost_ret_by (results_blk (n := 3) rfl _ Try.underlying38 rfl (by kernel_rfl) (by omega) _ _ _ rfl _ (by rw [ecs]) (by rw [ecs]; exact Nat.le_refl 3)) rfl ?_
                  exact ⟨_, _, _, _, _, _, rfl, eblk, ebel, by (try simp); omega, by (try simp); omega, by (try simp); omega⟩
                · go_simp
                  refine hK.out _ _ trivial (fun hHeld12 => ?_)
                  clear hK K
                  try simp only [Act.put, List.getElem_toArray, List.getElem_cons_zero, List.getElem_cons_succ, List.setIfInBounds_toArray, List.set_cons_zero, List.set_cons_succ]
                  refine wpAnyH_ready (rs := [1]) (by kernel_rfl) (by simp) ?_
                  refine AllReadyH.cons rfl (fun K hK => ?_) AllReadyH.nil
                  go_simp
                  refine hK.out _ _ trivial (fun hHeld1 => ?_)
                  clear hK K
                  try simp only [Act.put, List.getElem_toArray, List.getElem_cons_zero, List.getElem_cons_succ, List.setIfInBounds_toArray, List.set_cons_zero, List.set_cons_succ]
                  refine wpAnyH_ready (rs := [13]) (by kernel_rfl) (by simp) ?_
                  refine AllReadyH.cons rfl (fun K hK => ?_) AllReadyH.nil
                  refine (if_pos (by rfl)).mpr ?_
                  refine wp_append_own_row _ _ 36 rfl w.heap.size 45 i3 (.agg #[.int .i64 0, .int .i64 0, .int .i64 0, .int .i64 0, .int .u32 0]) 5 40 Try.underlying36 hi3 hz30 hz31 hz32 rfl (by decide) (.slice a6 n6 c6) ops.length _ rfl (HT.out.alloc _).blk.o (.slice (some ⟨wT.heap.size, 0, none⟩) 2 2) _ 2 _ rfl (lit45 wT HT.out.mw.below.size (by simp) [(23, 0, z, 0, _), (24, 0, 0, 0, _)] (by simp)) (flat_one _) (by unfold maxLen; (try simp only [List.length_append, List.length_cons, List.length_nil]); omega) (by (try simp only [List.length_append, List.length_cons, List.length_nil]); omega) (HT.out.alloc _).mw.below.size ?_
                  intro v9 w9 hown9 hg9
                  have H9 := Lib.hid ((HT.out.alloc _).appO (l := [(23, 0, z, 0, _), (24, 0, 0, 0, _)]) (q := 2) rfl hown9 hg9)
                  obtain ⟨a7, m7, c7, rfl⟩ := own_form hown9
                  clear hown9 hg9
                  obtain ⟨cbw9, fbw9, ltw9⟩ := H9.out.cells
                  refine hK.out _ _ trivial (fun hHeld13 => ?_)
                  clear hK K
                  try simp only [Act.put, List.getElem_toArray, List.getElem_cons_zero, List.getElem_cons_succ, List.setIfInBounds_toArray, List.set_cons_zero, List.set_cons_succ]
                  refine wpAnyH_take (i := 14) (v := ?v14x35) rfl (by kernel_rfl) (by kernel_rfl) (by kernel_rfl) (fun _ _ _ h => h) (Or.inl ⟨by rfl, ?hy14x35⟩) (by assumption) ?rest14x35
                  case hy14x35 => (intro w hSw; (try dsimp only at hSw); go_simp; (try with_reducible rfl))
                  try simp only [Act.put, List.getElem_toArray, List.getElem_cons_zero, List.getElem_cons_succ, List.setIfInBounds_toArray, List.set_cons_zero, List.set_cons_succ]
                  refine wpAnyH_ready (rs := [15]) (by kernel_rfl) (by simp) ?_
                  refine AllReadyH.cons rfl (fun K hK => ?_) AllReadyH.nil
                  go_simp
                  refine hK.out _ _ trivial (fun hHeld15 => ?_)
                  clear hK K
                  try simp only [Act.put, List.getElem_toArray, List.getElem_cons_zero, List.getElem_cons_succ, List.setIfInBounds_toArray, List.set_cons_zero, List.set_cons_succ]
                  refine wpAnyH_done (by kernel_rfl) ?_ _
                  obtain ⟨cbY, fbY, ltY⟩ := (H9.out.set 2 (.slice a7 m7 c7)).cells
                  obtain ⟨crY, frY, ne1, ne2⟩ := (H9.out.set 2 (.slice a7 m7 c7)).rcells
                  go_wp2_with fail
                  have HZ := H9.out.set 2 (.slice a7 m7 c7)
                  obtain ⟨ecs, eblk, ebel⟩ := fin_res HZ.mw.below HZ.hr rfl HZ.blk
                  refine bodyPost_ret_by (results_blk (n := 3) rfl _ Try.underlying38 rfl (by kernel_rfl) (by omega) _ _ _ rfl _ (by rw [ecs]) (by rw [ecs]; exact Nat.le_refl 3)) rfl ?_
                  exact ⟨_, _, _, _, _, _, rfl, eblk, ebel, by (try simp); omega, by (try simp); omega, by (try simp); omega⟩

            · have g0 : (f == 0) = false := by simpa using f0'
              have g1 : (f == 1) = false := by simpa using f1'
              have g2 : (f == 2) = false := by simpa using f2'
              have g3 : (f == 3) = false := by simpa using f3'
              go_wp2_with (at_builtin; (refine wpList_append_own_row rfl _ _ 36 rfl w.heap.size 45 i3 (.agg #[.int .i64 0, .int .i64 0, .int .i64 0, .int .i64 0, .int .u32 0]) 5 40 Try.underlying36 hi3 hz30 hz31 hz32 rfl (by decide) _ _ _ rfl (HF.out.alloc _).blk.o _ w.heap.size 1 _ rfl (lit45 _ HF.out.mw.below.size (by simp) [(24, 0, 0, 0, _)] (by simp)) (flat_one _) (by unfold maxLen; (try simp only [List.length_append, List.length_cons, List.length_nil]); omega) (by (try simp only [List.length_append, List.length_cons, List.length_nil]); omega) (HF.out.alloc _).mw.below.size ?_); intro v9 w3 hown9 hg9; have H3 := Lib.hid ((HF.out.alloc _).appO (l := [(24, 0, 0, 0, _)]) (q := 1) rfl hown9 hg9); obtain ⟨a3, m3, c3, rfl⟩ := own_form hown9; clear hown9 hg9; obtain ⟨cbw3, fbw3, ltw3⟩ := H3.out.cells; obtain ⟨crH3, frH3, ne1H3, ne2H3⟩ := H3.out.rcells; skip)
              have HZ := H3.out.set 2 (.slice a3 m3 c3)
              obtain ⟨ecs, eblk, ebel⟩ := fin_res HZ.mw.below HZ.hr rfl HZ.blk
              refine bodyPost_ret_by (results_blk (n := 3) rfl _ Try.underlying38 rfl (by kernel_rfl) (by omega) _ _ _ rfl _ (by rw [ecs]) (by rw [ecs]; exact Nat.le_refl 3)) rfl ?_
              exact ⟨_, _, _, _, _, _, rfl, eblk, ebel, by (try simp); omega, by (try simp); omega, by (try simp); omega⟩

end Go.Proofs.Ytehehnhomlcimaa
