/- Contracts of the functions on states. -/
import Derived.Test.YtehehnhomlcimaaB
import Derived.Lib.Hide
namespace Go.Proofs.Ytehehnhomlcimaa
open Go.RowKit
attribute [local go_sem ↓ high] loadAt25 storeAt25 ld25 st25 loadAt28 storeAt28 ld28 st28 loadAt31 storeAt31 ld31 st31 loadAt32 storeAt32 ld32 st32 copyB copy35
attribute [local go_sem] allOne_inst World.cs_alloc_at World.cs_alloc_past World.cs_drew World.plainRow_alloc_at World.plainRow_alloc_past World.plainRow_drew World.setRow_alloc_at World.setRow_alloc_past World.setRow_drew spl_all extract_all size_spl World.cs_setCell_same World.cs_setCell_other World.plainRow_setCell World.cs_setRow_same World.cs_setRow_other World.plainRow_setRow World.size_setRow' World.cell_setRow World.frozen_setRow ne_up1 ne_dn1 ne_up2 ne_dn2 ne_up3 ne_dn3 ne_up4 ne_dn4 ne_up5 ne_dn5 ne_up6 ne_dn6 ne_up7 ne_dn7 ne_up8 ne_dn8 ne_up9 ne_dn9 ne_up10 ne_dn10 ne_up11 ne_dn11 ne_up12 ne_dn12 ne_up13 ne_dn13 ne_up14 ne_dn14 ne_up15 ne_dn15 lt_up2 lt_up3 lt_up4 lt_up5 lt_up6 lt_up7 lt_up8 lt_up9 lt_up10 lt_up11 lt_up12 lt_up13 lt_up14 lt_up15



theorem leave1_eq (st vs : Array Value) (hst : st.size = 24) (hvs : vs.size = 28) (V : Nat → Int) (hV : ∀ (i : Nat) (h : i < vs.size), vs[i] = .int .u32 (V i)) (f : Int) :
    (((((((((((((((((st).setIfInBounds 1 (.int .u32 (V 0))).setIfInBounds 2 (.int .u32 (V 1))).setIfInBounds 3 (.int .u32 (V 2))).setIfInBounds 4 (.int .u32 (V 3))).setIfInBounds 5 (.int .u32 (V 4))).setIfInBounds 6 (.int .u32 (V 5))).setIfInBounds 7 (.int .u32 (V 6))).setIfInBounds 8 (.int .u32 (V 7))).setIfInBounds 9 (.int .u32 0)).setIfInBounds 10 (.int .u32 0)).setIfInBounds 11 (.int .u32 0)).setIfInBounds 12 (.int .u32 0)).setIfInBounds 13 (.int .u32 0)).setIfInBounds 14 (.int .u32 0)).setIfInBounds 15 (.int .u32 0)).setIfInBounds 16 (.int .u32 0)).setIfInBounds 17 (.int .u32 f) = leaveF 1 f st vs := by
  rw [show leaveF 1 f st vs = (spl (spl st 1 zeros16) 1 (vs.extract 0 8)).setIfInBounds 17 (.int .u32 f) from rfl]
  apply Array.ext
  · simp [size_spl]
  · intro i h1 h2
    have h3 : i < 24 := by simpa [hst] using h1
    rcases (show i = 0 ∨ i = 1 ∨ i = 2 ∨ i = 3 ∨ i = 4 ∨ i = 5 ∨ i = 6 ∨ i = 7 ∨ i = 8 ∨ i = 9 ∨ i = 10 ∨ i = 11 ∨ i = 12 ∨ i = 13 ∨ i = 14 ∨ i = 15 ∨ i = 16 ∨ i = 17 ∨ i = 18 ∨ i = 19 ∨ i = 20 ∨ i = 21 ∨ i = 22 ∨ i = 23 from by omega) with rfl | rfl | rfl | rfl | rfl | rfl | rfl | rfl | rfl | rfl | rfl | rfl | rfl | rfl | rfl | rfl | rfl | rfl | rfl | rfl | rfl | rfl | rfl | rfl
    all_goals simp [spl_get, size_spl, hV, hst, hvs, zeros16]

theorem leave2_eq (st vs : Array Value) (hst : st.size = 24) (hvs : vs.size = 28) (V : Nat → Int) (hV : ∀ (i : Nat) (h : i < vs.size), vs[i] = .int .u32 (V i)) (f : Int) :
    (((((((((((((((((st).setIfInBounds 1 (.int .u32 0)).setIfInBounds 2 (.int .u32 (V 1))).setIfInBounds 3 (.int .u32 (V 2))).setIfInBounds 4 (.int .u32 (V 3))).setIfInBounds 5 (.int .u32 (V 4))).setIfInBounds 6 (.int .u32 (V 5))).setIfInBounds 7 (.int .u32 (V 6))).setIfInBounds 8 (.int .u32 (V 7))).setIfInBounds 9 (.int .u32 (V 8))).setIfInBounds 10 (.int .u32 (V 9))).setIfInBounds 11 (.int .u32 (V 10))).setIfInBounds 12 (.int .u32 (V 11))).setIfInBounds 13 (.int .u32 (V 12))).setIfInBounds 14 (.int .u32 (V 13))).setIfInBounds 15 (.int .u32 (V 14))).setIfInBounds 16 (.int .u32 (V 15))).setIfInBounds 17 (.int .u32 0) = leaveF 2 f st vs := by
  rw [show leaveF 2 f st vs = ((spl st 1 (vs.extract 0 16)).setIfInBounds 1 (.int .u32 0)).setIfInBounds 17 (.int .u32 0) from rfl]
  apply Array.ext
  · simp [size_spl]
  · intro i h1 h2
    have h3 : i < 24 := by simpa [hst] using h1
    rcases (show i = 0 ∨ i = 1 ∨ i = 2 ∨ i = 3 ∨ i = 4 ∨ i = 5 ∨ i = 6 ∨ i = 7 ∨ i = 8 ∨ i = 9 ∨ i = 10 ∨ i = 11 ∨ i = 12 ∨ i = 13 ∨ i = 14 ∨ i = 15 ∨ i = 16 ∨ i = 17 ∨ i = 18 ∨ i = 19 ∨ i = 20 ∨ i = 21 ∨ i = 22 ∨ i = 23 from by omega) with rfl | rfl | rfl | rfl | rfl | rfl | rfl | rfl | rfl | rfl | rfl | rfl | rfl | rfl | rfl | rfl | rfl | rfl | rfl | rfl | rfl | rfl | rfl | rfl
    all_goals simp [spl_get, size_spl, hV, hst, hvs]


set_option maxRecDepth 100000 in
set_option maxHeartbeats 4000000 in
theorem RLeave_1 (st vs : Array Value) (w : World) (hst : st.size = 24) [AllOne st] (hvs : vs.size = 28) [AllOne vs]
    (V : Nat → Int) (hV : ∀ (i : Nat) (h : i < vs.size), vs[i] = .int .u32 (V i)) (hB : ∀ i, 0 ≤ V i ∧ V i < 4294967296) :
    Calls Try.prog 17 #[.int .i64 1, .agg st, .agg vs] w fun e w' => e = .returned (.agg (leaveF 1 (flagsF (V 16) (V 17) (V 18)) st vs)) ∧ Below w.heap.size w w' := by
  have b16 := hB 16
  have b17 := hB 17
  have b18 := hB 18
  clear hB
  have HL := Lib.hid (leave1_eq st vs hst hvs V hV (flagsF (V 16) (V 17) (V 18)))
  go_enter Try.func17, Try.ntmps17
  go_wp2_with fail
  refine wp_loop_rounds 17 ?_
  iterate 17 (rw [rounds_succ]; go_wp2_with fail)
  refine (RFlags_any _ _ _ _ (by omega) (by omega) (by omega) (by omega)).mono ?_
  rintro e w1 ⟨rfl, hb⟩
  obtain ⟨hc, hf⟩ := bcell hb
  obtain ⟨hcs, hpr⟩ := bcs hb
  have hz := hb.size
  go_wp2_with fail
  refine bodyPost_ret_by (results_blk (n := 24) rfl _ Try.underlying28 rfl (by kernel_rfl) (by omega) _ _ _ rfl _ rfl (by go_simp)) rfl ⟨?_, ?_⟩
  · rw [← HL.out]; go_simp
  · repeat (first | exact Below.refl _ _ | assumption | refine below_call ?_ hb | refine Below.drew ?_ | refine Below.alloc ?_ (by first | exact Nat.le_refl _ | omega | (simp; done) | (simp; omega)) _ | refine Below.setCell ?_ (by first | exact Nat.le_refl _ | omega | (simp; done) | (simp; omega)) _ | refine below_row ?_ _ (by first | exact Nat.le_refl _ | omega | (simp; done) | (simp; omega)) _)

set_option maxRecDepth 100000 in
set_option maxHeartbeats 4000000 in
theorem RLeave_2 (st vs : Array Value) (w : World) (hst : st.size = 24) [AllOne st] (hvs : vs.size = 28) [AllOne vs]
    (V : Nat → Int) (hV : ∀ (i : Nat) (h : i < vs.size), vs[i] = .int .u32 (V i)) (hB : ∀ i, 0 ≤ V i ∧ V i < 4294967296) :
    Calls Try.prog 17 #[.int .i64 2, .agg st, .agg vs] w fun e w' => e = .returned (.agg (leaveF 2 (flagsF (V 16) (V 17) (V 18)) st vs)) ∧ Below w.heap.size w w' := by
  have b16 := hB 16
  have b17 := hB 17
  have b18 := hB 18
  clear hB
  have HL := Lib.hid (leave2_eq st vs hst hvs V hV (flagsF (V 16) (V 17) (V 18)))
  go_enter Try.func17, Try.ntmps17
  go_wp2_with fail
  refine wp_loop_rounds 17 ?_
  iterate 17 (rw [rounds_succ]; go_wp2_with fail)
  refine bodyPost_ret_by (results_blk (n := 24) rfl _ Try.underlying28 rfl (by kernel_rfl) (by omega) _ _ _ rfl _ rfl (by go_simp)) rfl ⟨?_, ?_⟩
  · rw [← HL.out]; go_simp
  · repeat (first | exact Below.refl _ _ | assumption | refine Below.drew ?_ | refine Below.alloc ?_ (by first | exact Nat.le_refl _ | omega | (simp; done) | (simp; omega)) _ | refine Below.setCell ?_ (by first | exact Nat.le_refl _ | omega | (simp; done) | (simp; omega)) _ | refine below_row ?_ _ (by first | exact Nat.le_refl _ | omega | (simp; done) | (simp; omega)) _)

set_option maxRecDepth 100000 in
set_option maxHeartbeats 4000000 in
theorem RLeave_0 (kind : Int) (k1 : (kind == 1) = false) (k2 : (kind == 2) = false) (st vs : Array Value) (w : World) (hst : st.size = 24) [AllOne st] (hvs : vs.size = 28) [AllOne vs]
    (V : Nat → Int) (hV : ∀ (i : Nat) (h : i < vs.size), vs[i] = .int .u32 (V i)) (hB : ∀ i, 0 ≤ V i ∧ V i < 4294967296) :
    Calls Try.prog 17 #[.int .i64 kind, .agg st, .agg vs] w fun e w' => e = .returned (.agg (leaveF kind (flagsF (V 16) (V 17) (V 18)) st vs)) ∧ Below w.heap.size w w' := by
  have b16 := hB 16
  have b17 := hB 17
  have b18 := hB 18
  clear hB
  have HL : Hid (leaveF kind (flagsF (V 16) (V 17) (V 18)) st vs = st) := leaveF_0 k1 k2 _ _ _
  have n1 : (kind != 1) = true := by simpa using k1
  have n2 : (kind != 2) = true := by simpa using k2
  go_enter Try.func17, Try.ntmps17
  go_wp2_with fail
  refine bodyPost_ret_by (results_blk (n := 24) rfl _ Try.underlying28 rfl (by kernel_rfl) (by omega) _ _ _ rfl _ rfl (by go_simp)) rfl ⟨?_, ?_⟩
  · rw [HL.out]; go_simp
  · repeat (first | exact Below.refl _ _ | assumption | refine Below.drew ?_ | refine Below.alloc ?_ (by first | exact Nat.le_refl _ | omega | (simp; done) | (simp; omega)) _ | refine Below.setCell ?_ (by first | exact Nat.le_refl _ | omega | (simp; done) | (simp; omega)) _ | refine below_row ?_ _ (by first | exact Nat.le_refl _ | omega | (simp; done) | (simp; omega)) _)

theorem Leave_any (kind : Int) (st vs : Array Value) (w : World) (hst : st.size = 24) [AllOne st] (hvs : vs.size = 28) [AllOne vs]
    (V : Nat → Int) (hV : ∀ (i : Nat) (h : i < vs.size), vs[i] = .int .u32 (V i)) (hB : ∀ i, 0 ≤ V i ∧ V i < 4294967296) :
    Calls Try.prog 15 #[.int .i64 kind, .agg st, .agg vs] w fun e w' => e = .returned (.agg (leaveF kind (flagsF (V 16) (V 17) (V 18)) st vs)) ∧ Below w.heap.size w w' := by
  by_cases h1 : kind = 1
  · subst h1; exact Leave_1 st vs w hst hvs V hV hB
  by_cases h2 : kind = 2
  · subst h2; exact Leave_2 st vs w hst hvs V hV hB
  exact Leave_0 kind (by simpa using h1) (by simpa using h2) st vs w hst hvs V hV hB

theorem RLeave_any (kind : Int) (st vs : Array Value) (w : World) (hst : st.size = 24) [AllOne st] (hvs : vs.size = 28) [AllOne vs]
    (V : Nat → Int) (hV : ∀ (i : Nat) (h : i < vs.size), vs[i] = .int .u32 (V i)) (hB : ∀ i, 0 ≤ V i ∧ V i < 4294967296) :
    Calls Try.prog 17 #[.int .i64 kind, .agg st, .agg vs] w fun e w' => e = .returned (.agg (leaveF kind (flagsF (V 16) (V 17) (V 18)) st vs)) ∧ Below w.heap.size w w' := by
  by_cases h1 : kind = 1
  · subst h1; exact RLeave_1 st vs w hst hvs V hV hB
  by_cases h2 : kind = 2
  · subst h2; exact RLeave_2 st vs w hst hvs V hV hB
  exact RLeave_0 kind (by simpa using h1) (by simpa using h2) st vs w hst hvs V hV hB
end Go.Proofs.Ytehehnhomlcimaa
