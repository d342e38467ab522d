/- Contracts of 'Enter' and 'Context' at the law's own sample. -/
import Derived.Test.YtehehnhomlcimaaB
import Derived.Deep.Cut
namespace Go.Proofs.Ytehehnhomlcimaa
open Go.RowKit
attribute [local go_sem ↓ high] loadAt25 storeAt25 ld25 st25 loadAt28 storeAt28 ld28 st28 loadAt31 storeAt31 ld31 st31 loadAt32 storeAt32 ld32 st32 copyB copy35
attribute [local go_sem] allOne_inst World.cs_alloc_at World.cs_alloc_past World.cs_drew World.plainRow_alloc_at World.plainRow_alloc_past World.plainRow_drew World.setRow_alloc_at World.setRow_alloc_past World.setRow_drew spl_all extract_all size_spl World.cs_setCell_same World.cs_setCell_other World.plainRow_setCell World.cs_setRow_same World.cs_setRow_other World.plainRow_setRow World.size_setRow' World.cell_setRow World.frozen_setRow ne_up1 ne_dn1 ne_up2 ne_dn2 ne_up3 ne_dn3 ne_up4 ne_dn4 ne_up5 ne_dn5 ne_up6 ne_dn6 ne_up7 ne_dn7 ne_up8 ne_dn8 ne_up9 ne_dn9 ne_up10 ne_dn10 ne_up11 ne_dn11 ne_up12 ne_dn12 ne_up13 ne_dn13 ne_up14 ne_dn14 ne_up15 ne_dn15 lt_up2 lt_up3 lt_up4 lt_up5 lt_up6 lt_up7 lt_up8 lt_up9 lt_up10 lt_up11 lt_up12 lt_up13 lt_up14 lt_up15

def st0 : Array Value := #[.int .u32 300, .int .u32 0, .int .u32 7, .int .u32 0, .int .u32 0, .int .u32 0, .int .u32 0, .int .u32 0, .int .u32 0, .int .u32 0, .int .u32 0, .int .u32 0, .int .u32 0, .int .u32 0, .int .u32 0, .int .u32 0, .int .u32 0, .int .u32 5, .int .u32 0, .int .u32 0, .int .u32 0, .int .u32 0, .int .i64 10, .int .i64 0]
def vs0 : Array Value := #[.int .u32 0, .int .u32 7, .int .u32 0, .int .u32 0, .int .u32 0, .int .u32 0, .int .u32 0, .int .u32 0, .int .u32 0, .int .u32 0, .int .u32 0, .int .u32 0, .int .u32 0, .int .u32 0, .int .u32 0, .int .u32 0, .int .u32 0, .int .u32 5, .int .u32 0, .int .u32 0, .int .u32 0, .int .u32 0, .int .u32 0, .int .u32 0, .int .u32 0, .int .u32 0, .int .u32 0, .int .u32 0]
def cx0 : Array Value := #[.int .u32 0, .int .u32 7, .int .u32 0, .int .u32 0, .int .u32 0, .int .u32 0, .int .u32 0, .int .u32 0, .int .u32 0, .int .u32 0, .int .u32 0, .int .u32 0, .int .u32 0, .int .u32 0, .int .u32 0, .int .u32 0, .int .u32 0, .int .u32 5, .int .u32 0, .int .u32 300, .int .u32 0, .int .u32 0, .int .u32 0, .int .u32 0, .int .u32 0, .int .u32 0, .int .u32 0, .int .u32 0, .int .u32 0, .int .u32 9, .int .u32 0, .int .u32 0, .int .u32 0, .int .u32 0, .int .u32 0, .int .u32 0, .int .u32 0, .int .u32 0, .int .u32 0, .int .u32 0, .int .u32 0, .int .u32 0, .int .u32 0, .int .u32 0, .int .u32 0, .int .u32 0, .int .u32 0, .int .u32 0, .int .u32 0, .int .u32 0, .int .u32 0, .int .u32 0, .int .u32 0, .int .u32 0, .int .u32 0, .int .u32 0, .int .u32 0, .int .u32 0, .int .u32 0, .int .u32 0, .int .u32 0, .int .u32 0, .int .u32 0, .int .u32 0]
theorem plain_free {w : World} {b : Nat} (h : w.plainRow b = true) (i : Nat) : w.frozen? ⟨b, i, none⟩ = false := by
  obtain ⟨t, ht⟩ := plainRow_heap b h
  simp [World.frozen?, ht]
theorem ret_vs {a : Array Value} (h : a = vs0) : Ending.returned (.agg a) = .returned (.agg vs0) := by rw [h]
theorem ret_cx {a : Array Value} (h : a = cx0) : Ending.returned (.agg a) = .returned (.agg cx0) := by rw [h]

set_option maxRecDepth 100000 in
set_option maxHeartbeats 4000000 in
theorem Enter_s (w : World) : Calls Try.prog 18 #[.int .i64 1, .agg st0] w fun e w' => e = .returned (.agg vs0) ∧ Below w.heap.size w w' := by
  unfold st0
  go_enter Try.func18, Try.ntmps18
  go_wp2_with fail
  go_still_tail 3, (by kernel_rfl)
  change wpList _ _ _ _ _ (World.drew _)
  go_wp2_with fail
  refine bodyPost_ret_by (results_blk (n := 28) rfl _ Try.underlying31 rfl (by kernel_rfl) (by omega) _ _ _ rfl _ rfl (by go_simp)) rfl ⟨?_, ?_⟩
  · go_simp
    kernel_rfl
  · repeat (first | exact Below.refl _ _ | assumption | refine Below.drew ?_ | refine Below.alloc ?_ (by first | exact Nat.le_refl _ | omega | (simp; done) | (simp; omega)) _ | refine Below.setCell ?_ (by first | exact Nat.le_refl _ | omega | (simp; done) | (simp; omega)) _ | refine below_row ?_ _ (by first | exact Nat.le_refl _ | omega | (simp; done) | (simp; omega)) _)

set_option maxRecDepth 100000 in
set_option maxHeartbeats 4000000 in
theorem Context_s (w : World) : Calls Try.prog 9 #[.int .i64 1, .agg st0, .int .u32 9] w fun e w' => e = .returned (.agg cx0) ∧ Below w.heap.size w w' := by
  unfold st0
  go_enter Try.func9, Try.ntmps9
  go_wp2_with fail
  refine (Enter_s _).mono ?_
  rintro e w1 ⟨rfl, hb⟩
  obtain ⟨hc, hf⟩ := bcell hb
  obtain ⟨hcs, hpr⟩ := bcs hb
  have hz := hb.size
  have y3 : w.heap.size + 1 + 1 + 1 ≤ w1.heap.size := by simpa using hz
  have cA : w1.cs w.heap.size = #[.int .u32 300, .int .u32 0, .int .u32 7, .int .u32 0, .int .u32 0, .int .u32 0, .int .u32 0, .int .u32 0, .int .u32 0, .int .u32 0, .int .u32 0, .int .u32 0, .int .u32 0, .int .u32 0, .int .u32 0, .int .u32 0, .int .u32 0, .int .u32 5, .int .u32 0, .int .u32 0, .int .u32 0, .int .u32 0, .int .i64 10, .int .i64 0] := by rw [hcs _ (by simp; omega)]; go_simp
  have cC : w1.cs (w.heap.size + 1 + 1) = #[(.int .u32 0), (.int .u32 0), (.int .u32 0), (.int .u32 0), (.int .u32 0), (.int .u32 0), (.int .u32 0), (.int .u32 0), (.int .u32 0), (.int .u32 0), (.int .u32 0), (.int .u32 0), (.int .u32 0), (.int .u32 0), (.int .u32 0), (.int .u32 0), (.int .u32 0), (.int .u32 0), (.int .u32 0), (.int .u32 0), (.int .u32 0), (.int .u32 0), (.int .u32 0), (.int .u32 0), (.int .u32 0), (.int .u32 0), (.int .u32 0), (.int .u32 0), (.int .u32 0), (.int .u32 0), (.int .u32 0), (.int .u32 0), (.int .u32 0), (.int .u32 0), (.int .u32 0), (.int .u32 0), (.int .u32 0), (.int .u32 0), (.int .u32 0), (.int .u32 0), (.int .u32 0), (.int .u32 0), (.int .u32 0), (.int .u32 0), (.int .u32 0), (.int .u32 0), (.int .u32 0), (.int .u32 0), (.int .u32 0), (.int .u32 0), (.int .u32 0), (.int .u32 0), (.int .u32 0), (.int .u32 0), (.int .u32 0), (.int .u32 0), (.int .u32 0), (.int .u32 0), (.int .u32 0), (.int .u32 0), (.int .u32 0), (.int .u32 0), (.int .u32 0), (.int .u32 0)] := by rw [hcs _ (by simp)]; go_simp
  have cR : w1.cs (w.heap.size + 1) = #[(.int .u32 0), (.int .u32 0), (.int .u32 0), (.int .u32 0), (.int .u32 0), (.int .u32 0), (.int .u32 0), (.int .u32 0), (.int .u32 0), (.int .u32 0), (.int .u32 0), (.int .u32 0), (.int .u32 0), (.int .u32 0), (.int .u32 0), (.int .u32 0), (.int .u32 0), (.int .u32 0), (.int .u32 0), (.int .u32 0), (.int .u32 0), (.int .u32 0), (.int .u32 0), (.int .u32 0), (.int .u32 0), (.int .u32 0), (.int .u32 0), (.int .u32 0), (.int .u32 0), (.int .u32 0), (.int .u32 0), (.int .u32 0), (.int .u32 0), (.int .u32 0), (.int .u32 0), (.int .u32 0), (.int .u32 0), (.int .u32 0), (.int .u32 0), (.int .u32 0), (.int .u32 0), (.int .u32 0), (.int .u32 0), (.int .u32 0), (.int .u32 0), (.int .u32 0), (.int .u32 0), (.int .u32 0), (.int .u32 0), (.int .u32 0), (.int .u32 0), (.int .u32 0), (.int .u32 0), (.int .u32 0), (.int .u32 0), (.int .u32 0), (.int .u32 0), (.int .u32 0), (.int .u32 0), (.int .u32 0), (.int .u32 0), (.int .u32 0), (.int .u32 0), (.int .u32 0)] := by rw [hcs _ (by simp)]; go_simp
  have pC : w1.plainRow (w.heap.size + 1 + 1) = true := by rw [hpr _ (by simp)]; go_simp
  have pR : w1.plainRow (w.heap.size + 1) = true := by rw [hpr _ (by simp)]; go_simp
  have hbel : Below w.heap.size w w1 := by
    refine below_call ?_ hb
    repeat (first | exact Below.refl _ _ | assumption | refine Below.drew ?_ | refine Below.alloc ?_ (by first | exact Nat.le_refl _ | omega | (simp; done) | (simp; omega)) _ | refine Below.setCell ?_ (by first | exact Nat.le_refl _ | omega | (simp; done) | (simp; omega)) _ | refine below_row ?_ _ (by first | exact Nat.le_refl _ | omega | (simp; done) | (simp; omega)) _)
  unfold vs0
  go_upto_region 3 with (fail)
  have n1 := World.cs_alloc_at (w := w1) #[.int .u32 0, .int .u32 7, .int .u32 0, .int .u32 0, .int .u32 0, .int .u32 0, .int .u32 0, .int .u32 0, .int .u32 0, .int .u32 0, .int .u32 0, .int .u32 0, .int .u32 0, .int .u32 0, .int .u32 0, .int .u32 0, .int .u32 0, .int .u32 5, .int .u32 0, .int .u32 0, .int .u32 0, .int .u32 0, .int .u32 0, .int .u32 0, .int .u32 0, .int .u32 0, .int .u32 0, .int .u32 0] 31 (0, 0) _ rfl
  have n2 := (World.cs_alloc_past (w := w1) (.cells #[.int .u32 0, .int .u32 7, .int .u32 0, .int .u32 0, .int .u32 0, .int .u32 0, .int .u32 0, .int .u32 0, .int .u32 0, .int .u32 0, .int .u32 0, .int .u32 0, .int .u32 0, .int .u32 0, .int .u32 0, .int .u32 0, .int .u32 0, .int .u32 5, .int .u32 0, .int .u32 0, .int .u32 0, .int .u32 0, .int .u32 0, .int .u32 0, .int .u32 0, .int .u32 0, .int .u32 0, .int .u32 0] 31) (w.heap.size) (by omega)).trans cA
  have n3 := (World.cs_alloc_past (w := w1) (.cells #[.int .u32 0, .int .u32 7, .int .u32 0, .int .u32 0, .int .u32 0, .int .u32 0, .int .u32 0, .int .u32 0, .int .u32 0, .int .u32 0, .int .u32 0, .int .u32 0, .int .u32 0, .int .u32 0, .int .u32 0, .int .u32 0, .int .u32 0, .int .u32 5, .int .u32 0, .int .u32 0, .int .u32 0, .int .u32 0, .int .u32 0, .int .u32 0, .int .u32 0, .int .u32 0, .int .u32 0, .int .u32 0] 31) (w.heap.size + 1 + 1) (by omega)).trans cC
  have n4 := (World.cs_alloc_past (w := w1) (.cells #[.int .u32 0, .int .u32 7, .int .u32 0, .int .u32 0, .int .u32 0, .int .u32 0, .int .u32 0, .int .u32 0, .int .u32 0, .int .u32 0, .int .u32 0, .int .u32 0, .int .u32 0, .int .u32 0, .int .u32 0, .int .u32 0, .int .u32 0, .int .u32 5, .int .u32 0, .int .u32 0, .int .u32 0, .int .u32 0, .int .u32 0, .int .u32 0, .int .u32 0, .int .u32 0, .int .u32 0, .int .u32 0] 31) (w.heap.size + 1) (by omega)).trans cR
  have p3 := (World.plainRow_alloc_past (w := w1) (.cells #[.int .u32 0, .int .u32 7, .int .u32 0, .int .u32 0, .int .u32 0, .int .u32 0, .int .u32 0, .int .u32 0, .int .u32 0, .int .u32 0, .int .u32 0, .int .u32 0, .int .u32 0, .int .u32 0, .int .u32 0, .int .u32 0, .int .u32 0, .int .u32 5, .int .u32 0, .int .u32 0, .int .u32 0, .int .u32 0, .int .u32 0, .int .u32 0, .int .u32 0, .int .u32 0, .int .u32 0, .int .u32 0] 31) (w.heap.size + 1 + 1) (by omega)).trans pC
  have p4 := (World.plainRow_alloc_past (w := w1) (.cells #[.int .u32 0, .int .u32 7, .int .u32 0, .int .u32 0, .int .u32 0, .int .u32 0, .int .u32 0, .int .u32 0, .int .u32 0, .int .u32 0, .int .u32 0, .int .u32 0, .int .u32 0, .int .u32 0, .int .u32 0, .int .u32 0, .int .u32 0, .int .u32 5, .int .u32 0, .int .u32 0, .int .u32 0, .int .u32 0, .int .u32 0, .int .u32 0, .int .u32 0, .int .u32 0, .int .u32 0, .int .u32 0] 31) (w.heap.size + 1) (by omega)).trans pR
  have hbel3 := hbel.alloc hbel.size (.cells #[.int .u32 0, .int .u32 7, .int .u32 0, .int .u32 0, .int .u32 0, .int .u32 0, .int .u32 0, .int .u32 0, .int .u32 0, .int .u32 0, .int .u32 0, .int .u32 0, .int .u32 0, .int .u32 0, .int .u32 0, .int .u32 0, .int .u32 0, .int .u32 5, .int .u32 0, .int .u32 0, .int .u32 0, .int .u32 0, .int .u32 0, .int .u32 0, .int .u32 0, .int .u32 0, .int .u32 0, .int .u32 0] 31)
  have z3 : ¬ (w.heap.size + 1 + 1 = w1.heap.size) := by omega
  have z3' : ¬ (w1.heap.size = w.heap.size + 1 + 1) := by omega
  have z4 : ¬ (w1.heap.size = w.heap.size + 1) := by omega
  generalize (w1.alloc (.cells #[.int .u32 0, .int .u32 7, .int .u32 0, .int .u32 0, .int .u32 0, .int .u32 0, .int .u32 0, .int .u32 0, .int .u32 0, .int .u32 0, .int .u32 0, .int .u32 0, .int .u32 0, .int .u32 0, .int .u32 0, .int .u32 0, .int .u32 0, .int .u32 5, .int .u32 0, .int .u32 0, .int .u32 0, .int .u32 0, .int .u32 0, .int .u32 0, .int .u32 0, .int .u32 0, .int .u32 0, .int .u32 0] 31)) = W3 at n1 n2 n3 n4 p3 p4 hbel3 ⊢
  generalize w1.heap.size = bv at n1 z3 z3' z4 ⊢
  have n2c : ∀ i, W3.cell? ⟨w.heap.size, i, none⟩ = (#[.int .u32 300, .int .u32 0, .int .u32 7, .int .u32 0, .int .u32 0, .int .u32 0, .int .u32 0, .int .u32 0, .int .u32 0, .int .u32 0, .int .u32 0, .int .u32 0, .int .u32 0, .int .u32 0, .int .u32 0, .int .u32 0, .int .u32 0, .int .u32 5, .int .u32 0, .int .u32 0, .int .u32 0, .int .u32 0, .int .i64 10, .int .i64 0] : Array Value)[i]? := fun i => by rw [World.cell_cs, n2]
  have n3c : ∀ i, W3.cell? ⟨w.heap.size + 1 + 1, i, none⟩ = (#[(.int .u32 0), (.int .u32 0), (.int .u32 0), (.int .u32 0), (.int .u32 0), (.int .u32 0), (.int .u32 0), (.int .u32 0), (.int .u32 0), (.int .u32 0), (.int .u32 0), (.int .u32 0), (.int .u32 0), (.int .u32 0), (.int .u32 0), (.int .u32 0), (.int .u32 0), (.int .u32 0), (.int .u32 0), (.int .u32 0), (.int .u32 0), (.int .u32 0), (.int .u32 0), (.int .u32 0), (.int .u32 0), (.int .u32 0), (.int .u32 0), (.int .u32 0), (.int .u32 0), (.int .u32 0), (.int .u32 0), (.int .u32 0), (.int .u32 0), (.int .u32 0), (.int .u32 0), (.int .u32 0), (.int .u32 0), (.int .u32 0), (.int .u32 0), (.int .u32 0), (.int .u32 0), (.int .u32 0), (.int .u32 0), (.int .u32 0), (.int .u32 0), (.int .u32 0), (.int .u32 0), (.int .u32 0), (.int .u32 0), (.int .u32 0), (.int .u32 0), (.int .u32 0), (.int .u32 0), (.int .u32 0), (.int .u32 0), (.int .u32 0), (.int .u32 0), (.int .u32 0), (.int .u32 0), (.int .u32 0), (.int .u32 0), (.int .u32 0), (.int .u32 0), (.int .u32 0)] : Array Value)[i]? := fun i => by rw [World.cell_cs, n3]
  have n4c : ∀ i, W3.cell? ⟨w.heap.size + 1, i, none⟩ = (#[(.int .u32 0), (.int .u32 0), (.int .u32 0), (.int .u32 0), (.int .u32 0), (.int .u32 0), (.int .u32 0), (.int .u32 0), (.int .u32 0), (.int .u32 0), (.int .u32 0), (.int .u32 0), (.int .u32 0), (.int .u32 0), (.int .u32 0), (.int .u32 0), (.int .u32 0), (.int .u32 0), (.int .u32 0), (.int .u32 0), (.int .u32 0), (.int .u32 0), (.int .u32 0), (.int .u32 0), (.int .u32 0), (.int .u32 0), (.int .u32 0), (.int .u32 0), (.int .u32 0), (.int .u32 0), (.int .u32 0), (.int .u32 0), (.int .u32 0), (.int .u32 0), (.int .u32 0), (.int .u32 0), (.int .u32 0), (.int .u32 0), (.int .u32 0), (.int .u32 0), (.int .u32 0), (.int .u32 0), (.int .u32 0), (.int .u32 0), (.int .u32 0), (.int .u32 0), (.int .u32 0), (.int .u32 0), (.int .u32 0), (.int .u32 0), (.int .u32 0), (.int .u32 0), (.int .u32 0), (.int .u32 0), (.int .u32 0), (.int .u32 0), (.int .u32 0), (.int .u32 0), (.int .u32 0), (.int .u32 0), (.int .u32 0), (.int .u32 0), (.int .u32 0), (.int .u32 0)] : Array Value)[i]? := fun i => by rw [World.cell_cs, n4]
  have f3 : ∀ i, W3.frozen? ⟨w.heap.size + 1 + 1, i, none⟩ = false := fun i => plain_free p3 i
  have f4 : ∀ i, W3.frozen? ⟨w.heap.size + 1, i, none⟩ = false := fun i => plain_free p4 i
  clear hb hcs hpr hz cA cC cR pC pR hbel hc hf y3
  clear w1
  go_still_tail 2, (by kernel_rfl)
  change wpList _ _ _ _ _ (World.drew _)
  go_wp2_with fail
  refine bodyPost_ret_by (results_blk (n := 64) rfl _ Try.underlying32 rfl (by kernel_rfl) (by omega) _ _ _ rfl _ rfl (by go_simp)) rfl ⟨?_, ?_⟩
  · go_simp
    kernel_rfl
  · repeat (first | exact Below.refl _ _ | assumption | refine Below.drew ?_ | refine Below.alloc ?_ (by first | exact Nat.le_refl _ | omega | (simp; done) | (simp; omega)) _ | refine Below.setCell ?_ (by first | exact Nat.le_refl _ | omega | (simp; done) | (simp; omega)) _ | refine below_row ?_ _ (by first | exact Nat.le_refl _ | omega | (simp; done) | (simp; omega)) _)
end Go.Proofs.Ytehehnhomlcimaa
