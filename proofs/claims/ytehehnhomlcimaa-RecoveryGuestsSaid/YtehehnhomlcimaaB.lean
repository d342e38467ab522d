/- Contracts of the functions on states. -/
import Derived.Test.YtehehnhomlcimaaA
import Derived.Test.YtehehnhomlcimaaAgg
namespace Go.Proofs.Ytehehnhomlcimaa
open Go.RowKit
theorem bcell {W w1 : World} (hb : Below W.heap.size W w1) : (∀ b o, b < W.heap.size → w1.cell? ⟨b, o, none⟩ = W.cell? ⟨b, o, none⟩) ∧ (∀ b o, b < W.heap.size → w1.frozen? ⟨b, o, none⟩ = W.frozen? ⟨b, o, none⟩) :=
  ⟨fun b o h => hb.cell (p := ⟨b, o, none⟩) h, fun b o h => hb.frozen (p := ⟨b, o, none⟩) h⟩
theorem bcs {W w1 : World} (hb : Below W.heap.size W w1) : (∀ b, b < W.heap.size → w1.cs b = W.cs b) ∧ (∀ b, b < W.heap.size → w1.plainRow b = W.plainRow b) :=
  ⟨fun b h => by unfold World.cs; rw [hb.block b h], fun b h => by unfold World.plainRow; rw [hb.block b h]⟩

theorem ld25 (w : World) (b off : Nat) (hfit : off + 16 ≤ (w.cs b).size) : (ldB 25 (.pointer (some ⟨b, off, none⟩))).run Try.prog w = .ok (.agg ((w.cs b).extract off (off + 16))) w :=
  run_ldB 25 16 _ Try.underlying25 rfl (by kernel_rfl) w b off hfit (by omega)
theorem st25 (w : World) (b off : Nat) (vs : Array Value) (hp : w.plainRow b = true) (hvs : vs.size = 16) (hfit : off + 16 ≤ (w.cs b).size) (h1 : allOne vs = true) :
    (stB 25 (.pointer (some ⟨b, off, none⟩)) (.agg vs)).run Try.prog w = .ok () (w.setRow b (spl (w.cs b) off vs)) := run_stB 25 16 (by kernel_rfl) w b off vs hp hvs hfit h1
theorem loadAt25 (v : Value) : Instr.loadAt 25 v = ldB 25 v := rfl
theorem storeAt25 (p v : Value) : Instr.storeAt 25 p v = stB 25 p v := rfl
theorem ld28 (w : World) (b off : Nat) (hfit : off + 24 ≤ (w.cs b).size) : (ldB 28 (.pointer (some ⟨b, off, none⟩))).run Try.prog w = .ok (.agg ((w.cs b).extract off (off + 24))) w :=
  run_ldB 28 24 _ Try.underlying28 rfl (by kernel_rfl) w b off hfit (by omega)
theorem st28 (w : World) (b off : Nat) (vs : Array Value) (hp : w.plainRow b = true) (hvs : vs.size = 24) (hfit : off + 24 ≤ (w.cs b).size) (h1 : allOne vs = true) :
    (stB 28 (.pointer (some ⟨b, off, none⟩)) (.agg vs)).run Try.prog w = .ok () (w.setRow b (spl (w.cs b) off vs)) := run_stB 28 24 (by kernel_rfl) w b off vs hp hvs hfit h1
theorem loadAt28 (v : Value) : Instr.loadAt 28 v = ldB 28 v := rfl
theorem storeAt28 (p v : Value) : Instr.storeAt 28 p v = stB 28 p v := rfl
theorem ld31 (w : World) (b off : Nat) (hfit : off + 28 ≤ (w.cs b).size) : (ldB 31 (.pointer (some ⟨b, off, none⟩))).run Try.prog w = .ok (.agg ((w.cs b).extract off (off + 28))) w :=
  run_ldB 31 28 _ Try.underlying31 rfl (by kernel_rfl) w b off hfit (by omega)
theorem st31 (w : World) (b off : Nat) (vs : Array Value) (hp : w.plainRow b = true) (hvs : vs.size = 28) (hfit : off + 28 ≤ (w.cs b).size) (h1 : allOne vs = true) :
    (stB 31 (.pointer (some ⟨b, off, none⟩)) (.agg vs)).run Try.prog w = .ok () (w.setRow b (spl (w.cs b) off vs)) := run_stB 31 28 (by kernel_rfl) w b off vs hp hvs hfit h1
theorem loadAt31 (v : Value) : Instr.loadAt 31 v = ldB 31 v := rfl
theorem storeAt31 (p v : Value) : Instr.storeAt 31 p v = stB 31 p v := rfl
theorem ld32 (w : World) (b off : Nat) (hfit : off + 64 ≤ (w.cs b).size) : (ldB 32 (.pointer (some ⟨b, off, none⟩))).run Try.prog w = .ok (.agg ((w.cs b).extract off (off + 64))) w :=
  run_ldB 32 64 _ Try.underlying32 rfl (by kernel_rfl) w b off hfit (by omega)
theorem st32 (w : World) (b off : Nat) (vs : Array Value) (hp : w.plainRow b = true) (hvs : vs.size = 64) (hfit : off + 64 ≤ (w.cs b).size) (h1 : allOne vs = true) :
    (stB 32 (.pointer (some ⟨b, off, none⟩)) (.agg vs)).run Try.prog w = .ok () (w.setRow b (spl (w.cs b) off vs)) := run_stB 32 64 (by kernel_rfl) w b off vs hp hvs hfit h1
theorem loadAt32 (v : Value) : Instr.loadAt 32 v = ldB 32 v := rfl
theorem storeAt32 (p v : Value) : Instr.storeAt 32 p v = stB 32 p v := rfl
theorem copyB (ts : Array TypeId) (t : TypeId) (args : Array Value) : Builtin.copy_ ts t args = cpB ts t args := rfl
theorem copy35 (w : World) (g o dLen dCap b off sLen sCap : Nat) (hp : w.plainRow g = true)
    (hfit : o + min sLen dLen ≤ (w.cs g).size) (hsrc : off + min sLen dLen ≤ (w.cs b).size) (h1 : allOne (w.cs b) = true) :
    (cpB #[35, 35] 3 #[.slice (some ⟨g, o, none⟩) dLen dCap, .slice (some ⟨b, off, none⟩) sLen sCap]).run Try.prog w =
      .ok (goInt ((min sLen dLen : Nat) : Int)) (w.setRow g (spl (w.cs g) o ((w.cs b).extract off (off + min sLen dLen)))) := run_copy_blk 35 35 3 24 Try.underlying35 (by kernel_rfl) w g o dLen dCap b off sLen sCap hp hfit hsrc h1

attribute [local go_sem ↓ high] loadAt25 storeAt25 ld25 st25 loadAt28 storeAt28 ld28 st28 loadAt31 storeAt31 ld31 st31 loadAt32 storeAt32 ld32 st32 copyB copy35
attribute [local go_sem] allOne_inst World.cs_alloc_at World.cs_alloc_past World.cs_drew World.plainRow_alloc_at World.plainRow_alloc_past World.plainRow_drew World.setRow_alloc_at World.setRow_alloc_past World.setRow_drew spl_all extract_all size_spl World.cs_setCell_same World.cs_setCell_other World.plainRow_setCell World.cs_setRow_same World.cs_setRow_other World.plainRow_setRow World.size_setRow' World.cell_setRow World.frozen_setRow ne_up1 ne_dn1 ne_up2 ne_dn2 ne_up3 ne_dn3 ne_up4 ne_dn4 ne_up5 ne_dn5 ne_up6 ne_dn6 ne_up7 ne_dn7 ne_up8 ne_dn8 ne_up9 ne_dn9 ne_up10 ne_dn10 ne_up11 ne_dn11 ne_up12 ne_dn12 ne_up13 ne_dn13 ne_up14 ne_dn14 ne_up15 ne_dn15 lt_up2 lt_up3 lt_up4 lt_up5 lt_up6 lt_up7 lt_up8 lt_up9 lt_up10 lt_up11 lt_up12 lt_up13 lt_up14 lt_up15


def zeros16 : Array Value := #[.int .u32 0, .int .u32 0, .int .u32 0, .int .u32 0, .int .u32 0, .int .u32 0, .int .u32 0, .int .u32 0, .int .u32 0, .int .u32 0, .int .u32 0, .int .u32 0, .int .u32 0, .int .u32 0, .int .u32 0, .int .u32 0]
/-- What both 'Leave' return of a state and variables, f the flags. -/
def leaveF (kind f : Int) (st vs : Array Value) : Array Value :=
  if kind = 1 then (spl (spl st 1 #[.int .u32 0, .int .u32 0, .int .u32 0, .int .u32 0, .int .u32 0, .int .u32 0, .int .u32 0, .int .u32 0, .int .u32 0, .int .u32 0, .int .u32 0, .int .u32 0, .int .u32 0, .int .u32 0, .int .u32 0, .int .u32 0]) 1 (vs.extract 0 8)).setIfInBounds 17 (.int .u32 f)
  else if kind = 2 then ((spl st 1 (vs.extract 0 16)).setIfInBounds 1 (.int .u32 0)).setIfInBounds 17 (.int .u32 0) else st

theorem leaveF_0 {kind : Int} (k1 : (kind == 1) = false) (k2 : (kind == 2) = false) (f : Int) (st vs : Array Value) : leaveF kind f st vs = st := by
  have h1 : ¬ kind = 1 := by simpa using k1
  have h2 : ¬ kind = 2 := by simpa using k2
  simp [leaveF, h1, h2]

set_option maxRecDepth 100000 in
set_option maxHeartbeats 4000000 in
theorem Leave_1 (st vs : Array Value) (w : World) (hst : st.size = 24) [AllOne st] (hvs : vs.size = 28) [AllOne vs]
    (V : Nat → Int) (hV : ∀ (i : Nat) (h : i < vs.size), vs[i] = .int .u32 (V i)) (hB : ∀ i, 0 ≤ V i ∧ V i < 4294967296) :
    Calls Try.prog 15 #[.int .i64 1, .agg st, .agg vs] w fun e w' => e = .returned (.agg (leaveF 1 (flagsF (V 16) (V 17) (V 18)) st vs)) ∧ Below w.heap.size w w' := by
  have b16 := hB 16
  have b17 := hB 17
  have b18 := hB 18
  clear hB
  go_enter Try.func15, Try.ntmps15
  go_wp2_with fail
  go_still_tail 3, (by kernel_rfl)
  change wpList _ _ _ _ _ (World.drew _)
  go_wp2_with fail
  refine (Flags_any _ _ _ _ (by omega) (by omega) (by omega) (by omega)).mono ?_
  rintro e w1 ⟨rfl, hb⟩
  obtain ⟨hc, hf⟩ := bcell hb
  obtain ⟨hcs, hpr⟩ := bcs hb
  have hz := hb.size
  go_wp2_with fail
  refine bodyPost_ret_by (results_blk (n := 24) rfl _ Try.underlying28 rfl (by kernel_rfl) (by omega) _ _ _ rfl _ rfl (by go_simp)) rfl ⟨?_, ?_⟩
  · go_simp; rfl
  · repeat (first | exact Below.refl _ _ | assumption | refine below_call ?_ hb | refine Below.drew ?_ | refine Below.alloc ?_ (by first | exact Nat.le_refl _ | omega | (simp; done) | (simp; omega)) _ | refine Below.setCell ?_ (by first | exact Nat.le_refl _ | omega | (simp; done) | (simp; omega)) _ | refine below_row ?_ _ (by first | exact Nat.le_refl _ | omega | (simp; done) | (simp; omega)) _)

set_option maxRecDepth 100000 in
set_option maxHeartbeats 4000000 in
theorem Leave_2 (st vs : Array Value) (w : World) (hst : st.size = 24) [AllOne st] (hvs : vs.size = 28) [AllOne vs]
    (V : Nat → Int) (hV : ∀ (i : Nat) (h : i < vs.size), vs[i] = .int .u32 (V i)) (hB : ∀ i, 0 ≤ V i ∧ V i < 4294967296) :
    Calls Try.prog 15 #[.int .i64 2, .agg st, .agg vs] w fun e w' => e = .returned (.agg (leaveF 2 (flagsF (V 16) (V 17) (V 18)) st vs)) ∧ Below w.heap.size w w' := by
  have b16 := hB 16
  have b17 := hB 17
  have b18 := hB 18
  clear hB
  go_enter Try.func15, Try.ntmps15
  go_wp2_with fail
  go_still_tail 3, (by kernel_rfl)
  change wpList _ _ _ _ _ (World.drew _)
  go_wp2_with fail
  refine bodyPost_ret_by (results_blk (n := 24) rfl _ Try.underlying28 rfl (by kernel_rfl) (by omega) _ _ _ rfl _ rfl (by go_simp)) rfl ⟨?_, ?_⟩
  · go_simp; rfl
  · repeat (first | exact Below.refl _ _ | assumption | refine Below.drew ?_ | refine Below.alloc ?_ (by first | exact Nat.le_refl _ | omega | (simp; done) | (simp; omega)) _ | refine Below.setCell ?_ (by first | exact Nat.le_refl _ | omega | (simp; done) | (simp; omega)) _ | refine below_row ?_ _ (by first | exact Nat.le_refl _ | omega | (simp; done) | (simp; omega)) _)

set_option maxRecDepth 100000 in
set_option maxHeartbeats 4000000 in
theorem Leave_0 (kind : Int) (k1 : (kind == 1) = false) (k2 : (kind == 2) = false) (st vs : Array Value) (w : World) (hst : st.size = 24) [AllOne st] (hvs : vs.size = 28) [AllOne vs]
    (V : Nat → Int) (hV : ∀ (i : Nat) (h : i < vs.size), vs[i] = .int .u32 (V i)) (hB : ∀ i, 0 ≤ V i ∧ V i < 4294967296) :
    Calls Try.prog 15 #[.int .i64 kind, .agg st, .agg vs] w fun e w' => e = .returned (.agg (leaveF kind (flagsF (V 16) (V 17) (V 18)) st vs)) ∧ Below w.heap.size w w' := by
  have b16 := hB 16
  have b17 := hB 17
  have b18 := hB 18
  clear hB
  have HL : Hid (leaveF kind (flagsF (V 16) (V 17) (V 18)) st vs = st) := leaveF_0 k1 k2 _ _ _
  go_enter Try.func15, Try.ntmps15
  go_wp2_with fail
  refine bodyPost_ret_by (results_blk (n := 24) rfl _ Try.underlying28 rfl (by kernel_rfl) (by omega) _ _ _ rfl _ rfl (by go_simp)) rfl ⟨?_, ?_⟩
  · rw [HL.out]; go_simp
  · repeat (first | exact Below.refl _ _ | assumption | refine Below.drew ?_ | refine Below.alloc ?_ (by first | exact Nat.le_refl _ | omega | (simp; done) | (simp; omega)) _ | refine Below.setCell ?_ (by first | exact Nat.le_refl _ | omega | (simp; done) | (simp; omega)) _ | refine below_row ?_ _ (by first | exact Nat.le_refl _ | omega | (simp; done) | (simp; omega)) _)
end Go.Proofs.Ytehehnhomlcimaa
