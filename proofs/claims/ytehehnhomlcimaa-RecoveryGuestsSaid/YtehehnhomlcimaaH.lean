/- Contract of the reference's 'Guest'. -/
import Derived.Test.YtehehnhomlcimaaG
namespace Go.Proofs.Ytehehnhomlcimaa
open Go.RowKit
attribute [local go_sem ↓ high] loadAt25 storeAt25 ld25 st25 loadAt28 storeAt28 ld28 st28 loadAt31 storeAt31 ld31 st31 loadAt32 storeAt32 ld32 st32 copyB copy35
attribute [local go_sem] allOne_inst World.cs_alloc_at World.cs_alloc_past World.cs_drew World.plainRow_alloc_at World.plainRow_alloc_past World.plainRow_drew World.setRow_alloc_at World.setRow_alloc_past World.setRow_drew spl_all extract_all size_spl World.cs_setCell_same World.cs_setCell_other World.plainRow_setCell World.cs_setRow_same World.cs_setRow_other World.plainRow_setRow World.size_setRow' World.cell_setRow World.frozen_setRow ne_up1 ne_dn1 ne_up2 ne_dn2 ne_up3 ne_dn3 ne_up4 ne_dn4 ne_up5 ne_dn5 ne_up6 ne_dn6 ne_up7 ne_dn7 ne_up8 ne_dn8 ne_up9 ne_dn9 ne_up10 ne_dn10 ne_up11 ne_dn11 ne_up12 ne_dn12 ne_up13 ne_dn13 ne_up14 ne_dn14 ne_up15 ne_dn15 lt_up2 lt_up3 lt_up4 lt_up5 lt_up6 lt_up7 lt_up8 lt_up9 lt_up10 lt_up11 lt_up12 lt_up13 lt_up14 lt_up15

theorem rangeAt_get {w : World} {b : Nat} {ctx : Array Value} {C : Nat → Int} (hctx : ctx.size = 64) (hC : ∀ (i : Nat) (h : i < ctx.size), ctx[i] = .int .u32 (C i)) (h : w.rangeAt b 0 ctx.toList) (k : Nat) (hk : k < 64) : w.cell? ⟨b, k, none⟩ = some (.int .u32 (C k)) := by
  have e := h k (.int .u32 (C k)) (by rw [Array.getElem?_toList, Array.getElem?_eq_getElem (by omega), hC k (by omega)])
  simpa using e

set_option maxRecDepth 100000 in
set_option maxHeartbeats 8000000 in
theorem RGuest_4 (kind : Int) (st vs ctx : Array Value) (V C : Nat → Int) (steps : Int) (sa so sp : Option Addr) (n m ca co np cp : Nat) (At : Nat → Int) (code : Int) (off idx tgt live cst : Int) (w : World) (G : GIn w st vs ctx V C steps sa so n m At code) (hn : 0 < n) :
    Calls Try.prog 8 #[.int .i64 kind, .agg st, .agg #[.slice sa n ca, .slice sp np cp, .slice so m co], .agg #[.int .i64 off, .int .i64 4, .int .i64 idx, .int .u32 tgt, .int .u32 live, .int .i64 cst], .agg vs, .agg ctx] w
      fun e w' => e = .returned (.agg (outG kind (flagsF (V 16) (V 17) (V 18)) st vs (tgt) steps (C 28))) ∧ Below w.heap.size w w' := by
  have hst := G.hst
  have hvs := G.hvs
  have hctx := G.hctx
  have hC := G.hC
  have h22 := G.h22
  haveI := G.ost
  haveI := G.ovs
  haveI := G.octx
  have hn' : ((n : Int) == 0) = false := by simp; omega
  have c28 := G.bC 28
  go_enter Try.func8, Try.ntmps8
  go_wp2_with fail
  refine (RLeave_any _ _ _ _ hst hvs V G.hV G.bV).mono ?_
  rintro e w4 ⟨rfl, hb4⟩
  obtain ⟨hc4, hf4⟩ := bcell hb4
  obtain ⟨hcs4, hpr4⟩ := bcs hb4
  have y := hb4.size
  have y5 : w.heap.size + 1 + 1 + 1 + 1 + 1 < w4.heap.size := (by have h6 : w.heap.size + 1 + 1 + 1 + 1 + 1 + 1 ≤ w4.heap.size := (by simpa using y); omega)
  have y0 : w.heap.size < w4.heap.size := by omega
  have y55 : ¬ (w.heap.size + 1 + 1 + 1 + 1 + 1 = w4.heap.size) := by omega
  have hlf := size_leaveF kind (flagsF (V 16) (V 17) (V 18)) st vs
  go_wp2_with fail
  refine bodyPost_ret_by (results_blk (n := 24) rfl _ Try.underlying28 rfl (by kernel_rfl) (by omega) _ _ _ rfl _ rfl (by go_simp)) rfl ⟨?_, ?_⟩
  · go_simp
    rfl
  · repeat (first | exact Below.refl _ _ | assumption | refine below_call ?_ hb4 | refine Below.drew ?_ | refine Below.alloc ?_ (by first | exact Nat.le_refl _ | omega | (simp; done) | (simp; omega)) _ | refine Below.setCell ?_ (by first | exact Nat.le_refl _ | omega | (simp; done) | (simp; omega)) _ | refine below_row ?_ _ (by first | exact Nat.le_refl _ | omega | (simp; done) | (simp; omega)) _)

set_option maxRecDepth 100000 in
set_option maxHeartbeats 8000000 in
theorem RGuest_6 (kind : Int) (st vs ctx : Array Value) (V C : Nat → Int) (steps : Int) (sa so sp : Option Addr) (n m ca co np cp : Nat) (At : Nat → Int) (code : Int) (off idx tgt live cst : Int) (w : World) (G : GIn w st vs ctx V C steps sa so n m At code) (hn : 0 < n) :
    Calls Try.prog 8 #[.int .i64 kind, .agg st, .agg #[.slice sa n ca, .slice sp np cp, .slice so m co], .agg #[.int .i64 off, .int .i64 6, .int .i64 idx, .int .u32 tgt, .int .u32 live, .int .i64 cst], .agg vs, .agg ctx] w
      fun e w' => e = .returned (.agg (outG kind (flagsF (V 16) (V 17) (V 18)) st vs (tgt) steps (C 28))) ∧ Below w.heap.size w w' := by
  have hst := G.hst
  have hvs := G.hvs
  have hctx := G.hctx
  have hC := G.hC
  have h22 := G.h22
  haveI := G.ost
  haveI := G.ovs
  haveI := G.octx
  have hn' : ((n : Int) == 0) = false := by simp; omega
  have c28 := G.bC 28
  go_enter Try.func8, Try.ntmps8
  go_wp2_with fail
  refine (RLeave_any _ _ _ _ hst hvs V G.hV G.bV).mono ?_
  rintro e w4 ⟨rfl, hb4⟩
  obtain ⟨hc4, hf4⟩ := bcell hb4
  obtain ⟨hcs4, hpr4⟩ := bcs hb4
  have y := hb4.size
  have y5 : w.heap.size + 1 + 1 + 1 + 1 + 1 < w4.heap.size := (by have h6 : w.heap.size + 1 + 1 + 1 + 1 + 1 + 1 ≤ w4.heap.size := (by simpa using y); omega)
  have y0 : w.heap.size < w4.heap.size := by omega
  have y55 : ¬ (w.heap.size + 1 + 1 + 1 + 1 + 1 = w4.heap.size) := by omega
  have hlf := size_leaveF kind (flagsF (V 16) (V 17) (V 18)) st vs
  go_wp2_with fail
  refine bodyPost_ret_by (results_blk (n := 24) rfl _ Try.underlying28 rfl (by kernel_rfl) (by omega) _ _ _ rfl _ rfl (by go_simp)) rfl ⟨?_, ?_⟩
  · go_simp
    rfl
  · repeat (first | exact Below.refl _ _ | assumption | refine below_call ?_ hb4 | refine Below.drew ?_ | refine Below.alloc ?_ (by first | exact Nat.le_refl _ | omega | (simp; done) | (simp; omega)) _ | refine Below.setCell ?_ (by first | exact Nat.le_refl _ | omega | (simp; done) | (simp; omega)) _ | refine below_row ?_ _ (by first | exact Nat.le_refl _ | omega | (simp; done) | (simp; omega)) _)

set_option maxRecDepth 100000 in
set_option maxHeartbeats 8000000 in
theorem RGuest_5 (kind : Int) (st vs ctx : Array Value) (V C : Nat → Int) (steps : Int) (sa so sp : Option Addr) (n m ca co np cp : Nat) (At : Nat → Int) (code : Int) (off idx tgt live cst : Int) (w : World) (G : GIn w st vs ctx V C steps sa so n m At code) (hn : 0 < n) :
    Calls Try.prog 8 #[.int .i64 kind, .agg st, .agg #[.slice sa n ca, .slice sp np cp, .slice so m co], .agg #[.int .i64 off, .int .i64 5, .int .i64 idx, .int .u32 tgt, .int .u32 live, .int .i64 cst], .agg vs, .agg ctx] w
      fun e w' => e = .returned (.agg (outG kind (flagsF (V 16) (V 17) (V 18)) st vs (C 19) steps (C 28))) ∧ Below w.heap.size w w' := by
  have hst := G.hst
  have hvs := G.hvs
  have hctx := G.hctx
  have hC := G.hC
  have h22 := G.h22
  haveI := G.ost
  haveI := G.ovs
  haveI := G.octx
  have hn' : ((n : Int) == 0) = false := by simp; omega
  have c28 := G.bC 28
  go_enter Try.func8, Try.ntmps8
  go_wp2_with fail
  refine (RLeave_any _ _ _ _ hst hvs V G.hV G.bV).mono ?_
  rintro e w4 ⟨rfl, hb4⟩
  obtain ⟨hc4, hf4⟩ := bcell hb4
  obtain ⟨hcs4, hpr4⟩ := bcs hb4
  have y := hb4.size
  have y5 : w.heap.size + 1 + 1 + 1 + 1 + 1 < w4.heap.size := (by have h6 : w.heap.size + 1 + 1 + 1 + 1 + 1 + 1 ≤ w4.heap.size := (by simpa using y); omega)
  have y0 : w.heap.size < w4.heap.size := by omega
  have y55 : ¬ (w.heap.size + 1 + 1 + 1 + 1 + 1 = w4.heap.size) := by omega
  have hlf := size_leaveF kind (flagsF (V 16) (V 17) (V 18)) st vs
  go_wp2_with fail
  refine bodyPost_ret_by (results_blk (n := 24) rfl _ Try.underlying28 rfl (by kernel_rfl) (by omega) _ _ _ rfl _ rfl (by go_simp)) rfl ⟨?_, ?_⟩
  · go_simp
    rfl
  · repeat (first | exact Below.refl _ _ | assumption | refine below_call ?_ hb4 | refine Below.drew ?_ | refine Below.alloc ?_ (by first | exact Nat.le_refl _ | omega | (simp; done) | (simp; omega)) _ | refine Below.setCell ?_ (by first | exact Nat.le_refl _ | omega | (simp; done) | (simp; omega)) _ | refine below_row ?_ _ (by first | exact Nat.le_refl _ | omega | (simp; done) | (simp; omega)) _)

set_option maxRecDepth 100000 in
set_option maxHeartbeats 8000000 in
theorem RGuest_1 (kind : Int) (st vs ctx : Array Value) (V C : Nat → Int) (steps : Int) (b0 o0 : Nat) (so sp : Option Addr) (n m ca co np cp : Nat) (At : Nat → Int) (code : Int) (off idx tgt live cst : Int) (w : World) (G : GIn w st vs ctx V C steps (some ⟨b0, o0, none⟩) so n m At code) (hn : 0 < n) :
    Calls Try.prog 8 #[.int .i64 kind, .agg st, .agg #[.slice (some ⟨b0, o0, none⟩) n ca, .slice sp np cp, .slice so m co], .agg #[.int .i64 off, .int .i64 1, .int .i64 idx, .int .u32 tgt, .int .u32 live, .int .i64 cst], .agg vs, .agg ctx] w
      fun e w' => e = .returned (.agg (outG kind (flagsF (V 16) (V 17) (V 18)) st vs (At 0) steps (C 28))) ∧ Below w.heap.size w w' := by
  have hst := G.hst
  have hvs := G.hvs
  have hctx := G.hctx
  have hC := G.hC
  have h22 := G.h22
  haveI := G.ost
  haveI := G.ovs
  haveI := G.octx
  have hat := G.at_.cell 0 hn
  have hbz := block_lt_of_cell hat
  rw [Nat.add_zero] at hat
  have hn2 : (0 : Int) < (n : Int) := by omega
  have hb0 : b0 < w.heap.size := by omega
  have hne0 : ¬ (b0 = w.heap.size) := by omega
  have hb1 : b0 < w.heap.size + 1 := by omega
  have hne1 : ¬ (b0 = w.heap.size + 1) := by omega
  have hb2 : b0 < w.heap.size + 1 + 1 := by omega
  have hne2 : ¬ (b0 = w.heap.size + 1 + 1) := by omega
  have hb3 : b0 < w.heap.size + 1 + 1 + 1 := by omega
  have hne3 : ¬ (b0 = w.heap.size + 1 + 1 + 1) := by omega
  have hb4 : b0 < w.heap.size + 1 + 1 + 1 + 1 := by omega
  have hne4 : ¬ (b0 = w.heap.size + 1 + 1 + 1 + 1) := by omega
  have hb5 : b0 < w.heap.size + 1 + 1 + 1 + 1 + 1 := by omega
  have hne5 : ¬ (b0 = w.heap.size + 1 + 1 + 1 + 1 + 1) := by omega
  have hb6 : b0 < w.heap.size + 1 + 1 + 1 + 1 + 1 + 1 := by omega
  have hne6 : ¬ (b0 = w.heap.size + 1 + 1 + 1 + 1 + 1 + 1) := by omega
  have hn' : ((n : Int) == 0) = false := by simp; omega
  have c28 := G.bC 28
  go_enter Try.func8, Try.ntmps8
  go_wp2_with fail
  refine (RLeave_any _ _ _ _ hst hvs V G.hV G.bV).mono ?_
  rintro e w4 ⟨rfl, hb4⟩
  obtain ⟨hc4, hf4⟩ := bcell hb4
  obtain ⟨hcs4, hpr4⟩ := bcs hb4
  have y := hb4.size
  have y5 : w.heap.size + 1 + 1 + 1 + 1 + 1 < w4.heap.size := (by have h6 : w.heap.size + 1 + 1 + 1 + 1 + 1 + 1 ≤ w4.heap.size := (by simpa using y); omega)
  have y0 : w.heap.size < w4.heap.size := by omega
  have y55 : ¬ (w.heap.size + 1 + 1 + 1 + 1 + 1 = w4.heap.size) := by omega
  have hlf := size_leaveF kind (flagsF (V 16) (V 17) (V 18)) st vs
  go_wp2_with fail
  refine bodyPost_ret_by (results_blk (n := 24) rfl _ Try.underlying28 rfl (by kernel_rfl) (by omega) _ _ _ rfl _ rfl (by go_simp)) rfl ⟨?_, ?_⟩
  · go_simp
    rfl
  · repeat (first | exact Below.refl _ _ | assumption | refine below_call ?_ hb4 | refine Below.drew ?_ | refine Below.alloc ?_ (by first | exact Nat.le_refl _ | omega | (simp; done) | (simp; omega)) _ | refine Below.setCell ?_ (by first | exact Nat.le_refl _ | omega | (simp; done) | (simp; omega)) _ | refine below_row ?_ _ (by first | exact Nat.le_refl _ | omega | (simp; done) | (simp; omega)) _)

set_option maxRecDepth 100000 in
set_option maxHeartbeats 8000000 in
theorem RGuest_2 (kind : Int) (st vs ctx : Array Value) (V C : Nat → Int) (steps : Int) (b0 o0 : Nat) (so sp : Option Addr) (n m ca co np cp : Nat) (At : Nat → Int) (code : Int) (off tgt live cst : Int) (i : Nat) (w : World) (G : GIn w st vs ctx V C steps (some ⟨b0, o0, none⟩) so n m At code) (hi : i < n) :
    Calls Try.prog 8 #[.int .i64 kind, .agg st, .agg #[.slice (some ⟨b0, o0, none⟩) n ca, .slice sp np cp, .slice so m co], .agg #[.int .i64 off, .int .i64 2, .int .i64 (i : Int), .int .u32 tgt, .int .u32 live, .int .i64 cst], .agg vs, .agg ctx] w
      fun e w' => e = .returned (.agg (outG kind (flagsF (V 16) (V 17) (V 18)) st vs (At i) steps (((C 28 - lenF n m code) % 4294967296 + (i : Int) % 4294967296) % 4294967296))) ∧ Below w.heap.size w w' := by
  have hst := G.hst
  have hvs := G.hvs
  have hctx := G.hctx
  have hC := G.hC
  have h22 := G.h22
  haveI := G.ost
  haveI := G.ovs
  haveI := G.octx
  have hat := G.at_.cell i hi
  have hbz := block_lt_of_cell hat
  have hb0 : b0 < w.heap.size := by omega
  have hne0 : ¬ (b0 = w.heap.size) := by omega
  have hb1 : b0 < w.heap.size + 1 := by omega
  have hne1 : ¬ (b0 = w.heap.size + 1) := by omega
  have hb2 : b0 < w.heap.size + 1 + 1 := by omega
  have hne2 : ¬ (b0 = w.heap.size + 1 + 1) := by omega
  have hb3 : b0 < w.heap.size + 1 + 1 + 1 := by omega
  have hne3 : ¬ (b0 = w.heap.size + 1 + 1 + 1) := by omega
  have hb4 : b0 < w.heap.size + 1 + 1 + 1 + 1 := by omega
  have hne4 : ¬ (b0 = w.heap.size + 1 + 1 + 1 + 1) := by omega
  have hb5 : b0 < w.heap.size + 1 + 1 + 1 + 1 + 1 := by omega
  have hne5 : ¬ (b0 = w.heap.size + 1 + 1 + 1 + 1 + 1) := by omega
  have hb6 : b0 < w.heap.size + 1 + 1 + 1 + 1 + 1 + 1 := by omega
  have hne6 : ¬ (b0 = w.heap.size + 1 + 1 + 1 + 1 + 1 + 1) := by omega
  have hi0 : (0 : Int) ≤ (i : Int) := by omega
  have hi2 : (i : Int) < (n : Int) := by omega
  have hn' : ((n : Int) == 0) = false := by simp; omega
  have c28 := G.bC 28
  have HD := Lib.hid (show (((C 28 + (i : Int) % 4294967296) % 4294967296 - lenF n m code) % 4294967296) = ((C 28 - lenF n m code) % 4294967296 + (i : Int) % 4294967296) % 4294967296 by omega)
  have hu32 := Try.underlying32
  have hi32 : (Try.prog.info? 32).map (·.size) = some ctx.toList.length := by rw [Array.length_toList, hctx]; exact size_32
  go_enter Try.func8, Try.ntmps8
  go_wp2_with fail
  refine wp_region_held_drew (S := (fun w' => w'.cell? ⟨w.heap.size + 1, 0, none⟩ = some (.slice (some ⟨b0, o0, none⟩) n ca) ∧ w'.cell? ⟨w.heap.size + 1, 1, none⟩ = some (.slice sp np cp) ∧ w'.cell? ⟨w.heap.size + 1, 2, none⟩ = some (.slice so m co) ∧ w'.cell? ⟨w.heap.size + 1 + 1, 0, none⟩ = some (.int .i64 off) ∧ w'.cell? ⟨w.heap.size + 1 + 1, 1, none⟩ = some (.int .i64 2) ∧ w'.cell? ⟨w.heap.size + 1 + 1, 2, none⟩ = some (.int .i64 (i : Int)) ∧ w'.cell? ⟨w.heap.size + 1 + 1, 3, none⟩ = some (.int .u32 tgt) ∧ w'.cell? ⟨w.heap.size + 1 + 1, 4, none⟩ = some (.int .u32 live) ∧ w'.cell? ⟨w.heap.size + 1 + 1, 5, none⟩ = some (.int .i64 cst) ∧ w'.rangeAt (w.heap.size + 1 + 1 + 1 + 1) 0 ctx.toList ∧ w.heap.size + 1 + 1 + 1 + 1 + 1 < w'.heap.size ∧ GR w st vs ctx V C steps (some ⟨b0, o0, none⟩) so n m At code w')) (by kernel_rfl) ?hS0 (fun hHeld => ?_)
  case hS0 =>
    exact gS_step2 (Below.drew (Below.refl _ _)) ⟨by go_simp, by go_simp, by go_simp, by go_simp, by go_simp, by go_simp, by go_simp, by go_simp, by go_simp, rangeAt_cs (by go_simp), by go_simp, ⟨by repeat (first | exact Below.refl _ _ | assumption | refine Below.drew ?_ | refine Below.alloc ?_ (by first | exact Nat.le_refl _ | omega | (simp; done) | (simp; omega)) _ | refine Below.setCell ?_ (by first | exact Nat.le_refl _ | omega | (simp; done) | (simp; omega)) _ | refine below_row ?_ _ (by first | exact Nat.le_refl _ | omega | (simp; done) | (simp; omega)) _), G.below (by repeat (first | exact Below.refl _ _ | assumption | refine Below.drew ?_ | refine Below.alloc ?_ (by first | exact Nat.le_refl _ | omega | (simp; done) | (simp; omega)) _ | refine Below.setCell ?_ (by first | exact Nat.le_refl _ | omega | (simp; done) | (simp; omega)) _ | refine below_row ?_ _ (by first | exact Nat.le_refl _ | omega | (simp; done) | (simp; omega)) _)), by go_simp, by go_simp, by go_simp, by go_simp, by go_simp⟩⟩
  refine wpAnyH_take (i := 0) (v := ?v0) rfl (by kernel_rfl) (by kernel_rfl) (by kernel_rfl) (fun _ _ _ h => h) (Or.inl ⟨by rfl, ?hy0⟩) (by assumption) ?rest0
  case hy0 => (intro w hSw; (try dsimp only at hSw); go_simp; (try with_reducible rfl))
  try simp only [Act.put, List.getElem_toArray, List.getElem_cons_zero, List.getElem_cons_succ, List.setIfInBounds_toArray, List.set_cons_zero, List.set_cons_succ]
  refine wpAnyH_take (i := 1) (v := ?v1) rfl (by kernel_rfl) (by kernel_rfl) (by kernel_rfl) (fun _ _ _ h => h) (Or.inl ⟨by rfl, ?hy1⟩) (by assumption) ?rest1
  case hy1 => (intro w hSw; (try dsimp only at hSw); (have hcc := rangeAt_get hctx hC hSw.2.2.2.2.2.2.2.2.2.1 28 (by omega)); go_simp; (try with_reducible rfl))
  try simp only [Act.put, List.getElem_toArray, List.getElem_cons_zero, List.getElem_cons_succ, List.setIfInBounds_toArray, List.set_cons_zero, List.set_cons_succ]
  refine wpAnyH_take (i := 2) (v := ?v2) rfl (by kernel_rfl) (by kernel_rfl) (by kernel_rfl) (fun _ _ _ h => h) (Or.inl ⟨by rfl, ?hy2⟩) (by assumption) ?rest2
  case hy2 => (intro w hSw; (try dsimp only at hSw); go_simp; (try with_reducible rfl))
  try simp only [Act.put, List.getElem_toArray, List.getElem_cons_zero, List.getElem_cons_succ, List.setIfInBounds_toArray, List.set_cons_zero, List.set_cons_succ]
  refine wpAnyH_take (i := 3) (v := ?v3) rfl (by kernel_rfl) (by kernel_rfl) (by kernel_rfl) (fun _ _ _ h => h) (Or.inl ⟨by rfl, ?hy3⟩) (by assumption) ?rest3
  case hy3 => (intro w hSw; (try dsimp only at hSw); go_simp; (try with_reducible rfl))
  try simp only [Act.put, List.getElem_toArray, List.getElem_cons_zero, List.getElem_cons_succ, List.setIfInBounds_toArray, List.set_cons_zero, List.set_cons_succ]
  refine wpAnyH_take (i := 4) (v := ?v4) rfl (by kernel_rfl) (by kernel_rfl) (by kernel_rfl) (fun _ _ _ h => h) (Or.inl ⟨by rfl, ?hy4⟩) (by assumption) ?rest4
  case hy4 => (intro w hSw; (try dsimp only at hSw); go_simp; (try with_reducible rfl))
  try simp only [Act.put, List.getElem_toArray, List.getElem_cons_zero, List.getElem_cons_succ, List.setIfInBounds_toArray, List.set_cons_zero, List.set_cons_succ]
  refine wpAnyH_take (i := 5) (v := ?v5) rfl (by kernel_rfl) (by kernel_rfl) (by kernel_rfl) (fun _ _ _ h => h) (Or.inl ⟨by rfl, ?hy5⟩) (by assumption) ?rest5
  case hy5 => (intro w hSw; (try dsimp only at hSw); go_simp; (try with_reducible rfl))
  try simp only [Act.put, List.getElem_toArray, List.getElem_cons_zero, List.getElem_cons_succ, List.setIfInBounds_toArray, List.set_cons_zero, List.set_cons_succ]
  refine wpAnyH_take (i := 6) (v := ?v6) rfl (by kernel_rfl) (by kernel_rfl) (by kernel_rfl) (fun _ _ _ h => h) (Or.inl ⟨by rfl, ?hy6⟩) (by assumption) ?rest6
  case hy6 => (intro w hSw; (try dsimp only at hSw); go_simp; (try with_reducible rfl))
  try simp only [Act.put, List.getElem_toArray, List.getElem_cons_zero, List.getElem_cons_succ, List.setIfInBounds_toArray, List.set_cons_zero, List.set_cons_succ]
  refine wpAnyH_ready (rs := [7]) (by kernel_rfl) (by simp) ?_
  refine AllReadyH.cons rfl (fun K hK => ?_) AllReadyH.nil
  go_simp
  refine (Length_any _ _ _ _ _ _ _ _ _ code _ hHeld.2.2.2.2.2.2.2.2.2.2.2.in_.last hHeld.2.2.2.2.2.2.2.2.2.2.2.in_.small).mono ?_
  rintro e w3 ⟨rfl, hb3⟩
  refine hK.out _ _ (gS_step2 hb3 hHeld) (fun hHeld7 => ?_)
  clear hK K
  try simp only [Act.put, List.getElem_toArray, List.getElem_cons_zero, List.getElem_cons_succ, List.setIfInBounds_toArray, List.set_cons_zero, List.set_cons_succ]
  refine wpAnyH_take (i := 8) (v := ?v8) rfl (by kernel_rfl) (by kernel_rfl) (by kernel_rfl) (fun _ _ _ h => h) (Or.inl ⟨by rfl, ?hy8⟩) (by assumption) ?rest8
  case hy8 => (intro w hSw; (try dsimp only at hSw); go_simp; (try with_reducible rfl))
  try simp only [Act.put, List.getElem_toArray, List.getElem_cons_zero, List.getElem_cons_succ, List.setIfInBounds_toArray, List.set_cons_zero, List.set_cons_succ]
  refine wpAnyH_take (i := 9) (v := ?v9) rfl (by kernel_rfl) (by kernel_rfl) (by kernel_rfl) (fun _ _ _ h => h) (Or.inl ⟨by rfl, ?hy9⟩) (by assumption) ?rest9
  case hy9 => (intro w hSw; (try dsimp only at hSw); go_simp; (try with_reducible rfl))
  try simp only [Act.put, List.getElem_toArray, List.getElem_cons_zero, List.getElem_cons_succ, List.setIfInBounds_toArray, List.set_cons_zero, List.set_cons_succ]
  refine wpAnyH_done (by kernel_rfl) ?_ _
  have hR : GR w st vs ctx V C steps (some ⟨b0, o0, none⟩) so n m At code w3 := hHeld7.2.2.2.2.2.2.2.2.2.2.2
  clear hHeld7 hHeld
  have r1 := hR.st_
  have r5 : w3.cell? ⟨w.heap.size, 22, none⟩ = some (.int .i64 steps) := by rw [World.cell_cs, r1]; simp [hst, h22]
  have r2 := hR.vs_
  have r3 := hR.out_
  have r4 := hR.pl_
  have z5 := hR.big
  have z4 : w.heap.size + 1 + 1 + 1 + 1 < w3.heap.size := by omega
  have z3 : w.heap.size + 1 + 1 + 1 < w3.heap.size := by omega
  have z0 : w.heap.size < w3.heap.size := by omega
  have HR := Lib.hid hR.below
  clear hR
  simp only [IntKind.wrap_u32']
  rw [HD.out]
  have d0 : 0 ≤ ((C 28 - lenF n m code) % 4294967296 + (i : Int) % 4294967296) % 4294967296 := by omega
  have d1 : ((C 28 - lenF n m code) % 4294967296 + (i : Int) % 4294967296) % 4294967296 < 4294967296 := by omega
  generalize hdn : ((C 28 - lenF n m code) % 4294967296 + (i : Int) % 4294967296) % 4294967296 = dn at *
  have HDN := Lib.hid hdn
  clear hdn
  go_wp2_with fail
  refine (RLeave_any _ _ _ _ hst hvs V G.hV G.bV).mono ?_
  rintro e w4 ⟨rfl, hb4⟩
  obtain ⟨hc4, hf4⟩ := bcell hb4
  obtain ⟨hcs4, hpr4⟩ := bcs hb4
  have y := hb4.size
  have y5 : w.heap.size + 1 + 1 + 1 + 1 + 1 < w4.heap.size := (by omega)
  have y0 : w.heap.size < w4.heap.size := by omega
  have y55 : ¬ (w.heap.size + 1 + 1 + 1 + 1 + 1 = w4.heap.size) := by omega
  have hlf := size_leaveF kind (flagsF (V 16) (V 17) (V 18)) st vs
  go_wp2_with fail
  refine bodyPost_ret_by (results_blk (n := 24) rfl _ Try.underlying28 rfl (by kernel_rfl) (by omega) _ _ _ rfl _ rfl (by go_simp)) rfl ⟨?_, ?_⟩
  · go_simp
    rw [show (C 28 - lenF n m code + (i : Int)) % 4294967296 = dn from by have hq := HDN.out; omega]; rfl
  · have HRo := HR.out
    repeat (first | exact Below.refl _ _ | assumption | refine below_call ?_ hb4 | refine Below.drew ?_ | refine Below.alloc ?_ (by first | exact Nat.le_refl _ | omega | (simp; done) | (simp; omega)) _ | refine Below.setCell ?_ (by first | exact Nat.le_refl _ | omega | (simp; done) | (simp; omega)) _ | refine below_row ?_ _ (by first | exact Nat.le_refl _ | omega | (simp; done) | (simp; omega)) _)

set_option maxRecDepth 100000 in
set_option maxHeartbeats 8000000 in
theorem RGuest_3 (kind : Int) (st vs ctx : Array Value) (V C : Nat → Int) (steps : Int) (b0 o0 : Nat) (so sp : Option Addr) (n m ca co np cp : Nat) (At : Nat → Int) (code : Int) (off tgt live cst : Int) (i : Nat) (w : World) (G : GIn w st vs ctx V C steps (some ⟨b0, o0, none⟩) so n m At code) (hi : i < n) :
    Calls Try.prog 8 #[.int .i64 kind, .agg st, .agg #[.slice (some ⟨b0, o0, none⟩) n ca, .slice sp np cp, .slice so m co], .agg #[.int .i64 off, .int .i64 3, .int .i64 (i : Int), .int .u32 tgt, .int .u32 live, .int .i64 cst], .agg vs, .agg ctx] w
      fun e w' => e = .returned (.agg (outG kind (flagsF (V 16) (V 17) (V 18)) st vs (At i) steps (((C 28 - lenF n m code) % 4294967296 + (i : Int) % 4294967296) % 4294967296))) ∧ Below w.heap.size w w' := by
  have hst := G.hst
  have hvs := G.hvs
  have hctx := G.hctx
  have hC := G.hC
  have h22 := G.h22
  haveI := G.ost
  haveI := G.ovs
  haveI := G.octx
  have hat := G.at_.cell i hi
  have hbz := block_lt_of_cell hat
  have hb0 : b0 < w.heap.size := by omega
  have hne0 : ¬ (b0 = w.heap.size) := by omega
  have hb1 : b0 < w.heap.size + 1 := by omega
  have hne1 : ¬ (b0 = w.heap.size + 1) := by omega
  have hb2 : b0 < w.heap.size + 1 + 1 := by omega
  have hne2 : ¬ (b0 = w.heap.size + 1 + 1) := by omega
  have hb3 : b0 < w.heap.size + 1 + 1 + 1 := by omega
  have hne3 : ¬ (b0 = w.heap.size + 1 + 1 + 1) := by omega
  have hb4 : b0 < w.heap.size + 1 + 1 + 1 + 1 := by omega
  have hne4 : ¬ (b0 = w.heap.size + 1 + 1 + 1 + 1) := by omega
  have hb5 : b0 < w.heap.size + 1 + 1 + 1 + 1 + 1 := by omega
  have hne5 : ¬ (b0 = w.heap.size + 1 + 1 + 1 + 1 + 1) := by omega
  have hb6 : b0 < w.heap.size + 1 + 1 + 1 + 1 + 1 + 1 := by omega
  have hne6 : ¬ (b0 = w.heap.size + 1 + 1 + 1 + 1 + 1 + 1) := by omega
  have hi0 : (0 : Int) ≤ (i : Int) := by omega
  have hi2 : (i : Int) < (n : Int) := by omega
  have hn' : ((n : Int) == 0) = false := by simp; omega
  have c28 := G.bC 28
  have HD := Lib.hid (show (((C 28 + (i : Int) % 4294967296) % 4294967296 - lenF n m code) % 4294967296) = ((C 28 - lenF n m code) % 4294967296 + (i : Int) % 4294967296) % 4294967296 by omega)
  have hu32 := Try.underlying32
  have hi32 : (Try.prog.info? 32).map (·.size) = some ctx.toList.length := by rw [Array.length_toList, hctx]; exact size_32
  go_enter Try.func8, Try.ntmps8
  go_wp2_with fail
  refine wp_region_held_drew (S := (fun w' => w'.cell? ⟨w.heap.size + 1, 0, none⟩ = some (.slice (some ⟨b0, o0, none⟩) n ca) ∧ w'.cell? ⟨w.heap.size + 1, 1, none⟩ = some (.slice sp np cp) ∧ w'.cell? ⟨w.heap.size + 1, 2, none⟩ = some (.slice so m co) ∧ w'.cell? ⟨w.heap.size + 1 + 1, 0, none⟩ = some (.int .i64 off) ∧ w'.cell? ⟨w.heap.size + 1 + 1, 1, none⟩ = some (.int .i64 3) ∧ w'.cell? ⟨w.heap.size + 1 + 1, 2, none⟩ = some (.int .i64 (i : Int)) ∧ w'.cell? ⟨w.heap.size + 1 + 1, 3, none⟩ = some (.int .u32 tgt) ∧ w'.cell? ⟨w.heap.size + 1 + 1, 4, none⟩ = some (.int .u32 live) ∧ w'.cell? ⟨w.heap.size + 1 + 1, 5, none⟩ = some (.int .i64 cst) ∧ w'.rangeAt (w.heap.size + 1 + 1 + 1 + 1) 0 ctx.toList ∧ w.heap.size + 1 + 1 + 1 + 1 + 1 < w'.heap.size ∧ GR w st vs ctx V C steps (some ⟨b0, o0, none⟩) so n m At code w')) (by kernel_rfl) ?hS0 (fun hHeld => ?_)
  case hS0 =>
    exact gS_step3 (Below.drew (Below.refl _ _)) ⟨by go_simp, by go_simp, by go_simp, by go_simp, by go_simp, by go_simp, by go_simp, by go_simp, by go_simp, rangeAt_cs (by go_simp), by go_simp, ⟨by repeat (first | exact Below.refl _ _ | assumption | refine Below.drew ?_ | refine Below.alloc ?_ (by first | exact Nat.le_refl _ | omega | (simp; done) | (simp; omega)) _ | refine Below.setCell ?_ (by first | exact Nat.le_refl _ | omega | (simp; done) | (simp; omega)) _ | refine below_row ?_ _ (by first | exact Nat.le_refl _ | omega | (simp; done) | (simp; omega)) _), G.below (by repeat (first | exact Below.refl _ _ | assumption | refine Below.drew ?_ | refine Below.alloc ?_ (by first | exact Nat.le_refl _ | omega | (simp; done) | (simp; omega)) _ | refine Below.setCell ?_ (by first | exact Nat.le_refl _ | omega | (simp; done) | (simp; omega)) _ | refine below_row ?_ _ (by first | exact Nat.le_refl _ | omega | (simp; done) | (simp; omega)) _)), by go_simp, by go_simp, by go_simp, by go_simp, by go_simp⟩⟩
  refine wpAnyH_take (i := 0) (v := ?v0) rfl (by kernel_rfl) (by kernel_rfl) (by kernel_rfl) (fun _ _ _ h => h) (Or.inl ⟨by rfl, ?hy0⟩) (by assumption) ?rest0
  case hy0 => (intro w hSw; (try dsimp only at hSw); go_simp; (try with_reducible rfl))
  try simp only [Act.put, List.getElem_toArray, List.getElem_cons_zero, List.getElem_cons_succ, List.setIfInBounds_toArray, List.set_cons_zero, List.set_cons_succ]
  refine wpAnyH_take (i := 1) (v := ?v1) rfl (by kernel_rfl) (by kernel_rfl) (by kernel_rfl) (fun _ _ _ h => h) (Or.inl ⟨by rfl, ?hy1⟩) (by assumption) ?rest1
  case hy1 => (intro w hSw; (try dsimp only at hSw); (have hcc := rangeAt_get hctx hC hSw.2.2.2.2.2.2.2.2.2.1 28 (by omega)); go_simp; (try with_reducible rfl))
  try simp only [Act.put, List.getElem_toArray, List.getElem_cons_zero, List.getElem_cons_succ, List.setIfInBounds_toArray, List.set_cons_zero, List.set_cons_succ]
  refine wpAnyH_take (i := 2) (v := ?v2) rfl (by kernel_rfl) (by kernel_rfl) (by kernel_rfl) (fun _ _ _ h => h) (Or.inl ⟨by rfl, ?hy2⟩) (by assumption) ?rest2
  case hy2 => (intro w hSw; (try dsimp only at hSw); go_simp; (try with_reducible rfl))
  try simp only [Act.put, List.getElem_toArray, List.getElem_cons_zero, List.getElem_cons_succ, List.setIfInBounds_toArray, List.set_cons_zero, List.set_cons_succ]
  refine wpAnyH_take (i := 3) (v := ?v3) rfl (by kernel_rfl) (by kernel_rfl) (by kernel_rfl) (fun _ _ _ h => h) (Or.inl ⟨by rfl, ?hy3⟩) (by assumption) ?rest3
  case hy3 => (intro w hSw; (try dsimp only at hSw); go_simp; (try with_reducible rfl))
  try simp only [Act.put, List.getElem_toArray, List.getElem_cons_zero, List.getElem_cons_succ, List.setIfInBounds_toArray, List.set_cons_zero, List.set_cons_succ]
  refine wpAnyH_take (i := 4) (v := ?v4) rfl (by kernel_rfl) (by kernel_rfl) (by kernel_rfl) (fun _ _ _ h => h) (Or.inl ⟨by rfl, ?hy4⟩) (by assumption) ?rest4
  case hy4 => (intro w hSw; (try dsimp only at hSw); go_simp; (try with_reducible rfl))
  try simp only [Act.put, List.getElem_toArray, List.getElem_cons_zero, List.getElem_cons_succ, List.setIfInBounds_toArray, List.set_cons_zero, List.set_cons_succ]
  refine wpAnyH_take (i := 5) (v := ?v5) rfl (by kernel_rfl) (by kernel_rfl) (by kernel_rfl) (fun _ _ _ h => h) (Or.inl ⟨by rfl, ?hy5⟩) (by assumption) ?rest5
  case hy5 => (intro w hSw; (try dsimp only at hSw); go_simp; (try with_reducible rfl))
  try simp only [Act.put, List.getElem_toArray, List.getElem_cons_zero, List.getElem_cons_succ, List.setIfInBounds_toArray, List.set_cons_zero, List.set_cons_succ]
  refine wpAnyH_take (i := 6) (v := ?v6) rfl (by kernel_rfl) (by kernel_rfl) (by kernel_rfl) (fun _ _ _ h => h) (Or.inl ⟨by rfl, ?hy6⟩) (by assumption) ?rest6
  case hy6 => (intro w hSw; (try dsimp only at hSw); go_simp; (try with_reducible rfl))
  try simp only [Act.put, List.getElem_toArray, List.getElem_cons_zero, List.getElem_cons_succ, List.setIfInBounds_toArray, List.set_cons_zero, List.set_cons_succ]
  refine wpAnyH_ready (rs := [7]) (by kernel_rfl) (by simp) ?_
  refine AllReadyH.cons rfl (fun K hK => ?_) AllReadyH.nil
  go_simp
  refine (Length_any _ _ _ _ _ _ _ _ _ code _ hHeld.2.2.2.2.2.2.2.2.2.2.2.in_.last hHeld.2.2.2.2.2.2.2.2.2.2.2.in_.small).mono ?_
  rintro e w3 ⟨rfl, hb3⟩
  refine hK.out _ _ (gS_step3 hb3 hHeld) (fun hHeld7 => ?_)
  clear hK K
  try simp only [Act.put, List.getElem_toArray, List.getElem_cons_zero, List.getElem_cons_succ, List.setIfInBounds_toArray, List.set_cons_zero, List.set_cons_succ]
  refine wpAnyH_take (i := 8) (v := ?v8) rfl (by kernel_rfl) (by kernel_rfl) (by kernel_rfl) (fun _ _ _ h => h) (Or.inl ⟨by rfl, ?hy8⟩) (by assumption) ?rest8
  case hy8 => (intro w hSw; (try dsimp only at hSw); go_simp; (try with_reducible rfl))
  try simp only [Act.put, List.getElem_toArray, List.getElem_cons_zero, List.getElem_cons_succ, List.setIfInBounds_toArray, List.set_cons_zero, List.set_cons_succ]
  refine wpAnyH_take (i := 9) (v := ?v9) rfl (by kernel_rfl) (by kernel_rfl) (by kernel_rfl) (fun _ _ _ h => h) (Or.inl ⟨by rfl, ?hy9⟩) (by assumption) ?rest9
  case hy9 => (intro w hSw; (try dsimp only at hSw); go_simp; (try with_reducible rfl))
  try simp only [Act.put, List.getElem_toArray, List.getElem_cons_zero, List.getElem_cons_succ, List.setIfInBounds_toArray, List.set_cons_zero, List.set_cons_succ]
  refine wpAnyH_done (by kernel_rfl) ?_ _
  have hR : GR w st vs ctx V C steps (some ⟨b0, o0, none⟩) so n m At code w3 := hHeld7.2.2.2.2.2.2.2.2.2.2.2
  clear hHeld7 hHeld
  have r1 := hR.st_
  have r5 : w3.cell? ⟨w.heap.size, 22, none⟩ = some (.int .i64 steps) := by rw [World.cell_cs, r1]; simp [hst, h22]
  have r2 := hR.vs_
  have r3 := hR.out_
  have r4 := hR.pl_
  have z5 := hR.big
  have z4 : w.heap.size + 1 + 1 + 1 + 1 < w3.heap.size := by omega
  have z3 : w.heap.size + 1 + 1 + 1 < w3.heap.size := by omega
  have z0 : w.heap.size < w3.heap.size := by omega
  have HR := Lib.hid hR.below
  clear hR
  simp only [IntKind.wrap_u32']
  rw [HD.out]
  have d0 : 0 ≤ ((C 28 - lenF n m code) % 4294967296 + (i : Int) % 4294967296) % 4294967296 := by omega
  have d1 : ((C 28 - lenF n m code) % 4294967296 + (i : Int) % 4294967296) % 4294967296 < 4294967296 := by omega
  generalize hdn : ((C 28 - lenF n m code) % 4294967296 + (i : Int) % 4294967296) % 4294967296 = dn at *
  have HDN := Lib.hid hdn
  clear hdn
  go_wp2_with fail
  refine (RLeave_any _ _ _ _ hst hvs V G.hV G.bV).mono ?_
  rintro e w4 ⟨rfl, hb4⟩
  obtain ⟨hc4, hf4⟩ := bcell hb4
  obtain ⟨hcs4, hpr4⟩ := bcs hb4
  have y := hb4.size
  have y5 : w.heap.size + 1 + 1 + 1 + 1 + 1 < w4.heap.size := (by omega)
  have y0 : w.heap.size < w4.heap.size := by omega
  have y55 : ¬ (w.heap.size + 1 + 1 + 1 + 1 + 1 = w4.heap.size) := by omega
  have hlf := size_leaveF kind (flagsF (V 16) (V 17) (V 18)) st vs
  go_wp2_with fail
  refine bodyPost_ret_by (results_blk (n := 24) rfl _ Try.underlying28 rfl (by kernel_rfl) (by omega) _ _ _ rfl _ rfl (by go_simp)) rfl ⟨?_, ?_⟩
  · go_simp
    rw [show (C 28 - lenF n m code + (i : Int)) % 4294967296 = dn from by have hq := HDN.out; omega]; rfl
  · have HRo := HR.out
    repeat (first | exact Below.refl _ _ | assumption | refine below_call ?_ hb4 | refine Below.drew ?_ | refine Below.alloc ?_ (by first | exact Nat.le_refl _ | omega | (simp; done) | (simp; omega)) _ | refine Below.setCell ?_ (by first | exact Nat.le_refl _ | omega | (simp; done) | (simp; omega)) _ | refine below_row ?_ _ (by first | exact Nat.le_refl _ | omega | (simp; done) | (simp; omega)) _)

set_option maxRecDepth 100000 in
set_option maxHeartbeats 8000000 in
theorem RGuest_n0 (kind : Int) (st vs ctx : Array Value) (V C : Nat → Int) (steps : Int) (sa so sp : Option Addr) (n m ca co np cp : Nat) (At : Nat → Int) (code : Int) (off idx tgt live cst : Int) (w : World) (G : GIn w st vs ctx V C steps sa so n m At code) (k : Int) (hn : n = 0) :
    Calls Try.prog 8 #[.int .i64 kind, .agg st, .agg #[.slice sa n ca, .slice sp np cp, .slice so m co], .agg #[.int .i64 off, .int .i64 k, .int .i64 idx, .int .u32 tgt, .int .u32 live, .int .i64 cst], .agg vs, .agg ctx] w
      fun e w' => e = .returned (.agg (st)) ∧ Below w.heap.size w w' := by
  have hst := G.hst
  have hvs := G.hvs
  have hctx := G.hctx
  have hC := G.hC
  have h22 := G.h22
  haveI := G.ost
  haveI := G.ovs
  haveI := G.octx
  subst hn
  go_enter Try.func8, Try.ntmps8
  go_wp2_with fail
  refine bodyPost_ret_by (results_blk (n := 24) rfl _ Try.underlying28 rfl (by kernel_rfl) (by omega) _ _ _ rfl _ rfl (by go_simp)) rfl ⟨?_, ?_⟩
  · go_simp
  · repeat (first | exact Below.refl _ _ | assumption | refine Below.drew ?_ | refine Below.alloc ?_ (by first | exact Nat.le_refl _ | omega | (simp; done) | (simp; omega)) _ | refine Below.setCell ?_ (by first | exact Nat.le_refl _ | omega | (simp; done) | (simp; omega)) _ | refine below_row ?_ _ (by first | exact Nat.le_refl _ | omega | (simp; done) | (simp; omega)) _)

set_option maxRecDepth 100000 in
set_option maxHeartbeats 8000000 in
theorem RGuest_lo2 (kind : Int) (st vs ctx : Array Value) (V C : Nat → Int) (steps : Int) (sa so sp : Option Addr) (n m ca co np cp : Nat) (At : Nat → Int) (code : Int) (off idx tgt live cst : Int) (w : World) (G : GIn w st vs ctx V C steps sa so n m At code) (hn : 0 < n) (hi : idx < 0) :
    Calls Try.prog 8 #[.int .i64 kind, .agg st, .agg #[.slice sa n ca, .slice sp np cp, .slice so m co], .agg #[.int .i64 off, .int .i64 2, .int .i64 idx, .int .u32 tgt, .int .u32 live, .int .i64 cst], .agg vs, .agg ctx] w
      fun e w' => e = .returned (.agg (st)) ∧ Below w.heap.size w w' := by
  have hst := G.hst
  have hvs := G.hvs
  have hctx := G.hctx
  have hC := G.hC
  have h22 := G.h22
  haveI := G.ost
  haveI := G.ovs
  haveI := G.octx
  have hn' : ((n : Int) == 0) = false := by simp; omega
  go_enter Try.func8, Try.ntmps8
  go_wp2_with fail
  refine bodyPost_ret_by (results_blk (n := 24) rfl _ Try.underlying28 rfl (by kernel_rfl) (by omega) _ _ _ rfl _ rfl (by go_simp)) rfl ⟨?_, ?_⟩
  · go_simp
  · repeat (first | exact Below.refl _ _ | assumption | refine Below.drew ?_ | refine Below.alloc ?_ (by first | exact Nat.le_refl _ | omega | (simp; done) | (simp; omega)) _ | refine Below.setCell ?_ (by first | exact Nat.le_refl _ | omega | (simp; done) | (simp; omega)) _ | refine below_row ?_ _ (by first | exact Nat.le_refl _ | omega | (simp; done) | (simp; omega)) _)

set_option maxRecDepth 100000 in
set_option maxHeartbeats 8000000 in
theorem RGuest_hi2 (kind : Int) (st vs ctx : Array Value) (V C : Nat → Int) (steps : Int) (sa so sp : Option Addr) (n m ca co np cp : Nat) (At : Nat → Int) (code : Int) (off idx tgt live cst : Int) (w : World) (G : GIn w st vs ctx V C steps sa so n m At code) (hn : 0 < n) (h0 : 0 ≤ idx) (hi : (n : Int) ≤ idx) :
    Calls Try.prog 8 #[.int .i64 kind, .agg st, .agg #[.slice sa n ca, .slice sp np cp, .slice so m co], .agg #[.int .i64 off, .int .i64 2, .int .i64 idx, .int .u32 tgt, .int .u32 live, .int .i64 cst], .agg vs, .agg ctx] w
      fun e w' => e = .returned (.agg (st)) ∧ Below w.heap.size w w' := by
  have hst := G.hst
  have hvs := G.hvs
  have hctx := G.hctx
  have hC := G.hC
  have h22 := G.h22
  haveI := G.ost
  haveI := G.ovs
  haveI := G.octx
  have hn' : ((n : Int) == 0) = false := by simp; omega
  go_enter Try.func8, Try.ntmps8
  go_wp2_with fail
  refine bodyPost_ret_by (results_blk (n := 24) rfl _ Try.underlying28 rfl (by kernel_rfl) (by omega) _ _ _ rfl _ rfl (by go_simp)) rfl ⟨?_, ?_⟩
  · go_simp
  · repeat (first | exact Below.refl _ _ | assumption | refine Below.drew ?_ | refine Below.alloc ?_ (by first | exact Nat.le_refl _ | omega | (simp; done) | (simp; omega)) _ | refine Below.setCell ?_ (by first | exact Nat.le_refl _ | omega | (simp; done) | (simp; omega)) _ | refine below_row ?_ _ (by first | exact Nat.le_refl _ | omega | (simp; done) | (simp; omega)) _)

set_option maxRecDepth 100000 in
set_option maxHeartbeats 8000000 in
theorem RGuest_lo3 (kind : Int) (st vs ctx : Array Value) (V C : Nat → Int) (steps : Int) (sa so sp : Option Addr) (n m ca co np cp : Nat) (At : Nat → Int) (code : Int) (off idx tgt live cst : Int) (w : World) (G : GIn w st vs ctx V C steps sa so n m At code) (hn : 0 < n) (hi : idx < 0) :
    Calls Try.prog 8 #[.int .i64 kind, .agg st, .agg #[.slice sa n ca, .slice sp np cp, .slice so m co], .agg #[.int .i64 off, .int .i64 3, .int .i64 idx, .int .u32 tgt, .int .u32 live, .int .i64 cst], .agg vs, .agg ctx] w
      fun e w' => e = .returned (.agg (st)) ∧ Below w.heap.size w w' := by
  have hst := G.hst
  have hvs := G.hvs
  have hctx := G.hctx
  have hC := G.hC
  have h22 := G.h22
  haveI := G.ost
  haveI := G.ovs
  haveI := G.octx
  have hn' : ((n : Int) == 0) = false := by simp; omega
  go_enter Try.func8, Try.ntmps8
  go_wp2_with fail
  refine bodyPost_ret_by (results_blk (n := 24) rfl _ Try.underlying28 rfl (by kernel_rfl) (by omega) _ _ _ rfl _ rfl (by go_simp)) rfl ⟨?_, ?_⟩
  · go_simp
  · repeat (first | exact Below.refl _ _ | assumption | refine Below.drew ?_ | refine Below.alloc ?_ (by first | exact Nat.le_refl _ | omega | (simp; done) | (simp; omega)) _ | refine Below.setCell ?_ (by first | exact Nat.le_refl _ | omega | (simp; done) | (simp; omega)) _ | refine below_row ?_ _ (by first | exact Nat.le_refl _ | omega | (simp; done) | (simp; omega)) _)

set_option maxRecDepth 100000 in
set_option maxHeartbeats 8000000 in
theorem RGuest_hi3 (kind : Int) (st vs ctx : Array Value) (V C : Nat → Int) (steps : Int) (sa so sp : Option Addr) (n m ca co np cp : Nat) (At : Nat → Int) (code : Int) (off idx tgt live cst : Int) (w : World) (G : GIn w st vs ctx V C steps sa so n m At code) (hn : 0 < n) (h0 : 0 ≤ idx) (hi : (n : Int) ≤ idx) :
    Calls Try.prog 8 #[.int .i64 kind, .agg st, .agg #[.slice sa n ca, .slice sp np cp, .slice so m co], .agg #[.int .i64 off, .int .i64 3, .int .i64 idx, .int .u32 tgt, .int .u32 live, .int .i64 cst], .agg vs, .agg ctx] w
      fun e w' => e = .returned (.agg (st)) ∧ Below w.heap.size w w' := by
  have hst := G.hst
  have hvs := G.hvs
  have hctx := G.hctx
  have hC := G.hC
  have h22 := G.h22
  haveI := G.ost
  haveI := G.ovs
  haveI := G.octx
  have hn' : ((n : Int) == 0) = false := by simp; omega
  go_enter Try.func8, Try.ntmps8
  go_wp2_with fail
  refine bodyPost_ret_by (results_blk (n := 24) rfl _ Try.underlying28 rfl (by kernel_rfl) (by omega) _ _ _ rfl _ rfl (by go_simp)) rfl ⟨?_, ?_⟩
  · go_simp
  · repeat (first | exact Below.refl _ _ | assumption | refine Below.drew ?_ | refine Below.alloc ?_ (by first | exact Nat.le_refl _ | omega | (simp; done) | (simp; omega)) _ | refine Below.setCell ?_ (by first | exact Nat.le_refl _ | omega | (simp; done) | (simp; omega)) _ | refine below_row ?_ _ (by first | exact Nat.le_refl _ | omega | (simp; done) | (simp; omega)) _)

set_option maxRecDepth 100000 in
set_option maxHeartbeats 8000000 in
theorem RGuest_other (kind : Int) (st vs ctx : Array Value) (V C : Nat → Int) (steps : Int) (sa so sp : Option Addr) (n m ca co np cp : Nat) (At : Nat → Int) (code : Int) (off idx tgt live cst : Int) (w : World) (G : GIn w st vs ctx V C steps sa so n m At code) (k : Int) (hn : 0 < n) (k1 : (k == 1) = false) (k2 : (k == 2) = false) (k3 : (k == 3) = false) (k4 : (k == 4) = false) (k5 : (k == 5) = false) (k6 : (k == 6) = false) :
    Calls Try.prog 8 #[.int .i64 kind, .agg st, .agg #[.slice sa n ca, .slice sp np cp, .slice so m co], .agg #[.int .i64 off, .int .i64 k, .int .i64 idx, .int .u32 tgt, .int .u32 live, .int .i64 cst], .agg vs, .agg ctx] w
      fun e w' => e = .returned (.agg (st)) ∧ Below w.heap.size w w' := by
  have hst := G.hst
  have hvs := G.hvs
  have hctx := G.hctx
  have hC := G.hC
  have h22 := G.h22
  haveI := G.ost
  haveI := G.ovs
  haveI := G.octx
  have hn' : ((n : Int) == 0) = false := by simp; omega
  go_enter Try.func8, Try.ntmps8
  go_wp2_with fail
  refine bodyPost_ret_by (results_blk (n := 24) rfl _ Try.underlying28 rfl (by kernel_rfl) (by omega) _ _ _ rfl _ rfl (by go_simp)) rfl ⟨?_, ?_⟩
  · go_simp
  · repeat (first | exact Below.refl _ _ | assumption | refine Below.drew ?_ | refine Below.alloc ?_ (by first | exact Nat.le_refl _ | omega | (simp; done) | (simp; omega)) _ | refine Below.setCell ?_ (by first | exact Nat.le_refl _ | omega | (simp; done) | (simp; omega)) _ | refine below_row ?_ _ (by first | exact Nat.le_refl _ | omega | (simp; done) | (simp; omega)) _)
end Go.Proofs.Ytehehnhomlcimaa
