/- Contracts of the rules. -/
import Derived.Test.YtehehnhomlcimaaD
import Derived.Deep.RegionHeld3
import Derived.Deep.QuietTactic
import Derived.BigQuiet
namespace Go.Proofs.Ytehehnhomlcimaa
open Go.RowKit
attribute [local go_sem ↓ high] loadAt25 storeAt25 ld25 st25 loadAt28 storeAt28 ld28 st28 loadAt31 storeAt31 ld31 st31 loadAt32 storeAt32 ld32 st32 copyB copy35
attribute [local go_sem] allOne_inst World.cs_alloc_at World.cs_alloc_past World.cs_drew World.plainRow_alloc_at World.plainRow_alloc_past World.plainRow_drew World.setRow_alloc_at World.setRow_alloc_past World.setRow_drew spl_all extract_all size_spl World.cs_setCell_same World.cs_setCell_other World.plainRow_setCell World.cs_setRow_same World.cs_setRow_other World.plainRow_setRow World.size_setRow' World.cell_setRow World.frozen_setRow ne_up1 ne_dn1 ne_up2 ne_dn2 ne_up3 ne_dn3 ne_up4 ne_dn4 ne_up5 ne_dn5 ne_up6 ne_dn6 ne_up7 ne_dn7 ne_up8 ne_dn8 ne_up9 ne_dn9 ne_up10 ne_dn10 ne_up11 ne_dn11 ne_up12 ne_dn12 ne_up13 ne_dn13 ne_up14 ne_dn14 ne_up15 ne_dn15 lt_up2 lt_up3 lt_up4 lt_up5 lt_up6 lt_up7 lt_up8 lt_up9 lt_up10 lt_up11 lt_up12 lt_up13 lt_up14 lt_up15
theorem LastIs.below {W w : World} {so : Option Addr} {m : Nat} {code : Int} (h : LastIs W so m code) (hb : Below W.heap.size W w) : LastIs w so m code := by
  intro hm
  obtain ⟨b, o, rfl, hc⟩ := h hm
  exact ⟨b, o, rfl, (hb.cell (p := ⟨b, _, none⟩) (block_lt_of_cell hc)).trans hc⟩
theorem AtIs.below {W w : World} {sa : Option Addr} {n : Nat} {At : Nat → Int} (h : AtIs W sa n At) (hb : Below W.heap.size W w) : AtIs w sa n At := by
  intro hn
  obtain ⟨b, o, rfl, hc⟩ := h hn
  exact ⟨b, o, rfl, fun i hi => (hb.cell (p := ⟨b, _, none⟩) (block_lt_of_cell (hc i hi))).trans (hc i hi)⟩

theorem keepC {w w1 : World} (hb : Below w.heap.size w w1) {b o : Nat} {v : Value} (h : w.cell? ⟨b, o, none⟩ = some v) : w1.cell? ⟨b, o, none⟩ = some v := (hb.cell (p := ⟨b, o, none⟩) (block_lt_of_cell h)).trans h
theorem keepZ {w w1 : World} (hb : Below w.heap.size w w1) {n : Nat} (h : n < w.heap.size) : n < w1.heap.size := Nat.lt_of_lt_of_le h hb.size
theorem below_drewN {B : Nat} {a w : World} (h : Below B a w) (n : Nat) : Below B a (w.drewN n) := ⟨h.os, h.tape, h.output, h.size, h.block⟩
/-- What holds of the world all along 'inside': the box of the parameter, the slices. -/
structure InsR (W : World) (so : Option Addr) (m : Nat) (code : Int) (w : World) : Prop where
  below : Below W.heap.size W w
  last : LastIs w so m code
  small : m ≤ 1000000000000
theorem InsR.step {W w w1 : World} {so : Option Addr} {m : Nat} {code : Int} (hb : Below w.heap.size w w1) (h : InsR W so m code w) : InsR W so m code w1 := ⟨below_call h.below hb, h.last.below hb, h.small⟩

theorem insS_step {W w w1 : World} {b0 o0 n m ca co np cp i : Nat} {so sp : Option Addr} {c28 code : Int} {At : Nat → Int} (hb : Below w.heap.size w w1) (h : w.cell? ⟨W.heap.size, 0, none⟩ = some (.slice (some ⟨b0, o0, none⟩) n ca) ∧ w.cell? ⟨W.heap.size, 1, none⟩ = some (.slice sp np cp) ∧ w.cell? ⟨W.heap.size, 2, none⟩ = some (.slice so m co) ∧ w.cell? ⟨W.heap.size, 5, none⟩ = some (.int .i64 (i : Int)) ∧ w.cell? ⟨W.heap.size, 37, none⟩ = some (.int .u32 c28) ∧ w.cell? ⟨b0, o0 + i, none⟩ = some (.int .u32 (At i)) ∧ W.heap.size < w.heap.size ∧ InsR W so m code w) :
    w1.cell? ⟨W.heap.size, 0, none⟩ = some (.slice (some ⟨b0, o0, none⟩) n ca) ∧ w1.cell? ⟨W.heap.size, 1, none⟩ = some (.slice sp np cp) ∧ w1.cell? ⟨W.heap.size, 2, none⟩ = some (.slice so m co) ∧ w1.cell? ⟨W.heap.size, 5, none⟩ = some (.int .i64 (i : Int)) ∧ w1.cell? ⟨W.heap.size, 37, none⟩ = some (.int .u32 c28) ∧ w1.cell? ⟨b0, o0 + i, none⟩ = some (.int .u32 (At i)) ∧ W.heap.size < w1.heap.size ∧ InsR W so m code w1 :=
  ⟨keepC hb h.1, keepC hb h.2.1, keepC hb h.2.2.1, keepC hb h.2.2.2.1, keepC hb h.2.2.2.2.1, keepC hb h.2.2.2.2.2.1, keepZ hb h.2.2.2.2.2.2.1, InsR.step hb h.2.2.2.2.2.2.2⟩

theorem ret_two {a b c d : Int} (h : a = c) (h' : b = d) : Ending.returned (.tuple #[.int .u32 a, .int .u32 b]) = .returned (.tuple #[.int .u32 c, .int .u32 d]) := by rw [h, h']
theorem hHeld_below {W w : World} {so : Option Addr} {m : Nat} {code : Int} {A B C D E F G : Prop} (h : A ∧ B ∧ C ∧ D ∧ E ∧ F ∧ G ∧ InsR W so m code w) : Below W.heap.size W w := h.2.2.2.2.2.2.2.below

set_option maxRecDepth 100000 in
set_option maxHeartbeats 2000000 in
theorem inside_any (stp : Array Value) (hst : stp.size = 73) [AllOne stp] (b0 o0 : Nat) (so sp : Option Addr) (n m ca co np cp : Nat) (i : Nat) (c28 code : Int) (At : Nat → Int) (w : World)
    (g0 : stp[0] = .slice (some ⟨b0, o0, none⟩) n ca) (g1 : stp[1] = .slice sp np cp) (g2 : stp[2] = .slice so m co) (g5 : stp[5] = .int .i64 (i : Int)) (g37 : stp[37] = .int .u32 c28) (hc0 : 0 ≤ c28) (hc1 : c28 < 4294967296)
    (hi : i < n) (hat : w.cell? ⟨b0, o0 + i, none⟩ = some (.int .u32 (At i))) (hl : LastIs w so m code) (hm : m ≤ 1000000000000) :
    Calls Try.prog 21 #[.agg stp] w
      fun e w' => e = .returned (.tuple #[.int .u32 (((c28 - lenF n m code) % 4294967296 + (i : Int) % 4294967296) % 4294967296), .int .u32 (At i)]) ∧ Below w.heap.size w w' := by
  have hb0 : b0 < w.heap.size := block_lt_of_cell hat
  have hR : InsR w so m code (w.alloc (.cells stp 58)).drew := ⟨((Below.refl _ _).alloc (Nat.le_refl _) _).drew, hl.below ((Below.refl _ _).alloc (Nat.le_refl _) _).drew, hm⟩
  clear hl hm
  go_enter Try.func21, Try.ntmps21
  go_wp2_with fail
  go_region_held3 (fun w' => w'.cell? ⟨w.heap.size, 0, none⟩ = some (.slice (some ⟨b0, o0, none⟩) n ca) ∧ w'.cell? ⟨w.heap.size, 1, none⟩ = some (.slice sp np cp) ∧ w'.cell? ⟨w.heap.size, 2, none⟩ = some (.slice so m co) ∧ w'.cell? ⟨w.heap.size, 5, none⟩ = some (.int .i64 (i : Int)) ∧ w'.cell? ⟨w.heap.size, 37, none⟩ = some (.int .u32 c28) ∧ w'.cell? ⟨b0, o0 + i, none⟩ = some (.int .u32 (At i)) ∧ w.heap.size < w'.heap.size ∧ InsR w so m code w') (first | (go_keep; done) | exact insS_step (by assumption) (by assumption))
    (first | (go_at_call 22; refine (length_any _ _ _ _ _ _ _ _ _ code _ (InsR.last (by assumption)) (InsR.small (by assumption))).mono ?_; rintro e w1 ⟨rfl, hb⟩))
  go_wp2
  go_ret2
  refine ⟨ret_two ?_ rfl, ?_⟩
  · simp only [IntKind.wrap_u32']
  · exact (hHeld_below (by assumption))

set_option maxRecDepth 100000 in
set_option maxHeartbeats 2000000 in
theorem exit_any (stp : Array Value) (hst : stp.size = 73) [AllOne stp] (c28 tgt : Int) (w : World) (g6 : stp[6] = .int .u32 tgt) (g37 : stp[37] = .int .u32 c28) :
    Calls Try.prog 23 #[.agg stp] w fun e w' => e = .returned (.tuple #[.int .u32 c28, .int .u32 tgt]) ∧ Below w.heap.size w w' := by
  go_enter Try.func23, Try.ntmps23
  go_wp2
  go_quiet (fail)
  go_wp2
  go_ret2
  exact ⟨rfl, below_drewN ((Below.refl _ _).alloc (Nat.le_refl _) _) _⟩

set_option maxRecDepth 100000 in
set_option maxHeartbeats 2000000 in
theorem limit_any (stp : Array Value) (hst : stp.size = 73) [AllOne stp] (b0 o0 n ca : Nat) (At : Nat → Int) (c28 : Int) (w : World) (g0 : stp[0] = .slice (some ⟨b0, o0, none⟩) n ca) (g37 : stp[37] = .int .u32 c28)
    (hi : 0 < n) (hat : w.cell? ⟨b0, o0, none⟩ = some (.int .u32 (At 0))) :
    Calls Try.prog 24 #[.agg stp] w fun e w' => e = .returned (.tuple #[.int .u32 c28, .int .u32 (At 0)]) ∧ Below w.heap.size w w' := by
  have hb0 : b0 < w.heap.size := block_lt_of_cell hat
  have hi' : (0 : Int) < (n : Int) := by omega
  go_enter Try.func24, Try.ntmps24
  go_wp2
  go_quiet (fail)
  go_wp2
  go_ret2
  exact ⟨rfl, below_drewN ((Below.refl _ _).alloc (Nat.le_refl _) _) _⟩

set_option maxRecDepth 100000 in
set_option maxHeartbeats 2000000 in
theorem var_any (stp : Array Value) (hst : stp.size = 73) [AllOne stp] (c28 c19 : Int) (w : World) (g28 : stp[28] = .int .u32 c19) (g37 : stp[37] = .int .u32 c28) :
    Calls Try.prog 25 #[.agg stp] w fun e w' => e = .returned (.tuple #[.int .u32 c28, .int .u32 c19]) ∧ Below w.heap.size w w' := by
  go_enter Try.func25, Try.ntmps25
  go_wp2
  go_quiet (fail)
  go_wp2
  go_ret2
  exact ⟨rfl, below_drewN ((Below.refl _ _).alloc (Nat.le_refl _) _) _⟩
end Go.Proofs.Ytehehnhomlcimaa
