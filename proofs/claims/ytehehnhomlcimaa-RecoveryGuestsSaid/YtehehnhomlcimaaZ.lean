/- The law's own function. -/
import Derived.Test.YtehehnhomlcimaaY
import Derived.Test.YtehehnhomlcimaaT
import Derived.Test.YtehehnhomlcimaaP
import Derived.Test.YtehehnhomlcimaaN
import Derived.Deep.RegionHeld
import Derived.Deep.Cut
import Derived.Deep.DeepCutAuto
namespace Go.Proofs.Ytehehnhomlcimaa
open Go.RowKit
attribute [local go_sem ↓ high] loadAt25 storeAt25 ld25 st25 loadAt28 storeAt28 ld28 st28 loadAt31 storeAt31 ld31 st31 loadAt32 storeAt32 ld32 st32 copyB copy35
attribute [local go_sem] allOne_inst World.cs_alloc_at World.cs_alloc_past World.cs_drew World.plainRow_alloc_at World.plainRow_alloc_past World.plainRow_drew World.setRow_alloc_at World.setRow_alloc_past World.setRow_drew spl_all extract_all size_spl World.cs_setCell_same World.cs_setCell_other World.plainRow_setCell World.cs_setRow_same World.cs_setRow_other World.plainRow_setRow World.size_setRow' World.cell_setRow World.frozen_setRow ne_up1 ne_dn1 ne_up2 ne_dn2 ne_up3 ne_dn3 ne_up4 ne_dn4 ne_up5 ne_dn5 ne_up6 ne_dn6 ne_up7 ne_dn7 ne_up8 ne_dn8 ne_up9 ne_dn9 ne_up10 ne_dn10 ne_up11 ne_dn11 ne_up12 ne_dn12 ne_up13 ne_dn13 ne_up14 ne_dn14 ne_up15 ne_dn15 lt_up2 lt_up3 lt_up4 lt_up5 lt_up6 lt_up7 lt_up8 lt_up9 lt_up10 lt_up11 lt_up12 lt_up13 lt_up14 lt_up15

/-- A block holds three numbers. -/
structure QS (b : Nat) (q0 q1 q2 : Int) (W : World) : Prop where
  cs : W.cs b = #[.int .i64 q0, .int .i64 q1, .int .i64 q2]
  lt : b < W.heap.size
theorem QS.below {b : Nat} {q0 q1 q2 : Int} {W W' : World} (h : QS b q0 q1 q2 W) (hb : Below W.heap.size W W') : QS b q0 q1 q2 W' :=
  ⟨((bcs hb).1 b h.lt).trans h.cs, Nat.lt_of_lt_of_le h.lt hb.size⟩
theorem QS.drew {b : Nat} {q0 q1 q2 : Int} {W : World} (h : QS b q0 q1 q2 W) : QS b q0 q1 q2 W.drew := ⟨h.cs, h.lt⟩
theorem QS.cell {b : Nat} {q0 q1 q2 : Int} {W : World} (h : QS b q0 q1 q2 W) (i : Nat) : W.cell? ⟨b, i, none⟩ = (#[.int .i64 q0, .int .i64 q1, .int .i64 q2] : Array Value)[i]? := by rw [World.cell_cs, h.cs]
theorem QS.set {b b' : Nat} {q0 q1 q2 : Int} {W : World} (h : QS b q0 q1 q2 W) (hne : b ≠ b') (i : Nat) (v : Value) : QS b q0 q1 q2 (W.setCell ⟨b', i, none⟩ v) :=
  ⟨(World.cs_setCell_other b' b i v hne).trans h.cs, by simpa using h.lt⟩
/-- The worlds of the second region: the argument's block as it was. -/
structure LB (w0 : World) (X : Array Value) (W : World) : Prop where
  cX : W.cs (w0.heap.size + 1) = X
  lX : w0.heap.size + 1 < W.heap.size
  bel : Below w0.heap.size w0 W
theorem LB.below {w0 : World} {X : Array Value} {W W' : World} (h : LB w0 X W) (hb : Below W.heap.size W W') : LB w0 X W' :=
  ⟨((bcs hb).1 _ h.lX).trans h.cX, Nat.lt_of_lt_of_le h.lX hb.size, below_call h.bel hb⟩
theorem LB.drew {w0 : World} {X : Array Value} {W : World} (h : LB w0 X W) : LB w0 X W.drew := ⟨h.cX, h.lX, h.bel.drew⟩
/-- What the second region leaves. -/
def LW (w0 : World) (X : Array Value) (s8 : Value) (W : World) : Prop :=
  ∃ (b8 : Nat) (sa sp so : Option Addr) (n ca np cp m co : Nat) (at_ pg : List Int) (ops : List OpT), s8 = .pointer (some ⟨b8, 0, none⟩) ∧ W.cs b8 = #[.slice sa n ca, .slice sp np cp, .slice so m co] ∧ b8 < W.heap.size ∧
    BLK W w0.heap.size (.slice sa n ca) (.slice sp np cp) (.slice so m co) at_ pg ops ∧ ops.length ≤ 2000 ∧ LB w0 X W
theorem lw_of {w0 W : World} {X R : Array Value} {b8 B : Nat} {sv pv ov : Value} {at_ pg : List Int} {ops : List OpT} (hr : W.heap[b8]? = some (.cells R 38 (0, 0))) (hR : R.size = 3) (hblk : BLK W B sv pv ov at_ pg ops) (hB : w0.heap.size ≤ B) (ho : ops.length ≤ 2000)
    (hL : LB w0 X W) (hb : w0.heap.size + 1 < b8) : LW w0 X (.pointer (some ⟨b8, 0, none⟩)) (((W.setCell ⟨b8, 0, none⟩ sv).setCell ⟨b8, 1, none⟩ pv).setCell ⟨b8, 2, none⟩ ov) := by
  obtain ⟨sa, n, ca, rfl⟩ := own_form hblk.a
  obtain ⟨sp, np, cp, rfl⟩ := own_form hblk.p
  obtain ⟨so, m, co, rfl⟩ := own_form hblk.o
  have h1 := set_res hr 0 (.slice sa n ca)
  have h2 := set_res h1 1 (.slice sp np cp)
  have h3 := set_res h2 2 (.slice so m co)
  have hlt := blk_lt hr
  refine ⟨b8, sa, sp, so, n, ca, np, cp, m, co, at_, pg, ops, rfl, ?_, by simpa using hlt, ((BLK.set (BLK.set (BLK.set ⟨own_base hblk.a hB, own_base hblk.p hB, own_base hblk.o hB⟩ hr 0 _) h1 1 _) h2 2 _)), ho, ?_, by simpa using hL.lX, ?_⟩
  · rw [World.cs_of _ _ _ _ h3]
    match R, hR with
    | ⟨[x, y, z]⟩, _ => rfl
  · rw [World.cs_setCell_other _ _ _ _ (by omega), World.cs_setCell_other _ _ _ _ (by omega), World.cs_setCell_other _ _ _ _ (by omega)]; exact hL.cX
  · exact ((hL.bel.setCell (by simp; omega) _).setCell (by simp; omega) _).setCell (by simp; omega) _
theorem alloc_at (w : World) (o : Obj) : (w.alloc o).heap[w.heap.size]? = some o := by rw [World.heap_alloc_get, if_pos rfl]
theorem NumsAt.below {w w1 : World} {sa : Option Addr} {n : Nat} (h : NumsAt w sa n) (hb : Below w.heap.size w w1) : NumsAt w1 sa n := by
  intro hn
  obtain ⟨b, o, rfl, hc⟩ := h hn
  refine ⟨b, o, rfl, fun i hi => ?_⟩
  obtain ⟨x, hx, hx'⟩ := hc i hi
  exact ⟨x, by rw [hb.cell (p := ⟨b, o + i, none⟩) (World.block_lt_of_cell? _ _ hx)]; exact hx, hx'⟩
theorem NumsAt.cut {w : World} {sa : Option Addr} {n m : Nat} (h : NumsAt w sa n) (hm : m ≤ n) : NumsAt w sa m := by
  intro h0
  obtain ⟨b, o, rfl, hc⟩ := h (by omega)
  exact ⟨b, o, rfl, fun i hi => hc i (by omega)⟩
/-- What the third region reads. -/
structure LS (bx b8 : Nat) (X : Array Value) (sa sp so : Option Addr) (n ca np cp m co : Nat) (At : Nat → Int) (code : Int) (W : World) : Prop where
  cX : W.cs bx = X
  cB : W.cs b8 = #[.slice sa n ca, .slice sp np cp, .slice so m co]
  lx : bx < W.heap.size
  l8 : b8 < W.heap.size
  G : GIn W (X.extract 1 25) (X.extract 31 59) (X.extract 59 123) (Vf X) (Cf X) (numAt X 23) sa so n m At code
  ok : XOK X
section
variable {bx b8 : Nat} {X : Array Value} {sa sp so : Option Addr} {n ca np cp m co : Nat} {At : Nat → Int} {code : Int} {W W' : World}
theorem LS.below (h : LS bx b8 X sa sp so n ca np cp m co At code W) (hb : Below W.heap.size W W') : LS bx b8 X sa sp so n ca np cp m co At code W' :=
  ⟨((bcs hb).1 _ h.lx).trans h.cX, ((bcs hb).1 _ h.l8).trans h.cB, Nat.lt_of_lt_of_le h.lx hb.size, Nat.lt_of_lt_of_le h.l8 hb.size, h.G.below hb, h.ok⟩
theorem LS.f64 (h : LS bx b8 X sa sp so n ca np cp m co At code W) (i : Nat) (hi : i < 123) (hk : kAt i = .i64) : W.cell? ⟨bx, i, none⟩ = some (.int .i64 (numAt X i)) := by
  rw [World.cell_cs, h.cX, (h.ok.at_ i hi).1, hk]
theorem LS.f32 (h : LS bx b8 X sa sp so n ca np cp m co At code W) (i : Nat) (hi : i < 123) (hk : kAt i = .u32) : W.cell? ⟨bx, i, none⟩ = some (.int .u32 (numAt X i)) := by
  rw [World.cell_cs, h.cX, (h.ok.at_ i hi).1, hk]
theorem LS.g (h : LS bx b8 X sa sp so n ca np cp m co At code W) (i : Nat) : W.cell? ⟨b8, i, none⟩ = (#[.slice sa n ca, .slice sp np cp, .slice so m co] : Array Value)[i]? := by rw [World.cell_cs, h.cB]
theorem LS.drew (h : LS bx b8 X sa sp so n ca np cp m co At code W) : LS bx b8 X sa sp so n ca np cp m co At code W.drew := h.below (Below.drew (Below.refl _ _))
end
end Go.Proofs.Ytehehnhomlcimaa
