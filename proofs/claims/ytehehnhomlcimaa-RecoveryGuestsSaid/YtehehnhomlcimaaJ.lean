/- Contract of the maker's 'instruction'. -/
import Derived.Test.YtehehnhomlcimaaI
namespace Go.Proofs.Ytehehnhomlcimaa
open Go.RowKit

abbrev OpT := Int × Int × Int × Int × Int
def opC (x : OpT) : List Value := [.int .i64 x.1, .int .i64 x.2.1, .int .i64 x.2.2.1, .int .i64 x.2.2.2.1, .int .u32 x.2.2.2.2]
def flat : List OpT → List Value
  | [] => []
  | x :: l => opC x ++ flat l
theorem flat_len : ∀ l : List OpT, (flat l).length = l.length * 5
  | [] => rfl
  | x :: l => by simp [flat, opC, flat_len l]; omega
theorem flat_append : ∀ a b : List OpT, flat (a ++ b) = flat a ++ flat b
  | [], _ => rfl
  | x :: a, b => by simp [flat, flat_append a b]
theorem flat_one : ∀ l : List OpT, ∀ u ∈ flat l, u.oneCell' = true
  | [], _, h => by cases h
  | x :: l, u, h => by
    simp only [flat, List.mem_append] at h
    rcases h with h | h
    · simp only [opC, List.mem_cons, List.not_mem_nil, or_false] at h
      rcases h with rfl | rfl | rfl | rfl | rfl <;> rfl
    · exact flat_one l u h

theorem info45 : (Try.prog.info? 45).map (fun i => (i.zero, i.size, i.bytes)) = some (some (.agg #[.int .i64 0, .int .i64 0, .int .i64 0, .int .i64 0, .int .u32 0]), 5, 40) := by kernel_rfl

theorem ld62 (w : World) (b off : Nat) (hfit : off + 8 ≤ (w.cs b).size) : (ldB 62 (.pointer (some ⟨b, off, none⟩))).run Try.prog w = .ok (.agg ((w.cs b).extract off (off + 8))) w :=
  run_ldB 62 8 _ Try.underlying62 rfl (by kernel_rfl) w b off hfit (by omega)
theorem loadAt62 (v : Value) : Instr.loadAt 62 v = ldB 62 v := rfl
attribute [local go_sem ↓ high] loadAt62 ld62
attribute [local go_sem] World.cs_alloc_at World.cs_alloc_past World.cs_drew extract_all World.cs_setCell_same World.cs_setCell_other lt_up2 lt_up3 lt_up4 ne_up1 ne_dn1 ne_up2 ne_dn2

/-- What holds all along an instruction's making. -/
structure INV (W w0 : World) (bm : Nat) (sa : Option Addr) (n c k lim : Nat) (v : Value) (ops : List OpT) (cw : Array Value) (f : Nat → Bool) (w : World) (k' : Nat) : Prop where
  mkr : MK w bm sa n c k'
  lo : k ≤ k'
  hi : k' ≤ k + lim
  grown : w0.grownBy w (some bm)
  own : w.ownsRow (w0.heap.size + 1) 45 5 v ops.length (flat ops)
  big : w0.heap.size + 1 ≤ w.heap.size
  wrt : w.heap[w0.heap.size]? = some (.cells cw 62 (0, 0))
  bools : Bools cw f
  mw : MW W bm sa n c k' w
  bml : bm < w0.heap.size

theorem own_ne {w : World} {B e s : Nat} {v : Value} {n : Nat} {xs : List Value} (h : w.ownsRow B e s v n xs) {b : Nat} (hb : b < B) : v.ownBlock = none ∨ v.ownBlock ≠ some b := by
  cases hv : v.ownBlock with
  | none => exact .inl rfl
  | some g => exact .inr (fun e => by have := (h.lt g hv).1; injection e with e; omega)

section
variable {W w0 w w1 : World} {bm n c k lim k' : Nat} {sa : Option Addr} {v : Value} {ops : List OpT} {cw : Array Value} {f : Nat → Bool}
theorem INV.took {m k1 : Nat} (h : INV W w0 bm sa n c k lim v ops cw f w k') (t : Took w bm sa n c k' m w1 k1) : INV W w0 bm sa n c k (lim + m) v ops cw f w1 k1 :=
  have hb := h.bml
  have hbig := h.big
  { mkr := t.mkr, lo := Nat.le_trans h.lo t.lo, hi := by have := h.hi; have := t.hi; omega, grown := grown_trans h.grown t.grown,
    own := h.own.kept t.grown (own_ne h.own (by omega)), big := Nat.le_trans h.big t.grown.size,
    wrt := (t.grown.block _ (by omega) (by simp; omega)).trans h.wrt, bools := h.bools, mw := h.mw.took t, bml := h.bml }
theorem INV.alloc (h : INV W w0 bm sa n c k lim v ops cw f w k') (o : Obj) : INV W w0 bm sa n c k lim v ops cw f (w.alloc o) k' :=
  have hb := h.bml
  have hbig := h.big
  have hm : MK (w.alloc o) bm sa n c k' := by show (w.alloc o).heap[bm]? = _; rw [World.heap_alloc_get, if_neg (by omega)]; exact h.mkr
  { h with mkr := hm, grown := grown_alloc h.grown o, own := h.own.alloc o, big := by simp; omega, wrt := by rw [World.heap_alloc_get, if_neg (by omega)]; exact h.wrt,
           mw := h.mw.after (grown_alloc (grown_refl _ _) o) hm }
theorem INV.append {v' : Value} {x : OpT} (h : INV W w0 bm sa n c k lim v ops cw f w k') (hown : w1.ownsRow (w0.heap.size + 1) 45 5 v' (ops.length + 1) (flat ops ++ opC x)) (hg : w.grownBy w1 v.ownBlock) :
    INV W w0 bm sa n c k lim v' (ops ++ [x]) cw f w1 k' :=
  have hb := h.bml
  have hbig := h.big
  have hne : ∀ b, b < w0.heap.size + 1 → w1.heap[b]? = w.heap[b]? := fun b hb' => hg.block b (by omega) (fun e => by
    have := (h.own.lt b e.symm).1; omega)
  have hm : MK w1 bm sa n c k' := (hne bm (by omega)).trans h.mkr
  have hgr : w0.grownBy w1 (some bm) := grown_new h.grown hg (fun g hg' => by have := (h.own.lt g hg').1; omega)
  { h with mkr := hm, grown := hgr, own := by simpa [flat_append, flat] using hown, big := Nat.le_trans h.big hg.size, wrt := (hne _ (by omega)).trans h.wrt,
           mw := { h.mw with below := h.mw.below.grown hg h.mw.below.size (fun g hg' => by have := (h.own.lt g hg').1; have := h.mw.own; omega), mkr := hm } }
theorem INV.cs (h : INV W w0 bm sa n c k lim v ops cw f w k') : w.cs w0.heap.size = cw := World.cs_of _ _ _ _ h.wrt
theorem INV.cell (h : INV W w0 bm sa n c k lim v ops cw f w k') (i : Nat) (hi : i < 8) : w.cell? ⟨w0.heap.size, i, none⟩ = some (.bool (f i)) := by
  rw [World.cell_cs, h.cs]; exact h.bools.get i hi
theorem INV.free (h : INV W w0 bm sa n c k lim v ops cw f w k') (i : Nat) : w.frozen? ⟨w0.heap.size, i, none⟩ = false := by simp [World.frozen?, h.wrt]
theorem INV.store (h : INV W w0 bm sa n c k lim v ops cw f w k') (i : Nat) (hi : i < 8) : INV W w0 bm sa n c k lim v ops (cw.setIfInBounds i (.bool true)) (fun j => if j = i then true else f j) (w.setCell ⟨w0.heap.size, i, none⟩ (.bool true)) k' :=
  have hb := h.bml
  have hbig := h.big
  have hm : MK (w.setCell ⟨w0.heap.size, i, none⟩ (.bool true)) bm sa n c k' := by
    show (w.setCell _ _).heap[bm]? = _
    rw [World.heap_setCell, if_neg (by simp; omega)]; exact h.mkr
  have hW : W.heap.size ≤ w0.heap.size := by have := h.mw.own; omega
  { h with mkr := hm, grown := grown_setCell h.grown (.inr (Nat.le_refl _)) _, own := ownsRow_setCell_below h.own (by simp) _, big := by simpa [World.setCell] using h.big,
           wrt := by rw [World.heap_setCell, if_pos rfl, h.wrt]; rfl,
           bools := ⟨by simp [h.bools.size], fun j hj => by
             rw [Array.getElem?_setIfInBounds, h.bools.size]
             by_cases e : i = j
             · subst e; simp [hi]
             · rw [if_neg e, h.bools.get j hj, if_neg (fun e' => e e'.symm)]⟩,
           mw := { h.mw with below := h.mw.below.setCell hW _, mkr := hm } }
theorem INV.more {lim' : Nat} (h : INV W w0 bm sa n c k lim v ops cw f w k') (hl : lim ≤ lim') : INV W w0 bm sa n c k lim' v ops cw f w k' := { h with hi := Nat.le_trans h.hi (by omega) }
end
end Go.Proofs.Ytehehnhomlcimaa
