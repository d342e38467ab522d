/- What holds while a block is made and turned. -/
import Derived.Test.YtehehnhomlcimaaL
namespace Go
/-- 'append(xs, ys...)', both rows of the call's own, ys nil or not: in a region that draws its order. -/
theorem wp_append_own_row {P : Program} {w : World} {o : Oper} {a : Act} {K : Act → World → Prop} {Q : Exit → Act → World → Prop} (s x : Operand) (t : TypeId)
    (ho : o.op = .call { callee := .builtin .append, args := #[s, x], argTypes := #[t, t] })
    (base : Nat) (e : TypeId) (i : TypeInfo) (z : Value) (size bytes : Nat) (ht : P.underlying t = some (.slice e)) (hi : P.info? e = some i) (hz : i.zero = some z)
    (hsize : i.size = size) (hby : i.bytes = bytes) (hzs : z.cells.size = size) (hsz : 0 < size)
    (v : Value) (n : Nat) (xs : List Value) (hs : a.eval s = v) (hown : w.ownsRow base e size v n xs)
    (u : Value) (base' : Nat) (m : Nat) (news : List Value) (hx : a.eval x = u) (hsrc : w.ownsRow base' e size u m news) (h1 : ∀ u ∈ news, u.oneCell' = true)
    (h63 : n + m ≤ maxLen) (hbytes : (n + m) * bytes ≤ 140737488355328) (hbase : base ≤ w.heap.size)
    (h : ∀ v' w', w'.ownsRow base e size v' (n + m) (xs ++ news) → w.grownBy w' v.ownBlock → K (a.put o.dst v') w') : o.wp P a w K Q := by
  have hl := hsrc.1
  rcases hsrc.2 with ⟨rfl, rfl⟩ | ⟨g, cap, cur, rfl, hg, hh, hc1, hc2, hc3, hc4⟩
  · obtain rfl : news = [] := by simpa using hl
    have hrun := run_append_owned_none (P := P) (w := w) base t o.type e i size ht hi v n xs hown
    have hk := h v w (by simpa using hown) ⟨rfl, rfl, rfl, Nat.le_refl _, fun _ _ _ => rfl⟩
    unfold Oper.wp
    simp [execOp, ho, resolve, invoke, builtin, hs, hx, hrun, Result.andThen]
    exact hk
  · refine wp_append_own w s x t ho base e i z size bytes ht hi hz hsize hby hzs hsz v n xs hs hown ⟨g, 0, none⟩ m cap news hx hl ?_ h1 h63 hbytes hbase ?_
    · intro j u hj
      exact hsrc.cells rfl j u hj
    · intro v' w' h2 h3 _
      exact h v' w' h2 h3
end Go
namespace Go.Proofs.Ytehehnhomlcimaa
open Go.RowKit

theorem blk_alloc {w : World} {b : Nat} {x : Obj} (h : w.heap[b]? = some x) (o : Obj) : (w.alloc o).heap[b]? = some x := by
  have hl := (Array.getElem?_eq_some_iff.1 h).1
  rw [World.heap_alloc_get, if_neg (by omega)]; exact h
theorem blk_lt {w : World} {b : Nat} {x : Obj} (h : w.heap[b]? = some x) : b < w.heap.size := (Array.getElem?_eq_some_iff.1 h).1

/-- The maker and the result's variable, before there is a block. -/
structure IZ (w0 : World) (sa : Option Addr) (n c k : Nat) (w : World) : Prop where
  mw : MW w0 (w0.heap.size + 1) sa n c k w
  hr : w.heap[w0.heap.size]? = some (.cells #[.slice none 0 0, .slice none 0 0, .slice none 0 0] 38 (0, 0))
/-- What holds while 'Made' adds to its block. -/
structure IM (w0 : World) (sa : Option Addr) (n c bb k : Nat) (C : Array Value) (sv pv ov : Value) (at_ pg : List Int) (ops : List OpT) (w : World) : Prop where
  mw : MW w0 (w0.heap.size + 1) sa n c k w
  hb : w.heap[bb]? = some (.cells C 38 (0, 0))
  hr : w.heap[w0.heap.size]? = some (.cells #[.slice none 0 0, .slice none 0 0, .slice none 0 0] 38 (0, 0))
  blk : BLK w w0.heap.size sv pv ov at_ pg ops
  bl : w0.heap.size + 1 < bb

section
variable {w0 w w1 : World} {sa : Option Addr} {n c bb k k1 m : Nat} {C : Array Value} {sv pv ov : Value} {at_ pg : List Int} {ops : List OpT}
theorem IZ.took (h : IZ w0 sa n c k w) (t : Took w (w0.heap.size + 1) sa n c k m w1 k1) : IZ w0 sa n c k1 w1 :=
  ⟨h.mw.took t, (t.grown.block _ (blk_lt h.hr) (by simp)).trans h.hr⟩
theorem IZ.start (hN : NumsAt w0 sa n) (hn : n ≤ 1000000000000000) : IZ w0 sa n c 0 ((w0.alloc (.cells #[.slice none 0 0, .slice none 0 0, .slice none 0 0] 38)).alloc (.cells #[.slice sa n c, .int .i64 0] 49)) :=
  have e1 : (w0.alloc (.cells #[.slice none 0 0, .slice none 0 0, .slice none 0 0] 38)).heap.size = w0.heap.size + 1 := by simp
  ⟨{ below := ((Below.refl _ _).alloc (Nat.le_refl _) _).alloc (by rw [e1]; omega) _, own := by omega, mkr := by unfold MK; rw [World.heap_alloc_get, if_pos e1.symm]; rfl, nums := hN, len := hn },
   by rw [World.heap_alloc_get, if_neg (by rw [e1]; omega), World.heap_alloc_get, if_pos rfl]⟩

theorem IM.after (h : IM w0 sa n c bb k C sv pv ov at_ pg ops w) (hg : w.grownBy w1 (some (w0.heap.size + 1))) (hk : MK w1 (w0.heap.size + 1) sa n c k1) : IM w0 sa n c bb k1 C sv pv ov at_ pg ops w1 :=
  have hbl := h.bl
  ⟨h.mw.after hg hk, (hg.block _ (blk_lt h.hb) (by simp; omega)).trans h.hb, (hg.block _ (blk_lt h.hr) (by simp)).trans h.hr,
   ⟨h.blk.a.kept hg (.inr (own_ty h.blk.a h.mw.mkr (by decide))), h.blk.p.kept hg (.inr (own_ty h.blk.p h.mw.mkr (by decide))), h.blk.o.kept hg (.inr (own_ty h.blk.o h.mw.mkr (by decide)))⟩, h.bl⟩
theorem IM.took (h : IM w0 sa n c bb k C sv pv ov at_ pg ops w) (t : Took w (w0.heap.size + 1) sa n c k m w1 k1) : IM w0 sa n c bb k1 C sv pv ov at_ pg ops w1 := h.after t.grown t.mkr
theorem IM.drew (h : IM w0 sa n c bb k C sv pv ov at_ pg ops w) : IM w0 sa n c bb k C sv pv ov at_ pg ops w.drew :=
  h.after (grown_drew (grown_refl _ _)) h.mw.mkr
theorem IM.alloc (h : IM w0 sa n c bb k C sv pv ov at_ pg ops w) (o : Obj) : IM w0 sa n c bb k C sv pv ov at_ pg ops (w.alloc o) :=
  h.after (grown_alloc (grown_refl _ _) o) (blk_alloc h.mw.mkr o)
theorem IM.set (h : IM w0 sa n c bb k C sv pv ov at_ pg ops w) (i : Nat) (v : Value) : IM w0 sa n c bb k (C.setIfInBounds i v) sv pv ov at_ pg ops (w.setCell ⟨bb, i, none⟩ v) :=
  have hbl := h.bl
  ⟨{ h.mw with below := h.mw.below.setCell (by show w0.heap.size ≤ bb; omega) _, mkr := by unfold MK; rw [World.heap_setCell, if_neg (by show ¬ _ = bb; omega)]; exact h.mw.mkr },
   by rw [World.heap_setCell, if_pos rfl, h.hb]; rfl, by rw [World.heap_setCell, if_neg (by show ¬ _ = bb; omega)]; exact h.hr,
   ⟨own_set h.blk.a h.hb (by decide) i v, own_set h.blk.p h.hb (by decide) i v, own_set h.blk.o h.hb (by decide) i v⟩, h.bl⟩
theorem grow_keep {e s : Nat} {u : Value} {q : Nat} {xs : List Value} (hu : w.ownsRow w0.heap.size e s u q xs) (hg : w.grownBy w1 u.ownBlock) {b : Nat} {cs : Array Value} {ty : TypeId} {fr : Nat × Nat} (hb : w.heap[b]? = some (.cells cs ty fr)) (ht : e ≠ ty) : w1.heap[b]? = some (.cells cs ty fr) :=
  (hg.block b (blk_lt hb) (fun e => own_ty hu hb ht e.symm)).trans hb
theorem IM.rows (h : IM w0 sa n c bb k C sv pv ov at_ pg ops w) {e s : Nat} {u : Value} {q : Nat} {xs : List Value} (hu : w.ownsRow w0.heap.size e s u q xs) (hg : w.grownBy w1 u.ownBlock) (h38 : e ≠ 38) (h49 : e ≠ 49) :
    MW w0 (w0.heap.size + 1) sa n c k w1 ∧ w1.heap[bb]? = some (.cells C 38 (0, 0)) ∧ w1.heap[w0.heap.size]? = some (.cells #[.slice none 0 0, .slice none 0 0, .slice none 0 0] 38 (0, 0)) :=
  ⟨{ h.mw with below := h.mw.below.grown hg h.mw.below.size (fun g e => (hu.lt g e).1), mkr := grow_keep hu hg h.mw.mkr h49 }, grow_keep hu hg h.hb h38, grow_keep hu hg h.hr h38⟩
theorem IM.appA (h : IM w0 sa n c bb k C sv pv ov at_ pg ops w) {v' : Value} {x : Int} (hown : w1.ownsRow w0.heap.size 24 1 v' (at_.length + 1) (ats at_ ++ [.int .u32 x])) (hg : w.grownBy w1 sv.ownBlock) : IM w0 sa n c bb k C v' pv ov (at_ ++ [x]) pg ops w1 :=
  have ⟨a, b, d⟩ := h.rows h.blk.a hg (by decide) (by decide)
  ⟨a, b, d, ⟨by simpa [ats] using hown, own_keep h.blk.p h.blk.a (by decide) hg, own_keep h.blk.o h.blk.a (by decide) hg⟩, h.bl⟩
theorem IM.appO (h : IM w0 sa n c bb k C sv pv ov at_ pg ops w) {v' : Value} {q : Nat} {l : List OpT} (hl : l.length = q) (hown : w1.ownsRow w0.heap.size 45 5 v' (ops.length + q) (flat ops ++ flat l)) (hg : w.grownBy w1 ov.ownBlock) : IM w0 sa n c bb k C sv pv v' at_ pg (ops ++ l) w1 :=
  have ⟨a, b, d⟩ := h.rows h.blk.o hg (by decide) (by decide)
  ⟨a, b, d, ⟨own_keep h.blk.a h.blk.o (by decide) hg, own_keep h.blk.p h.blk.o (by decide) hg, by rw [List.length_append, hl, flat_append]; exact hown⟩, h.bl⟩
theorem IM.cells (h : IM w0 sa n c bb k C sv pv ov at_ pg ops w) : (∀ i, w.cell? ⟨bb, i, none⟩ = C[i]?) ∧ (∀ i, w.frozen? ⟨bb, i, none⟩ = false) ∧ bb < w.heap.size :=
  ⟨fun i => blk_cell h.hb i, fun i => blk_free h.hb i, blk_lt h.hb⟩
theorem IM.start {x : Int} (h : IZ w0 sa n c k w) (hbb : bb = w.heap.size + 1) : IM w0 sa n c bb k #[.slice none 0 0, .slice (some ⟨w.heap.size, 0, none⟩) 1 1, .slice none 0 0] (.slice none 0 0) (.slice (some ⟨w.heap.size, 0, none⟩) 1 1) (.slice none 0 0) [] [x] []
    ((w.alloc (.cells #[.int .i64 x] 3)).alloc (.cells #[.slice none 0 0, .slice (some ⟨w.heap.size, 0, none⟩) 1 1, .slice none 0 0] 38)) := by
  have hlt := h.mw.lt
  have e1 : (w.alloc (.cells #[.int .i64 x] 3)).heap.size = bb := by rw [hbb]; simp
  have hb0 : w0.heap.size ≤ w.heap.size := by omega
  have hp : (w.alloc (.cells #[.int .i64 x] 3)).ownsRow w0.heap.size 3 1 (.slice (some ⟨w.heap.size, 0, none⟩) 1 1) 1 [.int .i64 x] := ⟨rfl, .inr ⟨w.heap.size, 1, #[.int .i64 x], rfl, hb0, by rw [World.heap_alloc_get, if_pos rfl], Nat.le_refl _, by unfold maxLen; omega, rfl, rfl⟩⟩
  exact ⟨h.mw.after (grown_alloc (grown_alloc (grown_refl _ _) _) _) (blk_alloc (blk_alloc h.mw.mkr _) _), by rw [World.heap_alloc_get, if_pos e1.symm], blk_alloc (blk_alloc h.hr _) _,
     ⟨World.ownsRow_nil _ _ _ _, hp.alloc _, World.ownsRow_nil _ _ _ _⟩, by omega⟩
theorem one24 (x : Int) : ∀ u ∈ [Value.int .u32 x], u.oneCell' = true := by intro u hu; simp at hu; subst hu; rfl
theorem one3 (x : Int) : ∀ u ∈ [Value.int .i64 x], u.oneCell' = true := by intro u hu; simp at hu; subst hu; rfl
theorem IM.rcells (h : IM w0 sa n c bb k C sv pv ov at_ pg ops w) : (∀ i, w.cell? ⟨w0.heap.size, i, none⟩ = (#[.slice none 0 0, .slice none 0 0, .slice none 0 0] : Array Value)[i]?) ∧ (∀ i, w.frozen? ⟨w0.heap.size, i, none⟩ = false) ∧ ¬ (bb = w0.heap.size) ∧ ¬ (w0.heap.size = bb) :=
  have hbl := h.bl
  ⟨fun i => blk_cell h.hr i, fun i => blk_free h.hr i, by omega, by omega⟩
theorem set_res {R : Array Value} {B : Nat} (hr : w.heap[B]? = some (.cells R 38 (0, 0))) (i : Nat) (v : Value) : (w.setCell ⟨B, i, none⟩ v).heap[B]? = some (.cells (R.setIfInBounds i v) 38 (0, 0)) := by
  rw [World.heap_setCell, if_pos rfl, hr]; rfl
theorem BLK.set {B : Nat} (h : BLK w B sv pv ov at_ pg ops) {b : Nat} {R : Array Value} (hb : w.heap[b]? = some (.cells R 38 (0, 0))) (i : Nat) (v : Value) : BLK (w.setCell ⟨b, i, none⟩ v) B sv pv ov at_ pg ops :=
  ⟨own_set h.a hb (by decide) i v, own_set h.p hb (by decide) i v, own_set h.o hb (by decide) i v⟩
theorem fin_res (hbel : Below w0.heap.size w0 w) {R : Array Value} (hr : w.heap[w0.heap.size]? = some (.cells R 38 (0, 0))) (hR : R.size = 3) (hblk : BLK w w0.heap.size sv pv ov at_ pg ops) :
    (((w.setCell ⟨w0.heap.size, 0, none⟩ sv).setCell ⟨w0.heap.size, 1, none⟩ pv).setCell ⟨w0.heap.size, 2, none⟩ ov).cs w0.heap.size = #[sv, pv, ov] ∧
    BLK (((w.setCell ⟨w0.heap.size, 0, none⟩ sv).setCell ⟨w0.heap.size, 1, none⟩ pv).setCell ⟨w0.heap.size, 2, none⟩ ov) w0.heap.size sv pv ov at_ pg ops ∧
    Below w0.heap.size w0 (((w.setCell ⟨w0.heap.size, 0, none⟩ sv).setCell ⟨w0.heap.size, 1, none⟩ pv).setCell ⟨w0.heap.size, 2, none⟩ ov) := by
  have h1 := set_res hr 0 sv
  have h2 := set_res h1 1 pv
  have h3 := set_res h2 2 ov
  refine ⟨?_, ((hblk.set hr 0 _).set h1 1 _).set h2 2 _, ((hbel.setCell (Nat.le_refl _) _).setCell (Nat.le_refl _) _).setCell (Nat.le_refl _) _⟩
  rw [World.cs_of _ _ _ _ h3]
  match R, hR with
  | ⟨[x, y, z]⟩, _ => rfl
/-- A row that was built a moment ago. -/
theorem lit45 (w : World) {b : Nat} (hb : b ≤ w.heap.size) {N : Nat} (hN : w.heap.size = N) (l : List OpT) (hl : l.length ≤ 1000) : (w.alloc (.cells (flat l).toArray 45)).ownsRow b 45 5 (.slice (some ⟨N, 0, none⟩) l.length l.length) l.length (flat l) := by
  subst hN
  exact ⟨flat_len l, .inr ⟨w.heap.size, l.length, (flat l).toArray, rfl, hb, by rw [World.heap_alloc_get, if_pos rfl], Nat.le_refl _, by unfold maxLen; omega, by simp [flat_len], by simp [flat_len, List.take_of_length_le]⟩⟩
theorem lit24 (w : World) {b : Nat} (hb : b ≤ w.heap.size) {N : Nat} (hN : w.heap.size = N) (x : Int) : (w.alloc (.cells #[.int .u32 x] 24)).ownsRow b 24 1 (.slice (some ⟨N, 0, none⟩) 1 1) 1 [.int .u32 x] := by
  subst hN
  exact ⟨rfl, .inr ⟨w.heap.size, 1, #[.int .u32 x], rfl, hb, by rw [World.heap_alloc_get, if_pos rfl], Nat.le_refl _, by unfold maxLen; omega, rfl, rfl⟩⟩
theorem lit3 (w : World) {b : Nat} (hb : b ≤ w.heap.size) {N : Nat} (hN : w.heap.size = N) (x : Int) : (w.alloc (.cells #[.int .i64 x] 3)).ownsRow b 3 1 (.slice (some ⟨N, 0, none⟩) 1 1) 1 [.int .i64 x] := by
  subst hN
  exact ⟨rfl, .inr ⟨w.heap.size, 1, #[.int .i64 x], rfl, hb, by rw [World.heap_alloc_get, if_pos rfl], Nat.le_refl _, by unfold maxLen; omega, rfl, rfl⟩⟩
end
end Go.Proofs.Ytehehnhomlcimaa
