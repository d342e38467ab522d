/- Contract of 'Own'; what holds while a block is made. -/
import Derived.Test.YtehehnhomlcimaaK
import Derived.Laws.AppendOwnNone
import Derived.Test.YtehehnhomlcimaaB
namespace Go
/-- 'append(xs, ys...)', both rows of the call's own, ys nil or not. -/
theorem wpList_append_own_row {P : Program} {w : World} {ops : Array Oper} {rest : List Oper} {o : Oper} {a : Act} {Q : Exit → Act → World → Prop} (hgd : o.guard = none) (s x : Operand) (t : TypeId)
    (ho : o.op = .call { callee := .builtin .append, args := #[s, x], argTypes := #[t, t] })
    (base : Nat) (e : TypeId) (i : TypeInfo) (z : Value) (size bytes : Nat) (ht : P.underlying t = some (.slice e)) (hi : P.info? e = some i) (hz : i.zero = some z)
    (hsize : i.size = size) (hby : i.bytes = bytes) (hzs : z.cells.size = size) (hsz : 0 < size)
    (v : Value) (n : Nat) (xs : List Value) (hs : a.eval s = v) (hown : w.ownsRow base e size v n xs)
    (u : Value) (base' : Nat) (m : Nat) (news : List Value) (hx : a.eval x = u) (hsrc : w.ownsRow base' e size u m news) (h1 : ∀ u ∈ news, u.oneCell' = true)
    (h63 : n + m ≤ maxLen) (hbytes : (n + m) * bytes ≤ 140737488355328) (hbase : base ≤ w.heap.size)
    (h : ∀ v' w', w'.ownsRow base e size v' (n + m) (xs ++ news) → w.grownBy w' v.ownBlock → wpList P ops Q rest (a.put o.dst v') w') : wpList P ops Q (o :: rest) a w := by
  have hl := hsrc.1
  rcases hsrc.2 with ⟨rfl, rfl⟩ | ⟨g, cap, cur, rfl, hg, hh, hc1, hc2, hc3, hc4⟩
  · obtain rfl : news = [] := by simpa using hl
    refine wpList_append_own_none hgd s x t ho base e i size ht hi v n xs hs hown hx ?_
    exact h v w (by simpa using hown) ⟨rfl, rfl, rfl, Nat.le_refl _, fun _ _ _ => rfl⟩
  · refine wpList_append_own w hgd s x t ho base e i z size bytes ht hi hz hsize hby hzs hsz v n xs hs hown ⟨g, 0, none⟩ m cap news hx hl ?_ h1 h63 hbytes hbase ?_
    · intro j u hj
      exact hsrc.cells rfl j u hj
    · intro v' w' h2 h3 _
      exact h v' w' h2 h3
end Go
namespace Go.Proofs.Ytehehnhomlcimaa
open Go.RowKit

def ats (l : List Int) : List Value := l.map (Value.int .u32)
def pgs (l : List Int) : List Value := l.map (Value.int .i64)
theorem ats_one (l : List Int) : ∀ u ∈ ats l, u.oneCell' = true := by
  intro u h; obtain ⟨x, _, rfl⟩ := List.mem_map.1 h; rfl
theorem pgs_one (l : List Int) : ∀ u ∈ pgs l, u.oneCell' = true := by
  intro u h; obtain ⟨x, _, rfl⟩ := List.mem_map.1 h; rfl
/-- A block value: three rows, each of its own. -/
structure BLK (w : World) (base : Nat) (sv pv ov : Value) (at_ pg : List Int) (ops : List OpT) : Prop where
  a : w.ownsRow base 24 1 sv at_.length (ats at_)
  p : w.ownsRow base 3 1 pv pg.length (pgs pg)
  o : w.ownsRow base 45 5 ov ops.length (flat ops)

theorem info24 : (Try.prog.info? 24).map (fun i => (i.zero, i.size, i.bytes)) = some (some (.int .u32 0), 1, 4) := by kernel_rfl
theorem info3 : (Try.prog.info? 3).map (fun i => (i.zero, i.size, i.bytes)) = some (some (.int .i64 0), 1, 8) := by kernel_rfl

theorem own_ty {w : World} {B e s : Nat} {v : Value} {n : Nat} {xs : List Value} (h : w.ownsRow B e s v n xs) {b : Nat} {c : Array Value} {t : TypeId} {fr : Nat × Nat} (hb : w.heap[b]? = some (.cells c t fr)) (ht : e ≠ t) : v.ownBlock ≠ some b := by
  rcases h.2 with ⟨rfl, _⟩ | ⟨g, cap, cur, rfl, _, hh, _⟩
  · simp [Value.ownBlock]
  · intro he
    simp only [Value.ownBlock, Option.some.injEq] at he
    subst he
    rw [hh] at hb
    simp only [Option.some.injEq, Obj.cells.injEq] at hb
    exact ht hb.2.1
/-- A row stays when only another row, of another kind of element, is written. -/
theorem own_keep {w w' : World} {B e s B' e' s' : Nat} {v u : Value} {n m : Nat} {xs ys : List Value} (h : w.ownsRow B e s v n xs) (h' : w.ownsRow B' e' s' u m ys) (hne : e ≠ e') (hg : w.grownBy w' u.ownBlock) : w'.ownsRow B e s v n xs := by
  refine h.kept hg ?_
  rcases h'.2 with ⟨rfl, _⟩ | ⟨g, cap, cur, rfl, _, hh, _⟩
  · cases hv : v.ownBlock <;> simp [Value.ownBlock]
  · exact .inr (own_ty h hh hne)
theorem own_set {w : World} {B e s : Nat} {v : Value} {n : Nat} {xs : List Value} (h : w.ownsRow B e s v n xs) {b : Nat} {c : Array Value} {t : TypeId} {fr : Nat × Nat} (hb : w.heap[b]? = some (.cells c t fr)) (ht : e ≠ t) (i : Nat) (u : Value) : (w.setCell ⟨b, i, none⟩ u).ownsRow B e s v n xs :=
  ownsRow_setCell_other h (a := ⟨b, i, none⟩) (own_ty h hb ht) u
theorem own_below {w w' : World} {B e s : Nat} {v : Value} {n : Nat} {xs : List Value} (h : w.ownsRow B e s v n xs) (hb : Below w.heap.size w w') : w'.ownsRow B e s v n xs :=
  h.kept (grown_below hb none) (by cases hv : v.ownBlock <;> simp)
theorem BLK.below {w w' : World} {base : Nat} {sv pv ov : Value} {at_ pg : List Int} {ops : List OpT} (h : BLK w base sv pv ov at_ pg ops) (hb : Below w.heap.size w w') : BLK w' base sv pv ov at_ pg ops :=
  ⟨own_below h.a hb, own_below h.p hb, own_below h.o hb⟩

def OwnOut (w : World) (at_ pg : List Int) (ops : List OpT) (e : Ending) (w' : World) : Prop :=
  ∃ sv pv ov, e = .returned (.agg #[sv, pv, ov]) ∧ BLK w' w.heap.size sv pv ov at_ pg ops ∧ Below w.heap.size w w'
theorem blk_cell {w : World} {b : Nat} {c : Array Value} {t : TypeId} (h : w.heap[b]? = some (.cells c t (0, 0))) (i : Nat) : w.cell? ⟨b, i, none⟩ = c[i]? := by simp [World.cell?, h]
theorem blk_free {w : World} {b : Nat} {c : Array Value} {t : TypeId} (h : w.heap[b]? = some (.cells c t (0, 0))) (i : Nat) : w.frozen? ⟨b, i, none⟩ = false := by simp [World.frozen?, h]

theorem own_form {w : World} {B e s : Nat} {v : Value} {n : Nat} {xs : List Value} (h : w.ownsRow B e s v n xs) : ∃ (a : Option Addr) (m c : Nat), v = .slice a m c := by
  rcases h.2 with ⟨rfl, _⟩ | ⟨g, cap, cur, rfl, _⟩
  · exact ⟨_, _, _, rfl⟩
  · exact ⟨_, _, _, rfl⟩

theorem below_none {w w' : World} (h : w.grownBy w' (Value.slice none 0 0).ownBlock) : Below w.heap.size w w' := ⟨h.os, h.tape, h.output, h.size, fun i hi => h.block i hi (by simp [Value.ownBlock])⟩

/-- The three variables of 'Own'. -/
structure Thr (w0 w : World) (A R C : Array Value) : Prop where
  hA : w.heap[w0.heap.size]? = some (.cells A 38 (0, 0))
  hR : w.heap[w0.heap.size + 1]? = some (.cells R 38 (0, 0))
  hC : w.heap[w0.heap.size + 1 + 1]? = some (.cells C 38 (0, 0))
  sz : w0.heap.size + 3 ≤ w.heap.size
  bel : Below w0.heap.size w0 w
section
variable {w0 w w1 : World} {A R C : Array Value}
theorem Thr.start (w0 : World) (A R C : Array Value) : Thr w0 (((w0.alloc (.cells A 38)).alloc (.cells R 38)).alloc (.cells C 38)) A R C :=
  have e : (((w0.alloc (.cells A 38)).alloc (.cells R 38)).alloc (.cells C 38)).heap.size = w0.heap.size + 3 := by simp
  have e1 : (w0.alloc (.cells A 38)).heap.size = w0.heap.size + 1 := by simp
  have e2 : ((w0.alloc (.cells A 38)).alloc (.cells R 38)).heap.size = w0.heap.size + 1 + 1 := by simp
  ⟨by rw [World.heap_alloc_get, World.heap_alloc_get, World.heap_alloc_get, if_neg (by rw [e2]; omega), if_neg (by rw [e1]; omega), if_pos rfl],
   by rw [World.heap_alloc_get, World.heap_alloc_get, if_neg (by rw [e2]; omega), if_pos e1.symm],
   by rw [World.heap_alloc_get, if_pos e2.symm], by rw [e]; omega,
   (((((Below.refl _ _).alloc (Nat.le_refl _) _).alloc (by rw [e1]; omega) _).alloc (by rw [e2]; omega) _))⟩
theorem Thr.set (h : Thr w0 w A R C) (i : Nat) (v : Value) : Thr w0 (w.setCell ⟨w0.heap.size + 1 + 1, i, none⟩ v) A R (C.setIfInBounds i v) :=
  ⟨by rw [World.heap_setCell, if_neg (by show ¬ w0.heap.size = w0.heap.size + 1 + 1; omega)]; exact h.hA, by rw [World.heap_setCell, if_neg (by simp)]; exact h.hR,
   by rw [World.heap_setCell, if_pos rfl, h.hC]; rfl, by simpa [World.setCell] using h.sz, h.bel.setCell (by show w0.heap.size ≤ w0.heap.size + 1 + 1; omega) _⟩
theorem Thr.setR (h : Thr w0 w A R C) (i : Nat) (v : Value) : Thr w0 (w.setCell ⟨w0.heap.size + 1, i, none⟩ v) A (R.setIfInBounds i v) C :=
  ⟨by rw [World.heap_setCell, if_neg (by simp)]; exact h.hA, by rw [World.heap_setCell, if_pos rfl, h.hR]; rfl,
   by rw [World.heap_setCell, if_neg (by simp)]; exact h.hC, by simpa [World.setCell] using h.sz, h.bel.setCell (by show w0.heap.size ≤ w0.heap.size + 1; omega) _⟩
theorem Thr.step (h : Thr w0 w A R C) (hb : Below w.heap.size w w1) : Thr w0 w1 A R C :=
  have hs := h.sz
  ⟨(hb.block _ (by omega)).trans h.hA, (hb.block _ (by omega)).trans h.hR, (hb.block _ (by omega)).trans h.hC, Nat.le_trans hs hb.size, below_call h.bel hb⟩
theorem Thr.cells (h : Thr w0 w A R C) : (∀ i, w.cell? ⟨w0.heap.size, i, none⟩ = A[i]?) ∧ (∀ i, w.cell? ⟨w0.heap.size + 1, i, none⟩ = R[i]?) ∧ (∀ i, w.cell? ⟨w0.heap.size + 1 + 1, i, none⟩ = C[i]?) :=
  ⟨fun i => blk_cell h.hA i, fun i => blk_cell h.hR i, fun i => blk_cell h.hC i⟩
theorem Thr.free (h : Thr w0 w A R C) : (∀ i, w.frozen? ⟨w0.heap.size, i, none⟩ = false) ∧ (∀ i, w.frozen? ⟨w0.heap.size + 1, i, none⟩ = false) ∧ (∀ i, w.frozen? ⟨w0.heap.size + 1 + 1, i, none⟩ = false) :=
  ⟨fun i => blk_free h.hA i, fun i => blk_free h.hR i, fun i => blk_free h.hC i⟩
end

set_option maxRecDepth 100000 in
set_option maxHeartbeats 4000000 in
theorem Own_any (w : World) (base : Nat) (sv pv ov : Value) (at_ pg : List Int) (ops : List OpT) (H : BLK w base sv pv ov at_ pg ops) (ha : at_.length ≤ 1000000000) (hp : pg.length ≤ 1000000000) (ho : ops.length ≤ 1000000000) :
    Calls Try.prog 10 #[.agg #[sv, pv, ov]] w (OwnOut w at_ pg ops) := by
  obtain ⟨i1, hi1, hz10, hz11, hz12⟩ := info_parts info24
  obtain ⟨i2, hi2, hz20, hz21, hz22⟩ := info_parts info3
  obtain ⟨i3, hi3, hz30, hz31, hz32⟩ := info_parts info45
  obtain ⟨a0, n0, c0, rfl⟩ := own_form H.a
  obtain ⟨a9, n9, c9, rfl⟩ := own_form H.p
  obtain ⟨a8, n8, c8, rfl⟩ := own_form H.o
  have HH := Lib.hid H
  clear H
  go_enter Try.func10, Try.ntmps10
  go_wp2_with (first | (at_builtin; refine wpList_append_own_row rfl _ _ 35 rfl w.heap.size 24 i1 (.int .u32 0) 1 4 Try.underlying35 hi1 hz10 hz11 hz12 rfl (by decide) _ _ _ rfl (World.ownsRow_nil _ _ _ _) _ base _ _ rfl (own_below HH.out.a (Thr.start w _ _ _).bel) (ats_one _) (by unfold maxLen; omega) (by omega) (Nat.le_trans (Nat.le_add_right _ 3) (Thr.start w _ _ _).sz) ?_; intro u1 w1 hown1 hg1; have T1 := Lib.hid ((Thr.start w _ _ _).step (below_none hg1)); have hb1 := Lib.hid (below_none hg1); clear hg1; obtain ⟨cA1, cR1, cC1⟩ := T1.out.cells; obtain ⟨fA1, fR1, fC1⟩ := T1.out.free; obtain ⟨a1, m1, c1, rfl⟩ := own_form hown1; have HO1 := Lib.hid hown1; clear hown1; skip) | (at_builtin; refine wpList_append_own_row rfl _ _ 22 rfl w.heap.size 3 i2 (.int .i64 0) 1 8 Try.underlying22 hi2 hz20 hz21 hz22 rfl (by decide) _ _ _ rfl (World.ownsRow_nil _ _ _ _) _ base _ _ rfl (own_below HH.out.p (T1.out.set 0 _).bel) (pgs_one _) (by unfold maxLen; omega) (by omega) (Nat.le_trans (Nat.le_add_right _ 3) (T1.out.set 0 _).sz) ?_; intro u2 w2 hown2 hg2; have T2 := Lib.hid ((T1.out.set 0 _).step (below_none hg2)); have hb2 := Lib.hid (below_none hg2); clear hg2; obtain ⟨cA2, cR2, cC2⟩ := T2.out.cells; obtain ⟨fA2, fR2, fC2⟩ := T2.out.free; obtain ⟨a2, m2, c2, rfl⟩ := own_form hown2; have HO2 := Lib.hid hown2; clear hown2; skip) | (at_builtin; refine wpList_append_own_row rfl _ _ 36 rfl w.heap.size 45 i3 (.agg #[.int .i64 0, .int .i64 0, .int .i64 0, .int .i64 0, .int .u32 0]) 5 40 Try.underlying36 hi3 hz30 hz31 hz32 rfl (by decide) _ _ _ rfl (World.ownsRow_nil _ _ _ _) _ base _ _ rfl (own_below HH.out.o (T2.out.set 1 _).bel) (flat_one _) (by unfold maxLen; omega) (by omega) (Nat.le_trans (Nat.le_add_right _ 3) (T2.out.set 1 _).sz) ?_; intro u3 w3 hown3 hg3; have T3 := Lib.hid ((T2.out.set 1 _).step (below_none hg3)); have hb3 := Lib.hid (below_none hg3); clear hg3; obtain ⟨cA3, cR3, cC3⟩ := T3.out.cells; obtain ⟨fA3, fR3, fC3⟩ := T3.out.free; obtain ⟨a3, m3, c3, rfl⟩ := own_form hown3; have HO3 := Lib.hid hown3; clear hown3; skip))
  have TF := ((((T3.out.set 2 _).setR 0 _).setR 1 _).setR 2 _ : Thr w (((((w3.setCell ⟨w.heap.size + 1 + 1, 2, none⟩ (.slice a3 m3 c3)).setCell ⟨w.heap.size + 1, 0, none⟩ (.slice a1 m1 c1)).setCell ⟨w.heap.size + 1, 1, none⟩ (.slice a2 m2 c2)).setCell ⟨w.heap.size + 1, 2, none⟩ (.slice a3 m3 c3))) _ _ _)
  have ecs := World.cs_of _ _ _ _ TF.hR
  refine bodyPost_ret_by (results_blk (n := 3) rfl _ Try.underlying38 rfl (by kernel_rfl) (by omega) _ _ _ rfl _ (by rw [ecs]) (by rw [ecs]; exact Nat.le_refl 3)) rfl ?_
  simp only [Nat.zero_add, List.nil_append] at HO1 HO2 HO3
  have k1 := own_below (own_set HO1.out T1.out.hC (by decide) 0 (.slice a1 m1 c1)) hb2.out
  have k1 := own_below (own_set k1 T2.out.hC (by decide) 1 (.slice a2 m2 c2)) hb3.out
  have k2 := own_below (own_set HO2.out T2.out.hC (by decide) 1 (.slice a2 m2 c2)) hb3.out
  have t2 := T3.out.set 2 (.slice a3 m3 c3)
  have t3 := t2.setR 0 (.slice a1 m1 c1)
  have t4 := t3.setR 1 (.slice a2 m2 c2)
  have k1 := own_set (own_set (own_set (own_set k1 T3.out.hC (by decide) 2 (.slice a3 m3 c3)) t2.hR (by decide) 0 (.slice a1 m1 c1)) t3.hR (by decide) 1 (.slice a2 m2 c2)) t4.hR (by decide) 2 (.slice a3 m3 c3)
  have k2 := own_set (own_set (own_set (own_set k2 T3.out.hC (by decide) 2 (.slice a3 m3 c3)) t2.hR (by decide) 0 (.slice a1 m1 c1)) t3.hR (by decide) 1 (.slice a2 m2 c2)) t4.hR (by decide) 2 (.slice a3 m3 c3)
  have k3 := own_set (own_set (own_set (own_set HO3.out T3.out.hC (by decide) 2 (.slice a3 m3 c3)) t2.hR (by decide) 0 (.slice a1 m1 c1)) t3.hR (by decide) 1 (.slice a2 m2 c2)) t4.hR (by decide) 2 (.slice a3 m3 c3)
  exact ⟨_, _, _, rfl, ⟨k1, k2, k3⟩, TF.bel⟩
end Go.Proofs.Ytehehnhomlcimaa
