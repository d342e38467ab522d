/- What holds while 'Turned' turns its block. -/
import Derived.Test.YtehehnhomlcimaaM
import Derived.Laws.OwnMore
namespace Go.Proofs.Ytehehnhomlcimaa
open Go.RowKit

theorem flat_get : ∀ (ops : List OpT) (i : Nat) (hi : i < ops.length) (f : Nat), f < 5 → (flat ops)[i * 5 + f]? = (opC ops[i])[f]?
  | [], _, hi, _, _ => by cases hi
  | x :: l, 0, _, f, hf => by
    show (opC x ++ flat l)[0 * 5 + f]? = _
    rw [Nat.zero_mul, Nat.zero_add, List.getElem?_append_left (by simpa [opC] using hf)]; rfl
  | x :: l, i + 1, hi, f, hf => by
    show (opC x ++ flat l)[(i + 1) * 5 + f]? = _
    have e : (opC x).length = 5 := rfl
    rw [List.getElem?_append_right (by rw [e]; omega), e, show (i + 1) * 5 + f - 5 = i * 5 + f by omega]
    exact flat_get l i (by simpa using hi) f hf
theorem flat_take : ∀ (ops : List OpT) (i : Nat), flat (ops.take i) = (flat ops).take (i * 5)
  | [], i => by simp [flat]
  | x :: l, 0 => by simp [flat]
  | x :: l, i + 1 => by
    have e : (opC x).length = 5 := rfl
    show opC x ++ flat (l.take i) = (opC x ++ flat l).take ((i + 1) * 5)
    rw [List.take_append, e, show (i + 1) * 5 - 5 = i * 5 by omega, ← flat_take l i, List.take_of_length_le (l := opC x) (by rw [e]; omega)]
theorem flat_drop : ∀ (ops : List OpT) (i : Nat), flat (ops.drop i) = (flat ops).drop (i * 5)
  | [], i => by simp [flat]
  | x :: l, 0 => by simp [flat]
  | x :: l, i + 1 => by
    have e : (opC x).length = 5 := rfl
    show flat (l.drop i) = (opC x ++ flat l).drop ((i + 1) * 5)
    rw [List.drop_append, e, show (i + 1) * 5 - 5 = i * 5 by omega, ← flat_drop l i, List.drop_of_length_le (l := opC x) (by rw [e]; omega), List.nil_append]
def fits (f : Nat) (u : Value) : Prop := if f = 4 then ∃ x, u = .int .u32 x else ∃ x, u = .int .i64 x
theorem opC_set (x : OpT) (f : Nat) (hf : f < 5) (u : Value) (hu : fits f u) : ∃ y, (opC x).set f u = opC y := by
  match f, hf with
  | 0, _ => obtain ⟨z, rfl⟩ := hu; exact ⟨(z, x.2.1, x.2.2.1, x.2.2.2.1, x.2.2.2.2), rfl⟩
  | 1, _ => obtain ⟨z, rfl⟩ := hu; exact ⟨(x.1, z, x.2.2.1, x.2.2.2.1, x.2.2.2.2), rfl⟩
  | 2, _ => obtain ⟨z, rfl⟩ := hu; exact ⟨(x.1, x.2.1, z, x.2.2.2.1, x.2.2.2.2), rfl⟩
  | 3, _ => obtain ⟨z, rfl⟩ := hu; exact ⟨(x.1, x.2.1, x.2.2.1, z, x.2.2.2.2), rfl⟩
  | 4, _ => obtain ⟨z, rfl⟩ := hu; exact ⟨(x.1, x.2.1, x.2.2.1, x.2.2.2.1, z), rfl⟩
theorem flat_set : ∀ (ops : List OpT) (i : Nat) (_ : i < ops.length) (f : Nat) (_ : f < 5) (u : Value) (_ : fits f u), ∃ ops' : List OpT, ops'.length = ops.length ∧ (flat ops).set (i * 5 + f) u = flat ops'
  | [], _, hi, _, _, _, _ => by cases hi
  | x :: l, 0, _, f, hf, u, hu => by
    obtain ⟨y, hy⟩ := opC_set x f hf u hu
    refine ⟨y :: l, rfl, ?_⟩
    show (opC x ++ flat l).set (0 * 5 + f) u = opC y ++ flat l
    rw [Nat.zero_mul, Nat.zero_add, List.set_append_left _ _ (by simpa [opC] using hf), hy]
  | x :: l, i + 1, hi, f, hf, u, hu => by
    obtain ⟨l', h1, h2⟩ := flat_set l i (by simpa using hi) f hf u hu
    have e : (opC x).length = 5 := rfl
    refine ⟨x :: l', by simp [h1], ?_⟩
    show (opC x ++ flat l).set ((i + 1) * 5 + f) u = opC x ++ flat l'
    rw [List.set_append_right _ _ (by rw [e]; omega), e, show (i + 1) * 5 + f - 5 = i * 5 + f by omega, h2]

open Classical in
/-- The operations, a field of one written. -/
noncomputable def fld (ops : List OpT) (i f : Nat) (u : Value) : List OpT := if h : ∃ ops' : List OpT, ops'.length = ops.length ∧ (flat ops).set (i * 5 + f) u = flat ops' then h.choose else ops
theorem fld_len (ops : List OpT) (i f : Nat) (u : Value) : (fld ops i f u).length = ops.length := by
  unfold fld
  split
  · next h => exact h.choose_spec.1
  · rfl
theorem fld_spec (ops : List OpT) (i : Nat) (hi : i < ops.length) (f : Nat) (hf : f < 5) (u : Value) (hu : fits f u) : (fld ops i f u).length = ops.length ∧ (flat ops).set (i * 5 + f) u = flat (fld ops i f u) := by
  have h := flat_set ops i hi f hf u hu
  unfold fld
  rw [dif_pos h]
  exact h.choose_spec
theorem and65535 (n : Int) : bits .and .i64 n 65535 = n % 65536 := by
  have h127 : (BitVec.ofInt 64 65535).toNat = 2 ^ 16 - 1 := by decide
  have key : (BitVec.ofInt 64 n &&& BitVec.ofInt 64 65535).toNat = (n % ((2 ^ 64 : Nat) : Int)).toNat % 2 ^ 16 := by
    rw [BitVec.toNat_and, BitVec.toNat_ofInt, h127, Nat.and_two_pow_sub_one_eq_mod]
  show IntKind.i64.wrap ((BitVec.ofInt 64 n &&& BitVec.ofInt 64 65535).toNat : Nat) = n % 65536
  rw [key, IntKind.wrap_i64]
  omega
theorem own_form' {w : World} {B e s : Nat} {v : Value} {n : Nat} {xs : List Value} (h : w.ownsRow B e s v n xs) : ∃ (a : Option Addr) (c : Nat), v = .slice a n c := by
  rcases h.2 with ⟨rfl, rfl⟩ | ⟨g, cap, cur, rfl, _⟩
  · exact ⟨_, _, rfl⟩
  · exact ⟨_, _, rfl⟩
theorem own_cap {w : World} {B e s : Nat} {a : Option Addr} {n c m : Nat} {xs : List Value} (h : w.ownsRow B e s (.slice a n c) m xs) : m ≤ c := by
  rcases h.2 with ⟨_, rfl⟩ | ⟨g, cap, cur, h1, _, _, h4, _⟩
  · exact Nat.zero_le _
  · simp only [Value.slice.injEq] at h1
    omega
theorem own_base {w : World} {B B' e s : Nat} {v : Value} {n : Nat} {xs : List Value} (h : w.ownsRow B e s v n xs) (hb : B' ≤ B) : w.ownsRow B' e s v n xs := by
  refine ⟨h.1, ?_⟩
  rcases h.2 with h1 | ⟨g, cap, cur, h1, h2, h3⟩
  · exact .inl h1
  · exact .inr ⟨g, cap, cur, h1, Nat.le_trans hb h2, h3⟩
/-- The head of a row is a row. -/
theorem own_head {w : World} {B e s : Nat} {a : Option Addr} {n c : Nat} {xs : List Value} (h : w.ownsRow B e s (.slice a n c) n xs) (k : Nat) (hk : k ≤ n) : w.ownsRow B e s (.slice a k c) k (xs.take (k * s)) := by
  have hl := h.1
  refine ⟨?_, ?_⟩
  · rw [List.length_take, hl, Nat.min_eq_left (Nat.mul_le_mul_right s hk)]
  rcases h.2 with ⟨h1, h2⟩ | ⟨g, cap, cur, h1, h2, h3, h4, h5, h6, h7⟩
  · subst h2
    obtain rfl : k = 0 := by omega
    exact .inl ⟨h1, rfl⟩
  · simp only [Value.slice.injEq] at h1
    obtain ⟨rfl, -, rfl⟩ := h1
    exact .inr ⟨g, c, cur, rfl, h2, h3, by omega, h5, h6, by rw [← h7, List.take_take, Nat.min_eq_left (Nat.mul_le_mul_right s hk)]⟩

/-- What holds while 'Turned' turns its block. -/
structure IT (w0 : World) (qs : Array Value) (bb : Nat) (C : Array Value) (sv pv ov : Value) (at_ pg : List Int) (ops : List OpT) (w : World) : Prop where
  hb : w.heap[bb]? = some (.cells C 38 (0, 0))
  hq : w.heap[w0.heap.size + 1]? = some (.cells qs 23 (0, 0))
  hr : w.heap[w0.heap.size + 1 + 1]? = some (.cells #[.slice none 0 0, .slice none 0 0, .slice none 0 0] 38 (0, 0))
  blk : BLK w w0.heap.size sv pv ov at_ pg ops
  bel : Below w0.heap.size w0 w
  bl : w0.heap.size + 1 + 1 < bb
section
variable {w0 w w1 : World} {qs : Array Value} {bb : Nat} {C : Array Value} {sv pv ov : Value} {at_ pg : List Int} {ops : List OpT}
theorem IT.start {B : Array Value} (hO : BLK w1 (((w0.alloc (.cells B 38)).alloc (.cells qs 23)).alloc (.cells #[.slice none 0 0, .slice none 0 0, .slice none 0 0] 38)).heap.size sv pv ov at_ pg ops)
    (hb : Below (((w0.alloc (.cells B 38)).alloc (.cells qs 23)).alloc (.cells #[.slice none 0 0, .slice none 0 0, .slice none 0 0] 38)).heap.size (((w0.alloc (.cells B 38)).alloc (.cells qs 23)).alloc (.cells #[.slice none 0 0, .slice none 0 0, .slice none 0 0] 38)) w1) :
    IT w0 qs w1.heap.size #[sv, pv, ov] sv pv ov at_ pg ops (w1.alloc (.cells #[sv, pv, ov] 38)) := by
  have e1 : (w0.alloc (.cells B 38)).heap.size = w0.heap.size + 1 := by simp
  have e2 : ((w0.alloc (.cells B 38)).alloc (.cells qs 23)).heap.size = w0.heap.size + 1 + 1 := by simp
  have e3 : (((w0.alloc (.cells B 38)).alloc (.cells qs 23)).alloc (.cells #[.slice none 0 0, .slice none 0 0, .slice none 0 0] 38)).heap.size = w0.heap.size + 1 + 1 + 1 := by simp
  have hs := hb.size
  rw [e3] at hs
  refine ⟨by rw [World.heap_alloc_get, if_pos rfl], ?_, ?_, ?_, ?_, by omega⟩
  · refine blk_alloc ((hb.block _ (by rw [e3]; omega)).trans ?_) _
    rw [World.heap_alloc_get, if_neg (by rw [e2]; omega), World.heap_alloc_get, if_pos e1.symm]
  · refine blk_alloc ((hb.block _ (by rw [e3]; omega)).trans ?_) _
    rw [World.heap_alloc_get, if_pos e2.symm]
  · rw [e3] at hO
    exact ⟨own_base (hO.a.alloc _) (by omega), own_base (hO.p.alloc _) (by omega), own_base (hO.o.alloc _) (by omega)⟩
  · have b3 := (((Below.refl w0.heap.size w0).alloc (Nat.le_refl _) (.cells B 38)).alloc (by rw [e1]; omega) (.cells qs 23)).alloc (by rw [e2]; omega) (.cells #[.slice none 0 0, .slice none 0 0, .slice none 0 0] 38)
    exact (below_call b3 hb).alloc (by omega) _
theorem IT.cells (h : IT w0 qs bb C sv pv ov at_ pg ops w) : (∀ i, w.cell? ⟨bb, i, none⟩ = C[i]?) ∧ (∀ i, w.frozen? ⟨bb, i, none⟩ = false) ∧ bb < w.heap.size ∧ (∀ i, w.cell? ⟨w0.heap.size + 1, i, none⟩ = qs[i]?) :=
  ⟨fun i => blk_cell h.hb i, fun i => blk_free h.hb i, blk_lt h.hb, fun i => blk_cell h.hq i⟩
theorem IT.rcells (h : IT w0 qs bb C sv pv ov at_ pg ops w) : (∀ i, w.cell? ⟨w0.heap.size + 1 + 1, i, none⟩ = (#[.slice none 0 0, .slice none 0 0, .slice none 0 0] : Array Value)[i]?) ∧ (∀ i, w.frozen? ⟨w0.heap.size + 1 + 1, i, none⟩ = false) ∧ ¬ (bb = w0.heap.size + 1 + 1) ∧ ¬ (w0.heap.size + 1 + 1 = bb) :=
  have hbl := h.bl
  ⟨fun i => blk_cell h.hr i, fun i => blk_free h.hr i, by omega, by omega⟩
theorem IT.drew (h : IT w0 qs bb C sv pv ov at_ pg ops w) : IT w0 qs bb C sv pv ov at_ pg ops w.drew :=
  ⟨h.hb, h.hq, h.hr, ⟨h.blk.a.drew, h.blk.p.drew, h.blk.o.drew⟩, h.bel.drew, h.bl⟩
theorem IT.alloc (h : IT w0 qs bb C sv pv ov at_ pg ops w) (o : Obj) : IT w0 qs bb C sv pv ov at_ pg ops (w.alloc o) :=
  ⟨blk_alloc h.hb o, blk_alloc h.hq o, blk_alloc h.hr o, ⟨h.blk.a.alloc o, h.blk.p.alloc o, h.blk.o.alloc o⟩, h.bel.alloc h.bel.size o, h.bl⟩
theorem IT.set (h : IT w0 qs bb C sv pv ov at_ pg ops w) (i : Nat) (v : Value) : IT w0 qs bb (C.setIfInBounds i v) sv pv ov at_ pg ops (w.setCell ⟨bb, i, none⟩ v) :=
  have hbl := h.bl
  ⟨by rw [World.heap_setCell, if_pos rfl, h.hb]; rfl, by rw [World.heap_setCell, if_neg (by show ¬ _ = bb; omega)]; exact h.hq, by rw [World.heap_setCell, if_neg (by show ¬ _ = bb; omega)]; exact h.hr,
   h.blk.set h.hb i v, h.bel.setCell (by show w0.heap.size ≤ bb; omega) _, h.bl⟩
theorem IT.rows (h : IT w0 qs bb C sv pv ov at_ pg ops w) {e s : Nat} {u : Value} {q : Nat} {xs : List Value} (hu : w.ownsRow w0.heap.size e s u q xs) (hg : w.grownBy w1 u.ownBlock) (h38 : e ≠ 38) (h23 : e ≠ 23) :
    w1.heap[bb]? = some (.cells C 38 (0, 0)) ∧ w1.heap[w0.heap.size + 1]? = some (.cells qs 23 (0, 0)) ∧ w1.heap[w0.heap.size + 1 + 1]? = some (.cells #[.slice none 0 0, .slice none 0 0, .slice none 0 0] 38 (0, 0)) ∧ Below w0.heap.size w0 w1 :=
  ⟨grow_keep hu hg h.hb h38, grow_keep hu hg h.hq h23, grow_keep hu hg h.hr h38, h.bel.grown hg h.bel.size (fun g e => (hu.lt g e).1)⟩
theorem IT.appA (h : IT w0 qs bb C sv pv ov at_ pg ops w) {v' : Value} {x : Int} (hown : w1.ownsRow w0.heap.size 24 1 v' (at_.length + 1) (ats at_ ++ [.int .u32 x])) (hg : w.grownBy w1 sv.ownBlock) : IT w0 qs bb C v' pv ov (at_ ++ [x]) pg ops w1 :=
  have ⟨a, b, d, e⟩ := h.rows h.blk.a hg (by decide) (by decide)
  ⟨a, b, d, ⟨by simpa [ats] using hown, own_keep h.blk.p h.blk.a (by decide) hg, own_keep h.blk.o h.blk.a (by decide) hg⟩, e, h.bl⟩
theorem IT.appP (h : IT w0 qs bb C sv pv ov at_ pg ops w) {v' : Value} {x : Int} (hown : w1.ownsRow w0.heap.size 3 1 v' (pg.length + 1) (pgs pg ++ [.int .i64 x])) (hg : w.grownBy w1 pv.ownBlock) : IT w0 qs bb C sv v' ov at_ (pg ++ [x]) ops w1 :=
  have ⟨a, b, d, e⟩ := h.rows h.blk.p hg (by decide) (by decide)
  ⟨a, b, d, ⟨own_keep h.blk.a h.blk.p (by decide) hg, by simpa [pgs] using hown, own_keep h.blk.o h.blk.p (by decide) hg⟩, e, h.bl⟩
/-- The operations' row is written, or another takes its place. -/
theorem IT.newO (h : IT w0 qs bb C sv pv ov at_ pg ops w) {u v' : Value} {q : Nat} {xs : List Value} {ops' : List OpT} (hu : w.ownsRow w0.heap.size 45 5 u q xs) (hown : w1.ownsRow w0.heap.size 45 5 v' ops'.length (flat ops')) (hg : w.grownBy w1 u.ownBlock) : IT w0 qs bb C sv pv v' at_ pg ops' w1 :=
  have ⟨a, b, d, e⟩ := h.rows hu hg (by decide) (by decide)
  ⟨a, b, d, ⟨own_keep h.blk.a hu (by decide) hg, own_keep h.blk.p hu (by decide) hg, hown⟩, e, h.bl⟩
/-- A field of an operation is written. -/
theorem IT.field {g n c : Nat} (h : IT w0 qs bb C sv pv (.slice (some ⟨g, 0, none⟩) n c) at_ pg ops w) (hn : n = ops.length) {i : Nat} (hi : i < ops.length) (f : Nat) (hf : f < 5) (u : Value) (hu : fits f u) :
    IT w0 qs bb C sv pv (.slice (some ⟨g, 0, none⟩) n c) at_ pg (fld ops i f u) (w.setCell ⟨g, i * 5 + f, none⟩ u) := by
  subst hn
  obtain ⟨h1, h2⟩ := fld_spec ops i hi f hf u hu
  have hs := h.blk.o.stored (i * 5 + f) u
  exact h.newO h.blk.o (by rw [h1, ← h2]; exact hs.1) hs.2
/-- The cells of an operation. -/
theorem IT.op {g n c : Nat} (h : IT w0 qs bb C sv pv (.slice (some ⟨g, 0, none⟩) n c) at_ pg ops w) (hn : n = ops.length) {i : Nat} (hi : i < ops.length) :
    ∃ x : OpT, w.cell? ⟨g, i * 5, none⟩ = some (.int .i64 x.1) ∧ w.cell? ⟨g, i * 5 + 1, none⟩ = some (.int .i64 x.2.1) ∧ w.cell? ⟨g, i * 5 + 2, none⟩ = some (.int .i64 x.2.2.1) ∧ w.cell? ⟨g, i * 5 + 3, none⟩ = some (.int .i64 x.2.2.2.1) ∧ w.cell? ⟨g, i * 5 + 4, none⟩ = some (.int .u32 x.2.2.2.2) ∧ (∀ j, w.frozen? ⟨g, j, none⟩ = false) ∧ g < w.heap.size ∧ ¬ (g = bb) ∧ ¬ (bb = g) ∧ ¬ (g = w0.heap.size + 1 + 1) ∧ ¬ (w0.heap.size + 1 + 1 = g) := by
  subst hn
  have hne : g ≠ bb := fun e => own_ty h.blk.o h.hb (by decide) (by rw [← e]; rfl)
  have hne2 : g ≠ w0.heap.size + 1 + 1 := fun e => own_ty h.blk.o h.hr (by decide) (by rw [← e]; rfl)
  have hl := (h.blk.o.lt g rfl).2
  have hc := fun (f : Nat) (hf : f < 5) => (h.blk.o.cellAt (i * 5 + f) (by omega)).trans (flat_get ops i hi f hf)
  exact ⟨ops[i], hc 0 (by omega), hc 1 (by omega), hc 2 (by omega), hc 3 (by omega), hc 4 (by omega), fun j => h.blk.o.frozenAt j, hl, hne, fun e => hne e.symm, hne2, fun e => hne2 e.symm⟩
/-- A row of operations that is not nil. -/
theorem IT.nonil (h : IT w0 qs bb C sv pv ov at_ pg ops w) (h0 : 0 < ops.length) : ∃ g c, ov = .slice (some ⟨g, 0, none⟩) ops.length c := by
  rcases h.blk.o.2 with ⟨rfl, h2⟩ | ⟨g, cap, cur, rfl, _⟩
  · omega
  · exact ⟨_, _, rfl⟩
theorem IT.del {g c i : Nat} (h : IT w0 qs bb C sv pv (.slice (some ⟨g, 0, none⟩) ops.length c) at_ pg ops w) (hi : i < ops.length) {v' : Value} (hown : w1.ownsRow w0.heap.size 45 5 v' (i + (ops.length - (i + 1))) ((flat ops).take (i * 5) ++ flat (ops.drop (i + 1)))) (hg : w.grownBy w1 (Value.slice (some ⟨g, 0, none⟩) i c).ownBlock) :
    IT w0 qs bb C sv pv v' at_ pg (ops.take i ++ ops.drop (i + 1)) w1 := by
  refine h.newO (own_head h.blk.o i (by omega)) ?_ hg
  rw [flat_append, flat_take, List.length_append, List.length_take, List.length_drop, Nat.min_eq_left (by omega)]
  exact hown
theorem rest_cells {B g n c : Nat} (h : w.ownsRow B 45 5 (.slice (some ⟨g, 0, none⟩) n c) n (flat ops)) (hn : n = ops.length) (k : Nat) : ∀ (j : Nat) (u : Value), (flat (ops.drop k))[j]? = some u → w.cell? ((⟨g, k * 5, none⟩ : Addr).add j) = some u := by
  intro j u hj
  have hlt : j < (flat (ops.drop k)).length := (List.getElem?_eq_some_iff.1 hj).1
  have e : (⟨g, k * 5, none⟩ : Addr).add j = ⟨g, k * 5 + j, none⟩ := by unfold Addr.add; split <;> simp_all
  rw [flat_len, List.length_drop] at hlt
  rw [e, h.cellAt (k * 5 + j) (by omega), ← hj, flat_drop, List.getElem?_drop]
theorem rest_none {a : Addr} (k : Nat) (hk : ops.length ≤ k) : ∀ (j : Nat) (u : Value), (flat (ops.drop k))[j]? = some u → w.cell? (a.add j) = some u := by
  intro j u hj
  rw [List.drop_of_length_le hk] at hj
  simp [flat] at hj
theorem rest_len (k : Nat) : (flat (ops.drop k)).length = (ops.length - k) * 5 := by rw [flat_len, List.length_drop]
theorem IT.below (h : IT w0 qs bb C sv pv ov at_ pg ops w) (hb : Below w.heap.size w w1) : IT w0 qs bb C sv pv ov at_ pg ops w1 :=
  ⟨(hb.block _ (blk_lt h.hb)).trans h.hb, (hb.block _ (blk_lt h.hq)).trans h.hq, (hb.block _ (blk_lt h.hr)).trans h.hr, h.blk.below hb, below_call h.bel hb, h.bl⟩
theorem below_app {W : World} {o : Obj} {u : Value} {q : Nat} {xs : List Value} (hb : Below W.heap.size W w) (hr : w.ownsRow W.heap.size 45 5 u q xs) (hg : (w.alloc o).grownBy w1 u.ownBlock) : Below W.heap.size W w1 :=
  (hb.alloc hb.size o).grown hg (hb.alloc hb.size o).size (fun g e => ((hr.alloc o).lt g e).1)
theorem below_app0 {W : World} {u : Value} {q : Nat} {xs : List Value} (hb : Below W.heap.size W w) (hr : w.ownsRow W.heap.size 45 5 u q xs) (hg : w.grownBy w1 u.ownBlock) : Below W.heap.size W w1 :=
  hb.grown hg hb.size (fun g e => (hr.lt g e).1)
theorem IT.putO (h : IT w0 qs bb C sv pv ov at_ pg ops w) {B : Nat} {v' : Value} {q : Nat} {ops' : List OpT} (hq : ops'.length = q) (hown : w.ownsRow B 45 5 v' q (flat ops')) (hB : w0.heap.size ≤ B) : IT w0 qs bb C sv pv v' at_ pg ops' w :=
  { h with blk := ⟨h.blk.a, h.blk.p, by rw [hq]; exact own_base hown hB⟩ }
theorem IT.cutA {a : Option Addr} {n c k : Nat} (h : IT w0 qs bb C (.slice a n c) pv ov at_ pg ops w) (hn : n = at_.length) (hk : k ≤ at_.length) : IT w0 qs bb C (.slice a k c) pv ov (at_.take k) pg ops w := by
  subst hn
  refine { h with blk := ⟨?_, h.blk.p, h.blk.o⟩ }
  have := own_head h.blk.a k hk
  rw [List.length_take, Nat.min_eq_left hk]
  simpa [ats, List.map_take] using this
theorem fin_at {B : Nat} (hbel : Below w0.heap.size w0 w) (hB : w0.heap.size ≤ B) {R : Array Value} (hr : w.heap[B]? = some (.cells R 38 (0, 0))) (hR : R.size = 3) (hblk : BLK w w0.heap.size sv pv ov at_ pg ops) :
    (((w.setCell ⟨B, 0, none⟩ sv).setCell ⟨B, 1, none⟩ pv).setCell ⟨B, 2, none⟩ ov).cs B = #[sv, pv, ov] ∧
    BLK (((w.setCell ⟨B, 0, none⟩ sv).setCell ⟨B, 1, none⟩ pv).setCell ⟨B, 2, none⟩ ov) w0.heap.size sv pv ov at_ pg ops ∧
    Below w0.heap.size w0 (((w.setCell ⟨B, 0, none⟩ sv).setCell ⟨B, 1, none⟩ pv).setCell ⟨B, 2, none⟩ ov) := by
  have h1 := set_res hr 0 sv
  have h2 := set_res h1 1 pv
  have h3 := set_res h2 2 ov
  refine ⟨?_, ((hblk.set hr 0 _).set h1 1 _).set h2 2 _, ((hbel.setCell hB _).setCell hB _).setCell hB _⟩
  rw [World.cs_of _ _ _ _ h3]
  match R, hR with
  | ⟨[x, y, z]⟩, _ => rfl
def TurnedOut (w : World) (e : Ending) (w' : World) : Prop :=
  ∃ sv pv ov at_ pg ops, e = .returned (.agg #[sv, pv, ov]) ∧ BLK w' w.heap.size sv pv ov at_ pg ops ∧ Below w.heap.size w w' ∧ at_.length ≤ 2000 ∧ pg.length ≤ 2000 ∧ ops.length ≤ 2000
theorem fin_ret {tmps : Array Value} (hp : tmps.getD 4 undef = .pointer (some ⟨w0.heap.size + 1 + 1, 0, none⟩)) (h : IT w0 qs bb C sv pv ov at_ pg ops w) (ha : at_.length ≤ 2000) (hpl : pg.length ≤ 2000) (ho : ops.length ≤ 2000) :
    bodyPost Try.prog Try.f5 (TurnedOut w0) .ret { tmps := tmps, defers := [] } (((w.setCell ⟨w0.heap.size + 1 + 1, 0, none⟩ sv).setCell ⟨w0.heap.size + 1 + 1, 1, none⟩ pv).setCell ⟨w0.heap.size + 1 + 1, 2, none⟩ ov) := by
  obtain ⟨ecs, eblk, ebel⟩ := fin_at h.bel (by omega) h.hr rfl h.blk
  refine bodyPost_ret_by (results_blk (n := 3) rfl _ Try.underlying38 rfl (by kernel_rfl) (by omega) _ _ _ hp _ (by rw [ecs]) (by rw [ecs]; exact Nat.le_refl 3)) rfl ?_
  exact ⟨_, _, _, _, _, _, rfl, eblk, ebel, ha, hpl, ho⟩
end
end Go.Proofs.Ytehehnhomlcimaa
