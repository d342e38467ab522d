/- Blocks of many cells told whole: load, store and copy as equations on the block's array. Plain laws over any program. -/
import Derived.WalkKit
import Derived.WalkSpells
import Derived.WalkLawsBesides
import Derived.Laws.Rows
import Derived.Laws.CopyRow
import Derived.StillTailTactics
namespace Go
open Go.RowKit

/-- The cells of a block; none of another kind of block. -/
def World.cs (w : World) (b : Nat) : Array Value := match w.heap[b]? with | some (.cells c _ _) => c | _ => #[]
/-- A row of cells of which none is frozen. -/
def World.plainRow (w : World) (b : Nat) : Bool := match w.heap[b]? with | some (.cells _ _ fr) => fr == (0, 0) | _ => false
/-- An array with other cells from a place on. -/
def spl (c : Array Value) (off : Nat) (vs : Array Value) : Array Value := c.mapIdx fun k x => if off ≤ k then (vs[k - off]?).getD x else x

/- A number is below it and some more: closed facts, so that a simplifier need not look for premises. -/
theorem lt_up2 (n : Nat) : n < n + 1 + 1 := by omega
theorem lt_up3 (n : Nat) : n < n + 1 + 1 + 1 := by omega
theorem lt_up4 (n : Nat) : n < n + 1 + 1 + 1 + 1 := by omega
theorem lt_up5 (n : Nat) : n < n + 1 + 1 + 1 + 1 + 1 := by omega
theorem lt_up6 (n : Nat) : n < n + 1 + 1 + 1 + 1 + 1 + 1 := by omega
theorem lt_up7 (n : Nat) : n < n + 1 + 1 + 1 + 1 + 1 + 1 + 1 := by omega
theorem lt_up8 (n : Nat) : n < n + 1 + 1 + 1 + 1 + 1 + 1 + 1 + 1 := by omega
theorem lt_up9 (n : Nat) : n < n + 1 + 1 + 1 + 1 + 1 + 1 + 1 + 1 + 1 := by omega
theorem lt_up10 (n : Nat) : n < n + 1 + 1 + 1 + 1 + 1 + 1 + 1 + 1 + 1 + 1 := by omega
theorem lt_up11 (n : Nat) : n < n + 1 + 1 + 1 + 1 + 1 + 1 + 1 + 1 + 1 + 1 + 1 := by omega
theorem lt_up12 (n : Nat) : n < n + 1 + 1 + 1 + 1 + 1 + 1 + 1 + 1 + 1 + 1 + 1 + 1 := by omega
theorem lt_up13 (n : Nat) : n < n + 1 + 1 + 1 + 1 + 1 + 1 + 1 + 1 + 1 + 1 + 1 + 1 + 1 := by omega
theorem lt_up14 (n : Nat) : n < n + 1 + 1 + 1 + 1 + 1 + 1 + 1 + 1 + 1 + 1 + 1 + 1 + 1 + 1 := by omega
theorem lt_up15 (n : Nat) : n < n + 1 + 1 + 1 + 1 + 1 + 1 + 1 + 1 + 1 + 1 + 1 + 1 + 1 + 1 + 1 := by omega
theorem ne_up1 (n : Nat) : (n + 1 = n) = False := eq_false (by omega)
theorem ne_dn1 (n : Nat) : (n = n + 1) = False := eq_false (by omega)
theorem ne_up2 (n : Nat) : (n + 1 + 1 = n) = False := eq_false (by omega)
theorem ne_dn2 (n : Nat) : (n = n + 1 + 1) = False := eq_false (by omega)
theorem ne_up3 (n : Nat) : (n + 1 + 1 + 1 = n) = False := eq_false (by omega)
theorem ne_dn3 (n : Nat) : (n = n + 1 + 1 + 1) = False := eq_false (by omega)
theorem ne_up4 (n : Nat) : (n + 1 + 1 + 1 + 1 = n) = False := eq_false (by omega)
theorem ne_dn4 (n : Nat) : (n = n + 1 + 1 + 1 + 1) = False := eq_false (by omega)
theorem ne_up5 (n : Nat) : (n + 1 + 1 + 1 + 1 + 1 = n) = False := eq_false (by omega)
theorem ne_dn5 (n : Nat) : (n = n + 1 + 1 + 1 + 1 + 1) = False := eq_false (by omega)
theorem ne_up6 (n : Nat) : (n + 1 + 1 + 1 + 1 + 1 + 1 = n) = False := eq_false (by omega)
theorem ne_dn6 (n : Nat) : (n = n + 1 + 1 + 1 + 1 + 1 + 1) = False := eq_false (by omega)
theorem ne_up7 (n : Nat) : (n + 1 + 1 + 1 + 1 + 1 + 1 + 1 = n) = False := eq_false (by omega)
theorem ne_dn7 (n : Nat) : (n = n + 1 + 1 + 1 + 1 + 1 + 1 + 1) = False := eq_false (by omega)
theorem ne_up8 (n : Nat) : (n + 1 + 1 + 1 + 1 + 1 + 1 + 1 + 1 = n) = False := eq_false (by omega)
theorem ne_dn8 (n : Nat) : (n = n + 1 + 1 + 1 + 1 + 1 + 1 + 1 + 1) = False := eq_false (by omega)
theorem ne_up9 (n : Nat) : (n + 1 + 1 + 1 + 1 + 1 + 1 + 1 + 1 + 1 = n) = False := eq_false (by omega)
theorem ne_dn9 (n : Nat) : (n = n + 1 + 1 + 1 + 1 + 1 + 1 + 1 + 1 + 1) = False := eq_false (by omega)
theorem ne_up10 (n : Nat) : (n + 1 + 1 + 1 + 1 + 1 + 1 + 1 + 1 + 1 + 1 = n) = False := eq_false (by omega)
theorem ne_dn10 (n : Nat) : (n = n + 1 + 1 + 1 + 1 + 1 + 1 + 1 + 1 + 1 + 1) = False := eq_false (by omega)
theorem ne_up11 (n : Nat) : (n + 1 + 1 + 1 + 1 + 1 + 1 + 1 + 1 + 1 + 1 + 1 = n) = False := eq_false (by omega)
theorem ne_dn11 (n : Nat) : (n = n + 1 + 1 + 1 + 1 + 1 + 1 + 1 + 1 + 1 + 1 + 1) = False := eq_false (by omega)
theorem ne_up12 (n : Nat) : (n + 1 + 1 + 1 + 1 + 1 + 1 + 1 + 1 + 1 + 1 + 1 + 1 = n) = False := eq_false (by omega)
theorem ne_dn12 (n : Nat) : (n = n + 1 + 1 + 1 + 1 + 1 + 1 + 1 + 1 + 1 + 1 + 1 + 1) = False := eq_false (by omega)
theorem ne_up13 (n : Nat) : (n + 1 + 1 + 1 + 1 + 1 + 1 + 1 + 1 + 1 + 1 + 1 + 1 + 1 = n) = False := eq_false (by omega)
theorem ne_dn13 (n : Nat) : (n = n + 1 + 1 + 1 + 1 + 1 + 1 + 1 + 1 + 1 + 1 + 1 + 1 + 1) = False := eq_false (by omega)
theorem ne_up14 (n : Nat) : (n + 1 + 1 + 1 + 1 + 1 + 1 + 1 + 1 + 1 + 1 + 1 + 1 + 1 + 1 = n) = False := eq_false (by omega)
theorem ne_dn14 (n : Nat) : (n = n + 1 + 1 + 1 + 1 + 1 + 1 + 1 + 1 + 1 + 1 + 1 + 1 + 1 + 1) = False := eq_false (by omega)
theorem ne_up15 (n : Nat) : (n + 1 + 1 + 1 + 1 + 1 + 1 + 1 + 1 + 1 + 1 + 1 + 1 + 1 + 1 + 1 = n) = False := eq_false (by omega)
theorem ne_dn15 (n : Nat) : (n = n + 1 + 1 + 1 + 1 + 1 + 1 + 1 + 1 + 1 + 1 + 1 + 1 + 1 + 1 + 1) = False := eq_false (by omega)

/-- Every cell of an array is one cell (no aggregate, no tuple). -/
def allOne (c : Array Value) : Bool := c.all (·.oneCell')
theorem allOne_nil : allOne #[] = true := by simp [allOne]
theorem allOne_int (k : IntKind) (n : Int) (l : List Value) : allOne (Value.int k n :: l).toArray = allOne l.toArray := by simp [allOne, Value.oneCell']
theorem allOne_bool (b : Bool) (l : List Value) : allOne (Value.bool b :: l).toArray = allOne l.toArray := by simp [allOne, Value.oneCell']
theorem allOne_slice (a : Option Addr) (n c : Nat) (l : List Value) : allOne (Value.slice a n c :: l).toArray = allOne l.toArray := by simp [allOne, Value.oneCell']
theorem allOne_pointer (a : Option Addr) (l : List Value) : allOne (Value.pointer a :: l).toArray = allOne l.toArray := by simp [allOne, Value.oneCell']
theorem allOne_string (b : ByteArray) (l : List Value) : allOne (Value.string b :: l).toArray = allOne l.toArray := by simp [allOne, Value.oneCell']
theorem allOne_mem {c : Array Value} (h : allOne c = true) : ∀ v ∈ c, v.oneCell' = true := Array.all_eq_true_iff_forall_mem.1 h
theorem allOne_of {c : Array Value} (h : ∀ v ∈ c, v.oneCell' = true) : allOne c = true := Array.all_eq_true_iff_forall_mem.2 h
theorem allOne_set {c : Array Value} (h : allOne c = true) (i : Nat) (v : Value) (hv : v.oneCell' = true) : allOne (c.setIfInBounds i v) = true := by
  refine allOne_of fun u hu => ?_
  rcases Array.mem_or_eq_of_mem_setIfInBounds hu with h1 | h1
  · exact allOne_mem h u h1
  · rw [h1]; exact hv
theorem allOne_set_int {c : Array Value} (h : allOne c = true) (i : Nat) (k : IntKind) (n : Int) : allOne (c.setIfInBounds i (.int k n)) = true := allOne_set h i _ rfl
theorem allOne_extract {c : Array Value} (h : allOne c = true) (i j : Nat) : allOne (c.extract i j) = true := by
  refine allOne_of fun v hv => ?_
  have hm : v ∈ (c.extract i j).toList := Array.mem_toList_iff.2 hv
  rw [Array.toList_extract] at hm
  simp only [List.extract] at hm
  exact allOne_mem h v (by simpa using List.mem_of_mem_drop (List.mem_of_mem_take hm))
theorem allOne_spl {c vs : Array Value} (h : allOne c = true) (h' : allOne vs = true) (off : Nat) : allOne (spl c off vs) = true := by
  refine allOne_of fun v hv => ?_
  unfold spl at hv
  obtain ⟨i, hi, rfl⟩ := Array.mem_iff_getElem.1 hv
  simp only [Array.getElem_mapIdx]
  split
  · cases hq : vs[i - off]? with
    | none => exact allOne_mem h _ (Array.getElem_mem _)
    | some u => exact allOne_mem h' u (Array.mem_of_getElem? hq)
  · exact allOne_mem h _ (Array.getElem_mem _)

section
variable {P : Program} {w : World}

theorem World.cs_of (b : Nat) (c : Array Value) (t : TypeId) (fr : Nat × Nat) (h : w.heap[b]? = some (.cells c t fr)) : w.cs b = c := by simp [World.cs, h]
theorem World.plainRow_of (b : Nat) (c : Array Value) (t : TypeId) (h : w.heap[b]? = some (.cells c t (0, 0))) : w.plainRow b = true := by simp [World.plainRow, h]

theorem World.heap_alloc_get (o : Obj) (n : Nat) : (w.alloc o).heap[n]? = if n = w.heap.size then some o else w.heap[n]? := by
  show (w.heap.push o)[n]? = _
  rw [Array.getElem?_push]

theorem World.cs_alloc_at (c : Array Value) (t : TypeId) (fr : Nat × Nat) (n : Nat) (hn : n = w.heap.size) : (w.alloc (.cells c t fr)).cs n = c := by
  unfold World.cs; rw [World.heap_alloc_get, if_pos hn]
theorem World.cs_alloc_past (o : Obj) (n : Nat) (hn : n < w.heap.size) : (w.alloc o).cs n = w.cs n := by
  unfold World.cs; rw [World.heap_alloc_get, if_neg (Nat.ne_of_lt hn)]
theorem World.cs_drew (n : Nat) : w.drew.cs n = w.cs n := rfl
theorem World.plainRow_alloc_at (c : Array Value) (t : TypeId) (n : Nat) (hn : n = w.heap.size) : (w.alloc (.cells c t)).plainRow n = true := by
  unfold World.plainRow; rw [World.heap_alloc_get, if_pos hn]; rfl
theorem World.plainRow_alloc_past (o : Obj) (n : Nat) (hn : n < w.heap.size) : (w.alloc o).plainRow n = w.plainRow n := by
  unfold World.plainRow; rw [World.heap_alloc_get, if_neg (Nat.ne_of_lt hn)]
theorem World.plainRow_drew (n : Nat) : w.drew.plainRow n = w.plainRow n := rfl

theorem World.heap_setRow (g k : Nat) (cs : Array Value) : (w.setRow g cs).heap[k]? = if k = g then (w.heap[k]?).map (fun | .cells _ t fr => .cells cs t fr | o => o) else w.heap[k]? := by
  unfold World.setRow
  simp only [Array.getElem?_modify]
  by_cases h : k = g
  · subst h; rw [if_pos rfl, if_pos rfl]; rfl
  · rw [if_neg (fun e => h e.symm), if_neg h]

theorem World.setRow_alloc_at (c c' : Array Value) (t : TypeId) (fr : Nat × Nat) (n : Nat) (hn : n = w.heap.size) : (w.alloc (.cells c t fr)).setRow n c' = w.alloc (.cells c' t fr) := by
  have e : ∀ k : Nat, ((w.alloc (.cells c t fr)).setRow n c').heap[k]? = (w.alloc (.cells c' t fr)).heap[k]? := by
    intro k
    rw [World.heap_setRow, World.heap_alloc_get, World.heap_alloc_get, hn]
    by_cases h : k = w.heap.size
    · simp [h]
    · simp [h]
  have e2 : ((w.alloc (.cells c t fr)).setRow n c').heap = (w.alloc (.cells c' t fr)).heap := Array.ext_getElem? e
  unfold World.setRow World.alloc at *
  simp only [World.mk.injEq, and_true]
  exact e2
theorem World.setRow_alloc_past (o : Obj) (c' : Array Value) (n : Nat) (hn : n < w.heap.size) : (w.alloc o).setRow n c' = (w.setRow n c').alloc o := by
  have e : ∀ k : Nat, ((w.alloc o).setRow n c').heap[k]? = ((w.setRow n c').alloc o).heap[k]? := by
    intro k
    rw [World.heap_setRow, World.heap_alloc_get, World.heap_alloc_get, World.heap_setRow]
    by_cases h : k = n
    · subst h; simp [Nat.ne_of_lt hn]
    · simp [h]
  have e2 : ((w.alloc o).setRow n c').heap = ((w.setRow n c').alloc o).heap := Array.ext_getElem? e
  unfold World.setRow World.alloc at *
  simp only [World.mk.injEq, and_true]
  exact e2
theorem World.setRow_drew (c' : Array Value) (n : Nat) : w.drew.setRow n c' = (w.setRow n c').drew := rfl

theorem size_spl (c : Array Value) (off : Nat) (vs : Array Value) : (spl c off vs).size = c.size := by simp [spl]
theorem spl_get (c : Array Value) (off : Nat) (vs : Array Value) (k : Nat) (h : k < (spl c off vs).size) : (spl c off vs)[k] = if off ≤ k then (vs[k - off]?).getD (c[k]'(by rw [size_spl] at h; exact h)) else c[k]'(by rw [size_spl] at h; exact h) := by simp [spl]
theorem spl_eq (c : Array Value) (off : Nat) (vs : Array Value) (h : off + vs.size ≤ c.size) : c.extract 0 off ++ vs ++ c.extract (off + vs.size) c.size = spl c off vs := by
  apply Array.ext
  · rw [size_spl]; simp; omega
  · intro k h1 h2
    rw [size_spl] at h2
    rw [spl_get]
    by_cases h3 : k < off
    · rw [if_neg (by omega), Array.getElem_append_left (by simp; omega), Array.getElem_append_left (by simp; omega)]
      simp
    · rw [if_pos (by omega)]
      by_cases h4 : k < off + vs.size
      · rw [Array.getElem_append_left (by simp; omega), Array.getElem_append_right (by simp; omega)]
        rw [Array.getElem?_eq_getElem (by omega)]
        simp [show min off c.size = off by omega]
      · rw [Array.getElem_append_right (by simp; omega), Array.getElem?_eq_none (by omega)]
        simp [show min off c.size = off by omega]
        congr 1
        omega
theorem spl_all (c vs : Array Value) (h : vs.size = c.size) : spl c 0 vs = vs := by
  rw [← spl_eq c 0 vs (by omega), Nat.zero_add, h]
  simp
theorem extract_all (c : Array Value) (n : Nat) (h : c.size = n) : c.extract 0 n = c := by subst h; simp
/-- 'allOne' found by its shape: an instance search knows no bound on its depth. -/
class AllOne (c : Array Value) : Prop where
  all : allOne c = true
theorem allOne_inst (c : Array Value) [h : AllOne c] : allOne c = true := h.all
instance : AllOne #[] := ⟨allOne_nil⟩
instance (k : IntKind) (n : Int) (l : List Value) [h : AllOne l.toArray] : AllOne (Value.int k n :: l).toArray := ⟨(allOne_int k n l).trans h.all⟩
instance (b : Bool) (l : List Value) [h : AllOne l.toArray] : AllOne (Value.bool b :: l).toArray := ⟨(allOne_bool b l).trans h.all⟩
instance (a : Option Addr) (n c : Nat) (l : List Value) [h : AllOne l.toArray] : AllOne (Value.slice a n c :: l).toArray := ⟨(allOne_slice a n c l).trans h.all⟩
instance (a : Option Addr) (l : List Value) [h : AllOne l.toArray] : AllOne (Value.pointer a :: l).toArray := ⟨(allOne_pointer a l).trans h.all⟩
instance (b : ByteArray) (l : List Value) [h : AllOne l.toArray] : AllOne (Value.string b :: l).toArray := ⟨(allOne_string b l).trans h.all⟩
instance (c : Array Value) (i : Nat) (k : IntKind) (n : Int) [h : AllOne c] : AllOne (c.setIfInBounds i (.int k n)) := ⟨allOne_set h.all i _ rfl⟩
instance (c : Array Value) (i : Nat) (b : Bool) [h : AllOne c] : AllOne (c.setIfInBounds i (.bool b)) := ⟨allOne_set h.all i _ rfl⟩
instance (c : Array Value) (i : Nat) (a : Option Addr) (n m : Nat) [h : AllOne c] : AllOne (c.setIfInBounds i (.slice a n m)) := ⟨allOne_set h.all i _ rfl⟩
instance (c : Array Value) (i : Nat) (a : Option Addr) [h : AllOne c] : AllOne (c.setIfInBounds i (.pointer a)) := ⟨allOne_set h.all i _ rfl⟩
instance (c : Array Value) (i j : Nat) [h : AllOne c] : AllOne (c.extract i j) := ⟨allOne_extract h.all i j⟩
instance (c vs : Array Value) (off : Nat) [h : AllOne c] [h' : AllOne vs] : AllOne (spl c off vs) := ⟨allOne_spl h.all h'.all off⟩
instance (c vs : Array Value) [h : AllOne c] [h' : AllOne vs] : AllOne (c ++ vs) := ⟨allOne_of fun v hv => by
  rcases Array.mem_append.1 hv with h1 | h1
  · exact allOne_mem h.all v h1
  · exact allOne_mem h'.all v h1⟩

theorem run_load_blk (ty n : Nat) (d : TypeDesc) (hu : P.underlying ty = some d) (hd : (match d with | .struct _ | .array _ _ => true | _ => false) = true) (hi : (P.info? ty).map (·.size) = some n)
    (w : World) (b off : Nat) (hfit : off + n ≤ (w.cs b).size) (hn : 0 < n) : (loadVar ty ⟨b, off, none⟩).run P w = .ok (.agg ((w.cs b).extract off (off + n))) w := by
  have hcell : ∀ j, j < n → w.cell? ((⟨b, off, none⟩ : Addr).add j) = (w.cs b)[off + j]? := by
    intro j hj
    have hadd : (⟨b, off, none⟩ : Addr).add j = ⟨b, off + j, none⟩ := by unfold Addr.add; split <;> simp_all
    rw [hadd]
    unfold World.cs at hfit ⊢
    unfold World.cell?
    split <;> simp_all <;> omega
  have hlen : ((w.cs b).extract off (off + n)).toList.length = n := by simp; omega
  have hl := run_loadCells_list (P := P) w ⟨b, off, none⟩ ((w.cs b).extract off (off + n)).toList (fun j v hv => by
    have hj : j < n := by
      have h := (List.getElem?_eq_some_iff.1 hv).1
      omega
    rw [hcell j hj]
    simp only [Array.getElem?_toList, Array.getElem?_extract] at hv
    rw [if_pos (by omega)] at hv
    exact hv)
  cases hq : P.info? ty with
  | none => simp [hq] at hi
  | some i =>
    have hs : i.size = n := by simpa [hq] using hi
    have hagg : (isAgg ty).run P w = .ok true w := by
      unfold isAgg
      rw [Sem.run_bind, run_underlying hu w]
      cases d <;> simp_all
    rw [hlen] at hl
    simp only [Array.toArray_toList] at hl
    simp [loadVar, Sem.run_bind, hagg, sizeOf, typeInfo, hq, hs, hl]

/-- The three operations on many cells, under names that a simplifier does not open. -/
def ldB (t : TypeId) (v : Value) : Sem Value := Instr.loadAt t v
def stB (t : TypeId) (p v : Value) : Sem Unit := Instr.storeAt t p v
def cpB (ts : Array TypeId) (t : TypeId) (args : Array Value) : Sem Value := Builtin.copy_ ts t args
theorem run_ldB (ty n : Nat) (d : TypeDesc) (hu : P.underlying ty = some d) (hd : (match d with | .struct _ | .array _ _ => true | _ => false) = true) (hi : (P.info? ty).map (·.size) = some n)
    (w : World) (b off : Nat) (hfit : off + n ≤ (w.cs b).size) (hn : 0 < n) : (ldB ty (.pointer (some ⟨b, off, none⟩))).run P w = .ok (.agg ((w.cs b).extract off (off + n))) w := by
  have h := run_load_blk ty n d hu hd hi w b off hfit hn
  simp only [ldB, Instr.loadAt, Instr.sureAddr, Sem.run_bind, Sem.run_pure, Result.andThen_ok, h]

theorem plainRow_heap (b : Nat) (h : w.plainRow b = true) : ∃ t, w.heap[b]? = some (.cells (w.cs b) t (0, 0)) := by
  unfold World.plainRow at h
  unfold World.cs
  split at h
  · rename_i c t fr he
    have hfr : fr = (0, 0) := by simpa using h
    subst hfr
    exact ⟨t, by rw [he]⟩
  · cases h

theorem run_store_blk (ty n : Nat) (hi : (P.info? ty).map (·.size) = some n) (w : World) (b off : Nat) (vs : Array Value) (hp : w.plainRow b = true) (hvs : vs.size = n) (hfit : off + n ≤ (w.cs b).size)
    (h1 : allOne vs = true) : (storeVar ty ⟨b, off, none⟩ (.agg vs)).run P w = .ok () (w.setRow b (spl (w.cs b) off vs)) := by
  obtain ⟨t, ht⟩ := plainRow_heap b hp
  have hst := run_storeCells_at P b off t vs.toList 0 (w.cs b) w ht (by simp; omega) (fun v hv => (Array.all_eq_true_iff_forall_mem.1 h1) v (by simpa using hv))
  have e : (((w.cs b).toList.take (off + 0)) ++ vs.toList ++ (w.cs b).toList.drop (off + 0 + vs.toList.length)).toArray = spl (w.cs b) off vs := by
    rw [← spl_eq _ _ _ (by omega)]
    apply Array.ext'
    simp [List.take_of_length_le]
  rw [e] at hst
  cases hq : P.info? ty with
  | none => simp [hq] at hi
  | some i =>
    have hs : n = i.size := by simp [hq] at hi; omega
    simp [storeVar, sizeOf, typeInfo, hq, Value.cells, hvs, hs, hst]

theorem run_stB (ty n : Nat) (hi : (P.info? ty).map (·.size) = some n) (w : World) (b off : Nat) (vs : Array Value) (hp : w.plainRow b = true) (hvs : vs.size = n) (hfit : off + n ≤ (w.cs b).size)
    (h1 : allOne vs = true) : (stB ty (.pointer (some ⟨b, off, none⟩)) (.agg vs)).run P w = .ok () (w.setRow b (spl (w.cs b) off vs)) := by
  have h := run_store_blk ty n hi w b off vs hp hvs hfit h1
  simp only [stB, Instr.storeAt, Instr.sureAddr, Sem.run_bind, Sem.run_pure, Result.andThen_ok, h]

theorem run_copy_blk (dT sT ty elem : Nat) (hu : P.underlying dT = some (.slice elem)) (hs : (P.info? elem).map (·.size) = some 1) (w : World) (g o dLen dCap b off sLen sCap : Nat) (hp : w.plainRow g = true)
    (hfit : o + min sLen dLen ≤ (w.cs g).size) (hsrc : off + min sLen dLen ≤ (w.cs b).size) (h1 : allOne (w.cs b) = true) :
    (Builtin.copy_ #[dT, sT] ty #[.slice (some ⟨g, o, none⟩) dLen dCap, .slice (some ⟨b, off, none⟩) sLen sCap]).run P w =
        .ok (goInt ((min sLen dLen : Nat) : Int)) (w.setRow g (spl (w.cs g) o ((w.cs b).extract off (off + min sLen dLen)))) := by
  obtain ⟨t, ht⟩ := plainRow_heap g hp
  have hlen : ((w.cs b).extract off (off + min sLen dLen)).toList.length = min sLen dLen := by simp; omega
  have h := run_copy_row (P := P) w dT sT ty elem g o dLen dCap ⟨b, off, none⟩ sLen sCap (w.cs g) t ((w.cs b).extract off (off + min sLen dLen)).toList hu hs ht hlen
    (fun j v hv => by
      have hj : j < min sLen dLen := by
        have h := (List.getElem?_eq_some_iff.1 hv).1
        omega
      have hadd : (⟨b, off, none⟩ : Addr).add j = ⟨b, off + j, none⟩ := by unfold Addr.add; split <;> simp_all
      rw [hadd]
      simp only [Array.getElem?_toList, Array.getElem?_extract] at hv
      rw [if_pos (by omega)] at hv
      rw [← hv]
      unfold World.cs at hsrc ⊢
      unfold World.cell?
      split <;> simp_all)
    (by rw [hlen]; exact hfit)
    (fun v hv => by
      have hm : v ∈ List.take (min sLen dLen) (List.drop off (w.cs b).toList) := by simpa using hv
      exact (Array.all_eq_true_iff_forall_mem.1 h1) v (by simpa using List.mem_of_mem_drop (List.mem_of_mem_take hm)))
  rw [h, hlen]
  have e : ((w.cs g).toList.take o ++ ((w.cs b).extract off (off + min sLen dLen)).toList ++ (w.cs g).toList.drop (o + min sLen dLen)).toArray = spl (w.cs g) o ((w.cs b).extract off (off + min sLen dLen)) := by
    have e3 : ((w.cs b).extract off (off + min sLen dLen)).size = min sLen dLen := by simp; omega
    rw [← spl_eq _ _ _ (by rw [e3]; exact hfit), e3]
    apply Array.ext'
    simp [List.take_of_length_le]
  rw [e]

theorem World.heap_setCell (a : Addr) (v : Value) (k : Nat) : (w.setCell a v).heap[k]? = if k = a.block then (w.heap[k]?).map (fun | .cells c t fr => .cells (if a.spot.isSome then c else c.setIfInBounds a.off v) t fr | o => o) else w.heap[k]? := by
  unfold World.setCell
  simp only [Array.getElem?_modify]
  by_cases h : k = a.block
  · rw [if_pos h.symm, if_pos h]; subst h; rfl
  · rw [if_neg (fun e => h e.symm), if_neg h]
theorem World.cs_setCell_same (b i : Nat) (v : Value) : (w.setCell ⟨b, i, none⟩ v).cs b = (w.cs b).setIfInBounds i v := by
  unfold World.cs
  rw [World.heap_setCell, if_pos rfl]
  cases h : w.heap[b]? with
  | none => simp
  | some o => cases o <;> simp
theorem World.cs_setCell_other (b b' i : Nat) (v : Value) (h : b' ≠ b) : (w.setCell ⟨b, i, none⟩ v).cs b' = w.cs b' := by
  unfold World.cs
  rw [World.heap_setCell, if_neg h]
theorem World.plainRow_setCell (a : Addr) (b' : Nat) (v : Value) : (w.setCell a v).plainRow b' = w.plainRow b' := by
  unfold World.plainRow
  rw [World.heap_setCell]
  by_cases hb : b' = a.block
  · rw [if_pos hb]
    cases h : w.heap[b']? with
    | none => rfl
    | some o => cases o <;> rfl
  · rw [if_neg hb]
theorem World.cs_setRow_same (b : Nat) (c : Array Value) (h : w.plainRow b = true) : (w.setRow b c).cs b = c := by
  obtain ⟨t, ht⟩ := plainRow_heap b h
  unfold World.cs
  rw [World.heap_setRow, if_pos rfl, ht]
  rfl
theorem World.cs_setRow_other (b b' : Nat) (c : Array Value) (h : b' ≠ b) : (w.setRow b c).cs b' = w.cs b' := by
  unfold World.cs
  rw [World.heap_setRow, if_neg h]
theorem World.plainRow_setRow (b b' : Nat) (c : Array Value) : (w.setRow b c).plainRow b' = w.plainRow b' := by
  unfold World.plainRow
  rw [World.heap_setRow]
  by_cases hb : b' = b
  · rw [if_pos hb]
    cases h : w.heap[b']? with
    | none => rfl
    | some o => cases o <;> rfl
  · rw [if_neg hb]
theorem World.size_setRow' (b : Nat) (c : Array Value) : (w.setRow b c).heap.size = w.heap.size := by simp [World.setRow]
theorem below_row {W w : World} {B : Nat} (hb : Below B W w) (g : Nat) (hg : B ≤ g) (c : Array Value) : Below B W (w.setRow g c) :=
  hb.trans ⟨rfl, rfl, rfl, by simp [World.setRow], fun k hk => setRow_other w g k c (by omega)⟩
theorem below_call {W Wz w1 : World} (h : Below W.heap.size W Wz) (hb : Below Wz.heap.size Wz w1) : Below W.heap.size W w1 := h.trans (hb.mono h.size)
theorem World.cell_setRow (b b' i : Nat) (c : Array Value) (h : w.plainRow b = true) : (w.setRow b c).cell? ⟨b', i, none⟩ = if b' = b then c[i]? else w.cell? ⟨b', i, none⟩ := by
  by_cases hb : b' = b
  · subst hb
    obtain ⟨t, ht⟩ := plainRow_heap b' h
    rw [if_pos rfl, cell_setRow_same w b' i _ c t _ ht]
  · rw [if_neg hb, cell_setRow_other w b c _ hb]
theorem World.frozen_setRow (b b' i : Nat) (c : Array Value) : (w.setRow b c).frozen? ⟨b', i, none⟩ = w.frozen? ⟨b', i, none⟩ := by
  unfold World.frozen?
  rw [World.heap_setRow]
  by_cases hb : b' = b
  · rw [if_pos hb]
    cases h : w.heap[b']? with
    | none => rfl
    | some o => cases o <;> rfl
  · rw [if_neg hb]
theorem World.cell_cs (b i : Nat) : w.cell? ⟨b, i, none⟩ = (w.cs b)[i]? := by
  unfold World.cell? World.cs
  split <;> simp_all
theorem results_blk {fn : Func} {p : Tmp} {ty n : Nat} (h : fn.results = #[.cell p ty]) (d : TypeDesc) (hu : P.underlying ty = some d) (hd : (match d with | .struct _ | .array _ _ => true | _ => false) = true) (hi : (P.info? ty).map (·.size) = some n) (hn : 0 < n)
    (tmps : Array Value) (w : World) (b : Nat) (hp : tmps.getD p undef = .pointer (some ⟨b, 0, none⟩)) (c : Array Value) (hc : (w.cs b).extract 0 n = c) (hfit : n ≤ (w.cs b).size) :
    (results fn tmps).run P w = .ok (.agg c) w := by
  have hl := run_load_blk ty n d hu hd hi w b 0 (by omega) hn
  have hp' : tmps[p]?.getD undef = .pointer (some ⟨b, 0, none⟩) := by simpa using hp
  rw [Nat.zero_add, hc] at hl
  simp [results, h, hp', asAddr, hl]

theorem fold_spl (off : Nat) : ∀ (l : List Value) (k : Nat) (cells : Array Value), off + k + l.length ≤ cells.size →
    (l.zipIdx k).foldl (fun cs p => cs.setIfInBounds (off + p.2) p.1) cells = spl cells (off + k) l.toArray
  | [], k, cells, _ => by
    apply Array.ext
    · simp [size_spl]
    · intro i h1 h2
      rw [spl_get]
      simp
  | x :: l, k, cells, h => by
    simp only [List.length_cons] at h
    simp only [List.zipIdx_cons, List.foldl_cons]
    rw [fold_spl off l (k + 1) _ (by simp; omega)]
    apply Array.ext
    · simp [size_spl]
    · intro i h1 h2
      have hi : i < cells.size := by simpa [size_spl] using h2
      rw [spl_get, spl_get]
      by_cases h3 : off + (k + 1) ≤ i
      · have e : i - (off + k) = (i - (off + (k + 1))) + 1 := by omega
        have e2 : (x :: l).toArray[i - (off + k)]? = l.toArray[i - (off + (k + 1))]? := by rw [e]; simp
        have e4 : (cells.setIfInBounds (off + k) x)[i]'(by simpa using hi) = cells[i] := by rw [Array.getElem_setIfInBounds hi, if_neg (by omega)]
        rw [if_pos h3, if_pos (by omega), e2, e4]
      · rw [if_neg h3]
        by_cases h4 : off + k ≤ i
        · have e : i = off + k := by omega
          subst e
          simp
        · rw [if_neg h4, Array.getElem_setIfInBounds hi, if_neg (by omega)]
theorem fill_spl (off : Nat) (v cells : Array Value) (h : off + v.size ≤ cells.size) :
    v.zipIdx.foldl (fun cs p => cs.setIfInBounds (off + p.2) p.1) cells = spl cells off v := by
  have := fold_spl off v.toList 0 cells (by simpa using h)
  rw [← Array.foldl_toList, Array.toList_zipIdx]
  simpa using this
theorem fill_agg (place : Nat → Option (Nat × Nat)) (cells c : Array Value) (i off size : Nat) (rest : List (Nat × Value)) (hp : place i = some (off, size)) (hs : c.size = size) (hf : off + size ≤ cells.size) :
    Instr.fill place cells ((i, .agg c) :: rest) = Instr.fill place (spl cells off c) rest := by
  have e := fill_spl off c cells (by omega)
  simp only [Instr.fill, hp, Value.cells, hs]
  rw [if_neg (by simp; omega)]
  exact congrArg (fun x => Instr.fill place x rest) e
/-- 'build' of a struct out of parts that are aggregates. -/
def bdB (t : TypeId) (parts : Array (Nat × Value)) : Sem Value := Instr.build t parts
end
end Go
