/- Contracts of the maker of blocks: 'take', 'word', 'source'. -/
import Derived.Test.YtehehnhomlcimaaAgg
import Derived.Test.YtehehnhomlcimaaRows
import Derived.Lib.Hide
import Derived.Deep.QuietTactic
import Derived.BigQuiet
namespace Go.Proofs.Ytehehnhomlcimaa
open Go.RowKit

/-- The numbers that the maker takes: a slice of int in old memory. -/
def NumsAt (W : World) (sa : Option Addr) (n : Nat) : Prop := 0 < n → ∃ b o, sa = some ⟨b, o, none⟩ ∧ ∀ i, i < n → ∃ x : Int, W.cell? ⟨b, o + i, none⟩ = some (.int .i64 x) ∧ -9223372036854775808 ≤ x ∧ x ≤ 9223372036854775807
/-- The maker's block. -/
def MK (w : World) (bm : Nat) (sa : Option Addr) (n c k : Nat) : Prop := w.heap[bm]? = some (.cells #[.slice sa n c, .int .i64 (k : Int)] 49 (0, 0))
/-- The world of the maker: old memory as it was, the block is the call's own. -/
structure MW (W : World) (bm : Nat) (sa : Option Addr) (n c k : Nat) (w : World) : Prop where
  below : Below W.heap.size W w
  own : W.heap.size ≤ bm
  mkr : MK w bm sa n c k
  nums : NumsAt W sa n
  len : n ≤ 1000000000000000

theorem grown_refl (w : World) (r : Option Nat) : w.grownBy w r := ⟨rfl, rfl, rfl, Nat.le_refl _, fun _ _ _ => rfl⟩
theorem grown_trans {a b c : World} {r : Option Nat} (h : a.grownBy b r) (h' : b.grownBy c r) : a.grownBy c r :=
  ⟨h'.os.trans h.os, h'.tape.trans h.tape, h'.output.trans h.output, Nat.le_trans h.size h'.size, fun k hk hr => (h'.block k (Nat.lt_of_lt_of_le hk h.size) hr).trans (h.block k hk hr)⟩
theorem grown_drewN {a w : World} {r : Option Nat} (h : a.grownBy w r) (n : Nat) : a.grownBy (w.drewN n) r := ⟨h.os, h.tape, h.output, h.size, h.block⟩
theorem grown_drew {a w : World} {r : Option Nat} (h : a.grownBy w r) : a.grownBy w.drew r := ⟨h.os, h.tape, h.output, h.size, h.block⟩
theorem grown_alloc {a w : World} {r : Option Nat} (h : a.grownBy w r) (o : Obj) : a.grownBy (w.alloc o) r :=
  ⟨h.os, h.tape, h.output, Nat.le_trans h.size (by simp), fun i hi hne => (Below.heap_alloc w o i (Nat.lt_of_lt_of_le hi h.size)).trans (h.block i hi hne)⟩
theorem grown_setCell {a w : World} {g : Nat} (h : a.grownBy w (some g)) {p : Addr} (hp : p.block = g ∨ a.heap.size ≤ p.block) (u : Value) : a.grownBy (w.setCell p u) (some g) :=
  ⟨h.os, h.tape, h.output, by simpa [World.setCell] using h.size, fun i hi hne => (Below.heap_setCell w p u i (by
    rintro rfl
    rcases hp with hp | hp
    · exact hne (by rw [hp])
    · omega)).trans (h.block i hi hne)⟩
theorem grown_below {a w : World} (h : Below a.heap.size a w) (r : Option Nat) : a.grownBy w r := ⟨h.os, h.tape, h.output, h.size, fun i hi _ => h.block i hi⟩
/-- What an append or a store to a block that is new beside 'a' does. -/
theorem grown_new {a w w' : World} {r q : Option Nat} (h : a.grownBy w r) (h' : w.grownBy w' q) (hq : ∀ k, q = some k → a.heap.size ≤ k) : a.grownBy w' r :=
  ⟨h'.os.trans h.os, h'.tape.trans h.tape, h'.output.trans h.output, Nat.le_trans h.size h'.size, fun k hk hr => (h'.block k (Nat.lt_of_lt_of_le hk h.size) (fun e => by
    have := hq k e.symm; omega)).trans (h.block k hk hr)⟩
theorem below_grown {W w w' : World} {B : Nat} {r : Option Nat} (h : Below B W w) (h' : w.grownBy w' r) (hB : B ≤ w.heap.size) (hr : ∀ k, r = some k → B ≤ k) : Below B W w' :=
  h.grown h' hB hr

theorem MW.after {W w w' : World} {bm n c k k' : Nat} {sa : Option Addr} (h : MW W bm sa n c k w) (hg : w.grownBy w' (some bm)) (hk : MK w' bm sa n c k') : MW W bm sa n c k' w' :=
  { h with below := h.below.grown hg h.below.size (by rintro j ⟨⟩; exact h.own), mkr := hk }
theorem MW.lt {W w : World} {bm n c k : Nat} {sa : Option Addr} (h : MW W bm sa n c k w) : bm < w.heap.size := (Array.getElem?_eq_some_iff.1 h.mkr).1

/-- What a call of the maker leaves: its result, the maker further on by at most m numbers, nothing else turned. -/
structure Took (w : World) (bm : Nat) (sa : Option Addr) (n c k m : Nat) (w' : World) (k' : Nat) : Prop where
  mkr : MK w' bm sa n c k'
  lo : k ≤ k'
  hi : k' ≤ k + m
  grown : w.grownBy w' (some bm)

theorem rem_bd (x k : Int) (hk : 0 < k) : 0 ≤ (x.tmod k + k).tmod k ∧ (x.tmod k + k).tmod k < k ∧ -k < x.tmod k ∧ x.tmod k < k := by
  have h1 := Int.tmod_lt_of_pos x hk
  have h2 : -k < x.tmod k := by
    have := Int.tmod_lt_of_pos (-x) hk
    rw [Int.neg_tmod] at this
    omega
  have h3 : 0 ≤ x.tmod k + k := by omega
  exact ⟨Int.tmod_nonneg _ h3, Int.tmod_lt_of_pos _ hk, h2, h1⟩

theorem took_set {w : World} {bm n c k : Nat} {sa : Option Addr} (h : MK w bm sa n c k) (j : Nat) : Took w bm sa n c k 1 ((w.setCell ⟨bm, 1, none⟩ (.int .i64 ((k : Int) + 1))).drewN j) (k + 1) where
  mkr := by
    show (w.setCell ⟨bm, 1, none⟩ (.int .i64 ((k : Int) + 1))).heap[bm]? = _
    rw [World.heap_setCell, if_pos rfl, show w.heap[bm]? = _ from h]
    rfl
  lo := by omega
  hi := by omega
  grown := grown_drewN (grown_setCell (grown_refl _ _) (.inl rfl) _) _

def TakeOut (w : World) (bm : Nat) (sa : Option Addr) (n c k : Nat) (q : Int) (e : Ending) (w' : World) : Prop := ∃ r : Int, e = .returned (.int .i64 r) ∧ 0 ≤ r ∧ r < q ∧ Took w bm sa n c k 1 w' (k + 1)

set_option maxRecDepth 100000 in
set_option maxHeartbeats 1000000 in
theorem take_any (W : World) (bm : Nat) (sa : Option Addr) (n c k : Nat) (q : Int) (w : World) (M : MW W bm sa n c k w) (hk : k < 1000000) (hq : 0 < q) (hq2 : q ≤ 1000000) :
    Calls Try.prog 11 #[.pointer (some ⟨bm, 0, none⟩), .int .i64 q] w (TakeOut w bm sa n c k q) := by
  have hmk := M.mkr
  have c0 : w.cell? ⟨bm, 0, none⟩ = some (.slice sa n c) := by simp [World.cell?, show w.heap[bm]? = _ from hmk]
  have c1 : w.cell? ⟨bm, 1, none⟩ = some (.int .i64 (k : Int)) := by simp [World.cell?, show w.heap[bm]? = _ from hmk]
  have f1 : w.frozen? ⟨bm, 1, none⟩ = false := by simp [World.frozen?, show w.heap[bm]? = _ from hmk]
  have hlen := M.len
  by_cases hlt : (k : Int) < (n : Int)
  · obtain ⟨b, o, hsa, hx⟩ := M.nums (by omega)
    obtain ⟨x, hx, x0, x1⟩ := hx k (by omega)
    subst hsa
    have hxw : w.cell? ⟨b, o + k, none⟩ = some (.int .i64 x) := (M.below.cell (p := ⟨b, o + k, none⟩) (block_lt_of_cell hx)).trans hx
    have hk0 : (0 : Int) ≤ (k : Int) := by omega
    have R := rem_bd x q hq
    have r0 : (q == 0) = false := by simp; omega
    clear hx hmk
    have HM := Lib.hid M
    clear M
    go_enter Try.func11, Try.ntmps11
    go_wp2
    go_quiet (fail)
    go_wp2
    go_quiet (fail)
    go_wp2
    go_ret
    exact ⟨_, rfl, Int.emod_nonneg _ (by omega), Int.emod_lt_of_pos _ hq, took_set HM.out.mkr _⟩
  · have hlt' : (n : Int) ≤ (k : Int) := by omega
    have hk0 : (0 : Int) ≤ (k : Int) := by omega
    have r0 : (q == 0) = false := by simp; omega
    have R := rem_bd 0 q hq
    clear hmk
    have HM := Lib.hid M
    clear M
    go_enter Try.func11, Try.ntmps11
    go_wp2
    go_quiet (fail)
    go_wp2
    go_ret
    exact ⟨_, rfl, by first | exact Int.emod_nonneg _ (by omega) | omega, by first | exact Int.emod_lt_of_pos _ hq | omega, took_set HM.out.mkr _⟩

def WordOut (w : World) (bm : Nat) (sa : Option Addr) (n c k : Nat) (e : Ending) (w' : World) : Prop := ∃ (r : Int) (k' : Nat), e = .returned (.int .u32 r) ∧ Took w bm sa n c k 2 w' k'
def SrcOut (w : World) (bm : Nat) (sa : Option Addr) (n c k : Nat) (e : Ending) (w' : World) : Prop := ∃ (r : Int) (k' : Nat), e = .returned (.int .i64 r) ∧ Took w bm sa n c k 1 w' k'
theorem Took.then {w w1 w2 : World} {bm n c k m k1 m1 k2 : Nat} {sa : Option Addr} (h : Took w bm sa n c k m w1 k1) (h' : Took w1 bm sa n c k1 m1 w2 k2) : Took w bm sa n c k (m + m1) w2 k2 :=
  ⟨h'.mkr, Nat.le_trans h.lo h'.lo, by have := h.hi; have := h'.hi; omega, grown_trans h.grown h'.grown⟩
theorem Took.more {w w1 : World} {bm n c k m m' k1 : Nat} {sa : Option Addr} (h : Took w bm sa n c k m w1 k1) (hm : m ≤ m') : Took w bm sa n c k m' w1 k1 := { h with hi := Nat.le_trans h.hi (by omega) }
theorem MW.took {W w w1 : World} {bm n c k m k1 : Nat} {sa : Option Addr} (h : MW W bm sa n c k w) (t : Took w bm sa n c k m w1 k1) : MW W bm sa n c k1 w1 := h.after t.grown t.mkr

set_option maxRecDepth 100000 in
set_option maxHeartbeats 1000000 in
theorem word_any (W : World) (bm : Nat) (sa : Option Addr) (n c k : Nat) (w : World) (M : MW W bm sa n c k w) (hk : k < 900000) :
    Calls Try.prog 20 #[.pointer (some ⟨bm, 0, none⟩)] w (WordOut w bm sa n c k) := by
  have HM := Lib.hid M
  clear M
  go_enter Try.func20, Try.ntmps20
  go_wp2_with fail
  refine (take_any W bm sa n c k _ w HM.out (by omega) (by omega) (by omega)).mono ?_
  rintro e w1 ⟨r, rfl, r0, r1, T1⟩
  have HT1 := Lib.hid T1
  clear T1
  go_wp2_with fail
  refine (take_any W bm sa n c (k + 1) _ w1 (HM.out.took HT1.out) (by omega) (by omega) (by omega)).mono ?_
  rintro e w2 ⟨q, rfl, q0, q1, T2⟩
  have HT := Lib.hid (HT1.out.then T2)
  clear T2
  go_wp2_with fail
  all_goals go_ret
  all_goals exact ⟨_, _, rfl, HT.out⟩

structure Bools (wr : Array Value) (f : Nat → Bool) : Prop where
  size : wr.size = 8
  get : ∀ i, i < 8 → wr[i]? = some (.bool (f i))

set_option maxRecDepth 100000 in
set_option maxHeartbeats 1000000 in
theorem source_any (W : World) (bm : Nat) (sa : Option Addr) (n c k : Nat) (wr : Array Value) (f : Nat → Bool) (hw : Bools wr f) (w : World) (M : MW W bm sa n c k w) (hk : k < 900000) :
    Calls Try.prog 19 #[.pointer (some ⟨bm, 0, none⟩), .agg wr] w (SrcOut w bm sa n c k) := by
  have hlt := M.lt
  have M1 : MW W bm sa n c k (w.alloc (.cells wr 62)) := M.after (grown_alloc (grown_refl _ _) _) (by show (w.alloc _).heap[bm]? = _; rw [World.heap_alloc_get, if_neg (by omega)]; exact M.mkr)
  have HM := Lib.hid M1
  clear M M1
  go_enter Try.func19, Try.ntmps19
  go_wp2_with fail
  refine (take_any W bm sa n c k _ _ HM.out (by omega) (by omega) (by omega)).mono ?_
  rintro e w1 ⟨r, rfl, r0, r1, T1⟩
  have hcell : ∀ i, i < 8 → w1.cell? ⟨w.heap.size, i, none⟩ = some (.bool (f i)) := fun i hi => by
    rw [World.cell?_of_block (w := w.alloc (.cells wr 62)) (T1.grown.block w.heap.size (by simp) (by simp; omega)), World.cell?_alloc_at _ _ _ _ rfl]
    exact hw.get i hi
  have T2 : Took w bm sa n c k 1 w1 (k + 1) := { T1 with grown := grown_trans (grown_alloc (grown_refl _ _) _) T1.grown }
  have HT := Lib.hid T2
  clear T1 T2
  by_cases hr : r < 19
  · clear hcell
    go_wp2_with fail
    go_ret
    exact ⟨_, _, rfl, HT.out⟩
  · have hc := hcell (r - 19).toNat (by omega)
    clear hcell
    go_wp2_with fail
    all_goals go_ret
    all_goals exact ⟨_, _, rfl, HT.out⟩
end Go.Proofs.Ytehehnhomlcimaa
