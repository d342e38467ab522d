/- An operation that is stored whole; the exchange of 'Turned'. -/
import Derived.Test.YtehehnhomlcimaaO
namespace Go.Proofs.Ytehehnhomlcimaa
open Go.RowKit
theorem spl5 (c : Array Value) (off : Nat) (a b d e f : Value) (h : off + 5 ≤ c.size) : spl c off #[a, b, d, e, f] = ((((c.setIfInBounds off a).setIfInBounds (off + 1) b).setIfInBounds (off + 2) d).setIfInBounds (off + 3) e).setIfInBounds (off + 4) f := by
  apply Array.ext_getElem?
  intro k
  simp only [spl, Array.getElem?_mapIdx, Array.getElem?_setIfInBounds, Array.size_setIfInBounds]
  by_cases hk : k < c.size
  · rw [Array.getElem?_eq_getElem hk]
    simp only [Option.map_some]
    by_cases k0 : off ≤ k
    · rw [if_pos k0]
      obtain ⟨m, rfl⟩ : ∃ m, k = off + m := ⟨k - off, by omega⟩
      rw [Nat.add_sub_cancel_left]
      match m with
      | 0 => simp; omega
      | 1 => simp; omega
      | 2 => simp; omega
      | 3 => simp; omega
      | 4 => simp; omega
      | m + 5 => simp
    · rw [if_neg k0, if_neg (by omega), if_neg (by omega), if_neg (by omega), if_neg (by omega), if_neg (by omega)]
  · rw [Array.getElem?_eq_none (show c.size ≤ k by omega), if_neg (by omega), if_neg (by omega), if_neg (by omega), if_neg (by omega), if_neg (by omega)]
    rfl
theorem five_flat (ops : List OpT) (i : Nat) (hi : i < ops.length) (y : OpT) : ∃ ops' : List OpT, ops'.length = ops.length ∧
    (((((flat ops).set (i * 5) (.int .i64 y.1)).set (i * 5 + 1) (.int .i64 y.2.1)).set (i * 5 + 2) (.int .i64 y.2.2.1)).set (i * 5 + 3) (.int .i64 y.2.2.2.1)).set (i * 5 + 4) (.int .u32 y.2.2.2.2) = flat ops' := by
  obtain ⟨o0, l0, e0⟩ := flat_set ops i hi 0 (by omega) (.int .i64 y.1) ⟨_, rfl⟩
  obtain ⟨o1, l1, e1⟩ := flat_set o0 i (by omega) 1 (by omega) (.int .i64 y.2.1) ⟨_, rfl⟩
  obtain ⟨o2, l2, e2⟩ := flat_set o1 i (by omega) 2 (by omega) (.int .i64 y.2.2.1) ⟨_, rfl⟩
  obtain ⟨o3, l3, e3⟩ := flat_set o2 i (by omega) 3 (by omega) (.int .i64 y.2.2.2.1) ⟨_, rfl⟩
  obtain ⟨o4, l4, e4⟩ := flat_set o3 i (by omega) 4 (by omega) (.int .u32 y.2.2.2.2) ⟨_, rfl⟩
  refine ⟨o4, by omega, ?_⟩
  rw [Nat.add_zero] at e0
  rw [e0, e1, e2, e3, e4]
/-- The switch for the rules that take an operation whole. -/
def On : Prop := True
theorem ld45 (w : World) (b off : Nat) (hfit : off + 5 ≤ (w.cs b).size) : (ldB 45 (.pointer (some ⟨b, off, none⟩))).run Try.prog w = .ok (.agg ((w.cs b).extract off (off + 5))) w :=
  run_ldB 45 5 _ Try.underlying45 rfl (by kernel_rfl) w b off hfit (by omega)
theorem st45 (w : World) (b off : Nat) (x1 x2 x3 x4 x5 : Int) (hp : w.plainRow b = true) (hfit : off + 5 ≤ (w.cs b).size) :
    (stB 45 (.pointer (some ⟨b, off, none⟩)) (.agg #[.int .i64 x1, .int .i64 x2, .int .i64 x3, .int .i64 x4, .int .u32 x5])).run Try.prog w = .ok () (w.setRow b (spl (w.cs b) off #[.int .i64 x1, .int .i64 x2, .int .i64 x3, .int .i64 x4, .int .u32 x5])) := run_stB 45 5 (by kernel_rfl) w b off _ hp rfl hfit (by simp [allOne, Value.oneCell'])
theorem loadAt45 (h : On) (v : Value) : Instr.loadAt 45 v = ldB 45 v := rfl
theorem storeAt45 (h : On) (p v : Value) : Instr.storeAt 45 p v = stB 45 p v := rfl
section
variable {w0 w w1 : World} {qs : Array Value} {bb : Nat} {C : Array Value} {sv pv ov : Value} {at_ pg : List Int} {ops : List OpT}
theorem IT.curOf {g n c : Nat} (h : IT w0 qs bb C sv pv (.slice (.some ⟨g, 0, none⟩) n c) at_ pg ops w) : w.heap[g]? = .some (.cells (w.cs g) 45 (0, 0)) ∧ (w.cs g).size = c * 5 ∧ (w.cs g).toList.take (ops.length * 5) = flat ops ∧ n = ops.length ∧ ops.length ≤ c ∧ c ≤ maxLen ∧ w0.heap.size ≤ g := by
  rcases h.blk.o.2 with ⟨h1, _⟩ | ⟨g', cap, cur, h1, h2, h3, h4, h5, h6, h7⟩
  · simp at h1
  · simp only [Value.slice.injEq, Option.some.injEq, Addr.mk.injEq, and_true, true_and] at h1
    obtain ⟨rfl, rfl, rfl⟩ := h1
    have e := World.cs_of _ _ _ _ h3
    rw [e]
    exact ⟨h3, h6, h7, rfl, h4, h5, h2⟩
theorem IT.row5 {g n c : Nat} (h : IT w0 qs bb C sv pv (.slice (.some ⟨g, 0, none⟩) n c) at_ pg ops w) {i : Nat} (hi : i < ops.length) (y : OpT) :
    ∃ ops' : List OpT, ops'.length = ops.length ∧ IT w0 qs bb C sv pv (.slice (.some ⟨g, 0, none⟩) n c) at_ pg ops' (w.setRow g (spl (w.cs g) (i * 5) #[.int .i64 y.1, .int .i64 y.2.1, .int .i64 y.2.2.1, .int .i64 y.2.2.2.1, .int .u32 y.2.2.2.2])) := by
  obtain ⟨hh, hs, ht, hn, hnc, hcm, hg⟩ := h.curOf
  obtain ⟨ops', hl, he⟩ := five_flat ops i hi y
  subst hn
  refine ⟨ops', hl, h.newO h.blk.o ?_ (?_ : w.grownBy _ (some g))⟩
  · rw [hl]
    refine ⟨by rw [flat_len, hl], .inr ⟨g, c, _, rfl, hg, by rw [World.heap_setRow, if_pos rfl, hh]; rfl, hnc, hcm, by rw [size_spl]; exact hs, ?_⟩⟩
    rw [spl5 _ _ _ _ _ _ _ (by omega), ← he, ← ht]
    simp only [Array.toList_setIfInBounds, List.take_set]
  · exact ⟨rfl, rfl, rfl, by rw [World.size_setRow']; exact Nat.le_refl _, fun k _ hk => by rw [World.heap_setRow, if_neg (fun e => hk (by rw [e]))]⟩
/-- What an operation's cells read, whole. -/
theorem IT.ex5 {g n c : Nat} (h : IT w0 qs bb C sv pv (.slice (.some ⟨g, 0, none⟩) n c) at_ pg ops w) {i : Nat} (hi : i < ops.length) :
    ∃ x : OpT, (w.cs g).extract (i * 5) (i * 5 + 5) = #[.int .i64 x.1, .int .i64 x.2.1, .int .i64 x.2.2.1, .int .i64 x.2.2.2.1, .int .u32 x.2.2.2.2] ∧ i * 5 + 5 ≤ (w.cs g).size ∧ w.plainRow g = true := by
  obtain ⟨hh, hs, ht, hn, hnc, hcm, hg⟩ := h.curOf
  refine ⟨ops[i], ?_, by omega, by unfold World.plainRow; rw [hh]; rfl⟩
  have hc := fun (f : Nat) (hf : f < 5) => flat_get ops i hi f hf
  have hk : ∀ f, f < 5 → (w.cs g)[i * 5 + f]? = (opC ops[i])[f]? := fun f hf => by
    rw [← hc f hf, ← ht, List.getElem?_take, if_pos (by omega)]
    simp
  apply Array.ext_getElem?
  intro f
  rw [Array.getElem?_extract]
  by_cases hf : f < 5
  · rw [if_pos (by omega), hk f hf]
    simp [opC]
  · rw [if_neg (by omega)]
    simp
    omega
end
end Go.Proofs.Ytehehnhomlcimaa
