/- The shape of the state that 'Guest' returns. -/
import Derived.Test.YtehehnhomlcimaaU
namespace Go.Proofs.Ytehehnhomlcimaa
open Go.RowKit
/-- 22 cells of uint32, then two of int. -/
def StOK (r : Array Value) : Prop := r.size = 24 ∧ ∀ (i : Nat) (h : i < r.size), ∃ x : Int, r[i] = if i < 22 then .int .u32 x else .int .i64 x
theorem StOK.set32 {r : Array Value} (h : StOK r) (k : Nat) (hk : k < 22) (x : Int) : StOK (r.setIfInBounds k (.int .u32 x)) := by
  refine ⟨by simpa using h.1, fun i hi => ?_⟩
  have hi' : i < r.size := by simpa using hi
  rw [Array.getElem_setIfInBounds hi']
  by_cases e : k = i
  · subst e; rw [if_pos rfl]; exact ⟨x, (if_pos hk).symm⟩
  · rw [if_neg e]; exact h.2 i hi'
theorem StOK.set64 {r : Array Value} (h : StOK r) (k : Nat) (hk : 22 ≤ k) (x : Int) : StOK (r.setIfInBounds k (.int .i64 x)) := by
  refine ⟨by simpa using h.1, fun i hi => ?_⟩
  have hi' : i < r.size := by simpa using hi
  rw [Array.getElem_setIfInBounds hi']
  by_cases e : k = i
  · subst e; rw [if_pos rfl]; exact ⟨x, (if_neg (by omega)).symm⟩
  · rw [if_neg e]; exact h.2 i hi'
theorem StOK.spl {r : Array Value} (h : StOK r) (off : Nat) (vs : Array Value) (hle : off + vs.size ≤ 22) (hv : ∀ (i : Nat) (h : i < vs.size), ∃ x : Int, vs[i] = .int .u32 x) : StOK (spl r off vs) := by
  refine ⟨by rw [size_spl]; exact h.1, fun i hi => ?_⟩
  have hi' : i < r.size := by rw [size_spl] at hi; exact hi
  rw [spl_get]
  by_cases k0 : off ≤ i
  · rw [if_pos k0]
    by_cases k1 : i - off < vs.size
    · rw [Array.getElem?_eq_getElem k1]
      obtain ⟨x, hx⟩ := hv _ k1
      exact ⟨x, by rw [if_pos (show i < 22 by omega)]; exact hx⟩
    · rw [Array.getElem?_eq_none (by omega)]
      exact h.2 i hi'
  · rw [if_neg k0]; exact h.2 i hi'
theorem StOK.out {st vs : Array Value} {V : Nat → Int} (h : StOK st) (hvs : vs.size = 28) (hV : ∀ (i : Nat) (h : i < vs.size), vs[i] = .int .u32 (V i)) (kind f pc steps done : Int) : StOK (outG kind f st vs pc steps done) := by
  have hx : ∀ n, n ≤ 28 → ∀ (i : Nat) (h : i < (vs.extract 0 n).size), ∃ x : Int, (vs.extract 0 n)[i] = .int .u32 x := by
    intro n hn i h
    rw [Array.getElem_extract]
    exact ⟨_, hV _ _⟩
  have hl : StOK (leaveF kind f st vs) := by
    unfold leaveF
    split
    · refine StOK.set32 (StOK.spl (StOK.spl h _ _ (by decide) ?_) _ _ (by simp; omega) (hx 8 (by omega))) _ (by omega) _
      intro i hi
      match i, hi with
      | 0, _ | 1, _ | 2, _ | 3, _ | 4, _ | 5, _ | 6, _ | 7, _ | 8, _ | 9, _ | 10, _ | 11, _ | 12, _ | 13, _ | 14, _ | 15, _ => exact ⟨0, rfl⟩
      | k + 16, hk => exact absurd hk (by simp)
    · split
      · exact StOK.set32 (StOK.set32 (StOK.spl h _ _ (by simp; omega) (hx 16 (by omega))) _ (by omega) _) _ (by omega) _
      · exact h
  exact StOK.set64 (StOK.set32 hl 0 (by omega) _) 22 (by omega) _
end Go.Proofs.Ytehehnhomlcimaa
