/- Both 'Guest' answer with the same state. -/
import Derived.Test.YtehehnhomlcimaaH
namespace Go.Proofs.Ytehehnhomlcimaa
open Go.RowKit
def gArgs (kind : Int) (st vs ctx : Array Value) (sa so sp : Option Addr) (n m ca co np cp : Nat) (off k idx tgt live cst : Int) : Array Value :=
  #[.int .i64 kind, .agg st, .agg #[.slice sa n ca, .slice sp np cp, .slice so m co], .agg #[.int .i64 off, .int .i64 k, .int .i64 idx, .int .u32 tgt, .int .u32 live, .int .i64 cst], .agg vs, .agg ctx]
/-- Both calls return 'r'. -/
def Both (kind : Int) (st vs ctx : Array Value) (V C : Nat → Int) (steps : Int) (sa so sp : Option Addr) (n m ca co np cp : Nat) (At : Nat → Int) (code : Int) (off k idx tgt live cst : Int) (r : Array Value) : Prop :=
  (∀ w, GIn w st vs ctx V C steps sa so n m At code → Calls Try.prog 7 (gArgs kind st vs ctx sa so sp n m ca co np cp off k idx tgt live cst) w fun e w' => e = .returned (.agg r) ∧ Below w.heap.size w w') ∧
  (∀ w, GIn w st vs ctx V C steps sa so n m At code → Calls Try.prog 8 (gArgs kind st vs ctx sa so sp n m ca co np cp off k idx tgt live cst) w fun e w' => e = .returned (.agg r) ∧ Below w.heap.size w w')

theorem both_any (kind : Int) (st vs ctx : Array Value) (V C : Nat → Int) (steps : Int) (sa so sp : Option Addr) (n m ca co np cp : Nat) (At : Nat → Int) (code : Int) (off k idx tgt live cst : Int) (w : World) (G : GIn w st vs ctx V C steps sa so n m At code) :
    ∃ r, Both kind st vs ctx V C steps sa so sp n m ca co np cp At code off k idx tgt live cst r ∧ (r = st ∨ ∃ f pc done, r = outG kind f st vs pc steps done) := by
  by_cases hn : n = 0
  · have hv : validF k idx n = false := by subst hn; simp [validF]
    exact ⟨st, ⟨fun w G => Guest_0 kind st vs ctx V C steps sa so sp n m ca co np cp At code off idx tgt live cst w G k hv, fun w G => RGuest_n0 kind st vs ctx V C steps sa so sp n m ca co np cp At code off idx tgt live cst w G k hn⟩, .inl rfl⟩
  have hn : 0 < n := by omega
  obtain ⟨b0, o0, rfl, -⟩ := G.at_ hn
  by_cases k1 : k = 1
  · subst k1
    have hv : validF 1 idx n = true := by simp [validF, hn]
    exact ⟨_, ⟨fun w G => Guest_1 kind st vs ctx V C steps b0 o0 so sp n m ca co np cp At code off idx tgt live cst w G hn hv, fun w G => RGuest_1 kind st vs ctx V C steps b0 o0 so sp n m ca co np cp At code off idx tgt live cst w G hn⟩, .inr ⟨_, _, _, rfl⟩⟩
  by_cases k4 : k = 4
  · subst k4
    have hv : validF 4 idx n = true := by simp [validF, hn]
    exact ⟨_, ⟨fun w G => Guest_4 kind st vs ctx V C steps _ so sp n m ca co np cp At code off idx tgt live cst w G hv, fun w G => RGuest_4 kind st vs ctx V C steps _ so sp n m ca co np cp At code off idx tgt live cst w G hn⟩, .inr ⟨_, _, _, rfl⟩⟩
  by_cases k5 : k = 5
  · subst k5
    have hv : validF 5 idx n = true := by simp [validF, hn]
    exact ⟨_, ⟨fun w G => Guest_5 kind st vs ctx V C steps _ so sp n m ca co np cp At code off idx tgt live cst w G hv, fun w G => RGuest_5 kind st vs ctx V C steps _ so sp n m ca co np cp At code off idx tgt live cst w G hn⟩, .inr ⟨_, _, _, rfl⟩⟩
  by_cases k6 : k = 6
  · subst k6
    have hv : validF 6 idx n = true := by simp [validF, hn]
    exact ⟨_, ⟨fun w G => Guest_6 kind st vs ctx V C steps _ so sp n m ca co np cp At code off idx tgt live cst w G hv, fun w G => RGuest_6 kind st vs ctx V C steps _ so sp n m ca co np cp At code off idx tgt live cst w G hn⟩, .inr ⟨_, _, _, rfl⟩⟩
  by_cases k2 : k = 2
  · subst k2
    by_cases h0 : idx < 0
    · have hv : validF 2 idx n = false := by simp [validF]; omega
      exact ⟨st, ⟨fun w G => Guest_0 kind st vs ctx V C steps _ so sp n m ca co np cp At code off idx tgt live cst w G 2 hv, fun w G => RGuest_lo2 kind st vs ctx V C steps _ so sp n m ca co np cp At code off idx tgt live cst w G hn h0⟩, .inl rfl⟩
    by_cases h1 : (n : Int) ≤ idx
    · have hv : validF 2 idx n = false := by simp [validF]; omega
      exact ⟨st, ⟨fun w G => Guest_0 kind st vs ctx V C steps _ so sp n m ca co np cp At code off idx tgt live cst w G 2 hv, fun w G => RGuest_hi2 kind st vs ctx V C steps _ so sp n m ca co np cp At code off idx tgt live cst w G hn (by omega) h1⟩, .inl rfl⟩
    obtain ⟨i, rfl⟩ : ∃ i : Nat, idx = i := ⟨idx.toNat, by omega⟩
    have hv : validF 2 i n = true := by simp [validF, hn]; omega
    exact ⟨_, ⟨fun w G => Guest_2 kind st vs ctx V C steps b0 o0 so sp n m ca co np cp At code off tgt live cst i w G (by omega) hv, fun w G => RGuest_2 kind st vs ctx V C steps b0 o0 so sp n m ca co np cp At code off tgt live cst i w G (by omega)⟩, .inr ⟨_, _, _, rfl⟩⟩
  by_cases k3 : k = 3
  · subst k3
    by_cases h0 : idx < 0
    · have hv : validF 3 idx n = false := by simp [validF]; omega
      exact ⟨st, ⟨fun w G => Guest_0 kind st vs ctx V C steps _ so sp n m ca co np cp At code off idx tgt live cst w G 3 hv, fun w G => RGuest_lo3 kind st vs ctx V C steps _ so sp n m ca co np cp At code off idx tgt live cst w G hn h0⟩, .inl rfl⟩
    by_cases h1 : (n : Int) ≤ idx
    · have hv : validF 3 idx n = false := by simp [validF]; omega
      exact ⟨st, ⟨fun w G => Guest_0 kind st vs ctx V C steps _ so sp n m ca co np cp At code off idx tgt live cst w G 3 hv, fun w G => RGuest_hi3 kind st vs ctx V C steps _ so sp n m ca co np cp At code off idx tgt live cst w G hn (by omega) h1⟩, .inl rfl⟩
    obtain ⟨i, rfl⟩ : ∃ i : Nat, idx = i := ⟨idx.toNat, by omega⟩
    have hv : validF 3 i n = true := by simp [validF, hn]; omega
    exact ⟨_, ⟨fun w G => Guest_3 kind st vs ctx V C steps b0 o0 so sp n m ca co np cp At code off tgt live cst i w G (by omega) hv, fun w G => RGuest_3 kind st vs ctx V C steps b0 o0 so sp n m ca co np cp At code off tgt live cst i w G (by omega)⟩, .inr ⟨_, _, _, rfl⟩⟩
  have hv : validF k idx n = false := by
    cases hv : validF k idx n with
    | false => rfl
    | true =>
      simp [validF] at hv
      omega
  exact ⟨st, ⟨fun w G => Guest_0 kind st vs ctx V C steps _ so sp n m ca co np cp At code off idx tgt live cst w G k hv, fun w G => RGuest_other kind st vs ctx V C steps _ so sp n m ca co np cp At code off idx tgt live cst w G k hn (by simpa using k1) (by simpa using k2) (by simpa using k3) (by simpa using k4) (by simpa using k5) (by simpa using k6)⟩, .inl rfl⟩
end Go.Proofs.Ytehehnhomlcimaa
