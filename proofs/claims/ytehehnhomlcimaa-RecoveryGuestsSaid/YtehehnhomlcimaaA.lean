/- Contracts of the word functions: flags. -/
import Derived.Test.YtehehnhomlcimaaRows
import Derived.WalkKit
import Derived.WalkSpells
import Derived.WalkLawsBesides
namespace Go.Proofs.Ytehehnhomlcimaa
open Go.RowKit

set_option maxHeartbeats 400000 in
theorem out_any (n : Int) (w : World) :
    Calls Try.prog 31 #[.int .i64 n] w fun e w' => e = .returned (.bool (decide (n < -2147483648) || decide (2147483648 ≤ n))) ∧ w = w' := by
  by_cases h : n < -2147483648
  · go_enter Try.func31, Try.ntmps31
    go_wp2
    go_ret
    exact ⟨by simp [h], rfl⟩
  · go_enter Try.func31, Try.ntmps31
    go_wp2
    go_ret
    exact ⟨by simp; omega, rfl⟩

def sg (a : Int) : Int := if 2147483648 ≤ a then a - 4294967296 else a

set_option maxHeartbeats 400000 in
theorem signed_any (n : Int) (w : World) (h0 : 0 ≤ n) (h1 : n < 4294967296) :
    Calls Try.prog 32 #[.int .u32 n] w fun e w' => e = .returned (.int .i64 (sg n)) ∧ w = w' := by
  unfold sg
  by_cases h : 2147483648 ≤ n
  · go_enter Try.func32, Try.ntmps32
    go_wp2
    go_ret
    exact ⟨by simp [h], rfl⟩
  · go_enter Try.func32, Try.ntmps32
    go_wp2
    go_ret
    exact ⟨by simp [h], rfl⟩

def pk (r : Int) (c v : Bool) : Int := (if 2147483648 ≤ r then 8 else 0) + (if r = 0 then 4 else 0) + (if c then 2 else 0) + (if v then 1 else 0)

set_option maxHeartbeats 800000 in
theorem pack_any (r : Int) (c v : Bool) (w : World)  :
    Calls Try.prog 30 #[.int .u32 r, .bool c, .bool v] w fun e w' => e = .returned (.int .u32 (pk r c v)) ∧ w = w' := by
  unfold pk
  by_cases h : 2147483648 ≤ r
  · have h0 : (r == 0) = false := by simp; omega
    cases c <;> cases v <;> (go_enter Try.func30, Try.ntmps30; go_wp2; go_ret; exact ⟨by simp [h], rfl⟩)
  · by_cases h0 : r = 0
    · subst h0
      cases c <;> cases v <;> (go_enter Try.func30, Try.ntmps30; go_wp2; go_ret; exact ⟨by simp, rfl⟩)
    · have h0' : (r == 0) = false := by simp; omega
      cases c <;> cases v <;> (go_enter Try.func30, Try.ntmps30; go_wp2; go_ret; exact ⟨by simp [h, h0], rfl⟩)


def orIf (on : Bool) (f flag : Int) : Int := if on then bits .or .u32 f flag else f

set_option maxHeartbeats 400000 in
theorem packed1_any (flag : Int) (on : Bool) (f : Int) (w : World) :
    Calls Try.prog 33 #[.int .u32 flag, .bool on, .pointer (some ⟨w.heap.size, 0, none⟩)] (w.alloc (.cells #[.int .u32 f] 24)) fun e w' => e = .returned (.tuple #[]) ∧ w.alloc (.cells #[.int .u32 (orIf on f flag)] 24) = w' := by
  cases on <;> (go_enter Try.func33, Try.ntmps33; go_wp2)
  · go_end0; exact ⟨rfl, rfl⟩
  · go_end0; exact ⟨rfl, rfl⟩

theorem pk_or (r : Int) (c v : Bool) (h0 : 0 ≤ r) :
    orIf v (orIf c (orIf (r == 0) (orIf (decide (2147483648 ≤ r)) 0 8) 4) 2) 1 = pk r c v := by
  unfold pk orIf
  by_cases h : 2147483648 ≤ r
  · have h1 : (r == 0) = false := by simp; omega
    have h2 : ¬ r = 0 := by omega
    cases c <;> cases v <;> simp [h, h1, h2] <;> decide
  · by_cases h0 : r = 0
    · subst h0
      cases c <;> cases v <;> simp <;> decide
    · cases c <;> cases v <;> simp [h, h0] <;> decide

theorem ret_u32 {a b : Int} (h : a = b) : Ending.returned (.int .u32 a) = .returned (.int .u32 b) := by rw [h]

set_option maxHeartbeats 800000 in
theorem packed_any (r : Int) (c v : Bool) (w : World) (hr0 : 0 ≤ r) :
    Calls Try.prog 29 #[.int .u32 r, .bool c, .bool v] w fun e w' => e = .returned (.int .u32 (pk r c v)) ∧ Below w.heap.size w w' := by
  rw [← pk_or r c v hr0]
  go_enter Try.func29, Try.ntmps29
  go_wp2_with (go_at_call 33; refine (packed1_any _ _ _ _).mono ?_; rintro e w' ⟨rfl, rfl⟩)
  go_ret
  exact ⟨rfl, (Below.refl _ _).alloc (Nat.le_refl _) _⟩


theorem top_bit (x : Nat) (h : x < 4294967296) : x.testBit 31 = decide (2147483648 ≤ x) := by
  rw [Nat.testBit_eq_decide_div_mod_eq]
  by_cases hx : 2147483648 ≤ x
  · have : x / 2 ^ 31 % 2 = 1 := by omega
    simp [this, hx]
  · have : ¬ x / 2 ^ 31 % 2 = 1 := by omega
    simp [this, hx]

def ovf (a b r : Int) : Bool := (decide (2147483648 ≤ a) != decide (2147483648 ≤ r)) && (decide (2147483648 ≤ b) != decide (2147483648 ≤ r))

theorem and_top (x : Nat) (h : x < 4294967296) : (x &&& 2147483648 != 0) = x.testBit 31 := by
  have h1 := nat_bit 31 x
  rw [show (2147483648 : Nat) = 2 ^ 31 from rfl, h1, Nat.testBit_eq_decide_div_mod_eq]
  have h2 : x / 2 ^ 31 % 2 = 0 ∨ x / 2 ^ 31 % 2 = 1 := by omega
  rcases h2 with h2 | h2 <;> simp [h2]

theorem ovf_bits (a b r : Int) (ha0 : 0 ≤ a) (ha1 : a < 4294967296) (hb0 : 0 ≤ b) (hb1 : b < 4294967296) (hr0 : 0 ≤ r) (hr1 : r < 4294967296) :
    (bits .and .u32 (bits .and .u32 (bits .xor .u32 a r) (bits .xor .u32 b r)) 2147483648 != 0) = ovf a b r := by
  obtain ⟨x, rfl⟩ := Int.eq_ofNat_of_zero_le ha0
  obtain ⟨y, rfl⟩ := Int.eq_ofNat_of_zero_le hb0
  obtain ⟨z, rfl⟩ := Int.eq_ofNat_of_zero_le hr0
  have hx : x < 4294967296 := by omega
  have hy : y < 4294967296 := by omega
  have hz : z < 4294967296 := by omega
  have h1 : x ^^^ z < 2 ^ 32 := Nat.xor_lt_two_pow (by omega) (by omega)
  have h2 : y ^^^ z < 2 ^ 32 := Nat.xor_lt_two_pow (by omega) (by omega)
  have h3 : (x ^^^ z) &&& (y ^^^ z) < 2 ^ 32 := Nat.and_lt_two_pow _ (by omega)
  rw [u32_xor_nat x z hx hz, u32_xor_nat y z hy hz, u32_and_nat _ _ (by omega) (by omega)]
  rw [show (2147483648 : Int) = ((2147483648 : Nat) : Int) from rfl, u32_and_nat _ _ (by omega) (by omega)]
  have h4 : (((((x ^^^ z) &&& (y ^^^ z)) &&& 2147483648 : Nat) : Int) != 0) = ((((x ^^^ z) &&& (y ^^^ z)) &&& 2147483648) != 0) := by
    rw [Bool.eq_iff_iff]; simp
  rw [h4, and_top _ (by omega), Nat.testBit_and, Nat.testBit_xor, Nat.testBit_xor, top_bit x hx, top_bit y hy, top_bit z hz]
  unfold ovf
  rw [Bool.eq_iff_iff]
  simp
  omega

set_option maxHeartbeats 800000 in
theorem sum_any (a b c : Int) (w : World) (ha0 : 0 ≤ a) (ha1 : a < 4294967296) (hb0 : 0 ≤ b) (hb1 : b < 4294967296) (hc0 : 0 ≤ c) (hc1 : c ≤ 1) :
    Calls Try.prog 28 #[.int .u32 a, .int .u32 b, .int .u32 c] w fun e w' => e = .returned (.int .u32 (pk ((a + b + c) % 4294967296) (decide (4294967296 ≤ a + b + c)) (ovf a b ((a + b + c) % 4294967296)))) ∧ Below w.heap.size w w' := by
  rw [← ovf_bits a b ((a + b + c) % 4294967296) ha0 ha1 hb0 hb1 (by omega) (by omega)]
  go_enter Try.func28, Try.ntmps28
  go_wp2_with (go_at_call 29; refine (packed_any _ _ _ _ (by omega)).mono ?_; rintro e w' ⟨rfl, hb⟩)
  go_ret
  exact ⟨rfl, hb⟩

/-- What both 'Flags' return. -/
def outF (n : Int) : Bool := decide (n < -2147483648) || decide (2147483648 ≤ n)
def flagsF (kind a b : Int) : Int :=
  if kind = 0 then bits .and .u32 a 15 else if kind = 1 then pk ((a + b) % 4294967296) (decide (4294967296 ≤ a + b)) (outF (sg a + sg b))
  else if kind = 2 then pk ((a + b + 1) % 4294967296) (decide (4294967296 ≤ a + b + 1)) (outF (sg a + sg b + 1))
  else if kind = 3 then pk ((a - b) % 4294967296) (decide (b ≤ a)) (outF (sg a - sg b))
  else if kind = 4 then pk ((a - b - 1) % 4294967296) (decide (b + 1 ≤ a)) (outF (sg a - sg b - 1))
  else if kind = 5 then pk a false false else 0

theorem ovf_add (a b c : Int) (ha0 : 0 ≤ a) (ha1 : a < 4294967296) (hb0 : 0 ≤ b) (hb1 : b < 4294967296) (hc0 : 0 ≤ c) (hc1 : c ≤ 1) :
    ovf a b ((a + b + c) % 4294967296) = outF (sg a + sg b + c) := by
  unfold ovf outF sg
  rw [Bool.eq_iff_iff]
  simp only [Bool.and_eq_true, bne_iff_ne, ne_eq, decide_eq_decide, Bool.or_eq_true, decide_eq_true_eq]
  split <;> split <;> omega

theorem ovf_sub (a b c : Int) (ha0 : 0 ≤ a) (ha1 : a < 4294967296) (hb0 : 0 ≤ b) (hb1 : b < 4294967296) (hc0 : 0 ≤ c) (hc1 : c ≤ 1) :
    ovf a (4294967295 - b) ((a + (4294967295 - b) + c) % 4294967296) = outF (sg a - sg b - (1 - c)) := by
  unfold ovf outF sg
  rw [Bool.eq_iff_iff]
  simp only [Bool.and_eq_true, bne_iff_ne, ne_eq, decide_eq_decide, Bool.or_eq_true, decide_eq_true_eq]
  split <;> split <;> omega


theorem not_u32 (b : Int) (hb0 : 0 ≤ b) (hb1 : b < 4294967296) : bits .xor .u32 IntKind.u32.max b = 4294967295 - b := by
  obtain ⟨y, rfl⟩ := Int.eq_ofNat_of_zero_le hb0
  have hy : y < 4294967296 := by omega
  have hm : IntKind.u32.max = ((4294967295 : Nat) : Int) := rfl
  rw [hm, u32_xor_nat _ _ (by omega) hy]
  have h1 : (BitVec.allOnes 32 ^^^ BitVec.ofNat 32 y).toNat = 4294967295 ^^^ y := by
    rw [BitVec.toNat_xor, BitVec.toNat_allOnes, BitVec.toNat_ofNat, Nat.mod_eq_of_lt (by omega)]
  rw [BitVec.allOnes_xor, BitVec.toNat_not, BitVec.toNat_ofNat, Nat.mod_eq_of_lt (by omega)] at h1
  rw [← h1]
  omega
theorem flagsF_1 (a b : Int) (ha0 : 0 ≤ a) (ha1 : a < 4294967296) (hb0 : 0 ≤ b) (hb1 : b < 4294967296) : pk ((a + b + 0) % 4294967296) (decide (4294967296 ≤ a + b + 0)) (ovf a b ((a + b + 0) % 4294967296)) = flagsF 1 a b := by
  rw [ovf_add a b 0 ha0 ha1 hb0 hb1 (by omega) (by omega)]; simp [flagsF]
theorem flagsF_2 (a b : Int) (ha0 : 0 ≤ a) (ha1 : a < 4294967296) (hb0 : 0 ≤ b) (hb1 : b < 4294967296) : pk ((a + b + 1) % 4294967296) (decide (4294967296 ≤ a + b + 1)) (ovf a b ((a + b + 1) % 4294967296)) = flagsF 2 a b := by
  rw [ovf_add a b 1 ha0 ha1 hb0 hb1 (by omega) (by omega)]; simp [flagsF]
theorem flagsF_3 (a b : Int) (ha0 : 0 ≤ a) (ha1 : a < 4294967296) (hb0 : 0 ≤ b) (hb1 : b < 4294967296) : pk ((a + (4294967295 - b) + 1) % 4294967296) (decide (4294967296 ≤ a + (4294967295 - b) + 1)) (ovf a (4294967295 - b) ((a + (4294967295 - b) + 1) % 4294967296)) = flagsF 3 a b := by
  rw [ovf_sub a b 1 ha0 ha1 hb0 hb1 (by omega) (by omega)]
  have e1 : (a + (4294967295 - b) + 1) % 4294967296 = (a - b) % 4294967296 := by omega
  have e2 : decide (4294967296 ≤ a + (4294967295 - b) + 1) = decide (b ≤ a) := by rw [decide_eq_decide]; omega
  rw [e1, e2]; simp [flagsF]
theorem flagsF_4 (a b : Int) (ha0 : 0 ≤ a) (ha1 : a < 4294967296) (hb0 : 0 ≤ b) (hb1 : b < 4294967296) : pk ((a + (4294967295 - b) + 0) % 4294967296) (decide (4294967296 ≤ a + (4294967295 - b) + 0)) (ovf a (4294967295 - b) ((a + (4294967295 - b) + 0) % 4294967296)) = flagsF 4 a b := by
  rw [ovf_sub a b 0 ha0 ha1 hb0 hb1 (by omega) (by omega)]
  have e1 : (a + (4294967295 - b) + 0) % 4294967296 = (a - b - 1) % 4294967296 := by omega
  have e2 : decide (4294967296 ≤ a + (4294967295 - b) + 0) = decide (b + 1 ≤ a) := by rw [decide_eq_decide]; omega
  rw [e1, e2]; simp [flagsF]
theorem sg_bd (a : Int) (ha0 : 0 ≤ a) (ha1 : a < 4294967296) : -2147483648 ≤ sg a ∧ sg a ≤ 2147483647 := by unfold sg; split <;> omega

set_option maxHeartbeats 800000 in
theorem Flags_0 (a b : Int) (w : World) (ha0 : 0 ≤ a) (ha1 : a < 4294967296) (hb0 : 0 ≤ b) (hb1 : b < 4294967296) :
    Calls Try.prog 26 #[.int .i64 0, .int .u32 a, .int .u32 b] w fun e w' => e = .returned (.int .u32 (flagsF 0 a b)) ∧ Below w.heap.size w w' := by
  go_enter Try.func26, Try.ntmps26
  go_wp2_with (first | (go_at_call 28; refine (sum_any _ _ _ _ (by omega) (by omega) (by omega) (by omega) (by omega) (by omega)).mono ?_; rintro e w' ⟨rfl, hb⟩) | (go_at_call 29; refine (packed_any _ _ _ _ (by omega)).mono ?_; rintro e w' ⟨rfl, hb⟩))
  go_ret
  exact ⟨rfl, Below.refl _ _⟩

set_option maxHeartbeats 800000 in
theorem RFlags_0 (a b : Int) (w : World) (ha0 : 0 ≤ a) (ha1 : a < 4294967296) (hb0 : 0 ≤ b) (hb1 : b < 4294967296) :
    Calls Try.prog 27 #[.int .i64 0, .int .u32 a, .int .u32 b] w fun e w' => e = .returned (.int .u32 (flagsF 0 a b)) ∧ Below w.heap.size w w' := by
  have sa := sg_bd a ha0 ha1
  have sb := sg_bd b hb0 hb1
  go_enter Try.func27, Try.ntmps27
  go_wp2_with (first | (go_at_call 32; refine (signed_any _ _ (by omega) (by omega)).mono ?_; rintro e w' ⟨rfl, rfl⟩) | (go_at_call 31; refine (out_any _ _).mono ?_; rintro e w' ⟨rfl, rfl⟩) | (go_at_call 30; refine (pack_any _ _ _ _).mono ?_; rintro e w' ⟨rfl, rfl⟩))
  go_ret
  exact ⟨ret_u32 (by simp [flagsF, outF]), Below.refl _ _⟩

set_option maxHeartbeats 800000 in
theorem Flags_1 (a b : Int) (w : World) (ha0 : 0 ≤ a) (ha1 : a < 4294967296) (hb0 : 0 ≤ b) (hb1 : b < 4294967296) :
    Calls Try.prog 26 #[.int .i64 1, .int .u32 a, .int .u32 b] w fun e w' => e = .returned (.int .u32 (flagsF 1 a b)) ∧ Below w.heap.size w w' := by
  go_enter Try.func26, Try.ntmps26
  go_wp2_with (first | (go_at_call 28; refine (sum_any _ _ _ _ (by omega) (by omega) (by omega) (by omega) (by omega) (by omega)).mono ?_; rintro e w' ⟨rfl, hb⟩) | (go_at_call 29; refine (packed_any _ _ _ _ (by omega)).mono ?_; rintro e w' ⟨rfl, hb⟩))
  go_ret
  exact ⟨ret_u32 (by have := flagsF_1 a b ha0 ha1 hb0 hb1; simpa using this), hb⟩

set_option maxHeartbeats 800000 in
theorem RFlags_1 (a b : Int) (w : World) (ha0 : 0 ≤ a) (ha1 : a < 4294967296) (hb0 : 0 ≤ b) (hb1 : b < 4294967296) :
    Calls Try.prog 27 #[.int .i64 1, .int .u32 a, .int .u32 b] w fun e w' => e = .returned (.int .u32 (flagsF 1 a b)) ∧ Below w.heap.size w w' := by
  have sa := sg_bd a ha0 ha1
  have sb := sg_bd b hb0 hb1
  go_enter Try.func27, Try.ntmps27
  go_wp2_with (first | (go_at_call 32; refine (signed_any _ _ (by omega) (by omega)).mono ?_; rintro e w' ⟨rfl, rfl⟩) | (go_at_call 31; refine (out_any _ _).mono ?_; rintro e w' ⟨rfl, rfl⟩) | (go_at_call 30; refine (pack_any _ _ _ _).mono ?_; rintro e w' ⟨rfl, rfl⟩))
  go_ret
  exact ⟨ret_u32 (by simp [flagsF, outF]), Below.refl _ _⟩

set_option maxHeartbeats 800000 in
theorem Flags_2 (a b : Int) (w : World) (ha0 : 0 ≤ a) (ha1 : a < 4294967296) (hb0 : 0 ≤ b) (hb1 : b < 4294967296) :
    Calls Try.prog 26 #[.int .i64 2, .int .u32 a, .int .u32 b] w fun e w' => e = .returned (.int .u32 (flagsF 2 a b)) ∧ Below w.heap.size w w' := by
  go_enter Try.func26, Try.ntmps26
  go_wp2_with (first | (go_at_call 28; refine (sum_any _ _ _ _ (by omega) (by omega) (by omega) (by omega) (by omega) (by omega)).mono ?_; rintro e w' ⟨rfl, hb⟩) | (go_at_call 29; refine (packed_any _ _ _ _ (by omega)).mono ?_; rintro e w' ⟨rfl, hb⟩))
  go_ret
  exact ⟨ret_u32 (flagsF_2 a b ha0 ha1 hb0 hb1), hb⟩

set_option maxHeartbeats 800000 in
theorem RFlags_2 (a b : Int) (w : World) (ha0 : 0 ≤ a) (ha1 : a < 4294967296) (hb0 : 0 ≤ b) (hb1 : b < 4294967296) :
    Calls Try.prog 27 #[.int .i64 2, .int .u32 a, .int .u32 b] w fun e w' => e = .returned (.int .u32 (flagsF 2 a b)) ∧ Below w.heap.size w w' := by
  have sa := sg_bd a ha0 ha1
  have sb := sg_bd b hb0 hb1
  go_enter Try.func27, Try.ntmps27
  go_wp2_with (first | (go_at_call 32; refine (signed_any _ _ (by omega) (by omega)).mono ?_; rintro e w' ⟨rfl, rfl⟩) | (go_at_call 31; refine (out_any _ _).mono ?_; rintro e w' ⟨rfl, rfl⟩) | (go_at_call 30; refine (pack_any _ _ _ _).mono ?_; rintro e w' ⟨rfl, rfl⟩))
  go_ret
  exact ⟨ret_u32 (by simp [flagsF, outF]), Below.refl _ _⟩

set_option maxHeartbeats 800000 in
theorem Flags_3 (a b : Int) (w : World) (ha0 : 0 ≤ a) (ha1 : a < 4294967296) (hb0 : 0 ≤ b) (hb1 : b < 4294967296) :
    Calls Try.prog 26 #[.int .i64 3, .int .u32 a, .int .u32 b] w fun e w' => e = .returned (.int .u32 (flagsF 3 a b)) ∧ Below w.heap.size w w' := by
  have hn := not_u32 b hb0 hb1
  go_enter Try.func26, Try.ntmps26
  go_wp2_with (first | (go_at_call 28; refine (sum_any _ _ _ _ (by omega) (by omega) (by omega) (by omega) (by omega) (by omega)).mono ?_; rintro e w' ⟨rfl, hb⟩) | (go_at_call 29; refine (packed_any _ _ _ _ (by omega)).mono ?_; rintro e w' ⟨rfl, hb⟩))
  go_ret
  exact ⟨ret_u32 (flagsF_3 a b ha0 ha1 hb0 hb1), hb⟩

set_option maxHeartbeats 800000 in
theorem RFlags_3 (a b : Int) (w : World) (ha0 : 0 ≤ a) (ha1 : a < 4294967296) (hb0 : 0 ≤ b) (hb1 : b < 4294967296) :
    Calls Try.prog 27 #[.int .i64 3, .int .u32 a, .int .u32 b] w fun e w' => e = .returned (.int .u32 (flagsF 3 a b)) ∧ Below w.heap.size w w' := by
  have sa := sg_bd a ha0 ha1
  have sb := sg_bd b hb0 hb1
  go_enter Try.func27, Try.ntmps27
  go_wp2_with (first | (go_at_call 32; refine (signed_any _ _ (by omega) (by omega)).mono ?_; rintro e w' ⟨rfl, rfl⟩) | (go_at_call 31; refine (out_any _ _).mono ?_; rintro e w' ⟨rfl, rfl⟩) | (go_at_call 30; refine (pack_any _ _ _ _).mono ?_; rintro e w' ⟨rfl, rfl⟩))
  go_ret
  exact ⟨ret_u32 (by simp [flagsF, outF]), Below.refl _ _⟩

set_option maxHeartbeats 800000 in
theorem Flags_4 (a b : Int) (w : World) (ha0 : 0 ≤ a) (ha1 : a < 4294967296) (hb0 : 0 ≤ b) (hb1 : b < 4294967296) :
    Calls Try.prog 26 #[.int .i64 4, .int .u32 a, .int .u32 b] w fun e w' => e = .returned (.int .u32 (flagsF 4 a b)) ∧ Below w.heap.size w w' := by
  have hn := not_u32 b hb0 hb1
  go_enter Try.func26, Try.ntmps26
  go_wp2_with (first | (go_at_call 28; refine (sum_any _ _ _ _ (by omega) (by omega) (by omega) (by omega) (by omega) (by omega)).mono ?_; rintro e w' ⟨rfl, hb⟩) | (go_at_call 29; refine (packed_any _ _ _ _ (by omega)).mono ?_; rintro e w' ⟨rfl, hb⟩))
  go_ret
  exact ⟨ret_u32 (by have := flagsF_4 a b ha0 ha1 hb0 hb1; simpa using this), hb⟩

set_option maxHeartbeats 800000 in
theorem RFlags_4 (a b : Int) (w : World) (ha0 : 0 ≤ a) (ha1 : a < 4294967296) (hb0 : 0 ≤ b) (hb1 : b < 4294967296) :
    Calls Try.prog 27 #[.int .i64 4, .int .u32 a, .int .u32 b] w fun e w' => e = .returned (.int .u32 (flagsF 4 a b)) ∧ Below w.heap.size w w' := by
  have sa := sg_bd a ha0 ha1
  have sb := sg_bd b hb0 hb1
  go_enter Try.func27, Try.ntmps27
  go_wp2_with (first | (go_at_call 32; refine (signed_any _ _ (by omega) (by omega)).mono ?_; rintro e w' ⟨rfl, rfl⟩) | (go_at_call 31; refine (out_any _ _).mono ?_; rintro e w' ⟨rfl, rfl⟩) | (go_at_call 30; refine (pack_any _ _ _ _).mono ?_; rintro e w' ⟨rfl, rfl⟩))
  go_ret
  exact ⟨ret_u32 (by simp [flagsF, outF]), Below.refl _ _⟩

set_option maxHeartbeats 800000 in
theorem Flags_5 (a b : Int) (w : World) (ha0 : 0 ≤ a) (ha1 : a < 4294967296) (hb0 : 0 ≤ b) (hb1 : b < 4294967296) :
    Calls Try.prog 26 #[.int .i64 5, .int .u32 a, .int .u32 b] w fun e w' => e = .returned (.int .u32 (flagsF 5 a b)) ∧ Below w.heap.size w w' := by
  go_enter Try.func26, Try.ntmps26
  go_wp2_with (first | (go_at_call 28; refine (sum_any _ _ _ _ (by omega) (by omega) (by omega) (by omega) (by omega) (by omega)).mono ?_; rintro e w' ⟨rfl, hb⟩) | (go_at_call 29; refine (packed_any _ _ _ _ (by omega)).mono ?_; rintro e w' ⟨rfl, hb⟩))
  go_ret
  exact ⟨rfl, hb⟩

set_option maxHeartbeats 800000 in
theorem RFlags_5 (a b : Int) (w : World) (ha0 : 0 ≤ a) (ha1 : a < 4294967296) (hb0 : 0 ≤ b) (hb1 : b < 4294967296) :
    Calls Try.prog 27 #[.int .i64 5, .int .u32 a, .int .u32 b] w fun e w' => e = .returned (.int .u32 (flagsF 5 a b)) ∧ Below w.heap.size w w' := by
  have sa := sg_bd a ha0 ha1
  have sb := sg_bd b hb0 hb1
  go_enter Try.func27, Try.ntmps27
  go_wp2_with (first | (go_at_call 32; refine (signed_any _ _ (by omega) (by omega)).mono ?_; rintro e w' ⟨rfl, rfl⟩) | (go_at_call 31; refine (out_any _ _).mono ?_; rintro e w' ⟨rfl, rfl⟩) | (go_at_call 30; refine (pack_any _ _ _ _).mono ?_; rintro e w' ⟨rfl, rfl⟩))
  go_ret
  exact ⟨ret_u32 (by simp [flagsF, outF]), Below.refl _ _⟩

set_option maxHeartbeats 800000 in
theorem Flags_any (kind a b : Int) (w : World) (ha0 : 0 ≤ a) (ha1 : a < 4294967296) (hb0 : 0 ≤ b) (hb1 : b < 4294967296) :
    Calls Try.prog 26 #[.int .i64 kind, .int .u32 a, .int .u32 b] w fun e w' => e = .returned (.int .u32 (flagsF kind a b)) ∧ Below w.heap.size w w' := by
  by_cases h0 : kind = 0
  · subst h0; exact Flags_0 a b w ha0 ha1 hb0 hb1
  by_cases h1 : kind = 1
  · subst h1; exact Flags_1 a b w ha0 ha1 hb0 hb1
  by_cases h2 : kind = 2
  · subst h2; exact Flags_2 a b w ha0 ha1 hb0 hb1
  by_cases h3 : kind = 3
  · subst h3; exact Flags_3 a b w ha0 ha1 hb0 hb1
  by_cases h4 : kind = 4
  · subst h4; exact Flags_4 a b w ha0 ha1 hb0 hb1
  by_cases h5 : kind = 5
  · subst h5; exact Flags_5 a b w ha0 ha1 hb0 hb1
  have H : Hid (flagsF kind a b = 0) := by unfold Hid; simp [flagsF, h0, h1, h2, h3, h4, h5]
  have g0 : (kind == 0) = false := by simpa using h0
  have g1 : (kind == 1) = false := by simpa using h1
  have g2 : (kind == 2) = false := by simpa using h2
  have g3 : (kind == 3) = false := by simpa using h3
  have g4 : (kind == 4) = false := by simpa using h4
  have g5 : (kind == 5) = false := by simpa using h5
  go_enter Try.func26, Try.ntmps26
  go_wp2
  go_ret
  exact ⟨ret_u32 H.out.symm, Below.refl _ _⟩

set_option maxHeartbeats 800000 in
theorem RFlags_any (kind a b : Int) (w : World) (ha0 : 0 ≤ a) (ha1 : a < 4294967296) (hb0 : 0 ≤ b) (hb1 : b < 4294967296) :
    Calls Try.prog 27 #[.int .i64 kind, .int .u32 a, .int .u32 b] w fun e w' => e = .returned (.int .u32 (flagsF kind a b)) ∧ Below w.heap.size w w' := by
  by_cases h0 : kind = 0
  · subst h0; exact RFlags_0 a b w ha0 ha1 hb0 hb1
  by_cases h1 : kind = 1
  · subst h1; exact RFlags_1 a b w ha0 ha1 hb0 hb1
  by_cases h2 : kind = 2
  · subst h2; exact RFlags_2 a b w ha0 ha1 hb0 hb1
  by_cases h3 : kind = 3
  · subst h3; exact RFlags_3 a b w ha0 ha1 hb0 hb1
  by_cases h4 : kind = 4
  · subst h4; exact RFlags_4 a b w ha0 ha1 hb0 hb1
  by_cases h5 : kind = 5
  · subst h5; exact RFlags_5 a b w ha0 ha1 hb0 hb1
  have H : Hid (flagsF kind a b = 0) := by unfold Hid; simp [flagsF, h0, h1, h2, h3, h4, h5]
  have g0 : (kind == 0) = false := by simpa using h0
  have g1 : (kind == 1) = false := by simpa using h1
  have g2 : (kind == 2) = false := by simpa using h2
  have g3 : (kind == 3) = false := by simpa using h3
  have g4 : (kind == 4) = false := by simpa using h4
  have g5 : (kind == 5) = false := by simpa using h5
  go_enter Try.func27, Try.ntmps27
  go_wp2
  go_ret
  exact ⟨ret_u32 H.out.symm, Below.refl _ _⟩
end Go.Proofs.Ytehehnhomlcimaa
