/- Contracts of 'valid', the lengths and the rules. -/
import Derived.Test.YtehehnhomlcimaaC
namespace Go.Proofs.Ytehehnhomlcimaa
open Go.RowKit
attribute [local go_sem ↓ high] loadAt25 storeAt25 ld25 st25 loadAt28 storeAt28 ld28 st28 loadAt31 storeAt31 ld31 st31 loadAt32 storeAt32 ld32 st32 copyB copy35
attribute [local go_sem] allOne_inst World.cs_alloc_at World.cs_alloc_past World.cs_drew World.plainRow_alloc_at World.plainRow_alloc_past World.plainRow_drew World.setRow_alloc_at World.setRow_alloc_past World.setRow_drew spl_all extract_all size_spl World.cs_setCell_same World.cs_setCell_other World.plainRow_setCell World.cs_setRow_same World.cs_setRow_other World.plainRow_setRow World.size_setRow' World.cell_setRow World.frozen_setRow ne_up1 ne_dn1 ne_up2 ne_dn2 ne_up3 ne_dn3 ne_up4 ne_dn4 ne_up5 ne_dn5 ne_up6 ne_dn6 ne_up7 ne_dn7 ne_up8 ne_dn8 ne_up9 ne_dn9 ne_up10 ne_dn10 ne_up11 ne_dn11 ne_up12 ne_dn12 ne_up13 ne_dn13 ne_up14 ne_dn14 ne_up15 ne_dn15 lt_up2 lt_up3 lt_up4 lt_up5 lt_up6 lt_up7 lt_up8 lt_up9 lt_up10 lt_up11 lt_up12 lt_up13 lt_up14 lt_up15

/-- The elements of a slice of words: at address (b, o), n of them, in a world. -/
def AtIs (w : World) (sa : Option Addr) (n : Nat) (At : Nat → Int) : Prop := 0 < n → ∃ b o, sa = some ⟨b, o, none⟩ ∧ ∀ i, i < n → w.cell? ⟨b, o + i, none⟩ = some (.int .u32 (At i))
/-- The code of the last operation of a slice of operations. -/
def LastIs (w : World) (so : Option Addr) (m : Nat) (code : Int) : Prop := 0 < m → ∃ b o, so = some ⟨b, o, none⟩ ∧ w.cell? ⟨b, o + (m - 1) * 5, none⟩ = some (.int .i64 code)
def lenF (n m : Nat) (code : Int) : Int := if 0 < m ∧ code = 22 then ((n : Int) % 4294967296 - 1) % 4294967296 else (n : Int) % 4294967296
def validF (kind idx : Int) (n : Nat) : Bool := decide (1 ≤ kind) && decide (kind ≤ 6) && decide (0 < n) && (!(decide (kind = 2) || decide (kind = 3)) || (decide (0 ≤ idx) && decide (idx < n)))
theorem ret_bool {a b : Bool} (h : a = b) : Ending.returned (.bool a) = .returned (.bool b) := by rw [h]

set_option maxHeartbeats 1000000 in
theorem valid_any (sa so sp : Option Addr) (n m ca co np cp : Nat) (off kind idx tgt live cst : Int) (w : World) :
    Calls Try.prog 13 #[.agg #[.slice sa n ca, .slice sp np cp, .slice so m co], .agg #[.int .i64 off, .int .i64 kind, .int .i64 idx, .int .u32 tgt, .int .u32 live, .int .i64 cst]] w
      fun e w' => e = .returned (.bool (validF kind idx n)) ∧ Below w.heap.size w w' := by
  by_cases k1 : 1 ≤ kind
  · by_cases k6 : kind ≤ 6
    · by_cases hn : (0 : Int) < (n : Int)
      · by_cases k2 : kind = 2
        · subst k2
          by_cases i0 : 0 ≤ idx
          · by_cases i1 : idx < (n : Int)
            · go_enter Try.func13, Try.ntmps13
              go_wp2
              go_ret
              refine ⟨ret_bool (by first | (simp [validF, *]; done) | (simp [validF, *]; omega)), ?_⟩
              repeat (first | exact Below.refl _ _ | assumption | refine Below.drew ?_ | refine Below.alloc ?_ (by first | exact Nat.le_refl _ | omega | (simp; done) | (simp; omega)) _ | refine Below.setCell ?_ (by first | exact Nat.le_refl _ | omega | (simp; done) | (simp; omega)) _ | refine below_row ?_ _ (by first | exact Nat.le_refl _ | omega | (simp; done) | (simp; omega)) _)
            · go_enter Try.func13, Try.ntmps13
              go_wp2
              go_ret
              refine ⟨ret_bool (by first | (simp [validF, *]; done) | (simp [validF, *]; omega)), ?_⟩
              repeat (first | exact Below.refl _ _ | assumption | refine Below.drew ?_ | refine Below.alloc ?_ (by first | exact Nat.le_refl _ | omega | (simp; done) | (simp; omega)) _ | refine Below.setCell ?_ (by first | exact Nat.le_refl _ | omega | (simp; done) | (simp; omega)) _ | refine below_row ?_ _ (by first | exact Nat.le_refl _ | omega | (simp; done) | (simp; omega)) _)
          · go_enter Try.func13, Try.ntmps13
            go_wp2
            go_ret
            refine ⟨ret_bool (by first | (simp [validF, *]; done) | (simp [validF, *]; omega)), ?_⟩
            repeat (first | exact Below.refl _ _ | assumption | refine Below.drew ?_ | refine Below.alloc ?_ (by first | exact Nat.le_refl _ | omega | (simp; done) | (simp; omega)) _ | refine Below.setCell ?_ (by first | exact Nat.le_refl _ | omega | (simp; done) | (simp; omega)) _ | refine below_row ?_ _ (by first | exact Nat.le_refl _ | omega | (simp; done) | (simp; omega)) _)
        · by_cases k3 : kind = 3
          · subst k3
            by_cases i0 : 0 ≤ idx
            · by_cases i1 : idx < (n : Int)
              · go_enter Try.func13, Try.ntmps13
                go_wp2
                go_ret
                refine ⟨ret_bool (by first | (simp [validF, *]; done) | (simp [validF, *]; omega)), ?_⟩
                repeat (first | exact Below.refl _ _ | assumption | refine Below.drew ?_ | refine Below.alloc ?_ (by first | exact Nat.le_refl _ | omega | (simp; done) | (simp; omega)) _ | refine Below.setCell ?_ (by first | exact Nat.le_refl _ | omega | (simp; done) | (simp; omega)) _ | refine below_row ?_ _ (by first | exact Nat.le_refl _ | omega | (simp; done) | (simp; omega)) _)
              · go_enter Try.func13, Try.ntmps13
                go_wp2
                go_ret
                refine ⟨ret_bool (by first | (simp [validF, *]; done) | (simp [validF, *]; omega)), ?_⟩
                repeat (first | exact Below.refl _ _ | assumption | refine Below.drew ?_ | refine Below.alloc ?_ (by first | exact Nat.le_refl _ | omega | (simp; done) | (simp; omega)) _ | refine Below.setCell ?_ (by first | exact Nat.le_refl _ | omega | (simp; done) | (simp; omega)) _ | refine below_row ?_ _ (by first | exact Nat.le_refl _ | omega | (simp; done) | (simp; omega)) _)
            · go_enter Try.func13, Try.ntmps13
              go_wp2
              go_ret
              refine ⟨ret_bool (by first | (simp [validF, *]; done) | (simp [validF, *]; omega)), ?_⟩
              repeat (first | exact Below.refl _ _ | assumption | refine Below.drew ?_ | refine Below.alloc ?_ (by first | exact Nat.le_refl _ | omega | (simp; done) | (simp; omega)) _ | refine Below.setCell ?_ (by first | exact Nat.le_refl _ | omega | (simp; done) | (simp; omega)) _ | refine below_row ?_ _ (by first | exact Nat.le_refl _ | omega | (simp; done) | (simp; omega)) _)
          · have g2 : (kind == 2) = false := by simp; omega
            have g3 : (kind == 3) = false := by simp; omega
            go_enter Try.func13, Try.ntmps13
            go_wp2
            go_ret
            refine ⟨ret_bool (by first | (simp [validF, *]; done) | (simp [validF, *]; omega)), ?_⟩
            repeat (first | exact Below.refl _ _ | assumption | refine Below.drew ?_ | refine Below.alloc ?_ (by first | exact Nat.le_refl _ | omega | (simp; done) | (simp; omega)) _ | refine Below.setCell ?_ (by first | exact Nat.le_refl _ | omega | (simp; done) | (simp; omega)) _ | refine below_row ?_ _ (by first | exact Nat.le_refl _ | omega | (simp; done) | (simp; omega)) _)
      · have h0 : n = 0 := by omega
        subst h0
        by_cases k2 : kind = 2
        · subst k2
          go_enter Try.func13, Try.ntmps13
          go_wp2
          go_ret
          refine ⟨ret_bool (by first | (simp [validF, *]; done) | (simp [validF, *]; omega)), ?_⟩
          repeat (first | exact Below.refl _ _ | assumption | refine Below.drew ?_ | refine Below.alloc ?_ (by first | exact Nat.le_refl _ | omega | (simp; done) | (simp; omega)) _ | refine Below.setCell ?_ (by first | exact Nat.le_refl _ | omega | (simp; done) | (simp; omega)) _ | refine below_row ?_ _ (by first | exact Nat.le_refl _ | omega | (simp; done) | (simp; omega)) _)
        · by_cases k3 : kind = 3
          · subst k3
            go_enter Try.func13, Try.ntmps13
            go_wp2
            go_ret
            refine ⟨ret_bool (by first | (simp [validF, *]; done) | (simp [validF, *]; omega)), ?_⟩
            repeat (first | exact Below.refl _ _ | assumption | refine Below.drew ?_ | refine Below.alloc ?_ (by first | exact Nat.le_refl _ | omega | (simp; done) | (simp; omega)) _ | refine Below.setCell ?_ (by first | exact Nat.le_refl _ | omega | (simp; done) | (simp; omega)) _ | refine below_row ?_ _ (by first | exact Nat.le_refl _ | omega | (simp; done) | (simp; omega)) _)
          · have g2 : (kind == 2) = false := by simp; omega
            have g3 : (kind == 3) = false := by simp; omega
            go_enter Try.func13, Try.ntmps13
            go_wp2
            go_ret
            refine ⟨ret_bool (by first | (simp [validF, *]; done) | (simp [validF, *]; omega)), ?_⟩
            repeat (first | exact Below.refl _ _ | assumption | refine Below.drew ?_ | refine Below.alloc ?_ (by first | exact Nat.le_refl _ | omega | (simp; done) | (simp; omega)) _ | refine Below.setCell ?_ (by first | exact Nat.le_refl _ | omega | (simp; done) | (simp; omega)) _ | refine below_row ?_ _ (by first | exact Nat.le_refl _ | omega | (simp; done) | (simp; omega)) _)
    · have g2 : (kind == 2) = false := by simp; omega
      have g3 : (kind == 3) = false := by simp; omega
      go_enter Try.func13, Try.ntmps13
      go_wp2
      go_ret
      refine ⟨ret_bool (by first | (simp [validF, *]; done) | (simp [validF, *]; omega)), ?_⟩
      repeat (first | exact Below.refl _ _ | assumption | refine Below.drew ?_ | refine Below.alloc ?_ (by first | exact Nat.le_refl _ | omega | (simp; done) | (simp; omega)) _ | refine Below.setCell ?_ (by first | exact Nat.le_refl _ | omega | (simp; done) | (simp; omega)) _ | refine below_row ?_ _ (by first | exact Nat.le_refl _ | omega | (simp; done) | (simp; omega)) _)
  · have g2 : (kind == 2) = false := by simp; omega
    have g3 : (kind == 3) = false := by simp; omega
    go_enter Try.func13, Try.ntmps13
    go_wp2
    go_ret
    refine ⟨ret_bool (by first | (simp [validF, *]; done) | (simp [validF, *]; omega)), ?_⟩
    repeat (first | exact Below.refl _ _ | assumption | refine Below.drew ?_ | refine Below.alloc ?_ (by first | exact Nat.le_refl _ | omega | (simp; done) | (simp; omega)) _ | refine Below.setCell ?_ (by first | exact Nat.le_refl _ | omega | (simp; done) | (simp; omega)) _ | refine below_row ?_ _ (by first | exact Nat.le_refl _ | omega | (simp; done) | (simp; omega)) _)

theorem lenF_0 (n m : Nat) (code : Int) (h : ¬ (0 < m ∧ code = 22)) : lenF n m code = (n : Int) % 4294967296 := by unfold lenF; rw [if_neg h]
theorem lenF_1 (n m : Nat) (code : Int) (h : 0 < m) (h2 : code = 22) : lenF n m code = ((n : Int) % 4294967296 - 1) % 4294967296 := by unfold lenF; rw [if_pos ⟨h, h2⟩]

set_option maxHeartbeats 1000000 in
theorem length_any (sa so sp : Option Addr) (n m ca co np cp : Nat) (code : Int) (w : World) (hl : LastIs w so m code) (hm : m ≤ 1000000000000) :
    Calls Try.prog 22 #[.agg #[.slice sa n ca, .slice sp np cp, .slice so m co]] w
      fun e w' => e = .returned (.int .u32 (lenF n m code)) ∧ Below w.heap.size w w' := by
  by_cases hm0 : m = 0
  · subst hm0
    have H := Lib.hid (lenF_0 n 0 code (by omega))
    clear hl
    go_enter Try.func22, Try.ntmps22
    go_wp2
    go_ret
    refine ⟨ret_u32 (by rw [H.out]), ?_⟩
    repeat (first | exact Below.refl _ _ | assumption | refine Below.drew ?_ | refine Below.alloc ?_ (by first | exact Nat.le_refl _ | omega | (simp; done) | (simp; omega)) _ | refine Below.setCell ?_ (by first | exact Nat.le_refl _ | omega | (simp; done) | (simp; omega)) _ | refine below_row ?_ _ (by first | exact Nat.le_refl _ | omega | (simp; done) | (simp; omega)) _)
  · obtain ⟨b, o, rfl, hcell⟩ := hl (by omega)
    have hb : b < w.heap.size := block_lt_of_cell hcell
    obtain ⟨k, rfl⟩ : ∃ k, m = k + 1 := ⟨m - 1, by omega⟩
    simp only [Nat.add_sub_cancel] at hcell
    by_cases hc : code = 22
    · subst hc
      have H := Lib.hid (lenF_1 n (k + 1) 22 (by omega) rfl)
      go_enter Try.func22, Try.ntmps22
      go_wp2
      go_ret
      refine ⟨ret_u32 (by rw [H.out]), ?_⟩
      repeat (first | exact Below.refl _ _ | assumption | refine Below.drew ?_ | refine Below.alloc ?_ (by first | exact Nat.le_refl _ | omega | (simp; done) | (simp; omega)) _ | refine Below.setCell ?_ (by first | exact Nat.le_refl _ | omega | (simp; done) | (simp; omega)) _ | refine below_row ?_ _ (by first | exact Nat.le_refl _ | omega | (simp; done) | (simp; omega)) _)
    · have H := Lib.hid (lenF_0 n (k + 1) code (by omega))
      have g : (code == 22) = false := by simpa using hc
      go_enter Try.func22, Try.ntmps22
      go_wp2
      go_ret
      refine ⟨ret_u32 (by rw [H.out]), ?_⟩
      repeat (first | exact Below.refl _ _ | assumption | refine Below.drew ?_ | refine Below.alloc ?_ (by first | exact Nat.le_refl _ | omega | (simp; done) | (simp; omega)) _ | refine Below.setCell ?_ (by first | exact Nat.le_refl _ | omega | (simp; done) | (simp; omega)) _ | refine below_row ?_ _ (by first | exact Nat.le_refl _ | omega | (simp; done) | (simp; omega)) _)

set_option maxHeartbeats 1000000 in
theorem Length_any (sa so sp : Option Addr) (n m ca co np cp : Nat) (code : Int) (w : World) (hl : LastIs w so m code) (hm : m ≤ 1000000000000) :
    Calls Try.prog 16 #[.agg #[.slice sa n ca, .slice sp np cp, .slice so m co]] w
      fun e w' => e = .returned (.int .u32 (lenF n m code)) ∧ Below w.heap.size w w' := by
  by_cases hm0 : m = 0
  · subst hm0
    have H := Lib.hid (lenF_0 n 0 code (by omega))
    clear hl
    go_enter Try.func16, Try.ntmps16
    go_wp2
    go_ret
    refine ⟨ret_u32 (by rw [H.out]), ?_⟩
    repeat (first | exact Below.refl _ _ | assumption | refine Below.drew ?_ | refine Below.alloc ?_ (by first | exact Nat.le_refl _ | omega | (simp; done) | (simp; omega)) _ | refine Below.setCell ?_ (by first | exact Nat.le_refl _ | omega | (simp; done) | (simp; omega)) _ | refine below_row ?_ _ (by first | exact Nat.le_refl _ | omega | (simp; done) | (simp; omega)) _)
  · obtain ⟨b, o, rfl, hcell⟩ := hl (by omega)
    have hb : b < w.heap.size := block_lt_of_cell hcell
    obtain ⟨k, rfl⟩ : ∃ k, m = k + 1 := ⟨m - 1, by omega⟩
    simp only [Nat.add_sub_cancel] at hcell
    by_cases hc : code = 22
    · subst hc
      have H := Lib.hid (lenF_1 n (k + 1) 22 (by omega) rfl)
      go_enter Try.func16, Try.ntmps16
      go_wp2
      go_ret
      refine ⟨ret_u32 (by rw [H.out]), ?_⟩
      repeat (first | exact Below.refl _ _ | assumption | refine Below.drew ?_ | refine Below.alloc ?_ (by first | exact Nat.le_refl _ | omega | (simp; done) | (simp; omega)) _ | refine Below.setCell ?_ (by first | exact Nat.le_refl _ | omega | (simp; done) | (simp; omega)) _ | refine below_row ?_ _ (by first | exact Nat.le_refl _ | omega | (simp; done) | (simp; omega)) _)
    · have H := Lib.hid (lenF_0 n (k + 1) code (by omega))
      have g : (code == 22) = false := by simpa using hc
      go_enter Try.func16, Try.ntmps16
      go_wp2
      go_ret
      refine ⟨ret_u32 (by rw [H.out]), ?_⟩
      repeat (first | exact Below.refl _ _ | assumption | refine Below.drew ?_ | refine Below.alloc ?_ (by first | exact Nat.le_refl _ | omega | (simp; done) | (simp; omega)) _ | refine Below.setCell ?_ (by first | exact Nat.le_refl _ | omega | (simp; done) | (simp; omega)) _ | refine below_row ?_ _ (by first | exact Nat.le_refl _ | omega | (simp; done) | (simp; omega)) _)
end Go.Proofs.Ytehehnhomlcimaa
