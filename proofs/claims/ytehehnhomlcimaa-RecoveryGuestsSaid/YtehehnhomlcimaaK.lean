/- Contract of the maker's 'instruction': the walk. -/
import Derived.Test.YtehehnhomlcimaaJ
namespace Go.Proofs.Ytehehnhomlcimaa
open Go.RowKit
attribute [local go_sem ↓ high] loadAt62 ld62
attribute [local go_sem] World.cs_alloc_at World.cs_alloc_past World.cs_drew extract_all World.cs_setCell_same World.cs_setCell_other lt_up2 lt_up3 lt_up4 ne_up1 ne_dn1 ne_up2 ne_dn2

theorem INV.start {W w : World} {bm n c k : Nat} {sa : Option Addr} (M : MW W bm sa n c k w) :
    INV W w bm sa n c k 0 (.slice none 0 0) [] #[.bool false, .bool false, .bool false, .bool false, .bool false, .bool false, .bool false, .bool false] (fun _ => false)
      (w.alloc (.cells #[.bool false, .bool false, .bool false, .bool false, .bool false, .bool false, .bool false, .bool false] 62)) k :=
  have hb := M.lt
  have hm : MK (w.alloc (.cells #[.bool false, .bool false, .bool false, .bool false, .bool false, .bool false, .bool false, .bool false] 62)) bm sa n c k := by
    show (w.alloc _).heap[bm]? = _; rw [World.heap_alloc_get, if_neg (by omega)]; exact M.mkr
  { mkr := hm, lo := Nat.le_refl _, hi := by omega, grown := grown_alloc (grown_refl _ _) _, own := World.ownsRow_nil _ _ _ _, big := by simp, wrt := by rw [World.heap_alloc_get, if_pos rfl],
    bools := ⟨rfl, fun i hi => by
      match i, hi with
      | 0, _ => rfl | 1, _ => rfl | 2, _ => rfl | 3, _ => rfl | 4, _ => rfl | 5, _ => rfl | 6, _ => rfl | 7, _ => rfl⟩,
    mw := M.after (grown_alloc (grown_refl _ _) _) hm, bml := hb }
def InsOut (W w : World) (bm : Nat) (sa : Option Addr) (n c k : Nat) (e : Ending) (w' : World) : Prop :=
  ∃ (v : Value) (ops : List OpT) (cw : Array Value) (f : Nat → Bool) (k' : Nat), e = .returned v ∧ ops.length ≤ 7 ∧ INV W w bm sa n c k 100 v ops cw f w' k'

theorem opC_one (x : OpT) : ∀ u ∈ opC x, u.oneCell' = true := fun u h => flat_one [x] u (by simpa [flat] using h)
theorem new_cells (w : World) (x : OpT) : ∀ (j : Nat) (u : Value), (opC x)[j]? = some u → (w.alloc (.cells (opC x).toArray 45)).cell? ((⟨w.heap.size, 0, none⟩ : Addr).add j) = some u := fun j u hj => by
  have e : (⟨w.heap.size, 0, none⟩ : Addr).add j = ⟨w.heap.size, j, none⟩ := by unfold Addr.add; split <;> simp_all
  rw [e, World.cell?_alloc_at _ _ _ _ rfl]
  simpa using hj
set_option maxRecDepth 100000 in
set_option maxHeartbeats 4000000 in
theorem instruction_any (W : World) (bm : Nat) (sa : Option Addr) (n c k : Nat) (w : World) (M : MW W bm sa n c k w) (hk : k < 800000) :
    Calls Try.prog 12 #[.pointer (some ⟨bm, 0, none⟩)] w (InsOut W w bm sa n c k) := by
  obtain ⟨i0, hi, hz0, hz1, hz2⟩ := info_parts info45
  have H0 := Lib.hid (INV.start M)
  clear M
  go_enter Try.func12, Try.ntmps12
  go_wp2_with fail
  refine (take_any W bm sa n c k 4 _ H0.out.mw (by have := H0.out.hi; omega) (by omega) (by omega)).mono ?_
  rintro e wA ⟨r, rfl, r0, r1, T⟩
  have H1 := Lib.hid (H0.out.took T)
  clear T
  go_wp2_with fail
  go_loopw [3, 5] (fun v nn wr => ∃ (m : Nat) (ops : List OpT) (cw : Array Value) (f : Nat → Bool) (k' : Nat), nn = .int .i64 m ∧ m ≤ 3 ∧ ops.length + m ≤ 3 ∧ INV W w bm sa n c k (1 + 8 * (3 - m)) v ops cw f wr k') (fun _ nn _ => (intOf nn).toNat)
  case atStart => exact ⟨r.toNat, [], _, _, _, by rw [Int.toNat_of_nonneg r0], by omega, by simp; omega, H1.out.more (by omega)⟩
  case round =>
    obtain ⟨m, ops, cw, f, k1, rfl, hm3, hol, HI⟩ := hrel
    have HI := Lib.hid HI
    by_cases hm0 : m = 0
    · subst hm0
      go_wp2_with fail
      refine (take_any W bm sa n c k1 4 wr HI.out.mw (by have := HI.out.hi; omega) (by omega) (by omega)).mono ?_
      rintro e wP ⟨s, rfl, s0, s1, T⟩
      have HP := Lib.hid (HI.out.took T)
      clear T
      have cs := HP.out.cs
      have csz := HP.out.bools.size
      by_cases s0' : s = 0
      · subst s0'
        go_wp2_with fail
        refine (source_any W bm sa n c (k1 + 1) cw f HP.out.bools wP HP.out.mw (by have := HP.out.hi; omega)).mono ?_
        rintro e wQ ⟨a, k2, rfl, T⟩
        have HQ := Lib.hid (HP.out.took T)
        clear T
        clear cs
        have cs := HQ.out.cs
        go_wp2_with fail
        refine (source_any W bm sa n c k2 cw f HQ.out.bools wQ HQ.out.mw (by have := HQ.out.hi; omega)).mono ?_
        rintro e wR ⟨b, k3, rfl, T⟩
        have HR := Lib.hid (HQ.out.took T)
        clear T
        clear cs
        go_wp2_with fail
        refine (take_any W bm sa n c k3 2 wR HR.out.mw (by have := HR.out.hi; omega) (by omega) (by omega)).mono ?_
        rintro e wS ⟨z, rfl, z0, z1, T⟩
        have HS := Lib.hid (HR.out.took T)
        clear T
        go_wp2_with fail
        refine (word_any W bm sa n c (k3 + 1) wS HS.out.mw (by have := HS.out.hi; omega)).mono ?_
        rintro e wT ⟨x, k4, rfl, T⟩
        have HT := Lib.hid (HS.out.took T)
        clear T
        go_wp2_with (at_builtin; refine wpList_append_own _ rfl _ _ 36 rfl (w.heap.size + 1) 45 i0 (.agg #[.int .i64 0, .int .i64 0, .int .i64 0, .int .i64 0, .int .u32 0]) 5 40 Try.underlying36 hi hz0 hz1 hz2 rfl (by decide) _ _ _ rfl ((HT.out.alloc _).own) ⟨wT.heap.size, 0, none⟩ 1 1 (opC (18 + z, 0, a, b, x)) rfl rfl (new_cells _ _) (opC_one _) (by unfold maxLen; omega) (by omega) (Nat.le_trans HT.out.big (by simp)) ?_; intro v9 w9 hown9 hgrow9 _; have HF := Lib.hid ((HT.out.alloc _).append hown9 hgrow9); clear hown9 hgrow9; skip)
        refine (take_any W bm sa n c k4 4 w9 HF.out.mw (by have := HF.out.hi; omega) (by omega) (by omega)).mono ?_
        rintro e wU ⟨u, rfl, u0, u1, T⟩
        have HU := Lib.hid (HF.out.took T)
        clear T
        go_wp2_with fail
        go_loopw [3, 11] (fun v nn wr2 => ∃ (m : Nat) (ops2 : List OpT) (k' : Nat), nn = .int .i64 m ∧ m ≤ 3 ∧ ops2.length + m ≤ 7 ∧ INV W w bm sa n c k (40 + 8 * (3 - m)) v ops2 cw f wr2 k') (fun _ nn _ => (intOf nn).toNat)
        case atStart => exact ⟨u.toNat, _, _, by rw [Int.toNat_of_nonneg u0], by omega, by (try simp); omega, HU.out.more (by omega)⟩
        case round =>
          obtain ⟨m, ops2, k6, rfl, hm3', hol', HJ⟩ := hrel
          have HJ := Lib.hid HJ
          by_cases hm0 : m = 0
          · subst hm0
            go_wp2_with fail
            go_ret
            exact ⟨_, ops2, cw, f, k6, rfl, by omega, HJ.out.more (by omega)⟩
          · obtain ⟨p, rfl⟩ : ∃ p, m = p + 1 := ⟨m - 1, by omega⟩
            clear hm0
            have hpp : (0 : Int) < (p : Int) + 1 := by omega
            have hp3 : (p : Int) ≤ 2 := by omega
            go_wp2_with fail
            refine (take_any W bm sa n c k6 19 wr HJ.out.mw (by have := HJ.out.hi; omega) (by omega) (by omega)).mono ?_
            rintro e wB ⟨d, rfl, d0, d1, T⟩
            have HB := Lib.hid (HJ.out.took T)
            clear T
            have cs2 := HB.out.cs
            have csz2 := HB.out.bools.size
            go_wp2_with fail
            refine (source_any W bm sa n c (k6 + 1) cw f HB.out.bools wB HB.out.mw (by have := HB.out.hi; omega)).mono ?_
            rintro e wC ⟨a2, k7, rfl, T⟩
            have HC := Lib.hid (HB.out.took T)
            clear T
            clear cs2
            have cs2 := HC.out.cs
            go_wp2_with fail
            refine (take_any W bm sa n c k7 4 wC HC.out.mw (by have := HC.out.hi; omega) (by omega) (by omega)).mono ?_
            rintro e wD ⟨q, rfl, q0, q1, T⟩
            have HD := Lib.hid (HC.out.took T)
            clear T
            clear cs2
            have cs2 := HD.out.cs
            by_cases q0' : q = 0
            · subst q0'
              go_wp2_with fail
              refine (word_any W bm sa n c (k7 + 1) wD HD.out.mw (by have := HD.out.hi; omega)).mono ?_
              rintro e wE ⟨x2, k8, rfl, T⟩
              have HE := Lib.hid (HD.out.took T)
              clear T
              go_wp2_with (at_builtin; refine wpList_append_own _ rfl _ _ 36 rfl (w.heap.size + 1) 45 i0 (.agg #[.int .i64 0, .int .i64 0, .int .i64 0, .int .i64 0, .int .u32 0]) 5 40 Try.underlying36 hi hz0 hz1 hz2 rfl (by decide) _ _ _ rfl ((HE.out.alloc _).own) ⟨wE.heap.size, 0, none⟩ 1 1 (opC (1, d, 0, 0, x2)) rfl rfl (new_cells _ _) (opC_one _) (by unfold maxLen; omega) (by omega) (Nat.le_trans HE.out.big (by simp)) ?_; intro v9 w9 hown9 hgrow9 _; have HF := Lib.hid ((HE.out.alloc _).append hown9 hgrow9); clear hown9 hgrow9; skip)
              go_roundw
              case rel => exact ⟨p, _, _, rfl, by omega, by simp; omega, HF.out.more (by omega)⟩
              case measure => simp [intOf]
            · by_cases q1' : q = 1
              · subst q1'
                clear q0' cs2
                go_wp2_with (at_builtin; refine wpList_append_own _ rfl _ _ 36 rfl (w.heap.size + 1) 45 i0 (.agg #[.int .i64 0, .int .i64 0, .int .i64 0, .int .i64 0, .int .u32 0]) 5 40 Try.underlying36 hi hz0 hz1 hz2 rfl (by decide) _ _ _ rfl ((HD.out.alloc _).own) ⟨wD.heap.size, 0, none⟩ 1 1 (opC (2, d, a2, 0, 0)) rfl rfl (new_cells _ _) (opC_one _) (by unfold maxLen; omega) (by omega) (Nat.le_trans HD.out.big (by simp)) ?_; intro v9 w9 hown9 hgrow9 _; have HF := Lib.hid ((HD.out.alloc _).append hown9 hgrow9); clear hown9 hgrow9; skip)
                go_roundw
                case rel => exact ⟨p, _, _, rfl, by omega, by simp; omega, HF.out.more (by omega)⟩
                case measure => simp [intOf]
              · have g0' : (q == 0) = false := by simpa using q0'
                have g1' : (q == 1) = false := by simpa using q1'
                go_wp2_with fail
                refine (source_any W bm sa n c (k7 + 1) cw f HD.out.bools wD HD.out.mw (by have := HD.out.hi; omega)).mono ?_
                rintro e wE ⟨b2, k8, rfl, T⟩
                have HE := Lib.hid (HD.out.took T)
                clear T
                clear cs2
                go_wp2_with fail
                refine (take_any W bm sa n c k8 13 wE HE.out.mw (by have := HE.out.hi; omega) (by omega) (by omega)).mono ?_
                rintro e wF ⟨z2, rfl, z20, z21, T⟩
                have HG := Lib.hid (HE.out.took T)
                clear T
                go_wp2_with (at_builtin; refine wpList_append_own _ rfl _ _ 36 rfl (w.heap.size + 1) 45 i0 (.agg #[.int .i64 0, .int .i64 0, .int .i64 0, .int .i64 0, .int .u32 0]) 5 40 Try.underlying36 hi hz0 hz1 hz2 rfl (by decide) _ _ _ rfl ((HG.out.alloc _).own) ⟨wF.heap.size, 0, none⟩ 1 1 (opC (3 + z2, d, a2, b2, 0)) rfl rfl (new_cells _ _) (opC_one _) (by unfold maxLen; omega) (by omega) (Nat.le_trans HG.out.big (by simp)) ?_; intro v9 w9 hown9 hgrow9 _; have HF := Lib.hid ((HG.out.alloc _).append hown9 hgrow9); clear hown9 hgrow9; skip)
                go_roundw
                case rel => exact ⟨p, _, _, rfl, by omega, by simp; omega, HF.out.more (by omega)⟩
                case measure => simp [intOf]
      · have g0 : (s == 0) = false := by simpa using s0'
        clear cs
        go_wp2_with fail
        refine (take_any W bm sa n c (k1 + 1) 4 wP HP.out.mw (by have := HP.out.hi; omega) (by omega) (by omega)).mono ?_
        rintro e wU ⟨u, rfl, u0, u1, T⟩
        have HU := Lib.hid (HP.out.took T)
        clear T
        go_wp2_with fail
        go_loopw [3, 11] (fun v nn wr2 => ∃ (m : Nat) (ops2 : List OpT) (k' : Nat), nn = .int .i64 m ∧ m ≤ 3 ∧ ops2.length + m ≤ 7 ∧ INV W w bm sa n c k (40 + 8 * (3 - m)) v ops2 cw f wr2 k') (fun _ nn _ => (intOf nn).toNat)
        case atStart => exact ⟨u.toNat, _, _, by rw [Int.toNat_of_nonneg u0], by omega, by (try simp); omega, HU.out.more (by omega)⟩
        case round =>
          obtain ⟨m, ops2, k6, rfl, hm3', hol', HJ⟩ := hrel
          have HJ := Lib.hid HJ
          by_cases hm0 : m = 0
          · subst hm0
            go_wp2_with fail
            go_ret
            exact ⟨_, ops2, cw, f, k6, rfl, by omega, HJ.out.more (by omega)⟩
          · obtain ⟨p, rfl⟩ : ∃ p, m = p + 1 := ⟨m - 1, by omega⟩
            clear hm0
            have hpp : (0 : Int) < (p : Int) + 1 := by omega
            have hp3 : (p : Int) ≤ 2 := by omega
            go_wp2_with fail
            refine (take_any W bm sa n c k6 19 wr HJ.out.mw (by have := HJ.out.hi; omega) (by omega) (by omega)).mono ?_
            rintro e wB ⟨d, rfl, d0, d1, T⟩
            have HB := Lib.hid (HJ.out.took T)
            clear T
            have cs2 := HB.out.cs
            have csz2 := HB.out.bools.size
            go_wp2_with fail
            refine (source_any W bm sa n c (k6 + 1) cw f HB.out.bools wB HB.out.mw (by have := HB.out.hi; omega)).mono ?_
            rintro e wC ⟨a2, k7, rfl, T⟩
            have HC := Lib.hid (HB.out.took T)
            clear T
            clear cs2
            have cs2 := HC.out.cs
            go_wp2_with fail
            refine (take_any W bm sa n c k7 4 wC HC.out.mw (by have := HC.out.hi; omega) (by omega) (by omega)).mono ?_
            rintro e wD ⟨q, rfl, q0, q1, T⟩
            have HD := Lib.hid (HC.out.took T)
            clear T
            clear cs2
            have cs2 := HD.out.cs
            by_cases q0' : q = 0
            · subst q0'
              go_wp2_with fail
              refine (word_any W bm sa n c (k7 + 1) wD HD.out.mw (by have := HD.out.hi; omega)).mono ?_
              rintro e wE ⟨x2, k8, rfl, T⟩
              have HE := Lib.hid (HD.out.took T)
              clear T
              go_wp2_with (at_builtin; refine wpList_append_own _ rfl _ _ 36 rfl (w.heap.size + 1) 45 i0 (.agg #[.int .i64 0, .int .i64 0, .int .i64 0, .int .i64 0, .int .u32 0]) 5 40 Try.underlying36 hi hz0 hz1 hz2 rfl (by decide) _ _ _ rfl ((HE.out.alloc _).own) ⟨wE.heap.size, 0, none⟩ 1 1 (opC (1, d, 0, 0, x2)) rfl rfl (new_cells _ _) (opC_one _) (by unfold maxLen; omega) (by omega) (Nat.le_trans HE.out.big (by simp)) ?_; intro v9 w9 hown9 hgrow9 _; have HF := Lib.hid ((HE.out.alloc _).append hown9 hgrow9); clear hown9 hgrow9; skip)
              go_roundw
              case rel => exact ⟨p, _, _, rfl, by omega, by simp; omega, HF.out.more (by omega)⟩
              case measure => simp [intOf]
            · by_cases q1' : q = 1
              · subst q1'
                clear q0' cs2
                go_wp2_with (at_builtin; refine wpList_append_own _ rfl _ _ 36 rfl (w.heap.size + 1) 45 i0 (.agg #[.int .i64 0, .int .i64 0, .int .i64 0, .int .i64 0, .int .u32 0]) 5 40 Try.underlying36 hi hz0 hz1 hz2 rfl (by decide) _ _ _ rfl ((HD.out.alloc _).own) ⟨wD.heap.size, 0, none⟩ 1 1 (opC (2, d, a2, 0, 0)) rfl rfl (new_cells _ _) (opC_one _) (by unfold maxLen; omega) (by omega) (Nat.le_trans HD.out.big (by simp)) ?_; intro v9 w9 hown9 hgrow9 _; have HF := Lib.hid ((HD.out.alloc _).append hown9 hgrow9); clear hown9 hgrow9; skip)
                go_roundw
                case rel => exact ⟨p, _, _, rfl, by omega, by simp; omega, HF.out.more (by omega)⟩
                case measure => simp [intOf]
              · have g0' : (q == 0) = false := by simpa using q0'
                have g1' : (q == 1) = false := by simpa using q1'
                go_wp2_with fail
                refine (source_any W bm sa n c (k7 + 1) cw f HD.out.bools wD HD.out.mw (by have := HD.out.hi; omega)).mono ?_
                rintro e wE ⟨b2, k8, rfl, T⟩
                have HE := Lib.hid (HD.out.took T)
                clear T
                clear cs2
                go_wp2_with fail
                refine (take_any W bm sa n c k8 13 wE HE.out.mw (by have := HE.out.hi; omega) (by omega) (by omega)).mono ?_
                rintro e wF ⟨z2, rfl, z20, z21, T⟩
                have HG := Lib.hid (HE.out.took T)
                clear T
                go_wp2_with (at_builtin; refine wpList_append_own _ rfl _ _ 36 rfl (w.heap.size + 1) 45 i0 (.agg #[.int .i64 0, .int .i64 0, .int .i64 0, .int .i64 0, .int .u32 0]) 5 40 Try.underlying36 hi hz0 hz1 hz2 rfl (by decide) _ _ _ rfl ((HG.out.alloc _).own) ⟨wF.heap.size, 0, none⟩ 1 1 (opC (3 + z2, d, a2, b2, 0)) rfl rfl (new_cells _ _) (opC_one _) (by unfold maxLen; omega) (by omega) (Nat.le_trans HG.out.big (by simp)) ?_; intro v9 w9 hown9 hgrow9 _; have HF := Lib.hid ((HG.out.alloc _).append hown9 hgrow9); clear hown9 hgrow9; skip)
                go_roundw
                case rel => exact ⟨p, _, _, rfl, by omega, by simp; omega, HF.out.more (by omega)⟩
                case measure => simp [intOf]

    · obtain ⟨p, rfl⟩ : ∃ p, m = p + 1 := ⟨m - 1, by omega⟩
      clear hm0
      have hpp : (0 : Int) < (p : Int) + 1 := by omega
      have hp3 : (p : Int) ≤ 2 := by omega
      go_wp2_with fail
      refine (take_any W bm sa n c k1 8 wr HI.out.mw (by have := HI.out.hi; omega) (by omega) (by omega)).mono ?_
      rintro e wB ⟨t, rfl, t0, t1, T⟩
      have HB := Lib.hid (HI.out.took T)
      clear T
      have cs := HB.out.cs
      have csz := HB.out.bools.size
      go_wp2_with fail
      refine (source_any W bm sa n c (k1 + 1) cw f HB.out.bools wB HB.out.mw (by have := HB.out.hi; omega)).mono ?_
      rintro e wC ⟨a, k2, rfl, T⟩
      have HC := Lib.hid (HB.out.took T)
      clear T
      clear cs
      have cs := HC.out.cs
      go_wp2_with fail
      refine (take_any W bm sa n c k2 6 wC HC.out.mw (by have := HC.out.hi; omega) (by omega) (by omega)).mono ?_
      rintro e wD ⟨q, rfl, q0, q1, T⟩
      have HD := Lib.hid (HC.out.took T)
      clear T
      clear cs
      have cs := HD.out.cs
      by_cases q0' : q = 0
      · subst q0'
        go_wp2_with fail
        refine (word_any W bm sa n c (k2 + 1) wD HD.out.mw (by have := HD.out.hi; omega)).mono ?_
        rintro e wE ⟨x, k3, rfl, T⟩
        have HE := Lib.hid (HD.out.took T)
        clear T
        go_wp2_with (at_builtin; refine wpList_append_own _ rfl _ _ 36 rfl (w.heap.size + 1) 45 i0 (.agg #[.int .i64 0, .int .i64 0, .int .i64 0, .int .i64 0, .int .u32 0]) 5 40 Try.underlying36 hi hz0 hz1 hz2 rfl (by decide) _ _ _ rfl ((HE.out.alloc _).own) ⟨wE.heap.size, 0, none⟩ 1 1 (opC (1, 20 + t, 0, 0, x)) rfl rfl (new_cells _ _) (opC_one _) (by unfold maxLen; omega) (by omega) (Nat.le_trans HE.out.big (by simp)) ?_; intro v9 w9 hown9 hgrow9 _; have HF := Lib.hid ((HE.out.alloc _).append hown9 hgrow9); clear hown9 hgrow9; have cc := HF.out.cell t.toNat (by omega); have fr := HF.out.free t.toNat; skip)
        go_roundw
        case rel => exact ⟨p, _, _, _, _, rfl, by omega, by simp; omega, (HF.out.store t.toNat (by omega)).more (by omega)⟩
        case measure => simp [intOf]
      · by_cases q1' : q = 1
        · subst q1'
          clear q0'
          go_wp2_with fail
          refine (take_any W bm sa n c (k2 + 1) 2 wD HD.out.mw (by have := HD.out.hi; omega) (by omega) (by omega)).mono ?_
          rintro e wE ⟨z, rfl, z0, z1, T⟩
          have HE := Lib.hid (HD.out.took T)
          clear T
          clear cs
          go_wp2_with fail
          refine (word_any W bm sa n c (k2 + 1 + 1) wE HE.out.mw (by have := HE.out.hi; omega)).mono ?_
          rintro e wF ⟨x, k3, rfl, T⟩
          have HG := Lib.hid (HE.out.took T)
          clear T
          go_wp2_with (at_builtin; refine wpList_append_own _ rfl _ _ 36 rfl (w.heap.size + 1) 45 i0 (.agg #[.int .i64 0, .int .i64 0, .int .i64 0, .int .i64 0, .int .u32 0]) 5 40 Try.underlying36 hi hz0 hz1 hz2 rfl (by decide) _ _ _ rfl ((HG.out.alloc _).own) ⟨wF.heap.size, 0, none⟩ 1 1 (opC (16 + z, 20 + t, a, 0, x)) rfl rfl (new_cells _ _) (opC_one _) (by unfold maxLen; omega) (by omega) (Nat.le_trans HG.out.big (by simp)) ?_; intro v9 w9 hown9 hgrow9 _; have HF := Lib.hid ((HG.out.alloc _).append hown9 hgrow9); clear hown9 hgrow9; have cc := HF.out.cell t.toNat (by omega); have fr := HF.out.free t.toNat; skip)
          go_roundw
          case rel => exact ⟨p, _, _, _, _, rfl, by omega, by simp; omega, (HF.out.store t.toNat (by omega)).more (by omega)⟩
          case measure => simp [intOf]
        · by_cases q2' : q = 2
          · subst q2'
            clear q0' q1' cs
            go_wp2_with (at_builtin; refine wpList_append_own _ rfl _ _ 36 rfl (w.heap.size + 1) 45 i0 (.agg #[.int .i64 0, .int .i64 0, .int .i64 0, .int .i64 0, .int .u32 0]) 5 40 Try.underlying36 hi hz0 hz1 hz2 rfl (by decide) _ _ _ rfl ((HD.out.alloc _).own) ⟨wD.heap.size, 0, none⟩ 1 1 (opC (21, 0, a, 0, 0)) rfl rfl (new_cells _ _) (opC_one _) (by unfold maxLen; omega) (by omega) (Nat.le_trans HD.out.big (by simp)) ?_; intro v9 w9 hown9 hgrow9 _; have HF := Lib.hid ((HD.out.alloc _).append hown9 hgrow9); clear hown9 hgrow9; skip)
            go_roundw
            case rel => exact ⟨p, _, _, _, _, rfl, by omega, by simp; omega, HF.out.more (by omega)⟩
            case measure => simp [intOf]
          · have g0 : (q == 0) = false := by simpa using q0'
            have g1 : (q == 1) = false := by simpa using q1'
            have g2 : (q == 2) = false := by simpa using q2'
            go_wp2_with fail
            refine (source_any W bm sa n c (k2 + 1) cw f HD.out.bools wD HD.out.mw (by have := HD.out.hi; omega)).mono ?_
            rintro e wE ⟨b, k3, rfl, T⟩
            have HE := Lib.hid (HD.out.took T)
            clear T
            clear cs
            go_wp2_with fail
            refine (take_any W bm sa n c k3 13 wE HE.out.mw (by have := HE.out.hi; omega) (by omega) (by omega)).mono ?_
            rintro e wF ⟨z, rfl, z0, z1, T⟩
            have HG := Lib.hid (HE.out.took T)
            clear T
            go_wp2_with (at_builtin; refine wpList_append_own _ rfl _ _ 36 rfl (w.heap.size + 1) 45 i0 (.agg #[.int .i64 0, .int .i64 0, .int .i64 0, .int .i64 0, .int .u32 0]) 5 40 Try.underlying36 hi hz0 hz1 hz2 rfl (by decide) _ _ _ rfl ((HG.out.alloc _).own) ⟨wF.heap.size, 0, none⟩ 1 1 (opC (3 + z, 20 + t, a, b, 0)) rfl rfl (new_cells _ _) (opC_one _) (by unfold maxLen; omega) (by omega) (Nat.le_trans HG.out.big (by simp)) ?_; intro v9 w9 hown9 hgrow9 _; have HF := Lib.hid ((HG.out.alloc _).append hown9 hgrow9); clear hown9 hgrow9; have cc := HF.out.cell t.toNat (by omega); have fr := HF.out.free t.toNat; skip)
            go_roundw
            case rel => exact ⟨p, _, _, _, _, rfl, by omega, by simp; omega, (HF.out.store t.toNat (by omega)).more (by omega)⟩
            case measure => simp [intOf]
end Go.Proofs.Ytehehnhomlcimaa
