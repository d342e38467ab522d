/- RecoveryGuests is proved: for every input the law returns true, and each argument reads behind the call as it read before. No condition. -/
import Derived.Test.YtehehnhomlcimaaRows
import Derived.Test.YtehehnhomlcimaaZA
import Derived.ProofKit
import Derived.OpenShut
namespace Go.Proofs.Ytehehnhomlcimaa
open Go.ChangeShapes Go.WideShapes Go.ChangeAt Go.RowKit

theorem Try.own : ownKnob Try.prog.godebug = none := by kernel_rfl
theorem Try.laidOut : laidOutB Try.prog = true := by kernel_rfl
theorem Try.cells3 : Try.prog.cellsOf 3 = 1 := by kernel_rfl
theorem Try.cells24 : Try.prog.cellsOf 24 = 1 := by kernel_rfl
theorem Try.cells23 : Try.prog.cellsOf 23 = 3 := by kernel_rfl
theorem Try.cells25 : Try.prog.cellsOf 25 = 16 := by kernel_rfl
theorem Try.cells26 : Try.prog.cellsOf 26 = 4 := by kernel_rfl
theorem Try.cells28 : Try.prog.cellsOf 28 = 24 := by kernel_rfl
theorem Try.cells30 : Try.prog.cellsOf 30 = 6 := by kernel_rfl
theorem Try.cells31 : Try.prog.cellsOf 31 = 28 := by kernel_rfl
theorem Try.cells32 : Try.prog.cellsOf 32 = 64 := by kernel_rfl
theorem Try.cells33 : Try.prog.cellsOf 33 = 123 := by kernel_rfl

section
variable {H : Type} {enc : TypeId × Value → H} {P : Program} {w : World} {base : Nat} {spare : Nat → Bool} {held : Bool}
/-- A row of cells that is an array of integers. -/
theorem ints_row {t e n fuel : Nat} {k : IntKind} {cs : List Value} {x : DataW H × List MemPlace} (ht : P.underlying t = some (.array n e)) (he : P.underlying e = some (.int k)) (hc : P.cellsOf e = 1)
    (hn : P.cellsOf t = n) (h : DataW.trod enc P w base spare held fuel t cs = some x) : cs.length = n ∧ (∀ (i : Nat), i < n → ∃ z : Int, cs[i]? = some (.int k z) ∧ (Lit.int k z).wf = true) ∧ (x.2 = []) := by
  obtain ⟨xs, m, -, hx, hlen, hxl, hi⟩ := DataW.trod_array ht h
  rw [hn] at hlen
  have key : ∀ (i : Nat), i < n → ∃ z : Int, cs[i]? = some (.int k z) ∧ (Lit.int k z).wf = true ∧ xs[i]? = some (.lit (.int k z), []) := by
    intro i hin
    have h1 := hi i hin
    have hxi : xs[i]? = some (xs[i]'(by omega)) := List.getElem?_eq_getElem (by omega)
    rw [hxi] at h1
    obtain ⟨z, hz, hzx, hw⟩ := DataW.trod_int he h1
    refine ⟨z, ?_, hw, by rw [hxi, hzx]⟩
    rw [hc, Nat.mul_one] at hz
    have h2 : ((cs.drop i).take 1)[0]? = some (.int k z) := by rw [hz]; rfl
    rw [List.getElem?_take, if_pos (by omega), List.getElem?_drop] at h2
    simpa using h2
  refine ⟨hlen, fun i hin => ?_, ?_⟩
  · obtain ⟨z, a, b, _⟩ := key i hin
    exact ⟨z, a, b⟩
  · rw [hx]
    show xs.flatMap (·.2) = []
    rw [List.flatMap_eq_nil_iff]
    intro y hy
    obtain ⟨i, hi', rfl⟩ := List.mem_iff_getElem.1 hy
    obtain ⟨z, _, _, c⟩ := key i (by omega)
    rw [List.getElem?_eq_getElem hi'] at c
    rw [Option.some.inj c]
/-- A field of a struct, told at its cells. -/
theorem field_at {t fuel : Nat} {fs : Array Field} {cs : List Value} {x : DataW H × List MemPlace} (ht : P.underlying t = some (.struct fs)) (h : DataW.trod enc P w base spare held fuel t cs = some x) (i tt o c : Nat) (hf : ∃ f, fs[i]? = some f ∧ f.type = tt ∧ f.offset = o) (hc : P.cellsOf tt = c) :
    ∃ (m : Nat) (y : DataW H × List MemPlace), DataW.trod enc P w base spare held m tt ((cs.drop o).take c) = some y := by
  obtain ⟨f, hf, rfl, rfl⟩ := hf
  subst hc
  obtain ⟨xs, m, -, -, -, hxl, hi⟩ := DataW.trod_struct ht h
  have hlt : i < xs.length := by rw [hxl]; exact (Array.getElem?_eq_some_iff.1 hf).1
  exact ⟨m, xs[i], (hi i f hf).trans (List.getElem?_eq_getElem hlt)⟩
theorem sub_get {cs : List Value} {o n i : Nat} {v : Value} (h : ((cs.drop o).take n)[i]? = some v) (hi : i < n) : cs[o + i]? = some v := by
  rwa [List.getElem?_take, if_pos hi, List.getElem?_drop] at h
/-- An integer field of a struct. -/
theorem int_at {t fuel : Nat} {fs : Array Field} {cs : List Value} {x : DataW H × List MemPlace} (ht : P.underlying t = some (.struct fs)) (h : DataW.trod enc P w base spare held fuel t cs = some x) (i tt o : Nat) (hf : ∃ f, fs[i]? = some f ∧ f.type = tt ∧ f.offset = o)
    {k : IntKind} (he : P.underlying tt = some (.int k)) : ∃ z : Int, cs[o]? = some (.int k z) ∧ (Lit.int k z).wf = true := by
  obtain ⟨m, y, hy⟩ := field_at ht h i tt o _ hf rfl
  obtain ⟨z, hz, -, hw⟩ := DataW.trod_int he hy
  refine ⟨z, ?_, hw⟩
  have h2 : ((cs.drop o).take (P.cellsOf tt))[0]? = some (.int k z) := by rw [hz]; rfl
  rw [List.getElem?_take] at h2
  split at h2
  · rw [List.getElem?_drop] at h2; simpa using h2
  · cases h2
end

theorem wf_u32 {z : Int} (h : (Lit.int .u32 z).wf = true) : 0 ≤ z ∧ z < 4294967296 := by
  simp [Lit.wf, IntKind.min, IntKind.max, IntKind.signed, IntKind.bits] at h
  omega
theorem wf_i64 {z : Int} (h : (Lit.int .i64 z).wf = true) : -9223372036854775808 ≤ z ∧ z ≤ 9223372036854775807 := by
  simp [Lit.wf, IntKind.min, IntKind.max, IntKind.signed, IntKind.bits] at h
  omega
/-- The cells of the third argument. -/
theorem xok_of {H : Type} {enc : TypeId × Value → H} {w : World} {base : Nat} {spare : Nat → Bool} {held : Bool} {X : Array Value} {d : DataW H} {p : List MemPlace} (hs : X.size = 123)
    (h : DataW.Trod enc Try.prog w base spare held 33 (.agg X) d p) : XOK X := by
  obtain ⟨fuel, h⟩ := h
  have e0 : (Value.agg X).cells.toList = X.toList := rfl
  rw [e0] at h
  obtain ⟨k, hk, _⟩ := int_at Try.underlying33 h 0 3 0 ⟨_, rfl, rfl, rfl⟩ Try.underlying3
  obtain ⟨m1, y1, g1⟩ := field_at Try.underlying33 h 1 28 1 24 ⟨_, rfl, rfl, rfl⟩ Try.cells28
  obtain ⟨m2, y2, g2⟩ := field_at Try.underlying33 h 2 30 25 6 ⟨_, rfl, rfl, rfl⟩ Try.cells30
  obtain ⟨m3, y3, g3⟩ := field_at Try.underlying33 h 3 31 31 28 ⟨_, rfl, rfl, rfl⟩ Try.cells31
  obtain ⟨m4, y4, g4⟩ := field_at Try.underlying33 h 4 32 59 64 ⟨_, rfl, rfl, rfl⟩ Try.cells32
  obtain ⟨pc, hpc, bpc⟩ := int_at Try.underlying28 g1 0 24 0 ⟨_, rfl, rfl, rfl⟩ Try.underlying24
  obtain ⟨f, hf, bf⟩ := int_at Try.underlying28 g1 2 24 17 ⟨_, rfl, rfl, rfl⟩ Try.underlying24
  obtain ⟨st, hst, _⟩ := int_at Try.underlying28 g1 4 3 22 ⟨_, rfl, rfl, rfl⟩ Try.underlying3
  obtain ⟨du, hdu, _⟩ := int_at Try.underlying28 g1 5 3 23 ⟨_, rfl, rfl, rfl⟩ Try.underlying3
  obtain ⟨m5, y5, g5⟩ := field_at Try.underlying28 g1 1 25 1 16 ⟨_, rfl, rfl, rfl⟩ Try.cells25
  obtain ⟨m6, y6, g6⟩ := field_at Try.underlying28 g1 3 26 18 4 ⟨_, rfl, rfl, rfl⟩ Try.cells26
  obtain ⟨-, hR, -⟩ := ints_row Try.underlying25 Try.underlying24 Try.cells24 Try.cells25 g5
  obtain ⟨-, hC, -⟩ := ints_row Try.underlying26 Try.underlying24 Try.cells24 Try.cells26 g6
  obtain ⟨-, hV, -⟩ := ints_row Try.underlying31 Try.underlying24 Try.cells24 Try.cells31 g3
  obtain ⟨-, hX, -⟩ := ints_row Try.underlying32 Try.underlying24 Try.cells24 Try.cells32 g4
  obtain ⟨s0, hs0, _⟩ := int_at Try.underlying30 g2 0 3 0 ⟨_, rfl, rfl, rfl⟩ Try.underlying3
  obtain ⟨s1, hs1, _⟩ := int_at Try.underlying30 g2 1 3 1 ⟨_, rfl, rfl, rfl⟩ Try.underlying3
  obtain ⟨s2, hs2, _⟩ := int_at Try.underlying30 g2 2 3 2 ⟨_, rfl, rfl, rfl⟩ Try.underlying3
  obtain ⟨s3, hs3, bs3⟩ := int_at Try.underlying30 g2 3 24 3 ⟨_, rfl, rfl, rfl⟩ Try.underlying24
  obtain ⟨s4, hs4, bs4⟩ := int_at Try.underlying30 g2 4 24 4 ⟨_, rfl, rfl, rfl⟩ Try.underlying24
  obtain ⟨s5, hs5, _⟩ := int_at Try.underlying30 g2 5 3 5 ⟨_, rfl, rfl, rfl⟩ Try.underlying3
  have key : ∀ i, i < 123 → ∃ n : Int, X[i]? = some (.int (kAt i) n) ∧ (kAt i = .u32 → 0 ≤ n ∧ n < 4294967296) := by
    intro i hi
    have a64 : ∀ {j : Nat} {z : Int}, i = j → (kAt j = .i64) → X.toList[j]? = some (.int .i64 z) → ∃ n : Int, X[i]? = some (.int (kAt i) n) ∧ (kAt i = .u32 → 0 ≤ n ∧ n < 4294967296) := by
      intro j z e hk h1
      subst e
      exact ⟨z, by rw [hk, ← Array.getElem?_toList]; exact h1, fun h => by rw [hk] at h; cases h⟩
    have a32 : ∀ {j : Nat} {z : Int}, i = j → (kAt j = .u32) → X.toList[j]? = some (.int .u32 z) → (Lit.int .u32 z).wf = true → ∃ n : Int, X[i]? = some (.int (kAt i) n) ∧ (kAt i = .u32 → 0 ≤ n ∧ n < 4294967296) := by
      intro j z e hk h1 h2
      subst e
      exact ⟨z, by rw [hk, ← Array.getElem?_toList]; exact h1, fun _ => wf_u32 h2⟩
    by_cases c0 : i = 0
    · exact a64 c0 rfl hk
    by_cases c1 : i = 1
    · exact a32 c1 rfl (sub_get hpc (by decide)) bpc
    by_cases c2 : i < 18
    · obtain ⟨z, hz, hw⟩ := hR (i - 2) (by omega)
      have h1 := sub_get (sub_get hz (by omega)) (by omega)
      exact a32 (j := 1 + (1 + (i - 2))) (by omega) (by unfold kAt; rw [if_neg (by omega)]) h1 hw
    by_cases c3 : i = 18
    · exact a32 c3 rfl (sub_get hf (by decide)) bf
    by_cases c4 : i < 23
    · obtain ⟨z, hz, hw⟩ := hC (i - 19) (by omega)
      have h1 := sub_get (sub_get hz (by omega)) (by omega)
      exact a32 (j := 1 + (18 + (i - 19))) (by omega) (by unfold kAt; rw [if_neg (by omega)]) h1 hw
    by_cases c5 : i = 23
    · exact a64 c5 rfl (sub_get hst (by decide))
    by_cases c6 : i = 24
    · exact a64 c6 rfl (sub_get hdu (by decide))
    by_cases c7 : i = 25
    · exact a64 c7 rfl (sub_get hs0 (by decide))
    by_cases c8 : i = 26
    · exact a64 c8 rfl (sub_get hs1 (by decide))
    by_cases c9 : i = 27
    · exact a64 c9 rfl (sub_get hs2 (by decide))
    by_cases c10 : i = 28
    · exact a32 c10 rfl (sub_get hs3 (by decide)) bs3
    by_cases c11 : i = 29
    · exact a32 c11 rfl (sub_get hs4 (by decide)) bs4
    by_cases c12 : i = 30
    · exact a64 c12 rfl (sub_get hs5 (by decide))
    by_cases c13 : i < 59
    · obtain ⟨z, hz, hw⟩ := hV (i - 31) (by omega)
      have h1 := sub_get hz (by omega)
      exact a32 (j := 31 + (i - 31)) (by omega) (by unfold kAt; rw [if_neg (by omega)]) h1 hw
    · obtain ⟨z, hz, hw⟩ := hX (i - 59) (by omega)
      have h1 := sub_get hz (by omega)
      exact a32 (j := 59 + (i - 59)) (by omega) (by unfold kAt; rw [if_neg (by omega)]) h1 hw
  refine ⟨hs, fun i h => ?_⟩
  obtain ⟨n, hn, hb⟩ := key i (by omega)
  exact ⟨n, by rw [Array.getElem?_eq_getElem h] at hn; exact Option.some.inj hn, hb⟩
theorem okWide_array {P : Program} {w : World} {r : Reach} {base t n e : Nat} {v : Value} (ht : P.underlying t = some (.array n e)) (h : Value.okWide P w r base t v) : ∃ cs, v = .agg cs ∧ cs.size = P.cellsOf t := by
  simp only [Value.okWide, ht] at h
  obtain ⟨cs, h1, h2, _⟩ := h
  exact ⟨cs, h1, h2⟩

theorem three_ints {H : Type} {enc : TypeId × Value → H} {w : World} {base : Nat} {spare : Nat → Bool} {held : Bool} {Q : Array Value} {d : DataW H} {p : List MemPlace} (hs : Q.size = 3)
    (h : DataW.Trod enc Try.prog w base spare held 23 (.agg Q) d p) : ∃ a b c : Int, Q = #[.int .i64 a, .int .i64 b, .int .i64 c] := by
  obtain ⟨fuel, h⟩ := h
  have e0 : (Value.agg Q).cells.toList = Q.toList := rfl
  rw [e0] at h
  obtain ⟨-, hQ, -⟩ := ints_row Try.underlying23 Try.underlying3 Try.cells3 Try.cells23 h
  obtain ⟨a, ha, _⟩ := hQ 0 (by omega)
  obtain ⟨b, hb, _⟩ := hQ 1 (by omega)
  obtain ⟨c, hc, _⟩ := hQ 2 (by omega)
  rw [Array.getElem?_toList] at ha hb hc
  refine ⟨a, b, c, Array.ext_getElem? fun i => ?_⟩
  match i with
  | 0 => exact ha
  | 1 => exact hb
  | 2 => exact hc
  | k + 3 => rw [Array.getElem?_eq_none (by omega), Array.getElem?_eq_none (by simp)]

section
variable {H : Type} {enc : TypeId × Value → H} {P : Program}
/-- The post of a call that turns nothing that was there. -/
theorem post_below {f : Func} {s : ChangeSpec} {apart fresh handsOn again : Bool} {W W' : World} {args : Array Value} {v : Value} {ds gs : List (DataW H)} {before pa pv : List MemPlace}
    (hW : DataW.Whole enc P f.params.toList s.vars apart W args.toList ds gs before)
    (hres : ∀ (b : Nat) (sp : Nat → Bool) (hd : Bool), DataW.TrodAll enc P W' b sp hd f.resultTypes.toList (v.resultList f.resultTypes.size) (s.fn H (ds ++ gs)).results [])
    (hargs : ∀ sp : Nat → Bool, (∀ p ∈ before, sp p.block = true) → DataW.TrodAll enc P W' 0 sp true f.params.toList args.toList (s.fn H (ds ++ gs)).args pa)
    (hvars : ∀ sp : Nat → Bool, (∀ p ∈ before, sp p.block = true) → DataW.TrodVars enc P W' sp s.vars (s.fn H (ds ++ gs)).vars pv)
    (hps : before = pa ++ pv) (hb : Below W.heap.size W W')
    (hok : ∀ (j : Nat) (t : TypeId) (r : Value), f.resultTypes[j]? = some t → (v.resultList f.resultTypes.size)[j]? = some r → Value.okWide P W' .any 0 t r) :
    s.post enc P f apart fresh handsOn again W args v W' := by
  have hlt : ∀ p ∈ before, p.block < W.heap.size := fun p hp => hW.lt p hp
  have hold : ∀ p ∈ before, (fun b => decide (b < W.heap.size)) p.block = true := fun p hp => by simpa using hlt p hp
  refine ⟨ds, gs, before, [], pa, pv, hW, hres _ _ _, hargs _ hold, hvars _ hold, World.keptBut_mono (fun p hp => ⟨hp, ?_⟩) (hb.frame (· ∈ before)), fun _ => ?_⟩
  · rw [hps, List.mem_append] at hp
    exact Or.inr hp
  · obtain ⟨_, _, _, _, _, hz, hn⟩ := hW
    refine ⟨hok, _, _, ([] ++ pa) ++ pv, ⟨[] ++ pa, pv, trodAll_append (hargs _ (fun _ _ => rfl)) (hres _ _ _), hvars _ (fun _ _ => rfl), rfl, ?_, ?_⟩, ?_⟩
    · intro b off hp
      have hin : MemPlace.cell b off ∈ before := by rw [hps]; simpa using hp
      rw [hb.frozen (hlt _ hin)]
      exact hz b off hin
    · intro ha
      have := hn ha
      rw [hps] at this
      simpa using this
    · intro p hp _
      rw [hps]
      simpa using hp
end

set_option maxRecDepth 100000 in
theorem recoveryGuests_lifted (os : Os) (started : os.Started) (H : Type) (enc : TypeId × Value → H) :
    ReturnsInHanded {} Try.checked os 3 .any (Rows.recoveryGuestsSpec.pre6 enc Try.prog Try.f3 Rows.recoveryGuestsRow.domain false) (Rows.recoveryGuestsSpec.post enc Try.prog Try.f3 false true false false) := by
  refine returnsInHanded_of_change (C := Try.checked) Try.own started (by kernel_rfl) Try.func3
    (ChangeSpec.witness6 (enc := enc) (C := Try.checked) false ⟨#[], #[.slice none 0 0, .agg #[.int .i64 0, .int .i64 0, .int .i64 0], .agg #[.int .i64 0, .int .u32 0, .int .u32 0, .int .u32 0, .int .u32 0, .int .u32 0, .int .u32 0, .int .u32 0, .int .u32 0, .int .u32 0, .int .u32 0, .int .u32 0, .int .u32 0, .int .u32 0, .int .u32 0, .int .u32 0, .int .u32 0, .int .u32 0, .int .u32 0, .int .u32 0, .int .u32 0, .int .u32 0, .int .u32 0, .int .i64 0, .int .i64 0, .int .i64 0, .int .i64 0, .int .i64 0, .int .u32 0, .int .u32 0, .int .i64 0, .int .u32 0, .int .u32 0, .int .u32 0, .int .u32 0, .int .u32 0, .int .u32 0, .int .u32 0, .int .u32 0, .int .u32 0, .int .u32 0, .int .u32 0, .int .u32 0, .int .u32 0, .int .u32 0, .int .u32 0, .int .u32 0, .int .u32 0, .int .u32 0, .int .u32 0, .int .u32 0, .int .u32 0, .int .u32 0, .int .u32 0, .int .u32 0, .int .u32 0, .int .u32 0, .int .u32 0, .int .u32 0, .int .u32 0, .int .u32 0, .int .u32 0, .int .u32 0, .int .u32 0, .int .u32 0, .int .u32 0, .int .u32 0, .int .u32 0, .int .u32 0, .int .u32 0, .int .u32 0, .int .u32 0, .int .u32 0, .int .u32 0, .int .u32 0, .int .u32 0, .int .u32 0, .int .u32 0, .int .u32 0, .int .u32 0, .int .u32 0, .int .u32 0, .int .u32 0, .int .u32 0, .int .u32 0, .int .u32 0, .int .u32 0, .int .u32 0, .int .u32 0, .int .u32 0, .int .u32 0, .int .u32 0, .int .u32 0, .int .u32 0, .int .u32 0, .int .u32 0, .int .u32 0, .int .u32 0, .int .u32 0, .int .u32 0, .int .u32 0, .int .u32 0, .int .u32 0, .int .u32 0, .int .u32 0, .int .u32 0, .int .u32 0, .int .u32 0, .int .u32 0, .int .u32 0, .int .u32 0, .int .u32 0, .int .u32 0, .int .u32 0, .int .u32 0, .int .u32 0, .int .u32 0, .int .u32 0, .int .u32 0, .int .u32 0, .int .u32 0, .int .u32 0, .int .u32 0]], []⟩ 8 (by kernel_rfl) (by kernel_rfl) (by kernel_rfl) (by kernel_rfl)) ?_
  intro W base args ds gs before hval0 hW _ _
  have hval : ∀ (j : Nat) t v, Try.f3.params[j]? = some t → args[j]? = some v → Value.okWide Try.prog W .any base t v := hval0
  have hW' := hW
  obtain ⟨p, q, hA0, hV, rfl, _, _⟩ := hW
  have hA : DataW.TrodAll enc Try.prog W 0 (fun _ => true) true Try.f3.params.toList args.toList ds p := hA0
  rw [Try.params3] at hA hval
  obtain ⟨v0, v1, v2, d0, d1, d2, p0, p1, p2, rfl, rfl, rfl, h0, h1, h2⟩ := trodAll_three hA
  obtain ⟨rfl, rfl⟩ := trodVars_none hV
  clear hA0 hval0
  simp only [List.append_nil] at hW'
  have hlt : ∀ x ∈ p0 ++ p1 ++ p2, x.block < W.heap.size := fun x hx => hW'.lt x hx
  have harg : ∀ (W' : World), Below W.heap.size W W' → ∀ sp : Nat → Bool, (∀ x ∈ p0 ++ p1 ++ p2, sp x.block = true) → DataW.TrodAll enc Try.prog W' 0 sp true Try.f3.params.toList [v0, v1, v2] [d0, d1, d2] (p0 ++ p1 ++ p2) := by
    intro W' hb sp hsp
    have one : ∀ {t : TypeId} {v : Value} {d : DataW H} {ps : List MemPlace}, Try.prog.readableRec t = true → t < Try.prog.types.size → (∀ x ∈ ps, x ∈ p0 ++ p1 ++ p2) → DataW.Trod enc Try.prog W 0 (fun _ => true) true t v d ps → DataW.Trod enc Try.prog W' 0 sp true t v d ps :=
      fun hr hrow hin h => WideElems.Trod_stays Try.laidOut hr hrow h (fun x hx => hb.same (hlt x (hin x hx))) (fun x hx => hsp x (hin x hx))
    rw [List.append_assoc]
    exact trodAll_mk3 (one (by kernel_rfl) (of_decide_eq_true (by kernel_rfl)) (fun x hx => by simp [hx]) h0) (one (by kernel_rfl) (of_decide_eq_true (by kernel_rfl)) (fun x hx => by simp [hx]) h1) (one (by kernel_rfl) (of_decide_eq_true (by kernel_rfl)) (fun x hx => by simp [hx]) h2)
  obtain ⟨Q, rfl, hQs⟩ := okWide_array Try.underlying23 (hval 1 23 v1 rfl rfl)
  obtain ⟨X, rfl, hXs⟩ := okWide_struct Try.underlying33 (hval 2 33 v2 rfl rfl)
  rw [Try.cells23] at hQs
  rw [Try.cells33] at hXs
  have hX := xok_of hXs h2
  obtain ⟨qa, qb, qc, rfl⟩ := three_ints hQs h1
  obtain ⟨sa, n, c, rfl⟩ := okWide_slice Try.underlying22 (hval 0 22 v0 rfl rfl)
  have hs : NumsAt W sa n ∧ n ≤ c ∧ c ≤ 9223372036854775807 ∧ ((sa = none ∧ n = 0 ∧ c = 0) ∨ ∃ a, sa = some a) := by
    obtain ⟨fuel, hf⟩ := h0
    rcases open_ints Try.underlying22 Try.underlying3 Try.cells3 hf with ⟨hcs, _⟩ | ⟨a, len', cap', zs, hcs, _, hl, hm, hz, _, hcell, hwz⟩
    · simp [Value.cells] at hcs
      obtain ⟨rfl, rfl, rfl⟩ := hcs
      exact ⟨fun h => absurd h (by omega), Nat.le_refl _, by omega, .inl ⟨rfl, rfl, rfl⟩⟩
    · simp [Value.cells] at hcs
      obtain ⟨rfl, rfl, rfl⟩ := hcs
      unfold maxLen at hm
      simp only [if_true] at hz
      refine ⟨fun hn => ?_, hl, hm, .inr ⟨_, rfl⟩⟩
      have hsp : a.spot = none := World.cell?_spot (by have := hcell 0 (by omega); simpa [Addr.add] using this)
      obtain ⟨b, o, sp⟩ := a
      dsimp only at hsp
      subst hsp
      refine ⟨b, o, rfl, fun i hi => ⟨zs.getD i 0, ?_, ?_⟩⟩
      · have e : (⟨b, o, none⟩ : Addr).add i = ⟨b, o + i, none⟩ := by unfold Addr.add; split <;> simp_all
        rw [← e]; exact hcell i (by omega)
      · have hm' : zs.getD i 0 ∈ zs := by
          rw [List.getD_eq_getElem?_getD, List.getElem?_eq_getElem (by omega)]
          exact List.getElem_mem _
        have := wf_i64 (hwz _ hm')
        omega
  refine (Law_any W sa n c hs.1 hs.2.1 hs.2.2.1 hs.2.2.2 qa qb qc X hX).mono fun e W' ⟨he, hb⟩ => ?_
  subst he
  exact ⟨_, rfl, post_below (pa := p0 ++ p1 ++ p2) (pv := []) hW' (fun _ _ _ => trodAll_mk1 (shut_bool Try.underlying4 _)) (harg W' hb) (fun _ _ => rfl) (by simp) hb (ok_one (by kernel_rfl) rfl (okWide_bool_mk Try.underlying4 _))⟩

theorem recoveryGuests_holds : Rows.RecoveryGuestsSaid :=
  OpenClaim.holds_of_wide 3 Try.f3 rfl rfl rfl rfl rfl rfl rfl ⟨rfl, rfl, rfl, rfl, rfl⟩ rfl rfl rfl rfl rfl (by kernel_rfl) Try.func3 (by kernel_rfl)
    (of_decide_eq_true (by kernel_rfl)) (by unfold Func.isWrapper; rw [if_neg (by decide +kernel)]; exact ⟨rfl, rfl⟩)
    (fun os started H enc _ => recoveryGuests_lifted os started H enc)
#print axioms recoveryGuests_holds
end Go.Proofs.Ytehehnhomlcimaa
