/- Contract of the program's 'Guest'. -/
import Derived.Test.YtehehnhomlcimaaF
import Derived.Deep.MidRow
namespace Go.Proofs.Ytehehnhomlcimaa
open Go.RowKit
attribute [local go_sem ↓ high] loadAt25 storeAt25 ld25 st25 loadAt28 storeAt28 ld28 st28 loadAt31 storeAt31 ld31 st31 loadAt32 storeAt32 ld32 st32 copyB copy35
attribute [local go_sem] allOne_inst World.cs_alloc_at World.cs_alloc_past World.cs_drew World.plainRow_alloc_at World.plainRow_alloc_past World.plainRow_drew World.setRow_alloc_at World.setRow_alloc_past World.setRow_drew spl_all extract_all size_spl World.cs_setCell_same World.cs_setCell_other World.plainRow_setCell World.cs_setRow_same World.cs_setRow_other World.plainRow_setRow World.size_setRow' World.cell_setRow World.frozen_setRow ne_up1 ne_dn1 ne_up2 ne_dn2 ne_up3 ne_dn3 ne_up4 ne_dn4 ne_up5 ne_dn5 ne_up6 ne_dn6 ne_up7 ne_dn7 ne_up8 ne_dn8 ne_up9 ne_dn9 ne_up10 ne_dn10 ne_up11 ne_dn11 ne_up12 ne_dn12 ne_up13 ne_dn13 ne_up14 ne_dn14 ne_up15 ne_dn15 lt_up2 lt_up3 lt_up4 lt_up5 lt_up6 lt_up7 lt_up8 lt_up9 lt_up10 lt_up11 lt_up12 lt_up13 lt_up14 lt_up15
attribute [local go_sem ↓ high] buildB58 bd58
instance (kind f : Int) (st vs : Array Value) [AllOne st] [AllOne vs] : AllOne (leaveF kind f st vs) := by
  unfold leaveF
  split
  · infer_instance
  · split <;> infer_instance
theorem size_leaveF (kind f : Int) (st vs : Array Value) : (leaveF kind f st vs).size = st.size := by
  unfold leaveF
  split
  · simp [size_spl]
  · split <;> simp [size_spl]
theorem leaveF_22 (kind f : Int) (st vs : Array Value) (hst : st.size = 24) (steps : Int) (h : st[22] = .int .i64 steps) (h' : 22 < (leaveF kind f st vs).size) : (leaveF kind f st vs)[22] = .int .i64 steps := by
  have e : (leaveF kind f st vs)[22]? = some (.int .i64 steps) := by
    unfold leaveF
    split
    · rw [Array.getElem?_setIfInBounds]
      simp [size_spl, hst, spl_get, h]
      rw [Array.getElem?_eq_none (by simp; omega)]; rfl
    · split
      · rw [Array.getElem?_setIfInBounds, Array.getElem?_setIfInBounds]
        simp [size_spl, hst, spl_get, h]
        rw [Array.getElem?_eq_none (by simp; omega)]; rfl
      · simp [hst, h]
  rw [Array.getElem?_eq_getElem h'] at e
  exact Option.some.inj e
/-- The state that both 'Guest' return. -/
def outG (kind f : Int) (st vs : Array Value) (pc steps done : Int) : Array Value :=
  ((leaveF kind f st vs).setIfInBounds 0 (.int .u32 pc)).setIfInBounds 22 (.int .i64 (wrap64 (steps + done)))

/-- What a call of 'Guest' is given. -/
structure GIn (w : World) (st vs ctx : Array Value) (V C : Nat → Int) (steps : Int) (sa so : Option Addr) (n m : Nat) (At : Nat → Int) (code : Int) : Prop where
  hst : st.size = 24
  ost : AllOne st
  hvs : vs.size = 28
  ovs : AllOne vs
  hctx : ctx.size = 64
  octx : AllOne ctx
  hV : ∀ (i : Nat) (h : i < vs.size), vs[i] = .int .u32 (V i)
  bV : ∀ i, 0 ≤ V i ∧ V i < 4294967296
  hC : ∀ (i : Nat) (h : i < ctx.size), ctx[i] = .int .u32 (C i)
  bC : ∀ i, 0 ≤ C i ∧ C i < 4294967296
  h22 : st[22] = .int .i64 steps
  at_ : AtIs w sa n At
  last : LastIs w so m code
  small : m ≤ 1000000000000

theorem GIn.below {w w1 : World} {st vs ctx : Array Value} {V C : Nat → Int} {steps : Int} {sa so : Option Addr} {n m : Nat} {At : Nat → Int} {code : Int} (h : GIn w st vs ctx V C steps sa so n m At code) (hb : Below w.heap.size w w1) :
    GIn w1 st vs ctx V C steps sa so n m At code := { h with at_ := h.at_.below hb, last := h.last.below hb }

theorem size_32 : (Try.prog.info? 32).map (·.size) = some 64 := by kernel_rfl
theorem _root_.Go.World.rangeAt.below {w w1 : World} {b o : Nat} {cs : List Value} (h : w.rangeAt b o cs) (hb : Below w.heap.size w w1) (hlt : b < w.heap.size) : w1.rangeAt b o cs := fun j v hj => by
  rw [hb.cell (p := ⟨b, o + j, none⟩) hlt]; exact h j v hj
theorem rangeAt_cs {w : World} {b : Nat} {c : Array Value} (h : w.cs b = c) : w.rangeAt b 0 c.toList := fun j v hj => by
  rw [World.cell_cs, h, Nat.zero_add]; simpa using hj
theorem ld_rangeAt {w : World} {b : Nat} {c : Array Value} (hc : c.size = 64) (h : w.rangeAt b 0 c.toList) : (ldB 32 (.pointer (some ⟨b, 0, none⟩))).run Try.prog w = .ok (.agg c) w := by
  have e := run_loadVar_mid (P := Try.prog) w b 0 32 c.toList _ h Try.underlying32 rfl (by rw [Array.length_toList, hc]; exact size_32)
  simp only [ldB, Instr.loadAt, Instr.sureAddr, Sem.run_bind, Sem.run_pure, Result.andThen_ok, e, Array.toArray_toList]
theorem rules_at (k : Nat) (f : FuncId) (w : World) (hk : (#[Value.nilFunc, .func (.func 24) #[] #[], .func (.func 21) #[] #[], .func (.func 21) #[] #[], .func (.func 23) #[] #[], .func (.func 25) #[] #[], .func (.func 23) #[] #[]] : Array Value)[k]? = some (.func (.func f) #[] #[])) :
    Calls Try.prog 14 #[] w fun e w' => e = .returned (.slice (some ⟨w.heap.size, 0, none⟩) 7 7) ∧ Below w.heap.size w w' ∧ w'.cell? ⟨w.heap.size, k, none⟩ = some (.func (.func f) #[] #[]) := by
  refine (rules_any w).mono ?_
  rintro e w' ⟨he, rfl⟩
  exact ⟨he, (Below.refl _ _).alloc (Nat.le_refl _) _, by rw [World.cell?_alloc_at _ _ _ _ rfl]; exact hk⟩
structure GR (W : World) (st vs ctx : Array Value) (V C : Nat → Int) (steps : Int) (sa so : Option Addr) (n m : Nat) (At : Nat → Int) (code : Int) (w : World) : Prop where
  below : Below W.heap.size W w
  in_ : GIn w st vs ctx V C steps sa so n m At code
  st_ : w.cs W.heap.size = st
  vs_ : w.cs (W.heap.size + 1 + 1 + 1) = vs
  out_ : (w.cs (W.heap.size + 1 + 1 + 1 + 1 + 1)).size = 24
  pl_ : w.plainRow (W.heap.size + 1 + 1 + 1 + 1 + 1) = true
  big : W.heap.size + 1 + 1 + 1 + 1 + 1 < w.heap.size
theorem GR.step {W w w1 : World} {st vs ctx : Array Value} {V C : Nat → Int} {steps : Int} {sa so : Option Addr} {n m : Nat} {At : Nat → Int} {code : Int} (hb : Below w.heap.size w w1) (h : GR W st vs ctx V C steps sa so n m At code w) : GR W st vs ctx V C steps sa so n m At code w1 :=
  have hbig := h.big
  { below := below_call h.below hb, in_ := h.in_.below hb, st_ := ((bcs hb).1 _ (by omega)).trans h.st_, vs_ := ((bcs hb).1 _ (by omega)).trans h.vs_,
    out_ := by rw [(bcs hb).1 _ hbig]; exact h.out_, pl_ := ((bcs hb).2 _ hbig).trans h.pl_, big := Nat.lt_of_lt_of_le hbig hb.size }
theorem AtIs.cell {w : World} {b0 o0 n : Nat} {At : Nat → Int} (h : AtIs w (some ⟨b0, o0, none⟩) n At) (i : Nat) (hi : i < n) : w.cell? ⟨b0, o0 + i, none⟩ = some (.int .u32 (At i)) := by
  obtain ⟨b, o, he, hc⟩ := h (by omega)
  cases he
  exact hc i hi

theorem gS_step4 {W w w1 : World} {st vs ctx : Array Value} {V C : Nat → Int} {steps : Int} {sa so sp : Option Addr} {n m ca co np cp : Nat} {At : Nat → Int} {code off idx tgt live cst : Int} (hb : Below w.heap.size w w1) (h : w.cell? ⟨W.heap.size + 1, 0, none⟩ = some (.slice sa n ca) ∧ w.cell? ⟨W.heap.size + 1, 1, none⟩ = some (.slice sp np cp) ∧ w.cell? ⟨W.heap.size + 1, 2, none⟩ = some (.slice so m co) ∧ w.cell? ⟨W.heap.size + 1 + 1, 0, none⟩ = some (.int .i64 off) ∧ w.cell? ⟨W.heap.size + 1 + 1, 1, none⟩ = some (.int .i64 4) ∧ w.cell? ⟨W.heap.size + 1 + 1, 2, none⟩ = some (.int .i64 idx) ∧ w.cell? ⟨W.heap.size + 1 + 1, 3, none⟩ = some (.int .u32 tgt) ∧ w.cell? ⟨W.heap.size + 1 + 1, 4, none⟩ = some (.int .u32 live) ∧ w.cell? ⟨W.heap.size + 1 + 1, 5, none⟩ = some (.int .i64 cst) ∧ w.rangeAt (W.heap.size + 1 + 1 + 1 + 1) 0 ctx.toList ∧ W.heap.size + 1 + 1 + 1 + 1 + 1 < w.heap.size ∧ GR W st vs ctx V C steps sa so n m At code w) :
    w1.cell? ⟨W.heap.size + 1, 0, none⟩ = some (.slice sa n ca) ∧ w1.cell? ⟨W.heap.size + 1, 1, none⟩ = some (.slice sp np cp) ∧ w1.cell? ⟨W.heap.size + 1, 2, none⟩ = some (.slice so m co) ∧ w1.cell? ⟨W.heap.size + 1 + 1, 0, none⟩ = some (.int .i64 off) ∧ w1.cell? ⟨W.heap.size + 1 + 1, 1, none⟩ = some (.int .i64 4) ∧ w1.cell? ⟨W.heap.size + 1 + 1, 2, none⟩ = some (.int .i64 idx) ∧ w1.cell? ⟨W.heap.size + 1 + 1, 3, none⟩ = some (.int .u32 tgt) ∧ w1.cell? ⟨W.heap.size + 1 + 1, 4, none⟩ = some (.int .u32 live) ∧ w1.cell? ⟨W.heap.size + 1 + 1, 5, none⟩ = some (.int .i64 cst) ∧ w1.rangeAt (W.heap.size + 1 + 1 + 1 + 1) 0 ctx.toList ∧ W.heap.size + 1 + 1 + 1 + 1 + 1 < w1.heap.size ∧ GR W st vs ctx V C steps sa so n m At code w1 := by
  obtain ⟨h1, h2, h3, h4, h5, h6, h7, h8, h9, h10, h11, h12⟩ := h
  exact ⟨keepC hb h1, keepC hb h2, keepC hb h3, keepC hb h4, keepC hb h5, keepC hb h6, keepC hb h7, keepC hb h8, keepC hb h9, h10.below hb (by omega), keepZ hb h11, GR.step hb h12⟩

set_option maxRecDepth 100000 in
set_option maxHeartbeats 8000000 in
theorem Guest_4 (kind : Int) (st vs ctx : Array Value) (V C : Nat → Int) (steps : Int) (sa so sp : Option Addr) (n m ca co np cp : Nat) (At : Nat → Int) (code : Int) (off idx tgt live cst : Int) (w : World) (G : GIn w st vs ctx V C steps sa so n m At code) 
    (hval : validF 4 idx n = true) :
    Calls Try.prog 7 #[.int .i64 kind, .agg st, .agg #[.slice sa n ca, .slice sp np cp, .slice so m co], .agg #[.int .i64 off, .int .i64 4, .int .i64 idx, .int .u32 tgt, .int .u32 live, .int .i64 cst], .agg vs, .agg ctx] w
      fun e w' => e = .returned (.agg (outG kind (flagsF (V 16) (V 17) (V 18)) st vs (tgt) steps (C 28))) ∧ Below w.heap.size w w' := by
  have hst := G.hst
  have hvs := G.hvs
  have hctx := G.hctx
  have hC := G.hC
  have h22 := G.h22
  haveI := G.ost
  haveI := G.ovs
  haveI := G.octx
  have hu32 := Try.underlying32
  have hi32 : (Try.prog.info? 32).map (·.size) = some ctx.toList.length := by rw [Array.length_toList, hctx]; exact size_32
  have h0n : ctx.toList.toArray = ctx := by simp
  go_enter Try.func7, Try.ntmps7
  go_wp2_with fail
  refine (valid_any _ _ _ _ _ _ _ _ _ _ _ _ _ _ _ _).mono ?_
  rintro e w1 ⟨rfl, hb⟩
  obtain ⟨hc, hf⟩ := bcell hb
  obtain ⟨hcs, hpr⟩ := bcs hb
  have hz := hb.size
  have hS : w1.drew.cell? ⟨w.heap.size + 1, 0, none⟩ = some (.slice sa n ca) ∧ w1.drew.cell? ⟨w.heap.size + 1, 1, none⟩ = some (.slice sp np cp) ∧ w1.drew.cell? ⟨w.heap.size + 1, 2, none⟩ = some (.slice so m co) ∧ w1.drew.cell? ⟨w.heap.size + 1 + 1, 0, none⟩ = some (.int .i64 off) ∧ w1.drew.cell? ⟨w.heap.size + 1 + 1, 1, none⟩ = some (.int .i64 4) ∧ w1.drew.cell? ⟨w.heap.size + 1 + 1, 2, none⟩ = some (.int .i64 idx) ∧ w1.drew.cell? ⟨w.heap.size + 1 + 1, 3, none⟩ = some (.int .u32 tgt) ∧ w1.drew.cell? ⟨w.heap.size + 1 + 1, 4, none⟩ = some (.int .u32 live) ∧ w1.drew.cell? ⟨w.heap.size + 1 + 1, 5, none⟩ = some (.int .i64 cst) ∧ w1.drew.rangeAt (w.heap.size + 1 + 1 + 1 + 1) 0 ctx.toList ∧ w.heap.size + 1 + 1 + 1 + 1 + 1 < w1.drew.heap.size ∧ GR w st vs ctx V C steps sa so n m At code w1.drew := gS_step4 (Below.drew (Below.refl _ w1)) (gS_step4 hb ⟨by go_simp, by go_simp, by go_simp, by go_simp, by go_simp, by go_simp, by go_simp, by go_simp, by go_simp, rangeAt_cs (by go_simp), by go_simp,
    ⟨by repeat (first | exact Below.refl _ _ | assumption | refine Below.drew ?_ | refine Below.alloc ?_ (by first | exact Nat.le_refl _ | omega | (simp; done) | (simp; omega)) _ | refine Below.setCell ?_ (by first | exact Nat.le_refl _ | omega | (simp; done) | (simp; omega)) _ | refine below_row ?_ _ (by first | exact Nat.le_refl _ | omega | (simp; done) | (simp; omega)) _), G.below (by repeat (first | exact Below.refl _ _ | assumption | refine Below.drew ?_ | refine Below.alloc ?_ (by first | exact Nat.le_refl _ | omega | (simp; done) | (simp; omega)) _ | refine Below.setCell ?_ (by first | exact Nat.le_refl _ | omega | (simp; done) | (simp; omega)) _ | refine below_row ?_ _ (by first | exact Nat.le_refl _ | omega | (simp; done) | (simp; omega)) _)), by go_simp, by go_simp, by go_simp, by go_simp, by go_simp⟩⟩)
  have HS := Lib.hid hS
  clear hS
  go_wp2_with fail
  refine wp_region_held_drew (S := (fun w' => w'.cell? ⟨w.heap.size + 1, 0, none⟩ = some (.slice sa n ca) ∧ w'.cell? ⟨w.heap.size + 1, 1, none⟩ = some (.slice sp np cp) ∧ w'.cell? ⟨w.heap.size + 1, 2, none⟩ = some (.slice so m co) ∧ w'.cell? ⟨w.heap.size + 1 + 1, 0, none⟩ = some (.int .i64 off) ∧ w'.cell? ⟨w.heap.size + 1 + 1, 1, none⟩ = some (.int .i64 4) ∧ w'.cell? ⟨w.heap.size + 1 + 1, 2, none⟩ = some (.int .i64 idx) ∧ w'.cell? ⟨w.heap.size + 1 + 1, 3, none⟩ = some (.int .u32 tgt) ∧ w'.cell? ⟨w.heap.size + 1 + 1, 4, none⟩ = some (.int .u32 live) ∧ w'.cell? ⟨w.heap.size + 1 + 1, 5, none⟩ = some (.int .i64 cst) ∧ w'.rangeAt (w.heap.size + 1 + 1 + 1 + 1) 0 ctx.toList ∧ w.heap.size + 1 + 1 + 1 + 1 + 1 < w'.heap.size ∧ GR w st vs ctx V C steps sa so n m At code w')) (by kernel_rfl) HS.out (fun hHeld => ?_)
  refine wpAnyH_take (i := 1) (v := ?v1) rfl (by kernel_rfl) (by kernel_rfl) (by kernel_rfl) (fun _ _ _ h => h) (Or.inl ⟨by rfl, ?hy1⟩) (by assumption) ?rest1
  case hy1 => (intro w hSw; (try dsimp only at hSw); go_simp; (try with_reducible rfl))
  try simp only [Act.put, List.getElem_toArray, List.getElem_cons_zero, List.getElem_cons_succ, List.setIfInBounds_toArray, List.set_cons_zero, List.set_cons_succ]
  refine wpAnyH_take (i := 2) (v := ?v2) rfl (by kernel_rfl) (by kernel_rfl) (by kernel_rfl) (fun _ _ _ h => h) (Or.inl ⟨by rfl, ?hy2⟩) (by assumption) ?rest2
  case hy2 => (intro w hSw; (try dsimp only at hSw); go_simp; (try with_reducible rfl))
  try simp only [Act.put, List.getElem_toArray, List.getElem_cons_zero, List.getElem_cons_succ, List.setIfInBounds_toArray, List.set_cons_zero, List.set_cons_succ]
  refine wpAnyH_take (i := 5) (v := ?v5) rfl (by kernel_rfl) (by kernel_rfl) (by kernel_rfl) (fun _ _ _ h => h) (Or.inl ⟨by rfl, ?hy5⟩) (by assumption) ?rest5
  case hy5 => (intro w hSw; (try dsimp only at hSw); go_simp; (try with_reducible rfl))
  try simp only [Act.put, List.getElem_toArray, List.getElem_cons_zero, List.getElem_cons_succ, List.setIfInBounds_toArray, List.set_cons_zero, List.set_cons_succ]
  refine wpAnyH_take (i := 6) (v := ?v6) rfl (by kernel_rfl) (by kernel_rfl) (by kernel_rfl) (fun _ _ _ h => h) (Or.inl ⟨by rfl, ?hy6⟩) (by assumption) ?rest6
  case hy6 => (intro w hSw; (try dsimp only at hSw); go_simp; (try with_reducible rfl))
  try simp only [Act.put, List.getElem_toArray, List.getElem_cons_zero, List.getElem_cons_succ, List.setIfInBounds_toArray, List.set_cons_zero, List.set_cons_succ]
  refine wpAnyH_take (i := 7) (v := ?v7) rfl (by kernel_rfl) (by kernel_rfl) (by kernel_rfl) (fun _ _ _ h => h) (Or.inl ⟨by rfl, ?hy7⟩) (by assumption) ?rest7
  case hy7 => (intro w hSw; (try dsimp only at hSw); (have hld := ld_rangeAt hctx hSw.2.2.2.2.2.2.2.2.2.1); go_simp; (try with_reducible rfl))
  try simp only [Act.put, List.getElem_toArray, List.getElem_cons_zero, List.getElem_cons_succ, List.setIfInBounds_toArray, List.set_cons_zero, List.set_cons_succ]
  refine wpAnyH_take (i := 8) (v := ?v8) rfl (by kernel_rfl) (by kernel_rfl) (by kernel_rfl) (fun _ _ _ h => h) (Or.inl ⟨by rfl, ?hy8⟩) (by assumption) ?rest8
  case hy8 => (intro w hSw; (try dsimp only at hSw); go_simp; (try with_reducible rfl))
  try simp only [Act.put, List.getElem_toArray, List.getElem_cons_zero, List.getElem_cons_succ, List.setIfInBounds_toArray, List.set_cons_zero, List.set_cons_succ]
  refine wpAnyH_ready (rs := [0]) (by kernel_rfl) (by simp) ?_
  refine AllReadyH.cons rfl (fun K hK => ?_) AllReadyH.nil
  go_simp
  refine (rules_at 4 23 _ rfl).mono ?_
  rintro e w2 ⟨rfl, hb2, hT⟩
  have hT2 : w2.cell? ⟨w1.heap.size, 4, none⟩ = some (.func (.func 23) #[] #[]) := hT
  clear hT
  refine hK.out _ _ (gS_step4 hb2 hHeld) (fun hHeld0 => ?_)
  clear hK K
  try simp only [Act.put, List.getElem_toArray, List.getElem_cons_zero, List.getElem_cons_succ, List.setIfInBounds_toArray, List.set_cons_zero, List.set_cons_succ]
  refine wpAnyH_take (i := 3) (v := ?v3) rfl (by kernel_rfl) (by kernel_rfl) (by kernel_rfl) (fun _ _ _ h => h) (Or.inl ⟨by rfl, ?hy3⟩) (by assumption) ?rest3
  case hy3 => (intro w hSw; (try dsimp only at hSw); go_simp; (try with_reducible rfl))
  try simp only [Act.put, List.getElem_toArray, List.getElem_cons_zero, List.getElem_cons_succ, List.setIfInBounds_toArray, List.set_cons_zero, List.set_cons_succ]
  refine wpAnyH_ready (rs := [4]) (by kernel_rfl) (by simp) ?_
  refine AllReadyH.cons rfl (fun K hK => ?_) AllReadyH.nil
  go_simp
  refine hK.out _ _ (hHeld0) (fun hHeld4 => ?_)
  clear hK K
  try simp only [Act.put, List.getElem_toArray, List.getElem_cons_zero, List.getElem_cons_succ, List.setIfInBounds_toArray, List.set_cons_zero, List.set_cons_succ]
  refine wpAnyH_ready (rs := [9]) (by kernel_rfl) (by simp) ?_
  refine AllReadyH.cons rfl (fun K hK => ?_) AllReadyH.nil
  go_simp
  refine (exit_any _ (by simp [size_spl, size_z58]) (C 28) tgt _ (by simp [spl_get, hC, hctx, size_z58]) (by simp [spl_get, hC, hctx, size_z58])).mono ?_
  rintro e w3 ⟨rfl, hb3⟩
  refine hK.out _ _ (gS_step4 hb3 hHeld4) (fun hHeld9 => ?_)
  clear hK K
  try simp only [Act.put, List.getElem_toArray, List.getElem_cons_zero, List.getElem_cons_succ, List.setIfInBounds_toArray, List.set_cons_zero, List.set_cons_succ]
  refine wpAnyH_take (i := 10) (v := ?v10) rfl (by kernel_rfl) (by kernel_rfl) (by kernel_rfl) (fun _ _ _ h => h) (Or.inl ⟨by rfl, ?hy10⟩) (by assumption) ?rest10
  case hy10 => (intro w hSw; (try dsimp only at hSw); go_simp; (try with_reducible rfl))
  try simp only [Act.put, List.getElem_toArray, List.getElem_cons_zero, List.getElem_cons_succ, List.setIfInBounds_toArray, List.set_cons_zero, List.set_cons_succ]
  refine wpAnyH_take (i := 11) (v := ?v11) rfl (by kernel_rfl) (by kernel_rfl) (by kernel_rfl) (fun _ _ _ h => h) (Or.inl ⟨by rfl, ?hy11⟩) (by assumption) ?rest11
  case hy11 => (intro w hSw; (try dsimp only at hSw); go_simp; (try with_reducible rfl))
  try simp only [Act.put, List.getElem_toArray, List.getElem_cons_zero, List.getElem_cons_succ, List.setIfInBounds_toArray, List.set_cons_zero, List.set_cons_succ]
  refine wpAnyH_take (i := 12) (v := ?v12) rfl (by kernel_rfl) (by kernel_rfl) (by kernel_rfl) (fun _ _ _ h => h) (Or.inl ⟨by rfl, ?hy12⟩) (by assumption) ?rest12
  case hy12 => (intro w hSw; (try dsimp only at hSw); go_simp; (try with_reducible rfl))
  try simp only [Act.put, List.getElem_toArray, List.getElem_cons_zero, List.getElem_cons_succ, List.setIfInBounds_toArray, List.set_cons_zero, List.set_cons_succ]
  refine wpAnyH_take (i := 13) (v := ?v13) rfl (by kernel_rfl) (by kernel_rfl) (by kernel_rfl) (fun _ _ _ h => h) (Or.inl ⟨by rfl, ?hy13⟩) (by assumption) ?rest13
  case hy13 => (intro w hSw; (try dsimp only at hSw); go_simp; (try with_reducible rfl))
  try simp only [Act.put, List.getElem_toArray, List.getElem_cons_zero, List.getElem_cons_succ, List.setIfInBounds_toArray, List.set_cons_zero, List.set_cons_succ]
  refine wpAnyH_take (i := 14) (v := ?v14) rfl (by kernel_rfl) (by kernel_rfl) (by kernel_rfl) (fun _ _ _ h => h) (Or.inl ⟨by rfl, ?hy14⟩) (by assumption) ?rest14
  case hy14 => (intro w hSw; (try dsimp only at hSw); go_simp; (try with_reducible rfl))
  try simp only [Act.put, List.getElem_toArray, List.getElem_cons_zero, List.getElem_cons_succ, List.setIfInBounds_toArray, List.set_cons_zero, List.set_cons_succ]
  refine wpAnyH_done (by kernel_rfl) ?_ _
  have hR : GR w st vs ctx V C steps sa so n m At code w3 := hHeld9.2.2.2.2.2.2.2.2.2.2.2
  have HL3 := Lib.hid hHeld9
  clear hHeld9 hHeld4 hHeld0 hT2 hHeld
  have r1 := hR.st_
  have r2 := hR.vs_
  have r3 := hR.out_
  have r4 := hR.pl_
  have z5 := hR.big
  have z4 : w.heap.size + 1 + 1 + 1 + 1 < w3.heap.size := by omega
  have z3 : w.heap.size + 1 + 1 + 1 < w3.heap.size := by omega
  have z0 : w.heap.size < w3.heap.size := by omega
  have HR := Lib.hid hR.below
  clear hR
  go_wp2_with fail
  refine (Leave_any _ _ _ _ hst hvs V G.hV G.bV).mono ?_
  rintro e w4 ⟨rfl, hb4⟩
  obtain ⟨hc4, hf4⟩ := bcell hb4
  obtain ⟨hcs4, hpr4⟩ := bcs hb4
  have y := hb4.size
  have y5 : w.heap.size + 1 + 1 + 1 + 1 + 1 < w4.heap.size := by omega
  have y55 : ¬ (w.heap.size + 1 + 1 + 1 + 1 + 1 = w4.heap.size) := by omega
  have hlf := size_leaveF kind (flagsF (V 16) (V 17) (V 18)) st vs
  have hl22 := leaveF_22 kind (flagsF (V 16) (V 17) (V 18)) st vs hst steps h22
  have c28 := G.bC 28
  go_wp2_with fail
  refine bodyPost_ret_by (results_blk (n := 24) rfl _ Try.underlying28 rfl (by kernel_rfl) (by omega) _ _ _ rfl _ rfl (by go_simp)) rfl ⟨?_, ?_⟩
  · go_simp
    rfl
  · have HRo := HR.out
    repeat (first | exact Below.refl _ _ | assumption | refine below_call ?_ hb4 | refine Below.drew ?_ | refine Below.alloc ?_ (by first | exact Nat.le_refl _ | omega | (simp; done) | (simp; omega)) _ | refine Below.setCell ?_ (by first | exact Nat.le_refl _ | omega | (simp; done) | (simp; omega)) _ | refine below_row ?_ _ (by first | exact Nat.le_refl _ | omega | (simp; done) | (simp; omega)) _)

theorem gS_step6 {W w w1 : World} {st vs ctx : Array Value} {V C : Nat → Int} {steps : Int} {sa so sp : Option Addr} {n m ca co np cp : Nat} {At : Nat → Int} {code off idx tgt live cst : Int} (hb : Below w.heap.size w w1) (h : w.cell? ⟨W.heap.size + 1, 0, none⟩ = some (.slice sa n ca) ∧ w.cell? ⟨W.heap.size + 1, 1, none⟩ = some (.slice sp np cp) ∧ w.cell? ⟨W.heap.size + 1, 2, none⟩ = some (.slice so m co) ∧ w.cell? ⟨W.heap.size + 1 + 1, 0, none⟩ = some (.int .i64 off) ∧ w.cell? ⟨W.heap.size + 1 + 1, 1, none⟩ = some (.int .i64 6) ∧ w.cell? ⟨W.heap.size + 1 + 1, 2, none⟩ = some (.int .i64 idx) ∧ w.cell? ⟨W.heap.size + 1 + 1, 3, none⟩ = some (.int .u32 tgt) ∧ w.cell? ⟨W.heap.size + 1 + 1, 4, none⟩ = some (.int .u32 live) ∧ w.cell? ⟨W.heap.size + 1 + 1, 5, none⟩ = some (.int .i64 cst) ∧ w.rangeAt (W.heap.size + 1 + 1 + 1 + 1) 0 ctx.toList ∧ W.heap.size + 1 + 1 + 1 + 1 + 1 < w.heap.size ∧ GR W st vs ctx V C steps sa so n m At code w) :
    w1.cell? ⟨W.heap.size + 1, 0, none⟩ = some (.slice sa n ca) ∧ w1.cell? ⟨W.heap.size + 1, 1, none⟩ = some (.slice sp np cp) ∧ w1.cell? ⟨W.heap.size + 1, 2, none⟩ = some (.slice so m co) ∧ w1.cell? ⟨W.heap.size + 1 + 1, 0, none⟩ = some (.int .i64 off) ∧ w1.cell? ⟨W.heap.size + 1 + 1, 1, none⟩ = some (.int .i64 6) ∧ w1.cell? ⟨W.heap.size + 1 + 1, 2, none⟩ = some (.int .i64 idx) ∧ w1.cell? ⟨W.heap.size + 1 + 1, 3, none⟩ = some (.int .u32 tgt) ∧ w1.cell? ⟨W.heap.size + 1 + 1, 4, none⟩ = some (.int .u32 live) ∧ w1.cell? ⟨W.heap.size + 1 + 1, 5, none⟩ = some (.int .i64 cst) ∧ w1.rangeAt (W.heap.size + 1 + 1 + 1 + 1) 0 ctx.toList ∧ W.heap.size + 1 + 1 + 1 + 1 + 1 < w1.heap.size ∧ GR W st vs ctx V C steps sa so n m At code w1 := by
  obtain ⟨h1, h2, h3, h4, h5, h6, h7, h8, h9, h10, h11, h12⟩ := h
  exact ⟨keepC hb h1, keepC hb h2, keepC hb h3, keepC hb h4, keepC hb h5, keepC hb h6, keepC hb h7, keepC hb h8, keepC hb h9, h10.below hb (by omega), keepZ hb h11, GR.step hb h12⟩

set_option maxRecDepth 100000 in
set_option maxHeartbeats 8000000 in
theorem Guest_6 (kind : Int) (st vs ctx : Array Value) (V C : Nat → Int) (steps : Int) (sa so sp : Option Addr) (n m ca co np cp : Nat) (At : Nat → Int) (code : Int) (off idx tgt live cst : Int) (w : World) (G : GIn w st vs ctx V C steps sa so n m At code) 
    (hval : validF 6 idx n = true) :
    Calls Try.prog 7 #[.int .i64 kind, .agg st, .agg #[.slice sa n ca, .slice sp np cp, .slice so m co], .agg #[.int .i64 off, .int .i64 6, .int .i64 idx, .int .u32 tgt, .int .u32 live, .int .i64 cst], .agg vs, .agg ctx] w
      fun e w' => e = .returned (.agg (outG kind (flagsF (V 16) (V 17) (V 18)) st vs (tgt) steps (C 28))) ∧ Below w.heap.size w w' := by
  have hst := G.hst
  have hvs := G.hvs
  have hctx := G.hctx
  have hC := G.hC
  have h22 := G.h22
  haveI := G.ost
  haveI := G.ovs
  haveI := G.octx
  have hu32 := Try.underlying32
  have hi32 : (Try.prog.info? 32).map (·.size) = some ctx.toList.length := by rw [Array.length_toList, hctx]; exact size_32
  have h0n : ctx.toList.toArray = ctx := by simp
  go_enter Try.func7, Try.ntmps7
  go_wp2_with fail
  refine (valid_any _ _ _ _ _ _ _ _ _ _ _ _ _ _ _ _).mono ?_
  rintro e w1 ⟨rfl, hb⟩
  obtain ⟨hc, hf⟩ := bcell hb
  obtain ⟨hcs, hpr⟩ := bcs hb
  have hz := hb.size
  have hS : w1.drew.cell? ⟨w.heap.size + 1, 0, none⟩ = some (.slice sa n ca) ∧ w1.drew.cell? ⟨w.heap.size + 1, 1, none⟩ = some (.slice sp np cp) ∧ w1.drew.cell? ⟨w.heap.size + 1, 2, none⟩ = some (.slice so m co) ∧ w1.drew.cell? ⟨w.heap.size + 1 + 1, 0, none⟩ = some (.int .i64 off) ∧ w1.drew.cell? ⟨w.heap.size + 1 + 1, 1, none⟩ = some (.int .i64 6) ∧ w1.drew.cell? ⟨w.heap.size + 1 + 1, 2, none⟩ = some (.int .i64 idx) ∧ w1.drew.cell? ⟨w.heap.size + 1 + 1, 3, none⟩ = some (.int .u32 tgt) ∧ w1.drew.cell? ⟨w.heap.size + 1 + 1, 4, none⟩ = some (.int .u32 live) ∧ w1.drew.cell? ⟨w.heap.size + 1 + 1, 5, none⟩ = some (.int .i64 cst) ∧ w1.drew.rangeAt (w.heap.size + 1 + 1 + 1 + 1) 0 ctx.toList ∧ w.heap.size + 1 + 1 + 1 + 1 + 1 < w1.drew.heap.size ∧ GR w st vs ctx V C steps sa so n m At code w1.drew := gS_step6 (Below.drew (Below.refl _ w1)) (gS_step6 hb ⟨by go_simp, by go_simp, by go_simp, by go_simp, by go_simp, by go_simp, by go_simp, by go_simp, by go_simp, rangeAt_cs (by go_simp), by go_simp,
    ⟨by repeat (first | exact Below.refl _ _ | assumption | refine Below.drew ?_ | refine Below.alloc ?_ (by first | exact Nat.le_refl _ | omega | (simp; done) | (simp; omega)) _ | refine Below.setCell ?_ (by first | exact Nat.le_refl _ | omega | (simp; done) | (simp; omega)) _ | refine below_row ?_ _ (by first | exact Nat.le_refl _ | omega | (simp; done) | (simp; omega)) _), G.below (by repeat (first | exact Below.refl _ _ | assumption | refine Below.drew ?_ | refine Below.alloc ?_ (by first | exact Nat.le_refl _ | omega | (simp; done) | (simp; omega)) _ | refine Below.setCell ?_ (by first | exact Nat.le_refl _ | omega | (simp; done) | (simp; omega)) _ | refine below_row ?_ _ (by first | exact Nat.le_refl _ | omega | (simp; done) | (simp; omega)) _)), by go_simp, by go_simp, by go_simp, by go_simp, by go_simp⟩⟩)
  have HS := Lib.hid hS
  clear hS
  go_wp2_with fail
  refine wp_region_held_drew (S := (fun w' => w'.cell? ⟨w.heap.size + 1, 0, none⟩ = some (.slice sa n ca) ∧ w'.cell? ⟨w.heap.size + 1, 1, none⟩ = some (.slice sp np cp) ∧ w'.cell? ⟨w.heap.size + 1, 2, none⟩ = some (.slice so m co) ∧ w'.cell? ⟨w.heap.size + 1 + 1, 0, none⟩ = some (.int .i64 off) ∧ w'.cell? ⟨w.heap.size + 1 + 1, 1, none⟩ = some (.int .i64 6) ∧ w'.cell? ⟨w.heap.size + 1 + 1, 2, none⟩ = some (.int .i64 idx) ∧ w'.cell? ⟨w.heap.size + 1 + 1, 3, none⟩ = some (.int .u32 tgt) ∧ w'.cell? ⟨w.heap.size + 1 + 1, 4, none⟩ = some (.int .u32 live) ∧ w'.cell? ⟨w.heap.size + 1 + 1, 5, none⟩ = some (.int .i64 cst) ∧ w'.rangeAt (w.heap.size + 1 + 1 + 1 + 1) 0 ctx.toList ∧ w.heap.size + 1 + 1 + 1 + 1 + 1 < w'.heap.size ∧ GR w st vs ctx V C steps sa so n m At code w')) (by kernel_rfl) HS.out (fun hHeld => ?_)
  refine wpAnyH_take (i := 1) (v := ?v1) rfl (by kernel_rfl) (by kernel_rfl) (by kernel_rfl) (fun _ _ _ h => h) (Or.inl ⟨by rfl, ?hy1⟩) (by assumption) ?rest1
  case hy1 => (intro w hSw; (try dsimp only at hSw); go_simp; (try with_reducible rfl))
  try simp only [Act.put, List.getElem_toArray, List.getElem_cons_zero, List.getElem_cons_succ, List.setIfInBounds_toArray, List.set_cons_zero, List.set_cons_succ]
  refine wpAnyH_take (i := 2) (v := ?v2) rfl (by kernel_rfl) (by kernel_rfl) (by kernel_rfl) (fun _ _ _ h => h) (Or.inl ⟨by rfl, ?hy2⟩) (by assumption) ?rest2
  case hy2 => (intro w hSw; (try dsimp only at hSw); go_simp; (try with_reducible rfl))
  try simp only [Act.put, List.getElem_toArray, List.getElem_cons_zero, List.getElem_cons_succ, List.setIfInBounds_toArray, List.set_cons_zero, List.set_cons_succ]
  refine wpAnyH_take (i := 5) (v := ?v5) rfl (by kernel_rfl) (by kernel_rfl) (by kernel_rfl) (fun _ _ _ h => h) (Or.inl ⟨by rfl, ?hy5⟩) (by assumption) ?rest5
  case hy5 => (intro w hSw; (try dsimp only at hSw); go_simp; (try with_reducible rfl))
  try simp only [Act.put, List.getElem_toArray, List.getElem_cons_zero, List.getElem_cons_succ, List.setIfInBounds_toArray, List.set_cons_zero, List.set_cons_succ]
  refine wpAnyH_take (i := 6) (v := ?v6) rfl (by kernel_rfl) (by kernel_rfl) (by kernel_rfl) (fun _ _ _ h => h) (Or.inl ⟨by rfl, ?hy6⟩) (by assumption) ?rest6
  case hy6 => (intro w hSw; (try dsimp only at hSw); go_simp; (try with_reducible rfl))
  try simp only [Act.put, List.getElem_toArray, List.getElem_cons_zero, List.getElem_cons_succ, List.setIfInBounds_toArray, List.set_cons_zero, List.set_cons_succ]
  refine wpAnyH_take (i := 7) (v := ?v7) rfl (by kernel_rfl) (by kernel_rfl) (by kernel_rfl) (fun _ _ _ h => h) (Or.inl ⟨by rfl, ?hy7⟩) (by assumption) ?rest7
  case hy7 => (intro w hSw; (try dsimp only at hSw); (have hld := ld_rangeAt hctx hSw.2.2.2.2.2.2.2.2.2.1); go_simp; (try with_reducible rfl))
  try simp only [Act.put, List.getElem_toArray, List.getElem_cons_zero, List.getElem_cons_succ, List.setIfInBounds_toArray, List.set_cons_zero, List.set_cons_succ]
  refine wpAnyH_take (i := 8) (v := ?v8) rfl (by kernel_rfl) (by kernel_rfl) (by kernel_rfl) (fun _ _ _ h => h) (Or.inl ⟨by rfl, ?hy8⟩) (by assumption) ?rest8
  case hy8 => (intro w hSw; (try dsimp only at hSw); go_simp; (try with_reducible rfl))
  try simp only [Act.put, List.getElem_toArray, List.getElem_cons_zero, List.getElem_cons_succ, List.setIfInBounds_toArray, List.set_cons_zero, List.set_cons_succ]
  refine wpAnyH_ready (rs := [0]) (by kernel_rfl) (by simp) ?_
  refine AllReadyH.cons rfl (fun K hK => ?_) AllReadyH.nil
  go_simp
  refine (rules_at 6 23 _ rfl).mono ?_
  rintro e w2 ⟨rfl, hb2, hT⟩
  have hT2 : w2.cell? ⟨w1.heap.size, 6, none⟩ = some (.func (.func 23) #[] #[]) := hT
  clear hT
  refine hK.out _ _ (gS_step6 hb2 hHeld) (fun hHeld0 => ?_)
  clear hK K
  try simp only [Act.put, List.getElem_toArray, List.getElem_cons_zero, List.getElem_cons_succ, List.setIfInBounds_toArray, List.set_cons_zero, List.set_cons_succ]
  refine wpAnyH_take (i := 3) (v := ?v3) rfl (by kernel_rfl) (by kernel_rfl) (by kernel_rfl) (fun _ _ _ h => h) (Or.inl ⟨by rfl, ?hy3⟩) (by assumption) ?rest3
  case hy3 => (intro w hSw; (try dsimp only at hSw); go_simp; (try with_reducible rfl))
  try simp only [Act.put, List.getElem_toArray, List.getElem_cons_zero, List.getElem_cons_succ, List.setIfInBounds_toArray, List.set_cons_zero, List.set_cons_succ]
  refine wpAnyH_ready (rs := [4]) (by kernel_rfl) (by simp) ?_
  refine AllReadyH.cons rfl (fun K hK => ?_) AllReadyH.nil
  go_simp
  refine hK.out _ _ (hHeld0) (fun hHeld4 => ?_)
  clear hK K
  try simp only [Act.put, List.getElem_toArray, List.getElem_cons_zero, List.getElem_cons_succ, List.setIfInBounds_toArray, List.set_cons_zero, List.set_cons_succ]
  refine wpAnyH_ready (rs := [9]) (by kernel_rfl) (by simp) ?_
  refine AllReadyH.cons rfl (fun K hK => ?_) AllReadyH.nil
  go_simp
  refine (exit_any _ (by simp [size_spl, size_z58]) (C 28) tgt _ (by simp [spl_get, hC, hctx, size_z58]) (by simp [spl_get, hC, hctx, size_z58])).mono ?_
  rintro e w3 ⟨rfl, hb3⟩
  refine hK.out _ _ (gS_step6 hb3 hHeld4) (fun hHeld9 => ?_)
  clear hK K
  try simp only [Act.put, List.getElem_toArray, List.getElem_cons_zero, List.getElem_cons_succ, List.setIfInBounds_toArray, List.set_cons_zero, List.set_cons_succ]
  refine wpAnyH_take (i := 10) (v := ?v10) rfl (by kernel_rfl) (by kernel_rfl) (by kernel_rfl) (fun _ _ _ h => h) (Or.inl ⟨by rfl, ?hy10⟩) (by assumption) ?rest10
  case hy10 => (intro w hSw; (try dsimp only at hSw); go_simp; (try with_reducible rfl))
  try simp only [Act.put, List.getElem_toArray, List.getElem_cons_zero, List.getElem_cons_succ, List.setIfInBounds_toArray, List.set_cons_zero, List.set_cons_succ]
  refine wpAnyH_take (i := 11) (v := ?v11) rfl (by kernel_rfl) (by kernel_rfl) (by kernel_rfl) (fun _ _ _ h => h) (Or.inl ⟨by rfl, ?hy11⟩) (by assumption) ?rest11
  case hy11 => (intro w hSw; (try dsimp only at hSw); go_simp; (try with_reducible rfl))
  try simp only [Act.put, List.getElem_toArray, List.getElem_cons_zero, List.getElem_cons_succ, List.setIfInBounds_toArray, List.set_cons_zero, List.set_cons_succ]
  refine wpAnyH_take (i := 12) (v := ?v12) rfl (by kernel_rfl) (by kernel_rfl) (by kernel_rfl) (fun _ _ _ h => h) (Or.inl ⟨by rfl, ?hy12⟩) (by assumption) ?rest12
  case hy12 => (intro w hSw; (try dsimp only at hSw); go_simp; (try with_reducible rfl))
  try simp only [Act.put, List.getElem_toArray, List.getElem_cons_zero, List.getElem_cons_succ, List.setIfInBounds_toArray, List.set_cons_zero, List.set_cons_succ]
  refine wpAnyH_take (i := 13) (v := ?v13) rfl (by kernel_rfl) (by kernel_rfl) (by kernel_rfl) (fun _ _ _ h => h) (Or.inl ⟨by rfl, ?hy13⟩) (by assumption) ?rest13
  case hy13 => (intro w hSw; (try dsimp only at hSw); go_simp; (try with_reducible rfl))
  try simp only [Act.put, List.getElem_toArray, List.getElem_cons_zero, List.getElem_cons_succ, List.setIfInBounds_toArray, List.set_cons_zero, List.set_cons_succ]
  refine wpAnyH_take (i := 14) (v := ?v14) rfl (by kernel_rfl) (by kernel_rfl) (by kernel_rfl) (fun _ _ _ h => h) (Or.inl ⟨by rfl, ?hy14⟩) (by assumption) ?rest14
  case hy14 => (intro w hSw; (try dsimp only at hSw); go_simp; (try with_reducible rfl))
  try simp only [Act.put, List.getElem_toArray, List.getElem_cons_zero, List.getElem_cons_succ, List.setIfInBounds_toArray, List.set_cons_zero, List.set_cons_succ]
  refine wpAnyH_done (by kernel_rfl) ?_ _
  have hR : GR w st vs ctx V C steps sa so n m At code w3 := hHeld9.2.2.2.2.2.2.2.2.2.2.2
  have HL3 := Lib.hid hHeld9
  clear hHeld9 hHeld4 hHeld0 hT2 hHeld
  have r1 := hR.st_
  have r2 := hR.vs_
  have r3 := hR.out_
  have r4 := hR.pl_
  have z5 := hR.big
  have z4 : w.heap.size + 1 + 1 + 1 + 1 < w3.heap.size := by omega
  have z3 : w.heap.size + 1 + 1 + 1 < w3.heap.size := by omega
  have z0 : w.heap.size < w3.heap.size := by omega
  have HR := Lib.hid hR.below
  clear hR
  go_wp2_with fail
  refine (Leave_any _ _ _ _ hst hvs V G.hV G.bV).mono ?_
  rintro e w4 ⟨rfl, hb4⟩
  obtain ⟨hc4, hf4⟩ := bcell hb4
  obtain ⟨hcs4, hpr4⟩ := bcs hb4
  have y := hb4.size
  have y5 : w.heap.size + 1 + 1 + 1 + 1 + 1 < w4.heap.size := by omega
  have y55 : ¬ (w.heap.size + 1 + 1 + 1 + 1 + 1 = w4.heap.size) := by omega
  have hlf := size_leaveF kind (flagsF (V 16) (V 17) (V 18)) st vs
  have hl22 := leaveF_22 kind (flagsF (V 16) (V 17) (V 18)) st vs hst steps h22
  have c28 := G.bC 28
  go_wp2_with fail
  refine bodyPost_ret_by (results_blk (n := 24) rfl _ Try.underlying28 rfl (by kernel_rfl) (by omega) _ _ _ rfl _ rfl (by go_simp)) rfl ⟨?_, ?_⟩
  · go_simp
    rfl
  · have HRo := HR.out
    repeat (first | exact Below.refl _ _ | assumption | refine below_call ?_ hb4 | refine Below.drew ?_ | refine Below.alloc ?_ (by first | exact Nat.le_refl _ | omega | (simp; done) | (simp; omega)) _ | refine Below.setCell ?_ (by first | exact Nat.le_refl _ | omega | (simp; done) | (simp; omega)) _ | refine below_row ?_ _ (by first | exact Nat.le_refl _ | omega | (simp; done) | (simp; omega)) _)

theorem gS_step5 {W w w1 : World} {st vs ctx : Array Value} {V C : Nat → Int} {steps : Int} {sa so sp : Option Addr} {n m ca co np cp : Nat} {At : Nat → Int} {code off idx tgt live cst : Int} (hb : Below w.heap.size w w1) (h : w.cell? ⟨W.heap.size + 1, 0, none⟩ = some (.slice sa n ca) ∧ w.cell? ⟨W.heap.size + 1, 1, none⟩ = some (.slice sp np cp) ∧ w.cell? ⟨W.heap.size + 1, 2, none⟩ = some (.slice so m co) ∧ w.cell? ⟨W.heap.size + 1 + 1, 0, none⟩ = some (.int .i64 off) ∧ w.cell? ⟨W.heap.size + 1 + 1, 1, none⟩ = some (.int .i64 5) ∧ w.cell? ⟨W.heap.size + 1 + 1, 2, none⟩ = some (.int .i64 idx) ∧ w.cell? ⟨W.heap.size + 1 + 1, 3, none⟩ = some (.int .u32 tgt) ∧ w.cell? ⟨W.heap.size + 1 + 1, 4, none⟩ = some (.int .u32 live) ∧ w.cell? ⟨W.heap.size + 1 + 1, 5, none⟩ = some (.int .i64 cst) ∧ w.rangeAt (W.heap.size + 1 + 1 + 1 + 1) 0 ctx.toList ∧ W.heap.size + 1 + 1 + 1 + 1 + 1 < w.heap.size ∧ GR W st vs ctx V C steps sa so n m At code w) :
    w1.cell? ⟨W.heap.size + 1, 0, none⟩ = some (.slice sa n ca) ∧ w1.cell? ⟨W.heap.size + 1, 1, none⟩ = some (.slice sp np cp) ∧ w1.cell? ⟨W.heap.size + 1, 2, none⟩ = some (.slice so m co) ∧ w1.cell? ⟨W.heap.size + 1 + 1, 0, none⟩ = some (.int .i64 off) ∧ w1.cell? ⟨W.heap.size + 1 + 1, 1, none⟩ = some (.int .i64 5) ∧ w1.cell? ⟨W.heap.size + 1 + 1, 2, none⟩ = some (.int .i64 idx) ∧ w1.cell? ⟨W.heap.size + 1 + 1, 3, none⟩ = some (.int .u32 tgt) ∧ w1.cell? ⟨W.heap.size + 1 + 1, 4, none⟩ = some (.int .u32 live) ∧ w1.cell? ⟨W.heap.size + 1 + 1, 5, none⟩ = some (.int .i64 cst) ∧ w1.rangeAt (W.heap.size + 1 + 1 + 1 + 1) 0 ctx.toList ∧ W.heap.size + 1 + 1 + 1 + 1 + 1 < w1.heap.size ∧ GR W st vs ctx V C steps sa so n m At code w1 := by
  obtain ⟨h1, h2, h3, h4, h5, h6, h7, h8, h9, h10, h11, h12⟩ := h
  exact ⟨keepC hb h1, keepC hb h2, keepC hb h3, keepC hb h4, keepC hb h5, keepC hb h6, keepC hb h7, keepC hb h8, keepC hb h9, h10.below hb (by omega), keepZ hb h11, GR.step hb h12⟩

set_option maxRecDepth 100000 in
set_option maxHeartbeats 8000000 in
theorem Guest_5 (kind : Int) (st vs ctx : Array Value) (V C : Nat → Int) (steps : Int) (sa so sp : Option Addr) (n m ca co np cp : Nat) (At : Nat → Int) (code : Int) (off idx tgt live cst : Int) (w : World) (G : GIn w st vs ctx V C steps sa so n m At code) 
    (hval : validF 5 idx n = true) :
    Calls Try.prog 7 #[.int .i64 kind, .agg st, .agg #[.slice sa n ca, .slice sp np cp, .slice so m co], .agg #[.int .i64 off, .int .i64 5, .int .i64 idx, .int .u32 tgt, .int .u32 live, .int .i64 cst], .agg vs, .agg ctx] w
      fun e w' => e = .returned (.agg (outG kind (flagsF (V 16) (V 17) (V 18)) st vs (C 19) steps (C 28))) ∧ Below w.heap.size w w' := by
  have hst := G.hst
  have hvs := G.hvs
  have hctx := G.hctx
  have hC := G.hC
  have h22 := G.h22
  haveI := G.ost
  haveI := G.ovs
  haveI := G.octx
  have hu32 := Try.underlying32
  have hi32 : (Try.prog.info? 32).map (·.size) = some ctx.toList.length := by rw [Array.length_toList, hctx]; exact size_32
  have h0n : ctx.toList.toArray = ctx := by simp
  go_enter Try.func7, Try.ntmps7
  go_wp2_with fail
  refine (valid_any _ _ _ _ _ _ _ _ _ _ _ _ _ _ _ _).mono ?_
  rintro e w1 ⟨rfl, hb⟩
  obtain ⟨hc, hf⟩ := bcell hb
  obtain ⟨hcs, hpr⟩ := bcs hb
  have hz := hb.size
  have hS : w1.drew.cell? ⟨w.heap.size + 1, 0, none⟩ = some (.slice sa n ca) ∧ w1.drew.cell? ⟨w.heap.size + 1, 1, none⟩ = some (.slice sp np cp) ∧ w1.drew.cell? ⟨w.heap.size + 1, 2, none⟩ = some (.slice so m co) ∧ w1.drew.cell? ⟨w.heap.size + 1 + 1, 0, none⟩ = some (.int .i64 off) ∧ w1.drew.cell? ⟨w.heap.size + 1 + 1, 1, none⟩ = some (.int .i64 5) ∧ w1.drew.cell? ⟨w.heap.size + 1 + 1, 2, none⟩ = some (.int .i64 idx) ∧ w1.drew.cell? ⟨w.heap.size + 1 + 1, 3, none⟩ = some (.int .u32 tgt) ∧ w1.drew.cell? ⟨w.heap.size + 1 + 1, 4, none⟩ = some (.int .u32 live) ∧ w1.drew.cell? ⟨w.heap.size + 1 + 1, 5, none⟩ = some (.int .i64 cst) ∧ w1.drew.rangeAt (w.heap.size + 1 + 1 + 1 + 1) 0 ctx.toList ∧ w.heap.size + 1 + 1 + 1 + 1 + 1 < w1.drew.heap.size ∧ GR w st vs ctx V C steps sa so n m At code w1.drew := gS_step5 (Below.drew (Below.refl _ w1)) (gS_step5 hb ⟨by go_simp, by go_simp, by go_simp, by go_simp, by go_simp, by go_simp, by go_simp, by go_simp, by go_simp, rangeAt_cs (by go_simp), by go_simp,
    ⟨by repeat (first | exact Below.refl _ _ | assumption | refine Below.drew ?_ | refine Below.alloc ?_ (by first | exact Nat.le_refl _ | omega | (simp; done) | (simp; omega)) _ | refine Below.setCell ?_ (by first | exact Nat.le_refl _ | omega | (simp; done) | (simp; omega)) _ | refine below_row ?_ _ (by first | exact Nat.le_refl _ | omega | (simp; done) | (simp; omega)) _), G.below (by repeat (first | exact Below.refl _ _ | assumption | refine Below.drew ?_ | refine Below.alloc ?_ (by first | exact Nat.le_refl _ | omega | (simp; done) | (simp; omega)) _ | refine Below.setCell ?_ (by first | exact Nat.le_refl _ | omega | (simp; done) | (simp; omega)) _ | refine below_row ?_ _ (by first | exact Nat.le_refl _ | omega | (simp; done) | (simp; omega)) _)), by go_simp, by go_simp, by go_simp, by go_simp, by go_simp⟩⟩)
  have HS := Lib.hid hS
  clear hS
  go_wp2_with fail
  refine wp_region_held_drew (S := (fun w' => w'.cell? ⟨w.heap.size + 1, 0, none⟩ = some (.slice sa n ca) ∧ w'.cell? ⟨w.heap.size + 1, 1, none⟩ = some (.slice sp np cp) ∧ w'.cell? ⟨w.heap.size + 1, 2, none⟩ = some (.slice so m co) ∧ w'.cell? ⟨w.heap.size + 1 + 1, 0, none⟩ = some (.int .i64 off) ∧ w'.cell? ⟨w.heap.size + 1 + 1, 1, none⟩ = some (.int .i64 5) ∧ w'.cell? ⟨w.heap.size + 1 + 1, 2, none⟩ = some (.int .i64 idx) ∧ w'.cell? ⟨w.heap.size + 1 + 1, 3, none⟩ = some (.int .u32 tgt) ∧ w'.cell? ⟨w.heap.size + 1 + 1, 4, none⟩ = some (.int .u32 live) ∧ w'.cell? ⟨w.heap.size + 1 + 1, 5, none⟩ = some (.int .i64 cst) ∧ w'.rangeAt (w.heap.size + 1 + 1 + 1 + 1) 0 ctx.toList ∧ w.heap.size + 1 + 1 + 1 + 1 + 1 < w'.heap.size ∧ GR w st vs ctx V C steps sa so n m At code w')) (by kernel_rfl) HS.out (fun hHeld => ?_)
  refine wpAnyH_take (i := 1) (v := ?v1) rfl (by kernel_rfl) (by kernel_rfl) (by kernel_rfl) (fun _ _ _ h => h) (Or.inl ⟨by rfl, ?hy1⟩) (by assumption) ?rest1
  case hy1 => (intro w hSw; (try dsimp only at hSw); go_simp; (try with_reducible rfl))
  try simp only [Act.put, List.getElem_toArray, List.getElem_cons_zero, List.getElem_cons_succ, List.setIfInBounds_toArray, List.set_cons_zero, List.set_cons_succ]
  refine wpAnyH_take (i := 2) (v := ?v2) rfl (by kernel_rfl) (by kernel_rfl) (by kernel_rfl) (fun _ _ _ h => h) (Or.inl ⟨by rfl, ?hy2⟩) (by assumption) ?rest2
  case hy2 => (intro w hSw; (try dsimp only at hSw); go_simp; (try with_reducible rfl))
  try simp only [Act.put, List.getElem_toArray, List.getElem_cons_zero, List.getElem_cons_succ, List.setIfInBounds_toArray, List.set_cons_zero, List.set_cons_succ]
  refine wpAnyH_take (i := 5) (v := ?v5) rfl (by kernel_rfl) (by kernel_rfl) (by kernel_rfl) (fun _ _ _ h => h) (Or.inl ⟨by rfl, ?hy5⟩) (by assumption) ?rest5
  case hy5 => (intro w hSw; (try dsimp only at hSw); go_simp; (try with_reducible rfl))
  try simp only [Act.put, List.getElem_toArray, List.getElem_cons_zero, List.getElem_cons_succ, List.setIfInBounds_toArray, List.set_cons_zero, List.set_cons_succ]
  refine wpAnyH_take (i := 6) (v := ?v6) rfl (by kernel_rfl) (by kernel_rfl) (by kernel_rfl) (fun _ _ _ h => h) (Or.inl ⟨by rfl, ?hy6⟩) (by assumption) ?rest6
  case hy6 => (intro w hSw; (try dsimp only at hSw); go_simp; (try with_reducible rfl))
  try simp only [Act.put, List.getElem_toArray, List.getElem_cons_zero, List.getElem_cons_succ, List.setIfInBounds_toArray, List.set_cons_zero, List.set_cons_succ]
  refine wpAnyH_take (i := 7) (v := ?v7) rfl (by kernel_rfl) (by kernel_rfl) (by kernel_rfl) (fun _ _ _ h => h) (Or.inl ⟨by rfl, ?hy7⟩) (by assumption) ?rest7
  case hy7 => (intro w hSw; (try dsimp only at hSw); (have hld := ld_rangeAt hctx hSw.2.2.2.2.2.2.2.2.2.1); go_simp; (try with_reducible rfl))
  try simp only [Act.put, List.getElem_toArray, List.getElem_cons_zero, List.getElem_cons_succ, List.setIfInBounds_toArray, List.set_cons_zero, List.set_cons_succ]
  refine wpAnyH_take (i := 8) (v := ?v8) rfl (by kernel_rfl) (by kernel_rfl) (by kernel_rfl) (fun _ _ _ h => h) (Or.inl ⟨by rfl, ?hy8⟩) (by assumption) ?rest8
  case hy8 => (intro w hSw; (try dsimp only at hSw); go_simp; (try with_reducible rfl))
  try simp only [Act.put, List.getElem_toArray, List.getElem_cons_zero, List.getElem_cons_succ, List.setIfInBounds_toArray, List.set_cons_zero, List.set_cons_succ]
  refine wpAnyH_ready (rs := [0]) (by kernel_rfl) (by simp) ?_
  refine AllReadyH.cons rfl (fun K hK => ?_) AllReadyH.nil
  go_simp
  refine (rules_at 5 25 _ rfl).mono ?_
  rintro e w2 ⟨rfl, hb2, hT⟩
  have hT2 : w2.cell? ⟨w1.heap.size, 5, none⟩ = some (.func (.func 25) #[] #[]) := hT
  clear hT
  refine hK.out _ _ (gS_step5 hb2 hHeld) (fun hHeld0 => ?_)
  clear hK K
  try simp only [Act.put, List.getElem_toArray, List.getElem_cons_zero, List.getElem_cons_succ, List.setIfInBounds_toArray, List.set_cons_zero, List.set_cons_succ]
  refine wpAnyH_take (i := 3) (v := ?v3) rfl (by kernel_rfl) (by kernel_rfl) (by kernel_rfl) (fun _ _ _ h => h) (Or.inl ⟨by rfl, ?hy3⟩) (by assumption) ?rest3
  case hy3 => (intro w hSw; (try dsimp only at hSw); go_simp; (try with_reducible rfl))
  try simp only [Act.put, List.getElem_toArray, List.getElem_cons_zero, List.getElem_cons_succ, List.setIfInBounds_toArray, List.set_cons_zero, List.set_cons_succ]
  refine wpAnyH_ready (rs := [4]) (by kernel_rfl) (by simp) ?_
  refine AllReadyH.cons rfl (fun K hK => ?_) AllReadyH.nil
  go_simp
  refine hK.out _ _ (hHeld0) (fun hHeld4 => ?_)
  clear hK K
  try simp only [Act.put, List.getElem_toArray, List.getElem_cons_zero, List.getElem_cons_succ, List.setIfInBounds_toArray, List.set_cons_zero, List.set_cons_succ]
  refine wpAnyH_ready (rs := [9]) (by kernel_rfl) (by simp) ?_
  refine AllReadyH.cons rfl (fun K hK => ?_) AllReadyH.nil
  go_simp
  refine (var_any _ (by simp [size_spl, size_z58]) (C 28) (C 19) _ (by simp [spl_get, hC, hctx, size_z58]) (by simp [spl_get, hC, hctx, size_z58])).mono ?_
  rintro e w3 ⟨rfl, hb3⟩
  refine hK.out _ _ (gS_step5 hb3 hHeld4) (fun hHeld9 => ?_)
  clear hK K
  try simp only [Act.put, List.getElem_toArray, List.getElem_cons_zero, List.getElem_cons_succ, List.setIfInBounds_toArray, List.set_cons_zero, List.set_cons_succ]
  refine wpAnyH_take (i := 10) (v := ?v10) rfl (by kernel_rfl) (by kernel_rfl) (by kernel_rfl) (fun _ _ _ h => h) (Or.inl ⟨by rfl, ?hy10⟩) (by assumption) ?rest10
  case hy10 => (intro w hSw; (try dsimp only at hSw); go_simp; (try with_reducible rfl))
  try simp only [Act.put, List.getElem_toArray, List.getElem_cons_zero, List.getElem_cons_succ, List.setIfInBounds_toArray, List.set_cons_zero, List.set_cons_succ]
  refine wpAnyH_take (i := 11) (v := ?v11) rfl (by kernel_rfl) (by kernel_rfl) (by kernel_rfl) (fun _ _ _ h => h) (Or.inl ⟨by rfl, ?hy11⟩) (by assumption) ?rest11
  case hy11 => (intro w hSw; (try dsimp only at hSw); go_simp; (try with_reducible rfl))
  try simp only [Act.put, List.getElem_toArray, List.getElem_cons_zero, List.getElem_cons_succ, List.setIfInBounds_toArray, List.set_cons_zero, List.set_cons_succ]
  refine wpAnyH_take (i := 12) (v := ?v12) rfl (by kernel_rfl) (by kernel_rfl) (by kernel_rfl) (fun _ _ _ h => h) (Or.inl ⟨by rfl, ?hy12⟩) (by assumption) ?rest12
  case hy12 => (intro w hSw; (try dsimp only at hSw); go_simp; (try with_reducible rfl))
  try simp only [Act.put, List.getElem_toArray, List.getElem_cons_zero, List.getElem_cons_succ, List.setIfInBounds_toArray, List.set_cons_zero, List.set_cons_succ]
  refine wpAnyH_take (i := 13) (v := ?v13) rfl (by kernel_rfl) (by kernel_rfl) (by kernel_rfl) (fun _ _ _ h => h) (Or.inl ⟨by rfl, ?hy13⟩) (by assumption) ?rest13
  case hy13 => (intro w hSw; (try dsimp only at hSw); go_simp; (try with_reducible rfl))
  try simp only [Act.put, List.getElem_toArray, List.getElem_cons_zero, List.getElem_cons_succ, List.setIfInBounds_toArray, List.set_cons_zero, List.set_cons_succ]
  refine wpAnyH_take (i := 14) (v := ?v14) rfl (by kernel_rfl) (by kernel_rfl) (by kernel_rfl) (fun _ _ _ h => h) (Or.inl ⟨by rfl, ?hy14⟩) (by assumption) ?rest14
  case hy14 => (intro w hSw; (try dsimp only at hSw); go_simp; (try with_reducible rfl))
  try simp only [Act.put, List.getElem_toArray, List.getElem_cons_zero, List.getElem_cons_succ, List.setIfInBounds_toArray, List.set_cons_zero, List.set_cons_succ]
  refine wpAnyH_done (by kernel_rfl) ?_ _
  have hR : GR w st vs ctx V C steps sa so n m At code w3 := hHeld9.2.2.2.2.2.2.2.2.2.2.2
  have HL3 := Lib.hid hHeld9
  clear hHeld9 hHeld4 hHeld0 hT2 hHeld
  have r1 := hR.st_
  have r2 := hR.vs_
  have r3 := hR.out_
  have r4 := hR.pl_
  have z5 := hR.big
  have z4 : w.heap.size + 1 + 1 + 1 + 1 < w3.heap.size := by omega
  have z3 : w.heap.size + 1 + 1 + 1 < w3.heap.size := by omega
  have z0 : w.heap.size < w3.heap.size := by omega
  have HR := Lib.hid hR.below
  clear hR
  go_wp2_with fail
  refine (Leave_any _ _ _ _ hst hvs V G.hV G.bV).mono ?_
  rintro e w4 ⟨rfl, hb4⟩
  obtain ⟨hc4, hf4⟩ := bcell hb4
  obtain ⟨hcs4, hpr4⟩ := bcs hb4
  have y := hb4.size
  have y5 : w.heap.size + 1 + 1 + 1 + 1 + 1 < w4.heap.size := by omega
  have y55 : ¬ (w.heap.size + 1 + 1 + 1 + 1 + 1 = w4.heap.size) := by omega
  have hlf := size_leaveF kind (flagsF (V 16) (V 17) (V 18)) st vs
  have hl22 := leaveF_22 kind (flagsF (V 16) (V 17) (V 18)) st vs hst steps h22
  have c28 := G.bC 28
  go_wp2_with fail
  refine bodyPost_ret_by (results_blk (n := 24) rfl _ Try.underlying28 rfl (by kernel_rfl) (by omega) _ _ _ rfl _ rfl (by go_simp)) rfl ⟨?_, ?_⟩
  · go_simp
    rfl
  · have HRo := HR.out
    repeat (first | exact Below.refl _ _ | assumption | refine below_call ?_ hb4 | refine Below.drew ?_ | refine Below.alloc ?_ (by first | exact Nat.le_refl _ | omega | (simp; done) | (simp; omega)) _ | refine Below.setCell ?_ (by first | exact Nat.le_refl _ | omega | (simp; done) | (simp; omega)) _ | refine below_row ?_ _ (by first | exact Nat.le_refl _ | omega | (simp; done) | (simp; omega)) _)

theorem gS_step1 {W w w1 : World} {st vs ctx : Array Value} {V C : Nat → Int} {steps : Int} {b0 o0 : Nat} {so sp : Option Addr} {n m ca co np cp : Nat} {At : Nat → Int} {code off idx tgt live cst : Int} (hb : Below w.heap.size w w1) (h : w.cell? ⟨W.heap.size + 1, 0, none⟩ = some (.slice (some ⟨b0, o0, none⟩) n ca) ∧ w.cell? ⟨W.heap.size + 1, 1, none⟩ = some (.slice sp np cp) ∧ w.cell? ⟨W.heap.size + 1, 2, none⟩ = some (.slice so m co) ∧ w.cell? ⟨W.heap.size + 1 + 1, 0, none⟩ = some (.int .i64 off) ∧ w.cell? ⟨W.heap.size + 1 + 1, 1, none⟩ = some (.int .i64 1) ∧ w.cell? ⟨W.heap.size + 1 + 1, 2, none⟩ = some (.int .i64 idx) ∧ w.cell? ⟨W.heap.size + 1 + 1, 3, none⟩ = some (.int .u32 tgt) ∧ w.cell? ⟨W.heap.size + 1 + 1, 4, none⟩ = some (.int .u32 live) ∧ w.cell? ⟨W.heap.size + 1 + 1, 5, none⟩ = some (.int .i64 cst) ∧ w.rangeAt (W.heap.size + 1 + 1 + 1 + 1) 0 ctx.toList ∧ W.heap.size + 1 + 1 + 1 + 1 + 1 < w.heap.size ∧ GR W st vs ctx V C steps (some ⟨b0, o0, none⟩) so n m At code w) :
    w1.cell? ⟨W.heap.size + 1, 0, none⟩ = some (.slice (some ⟨b0, o0, none⟩) n ca) ∧ w1.cell? ⟨W.heap.size + 1, 1, none⟩ = some (.slice sp np cp) ∧ w1.cell? ⟨W.heap.size + 1, 2, none⟩ = some (.slice so m co) ∧ w1.cell? ⟨W.heap.size + 1 + 1, 0, none⟩ = some (.int .i64 off) ∧ w1.cell? ⟨W.heap.size + 1 + 1, 1, none⟩ = some (.int .i64 1) ∧ w1.cell? ⟨W.heap.size + 1 + 1, 2, none⟩ = some (.int .i64 idx) ∧ w1.cell? ⟨W.heap.size + 1 + 1, 3, none⟩ = some (.int .u32 tgt) ∧ w1.cell? ⟨W.heap.size + 1 + 1, 4, none⟩ = some (.int .u32 live) ∧ w1.cell? ⟨W.heap.size + 1 + 1, 5, none⟩ = some (.int .i64 cst) ∧ w1.rangeAt (W.heap.size + 1 + 1 + 1 + 1) 0 ctx.toList ∧ W.heap.size + 1 + 1 + 1 + 1 + 1 < w1.heap.size ∧ GR W st vs ctx V C steps (some ⟨b0, o0, none⟩) so n m At code w1 := by
  obtain ⟨h1, h2, h3, h4, h5, h6, h7, h8, h9, h10, h11, h12⟩ := h
  exact ⟨keepC hb h1, keepC hb h2, keepC hb h3, keepC hb h4, keepC hb h5, keepC hb h6, keepC hb h7, keepC hb h8, keepC hb h9, h10.below hb (by omega), keepZ hb h11, GR.step hb h12⟩

set_option maxRecDepth 100000 in
set_option maxHeartbeats 8000000 in
theorem Guest_1 (kind : Int) (st vs ctx : Array Value) (V C : Nat → Int) (steps : Int) (b0 o0 : Nat) (so sp : Option Addr) (n m ca co np cp : Nat) (At : Nat → Int) (code : Int) (off idx tgt live cst : Int) (w : World) (G : GIn w st vs ctx V C steps (some ⟨b0, o0, none⟩) so n m At code) 
    (hn : 0 < n)
    (hval : validF 1 idx n = true) :
    Calls Try.prog 7 #[.int .i64 kind, .agg st, .agg #[.slice (some ⟨b0, o0, none⟩) n ca, .slice sp np cp, .slice so m co], .agg #[.int .i64 off, .int .i64 1, .int .i64 idx, .int .u32 tgt, .int .u32 live, .int .i64 cst], .agg vs, .agg ctx] w
      fun e w' => e = .returned (.agg (outG kind (flagsF (V 16) (V 17) (V 18)) st vs (At 0) steps (C 28))) ∧ Below w.heap.size w w' := by
  have hst := G.hst
  have hvs := G.hvs
  have hctx := G.hctx
  have hC := G.hC
  have h22 := G.h22
  haveI := G.ost
  haveI := G.ovs
  haveI := G.octx
  have hu32 := Try.underlying32
  have hi32 : (Try.prog.info? 32).map (·.size) = some ctx.toList.length := by rw [Array.length_toList, hctx]; exact size_32
  have h0n : ctx.toList.toArray = ctx := by simp
  go_enter Try.func7, Try.ntmps7
  go_wp2_with fail
  refine (valid_any _ _ _ _ _ _ _ _ _ _ _ _ _ _ _ _).mono ?_
  rintro e w1 ⟨rfl, hb⟩
  obtain ⟨hc, hf⟩ := bcell hb
  obtain ⟨hcs, hpr⟩ := bcs hb
  have hz := hb.size
  have hS : w1.drew.cell? ⟨w.heap.size + 1, 0, none⟩ = some (.slice (some ⟨b0, o0, none⟩) n ca) ∧ w1.drew.cell? ⟨w.heap.size + 1, 1, none⟩ = some (.slice sp np cp) ∧ w1.drew.cell? ⟨w.heap.size + 1, 2, none⟩ = some (.slice so m co) ∧ w1.drew.cell? ⟨w.heap.size + 1 + 1, 0, none⟩ = some (.int .i64 off) ∧ w1.drew.cell? ⟨w.heap.size + 1 + 1, 1, none⟩ = some (.int .i64 1) ∧ w1.drew.cell? ⟨w.heap.size + 1 + 1, 2, none⟩ = some (.int .i64 idx) ∧ w1.drew.cell? ⟨w.heap.size + 1 + 1, 3, none⟩ = some (.int .u32 tgt) ∧ w1.drew.cell? ⟨w.heap.size + 1 + 1, 4, none⟩ = some (.int .u32 live) ∧ w1.drew.cell? ⟨w.heap.size + 1 + 1, 5, none⟩ = some (.int .i64 cst) ∧ w1.drew.rangeAt (w.heap.size + 1 + 1 + 1 + 1) 0 ctx.toList ∧ w.heap.size + 1 + 1 + 1 + 1 + 1 < w1.drew.heap.size ∧ GR w st vs ctx V C steps (some ⟨b0, o0, none⟩) so n m At code w1.drew := gS_step1 (Below.drew (Below.refl _ w1)) (gS_step1 hb ⟨by go_simp, by go_simp, by go_simp, by go_simp, by go_simp, by go_simp, by go_simp, by go_simp, by go_simp, rangeAt_cs (by go_simp), by go_simp,
    ⟨by repeat (first | exact Below.refl _ _ | assumption | refine Below.drew ?_ | refine Below.alloc ?_ (by first | exact Nat.le_refl _ | omega | (simp; done) | (simp; omega)) _ | refine Below.setCell ?_ (by first | exact Nat.le_refl _ | omega | (simp; done) | (simp; omega)) _ | refine below_row ?_ _ (by first | exact Nat.le_refl _ | omega | (simp; done) | (simp; omega)) _), G.below (by repeat (first | exact Below.refl _ _ | assumption | refine Below.drew ?_ | refine Below.alloc ?_ (by first | exact Nat.le_refl _ | omega | (simp; done) | (simp; omega)) _ | refine Below.setCell ?_ (by first | exact Nat.le_refl _ | omega | (simp; done) | (simp; omega)) _ | refine below_row ?_ _ (by first | exact Nat.le_refl _ | omega | (simp; done) | (simp; omega)) _)), by go_simp, by go_simp, by go_simp, by go_simp, by go_simp⟩⟩)
  have HS := Lib.hid hS
  clear hS
  go_wp2_with fail
  refine wp_region_held_drew (S := (fun w' => w'.cell? ⟨w.heap.size + 1, 0, none⟩ = some (.slice (some ⟨b0, o0, none⟩) n ca) ∧ w'.cell? ⟨w.heap.size + 1, 1, none⟩ = some (.slice sp np cp) ∧ w'.cell? ⟨w.heap.size + 1, 2, none⟩ = some (.slice so m co) ∧ w'.cell? ⟨w.heap.size + 1 + 1, 0, none⟩ = some (.int .i64 off) ∧ w'.cell? ⟨w.heap.size + 1 + 1, 1, none⟩ = some (.int .i64 1) ∧ w'.cell? ⟨w.heap.size + 1 + 1, 2, none⟩ = some (.int .i64 idx) ∧ w'.cell? ⟨w.heap.size + 1 + 1, 3, none⟩ = some (.int .u32 tgt) ∧ w'.cell? ⟨w.heap.size + 1 + 1, 4, none⟩ = some (.int .u32 live) ∧ w'.cell? ⟨w.heap.size + 1 + 1, 5, none⟩ = some (.int .i64 cst) ∧ w'.rangeAt (w.heap.size + 1 + 1 + 1 + 1) 0 ctx.toList ∧ w.heap.size + 1 + 1 + 1 + 1 + 1 < w'.heap.size ∧ GR w st vs ctx V C steps (some ⟨b0, o0, none⟩) so n m At code w')) (by kernel_rfl) HS.out (fun hHeld => ?_)
  refine wpAnyH_take (i := 1) (v := ?v1) rfl (by kernel_rfl) (by kernel_rfl) (by kernel_rfl) (fun _ _ _ h => h) (Or.inl ⟨by rfl, ?hy1⟩) (by assumption) ?rest1
  case hy1 => (intro w hSw; (try dsimp only at hSw); go_simp; (try with_reducible rfl))
  try simp only [Act.put, List.getElem_toArray, List.getElem_cons_zero, List.getElem_cons_succ, List.setIfInBounds_toArray, List.set_cons_zero, List.set_cons_succ]
  refine wpAnyH_take (i := 2) (v := ?v2) rfl (by kernel_rfl) (by kernel_rfl) (by kernel_rfl) (fun _ _ _ h => h) (Or.inl ⟨by rfl, ?hy2⟩) (by assumption) ?rest2
  case hy2 => (intro w hSw; (try dsimp only at hSw); go_simp; (try with_reducible rfl))
  try simp only [Act.put, List.getElem_toArray, List.getElem_cons_zero, List.getElem_cons_succ, List.setIfInBounds_toArray, List.set_cons_zero, List.set_cons_succ]
  refine wpAnyH_take (i := 5) (v := ?v5) rfl (by kernel_rfl) (by kernel_rfl) (by kernel_rfl) (fun _ _ _ h => h) (Or.inl ⟨by rfl, ?hy5⟩) (by assumption) ?rest5
  case hy5 => (intro w hSw; (try dsimp only at hSw); go_simp; (try with_reducible rfl))
  try simp only [Act.put, List.getElem_toArray, List.getElem_cons_zero, List.getElem_cons_succ, List.setIfInBounds_toArray, List.set_cons_zero, List.set_cons_succ]
  refine wpAnyH_take (i := 6) (v := ?v6) rfl (by kernel_rfl) (by kernel_rfl) (by kernel_rfl) (fun _ _ _ h => h) (Or.inl ⟨by rfl, ?hy6⟩) (by assumption) ?rest6
  case hy6 => (intro w hSw; (try dsimp only at hSw); go_simp; (try with_reducible rfl))
  try simp only [Act.put, List.getElem_toArray, List.getElem_cons_zero, List.getElem_cons_succ, List.setIfInBounds_toArray, List.set_cons_zero, List.set_cons_succ]
  refine wpAnyH_take (i := 7) (v := ?v7) rfl (by kernel_rfl) (by kernel_rfl) (by kernel_rfl) (fun _ _ _ h => h) (Or.inl ⟨by rfl, ?hy7⟩) (by assumption) ?rest7
  case hy7 => (intro w hSw; (try dsimp only at hSw); (have hld := ld_rangeAt hctx hSw.2.2.2.2.2.2.2.2.2.1); go_simp; (try with_reducible rfl))
  try simp only [Act.put, List.getElem_toArray, List.getElem_cons_zero, List.getElem_cons_succ, List.setIfInBounds_toArray, List.set_cons_zero, List.set_cons_succ]
  refine wpAnyH_take (i := 8) (v := ?v8) rfl (by kernel_rfl) (by kernel_rfl) (by kernel_rfl) (fun _ _ _ h => h) (Or.inl ⟨by rfl, ?hy8⟩) (by assumption) ?rest8
  case hy8 => (intro w hSw; (try dsimp only at hSw); go_simp; (try with_reducible rfl))
  try simp only [Act.put, List.getElem_toArray, List.getElem_cons_zero, List.getElem_cons_succ, List.setIfInBounds_toArray, List.set_cons_zero, List.set_cons_succ]
  refine wpAnyH_ready (rs := [0]) (by kernel_rfl) (by simp) ?_
  refine AllReadyH.cons rfl (fun K hK => ?_) AllReadyH.nil
  go_simp
  refine (rules_at 1 24 _ rfl).mono ?_
  rintro e w2 ⟨rfl, hb2, hT⟩
  have hT2 : w2.cell? ⟨w1.heap.size, 1, none⟩ = some (.func (.func 24) #[] #[]) := hT
  clear hT
  refine hK.out _ _ (gS_step1 hb2 hHeld) (fun hHeld0 => ?_)
  clear hK K
  try simp only [Act.put, List.getElem_toArray, List.getElem_cons_zero, List.getElem_cons_succ, List.setIfInBounds_toArray, List.set_cons_zero, List.set_cons_succ]
  refine wpAnyH_take (i := 3) (v := ?v3) rfl (by kernel_rfl) (by kernel_rfl) (by kernel_rfl) (fun _ _ _ h => h) (Or.inl ⟨by rfl, ?hy3⟩) (by assumption) ?rest3
  case hy3 => (intro w hSw; (try dsimp only at hSw); go_simp; (try with_reducible rfl))
  try simp only [Act.put, List.getElem_toArray, List.getElem_cons_zero, List.getElem_cons_succ, List.setIfInBounds_toArray, List.set_cons_zero, List.set_cons_succ]
  refine wpAnyH_ready (rs := [4]) (by kernel_rfl) (by simp) ?_
  refine AllReadyH.cons rfl (fun K hK => ?_) AllReadyH.nil
  go_simp
  refine hK.out _ _ (hHeld0) (fun hHeld4 => ?_)
  clear hK K
  try simp only [Act.put, List.getElem_toArray, List.getElem_cons_zero, List.getElem_cons_succ, List.setIfInBounds_toArray, List.set_cons_zero, List.set_cons_succ]
  refine wpAnyH_ready (rs := [9]) (by kernel_rfl) (by simp) ?_
  refine AllReadyH.cons rfl (fun K hK => ?_) AllReadyH.nil
  go_simp
  refine (limit_any _ (by simp [size_spl, size_z58]) b0 o0 n ca At (C 28) _ (by simp [spl_get, hC, hctx, size_z58]) (by simp [spl_get, hC, hctx, size_z58]) hn (hHeld4.2.2.2.2.2.2.2.2.2.2.2.in_.at_.cell 0 hn)).mono ?_
  rintro e w3 ⟨rfl, hb3⟩
  refine hK.out _ _ (gS_step1 hb3 hHeld4) (fun hHeld9 => ?_)
  clear hK K
  try simp only [Act.put, List.getElem_toArray, List.getElem_cons_zero, List.getElem_cons_succ, List.setIfInBounds_toArray, List.set_cons_zero, List.set_cons_succ]
  refine wpAnyH_take (i := 10) (v := ?v10) rfl (by kernel_rfl) (by kernel_rfl) (by kernel_rfl) (fun _ _ _ h => h) (Or.inl ⟨by rfl, ?hy10⟩) (by assumption) ?rest10
  case hy10 => (intro w hSw; (try dsimp only at hSw); go_simp; (try with_reducible rfl))
  try simp only [Act.put, List.getElem_toArray, List.getElem_cons_zero, List.getElem_cons_succ, List.setIfInBounds_toArray, List.set_cons_zero, List.set_cons_succ]
  refine wpAnyH_take (i := 11) (v := ?v11) rfl (by kernel_rfl) (by kernel_rfl) (by kernel_rfl) (fun _ _ _ h => h) (Or.inl ⟨by rfl, ?hy11⟩) (by assumption) ?rest11
  case hy11 => (intro w hSw; (try dsimp only at hSw); go_simp; (try with_reducible rfl))
  try simp only [Act.put, List.getElem_toArray, List.getElem_cons_zero, List.getElem_cons_succ, List.setIfInBounds_toArray, List.set_cons_zero, List.set_cons_succ]
  refine wpAnyH_take (i := 12) (v := ?v12) rfl (by kernel_rfl) (by kernel_rfl) (by kernel_rfl) (fun _ _ _ h => h) (Or.inl ⟨by rfl, ?hy12⟩) (by assumption) ?rest12
  case hy12 => (intro w hSw; (try dsimp only at hSw); go_simp; (try with_reducible rfl))
  try simp only [Act.put, List.getElem_toArray, List.getElem_cons_zero, List.getElem_cons_succ, List.setIfInBounds_toArray, List.set_cons_zero, List.set_cons_succ]
  refine wpAnyH_take (i := 13) (v := ?v13) rfl (by kernel_rfl) (by kernel_rfl) (by kernel_rfl) (fun _ _ _ h => h) (Or.inl ⟨by rfl, ?hy13⟩) (by assumption) ?rest13
  case hy13 => (intro w hSw; (try dsimp only at hSw); go_simp; (try with_reducible rfl))
  try simp only [Act.put, List.getElem_toArray, List.getElem_cons_zero, List.getElem_cons_succ, List.setIfInBounds_toArray, List.set_cons_zero, List.set_cons_succ]
  refine wpAnyH_take (i := 14) (v := ?v14) rfl (by kernel_rfl) (by kernel_rfl) (by kernel_rfl) (fun _ _ _ h => h) (Or.inl ⟨by rfl, ?hy14⟩) (by assumption) ?rest14
  case hy14 => (intro w hSw; (try dsimp only at hSw); go_simp; (try with_reducible rfl))
  try simp only [Act.put, List.getElem_toArray, List.getElem_cons_zero, List.getElem_cons_succ, List.setIfInBounds_toArray, List.set_cons_zero, List.set_cons_succ]
  refine wpAnyH_done (by kernel_rfl) ?_ _
  have hR : GR w st vs ctx V C steps (some ⟨b0, o0, none⟩) so n m At code w3 := hHeld9.2.2.2.2.2.2.2.2.2.2.2
  have HL3 := Lib.hid hHeld9
  clear hHeld9 hHeld4 hHeld0 hT2 hHeld
  have r1 := hR.st_
  have r2 := hR.vs_
  have r3 := hR.out_
  have r4 := hR.pl_
  have z5 := hR.big
  have z4 : w.heap.size + 1 + 1 + 1 + 1 < w3.heap.size := by omega
  have z3 : w.heap.size + 1 + 1 + 1 < w3.heap.size := by omega
  have z0 : w.heap.size < w3.heap.size := by omega
  have HR := Lib.hid hR.below
  clear hR
  go_wp2_with fail
  refine (Leave_any _ _ _ _ hst hvs V G.hV G.bV).mono ?_
  rintro e w4 ⟨rfl, hb4⟩
  obtain ⟨hc4, hf4⟩ := bcell hb4
  obtain ⟨hcs4, hpr4⟩ := bcs hb4
  have y := hb4.size
  have y5 : w.heap.size + 1 + 1 + 1 + 1 + 1 < w4.heap.size := by omega
  have y55 : ¬ (w.heap.size + 1 + 1 + 1 + 1 + 1 = w4.heap.size) := by omega
  have hlf := size_leaveF kind (flagsF (V 16) (V 17) (V 18)) st vs
  have hl22 := leaveF_22 kind (flagsF (V 16) (V 17) (V 18)) st vs hst steps h22
  have c28 := G.bC 28
  go_wp2_with fail
  refine bodyPost_ret_by (results_blk (n := 24) rfl _ Try.underlying28 rfl (by kernel_rfl) (by omega) _ _ _ rfl _ rfl (by go_simp)) rfl ⟨?_, ?_⟩
  · go_simp
    rfl
  · have HRo := HR.out
    repeat (first | exact Below.refl _ _ | assumption | refine below_call ?_ hb4 | refine Below.drew ?_ | refine Below.alloc ?_ (by first | exact Nat.le_refl _ | omega | (simp; done) | (simp; omega)) _ | refine Below.setCell ?_ (by first | exact Nat.le_refl _ | omega | (simp; done) | (simp; omega)) _ | refine below_row ?_ _ (by first | exact Nat.le_refl _ | omega | (simp; done) | (simp; omega)) _)

theorem gS_step2 {W w w1 : World} {st vs ctx : Array Value} {V C : Nat → Int} {steps : Int} {b0 o0 : Nat} {so sp : Option Addr} {n m ca co np cp : Nat} {At : Nat → Int} {code off tgt live cst : Int} {i : Nat} (hb : Below w.heap.size w w1) (h : w.cell? ⟨W.heap.size + 1, 0, none⟩ = some (.slice (some ⟨b0, o0, none⟩) n ca) ∧ w.cell? ⟨W.heap.size + 1, 1, none⟩ = some (.slice sp np cp) ∧ w.cell? ⟨W.heap.size + 1, 2, none⟩ = some (.slice so m co) ∧ w.cell? ⟨W.heap.size + 1 + 1, 0, none⟩ = some (.int .i64 off) ∧ w.cell? ⟨W.heap.size + 1 + 1, 1, none⟩ = some (.int .i64 2) ∧ w.cell? ⟨W.heap.size + 1 + 1, 2, none⟩ = some (.int .i64 (i : Int)) ∧ w.cell? ⟨W.heap.size + 1 + 1, 3, none⟩ = some (.int .u32 tgt) ∧ w.cell? ⟨W.heap.size + 1 + 1, 4, none⟩ = some (.int .u32 live) ∧ w.cell? ⟨W.heap.size + 1 + 1, 5, none⟩ = some (.int .i64 cst) ∧ w.rangeAt (W.heap.size + 1 + 1 + 1 + 1) 0 ctx.toList ∧ W.heap.size + 1 + 1 + 1 + 1 + 1 < w.heap.size ∧ GR W st vs ctx V C steps (some ⟨b0, o0, none⟩) so n m At code w) :
    w1.cell? ⟨W.heap.size + 1, 0, none⟩ = some (.slice (some ⟨b0, o0, none⟩) n ca) ∧ w1.cell? ⟨W.heap.size + 1, 1, none⟩ = some (.slice sp np cp) ∧ w1.cell? ⟨W.heap.size + 1, 2, none⟩ = some (.slice so m co) ∧ w1.cell? ⟨W.heap.size + 1 + 1, 0, none⟩ = some (.int .i64 off) ∧ w1.cell? ⟨W.heap.size + 1 + 1, 1, none⟩ = some (.int .i64 2) ∧ w1.cell? ⟨W.heap.size + 1 + 1, 2, none⟩ = some (.int .i64 (i : Int)) ∧ w1.cell? ⟨W.heap.size + 1 + 1, 3, none⟩ = some (.int .u32 tgt) ∧ w1.cell? ⟨W.heap.size + 1 + 1, 4, none⟩ = some (.int .u32 live) ∧ w1.cell? ⟨W.heap.size + 1 + 1, 5, none⟩ = some (.int .i64 cst) ∧ w1.rangeAt (W.heap.size + 1 + 1 + 1 + 1) 0 ctx.toList ∧ W.heap.size + 1 + 1 + 1 + 1 + 1 < w1.heap.size ∧ GR W st vs ctx V C steps (some ⟨b0, o0, none⟩) so n m At code w1 := by
  obtain ⟨h1, h2, h3, h4, h5, h6, h7, h8, h9, h10, h11, h12⟩ := h
  exact ⟨keepC hb h1, keepC hb h2, keepC hb h3, keepC hb h4, keepC hb h5, keepC hb h6, keepC hb h7, keepC hb h8, keepC hb h9, h10.below hb (by omega), keepZ hb h11, GR.step hb h12⟩

set_option maxRecDepth 100000 in
set_option maxHeartbeats 8000000 in
theorem Guest_2 (kind : Int) (st vs ctx : Array Value) (V C : Nat → Int) (steps : Int) (b0 o0 : Nat) (so sp : Option Addr) (n m ca co np cp : Nat) (At : Nat → Int) (code : Int) (off tgt live cst : Int) (i : Nat) (w : World) (G : GIn w st vs ctx V C steps (some ⟨b0, o0, none⟩) so n m At code) 
    (hi : i < n)
    (hval : validF 2 i n = true) :
    Calls Try.prog 7 #[.int .i64 kind, .agg st, .agg #[.slice (some ⟨b0, o0, none⟩) n ca, .slice sp np cp, .slice so m co], .agg #[.int .i64 off, .int .i64 2, .int .i64 (i : Int), .int .u32 tgt, .int .u32 live, .int .i64 cst], .agg vs, .agg ctx] w
      fun e w' => e = .returned (.agg (outG kind (flagsF (V 16) (V 17) (V 18)) st vs (At i) steps (((C 28 - lenF n m code) % 4294967296 + (i : Int) % 4294967296) % 4294967296))) ∧ Below w.heap.size w w' := by
  have hst := G.hst
  have hvs := G.hvs
  have hctx := G.hctx
  have hC := G.hC
  have h22 := G.h22
  haveI := G.ost
  haveI := G.ovs
  haveI := G.octx
  have hu32 := Try.underlying32
  have hi32 : (Try.prog.info? 32).map (·.size) = some ctx.toList.length := by rw [Array.length_toList, hctx]; exact size_32
  have h0n : ctx.toList.toArray = ctx := by simp
  go_enter Try.func7, Try.ntmps7
  go_wp2_with fail
  refine (valid_any _ _ _ _ _ _ _ _ _ _ _ _ _ _ _ _).mono ?_
  rintro e w1 ⟨rfl, hb⟩
  obtain ⟨hc, hf⟩ := bcell hb
  obtain ⟨hcs, hpr⟩ := bcs hb
  have hz := hb.size
  have hS : w1.drew.cell? ⟨w.heap.size + 1, 0, none⟩ = some (.slice (some ⟨b0, o0, none⟩) n ca) ∧ w1.drew.cell? ⟨w.heap.size + 1, 1, none⟩ = some (.slice sp np cp) ∧ w1.drew.cell? ⟨w.heap.size + 1, 2, none⟩ = some (.slice so m co) ∧ w1.drew.cell? ⟨w.heap.size + 1 + 1, 0, none⟩ = some (.int .i64 off) ∧ w1.drew.cell? ⟨w.heap.size + 1 + 1, 1, none⟩ = some (.int .i64 2) ∧ w1.drew.cell? ⟨w.heap.size + 1 + 1, 2, none⟩ = some (.int .i64 (i : Int)) ∧ w1.drew.cell? ⟨w.heap.size + 1 + 1, 3, none⟩ = some (.int .u32 tgt) ∧ w1.drew.cell? ⟨w.heap.size + 1 + 1, 4, none⟩ = some (.int .u32 live) ∧ w1.drew.cell? ⟨w.heap.size + 1 + 1, 5, none⟩ = some (.int .i64 cst) ∧ w1.drew.rangeAt (w.heap.size + 1 + 1 + 1 + 1) 0 ctx.toList ∧ w.heap.size + 1 + 1 + 1 + 1 + 1 < w1.drew.heap.size ∧ GR w st vs ctx V C steps (some ⟨b0, o0, none⟩) so n m At code w1.drew := gS_step2 (Below.drew (Below.refl _ w1)) (gS_step2 hb ⟨by go_simp, by go_simp, by go_simp, by go_simp, by go_simp, by go_simp, by go_simp, by go_simp, by go_simp, rangeAt_cs (by go_simp), by go_simp,
    ⟨by repeat (first | exact Below.refl _ _ | assumption | refine Below.drew ?_ | refine Below.alloc ?_ (by first | exact Nat.le_refl _ | omega | (simp; done) | (simp; omega)) _ | refine Below.setCell ?_ (by first | exact Nat.le_refl _ | omega | (simp; done) | (simp; omega)) _ | refine below_row ?_ _ (by first | exact Nat.le_refl _ | omega | (simp; done) | (simp; omega)) _), G.below (by repeat (first | exact Below.refl _ _ | assumption | refine Below.drew ?_ | refine Below.alloc ?_ (by first | exact Nat.le_refl _ | omega | (simp; done) | (simp; omega)) _ | refine Below.setCell ?_ (by first | exact Nat.le_refl _ | omega | (simp; done) | (simp; omega)) _ | refine below_row ?_ _ (by first | exact Nat.le_refl _ | omega | (simp; done) | (simp; omega)) _)), by go_simp, by go_simp, by go_simp, by go_simp, by go_simp⟩⟩)
  have HS := Lib.hid hS
  clear hS
  go_wp2_with fail
  refine wp_region_held_drew (S := (fun w' => w'.cell? ⟨w.heap.size + 1, 0, none⟩ = some (.slice (some ⟨b0, o0, none⟩) n ca) ∧ w'.cell? ⟨w.heap.size + 1, 1, none⟩ = some (.slice sp np cp) ∧ w'.cell? ⟨w.heap.size + 1, 2, none⟩ = some (.slice so m co) ∧ w'.cell? ⟨w.heap.size + 1 + 1, 0, none⟩ = some (.int .i64 off) ∧ w'.cell? ⟨w.heap.size + 1 + 1, 1, none⟩ = some (.int .i64 2) ∧ w'.cell? ⟨w.heap.size + 1 + 1, 2, none⟩ = some (.int .i64 (i : Int)) ∧ w'.cell? ⟨w.heap.size + 1 + 1, 3, none⟩ = some (.int .u32 tgt) ∧ w'.cell? ⟨w.heap.size + 1 + 1, 4, none⟩ = some (.int .u32 live) ∧ w'.cell? ⟨w.heap.size + 1 + 1, 5, none⟩ = some (.int .i64 cst) ∧ w'.rangeAt (w.heap.size + 1 + 1 + 1 + 1) 0 ctx.toList ∧ w.heap.size + 1 + 1 + 1 + 1 + 1 < w'.heap.size ∧ GR w st vs ctx V C steps (some ⟨b0, o0, none⟩) so n m At code w')) (by kernel_rfl) HS.out (fun hHeld => ?_)
  refine wpAnyH_take (i := 1) (v := ?v1) rfl (by kernel_rfl) (by kernel_rfl) (by kernel_rfl) (fun _ _ _ h => h) (Or.inl ⟨by rfl, ?hy1⟩) (by assumption) ?rest1
  case hy1 => (intro w hSw; (try dsimp only at hSw); go_simp; (try with_reducible rfl))
  try simp only [Act.put, List.getElem_toArray, List.getElem_cons_zero, List.getElem_cons_succ, List.setIfInBounds_toArray, List.set_cons_zero, List.set_cons_succ]
  refine wpAnyH_take (i := 2) (v := ?v2) rfl (by kernel_rfl) (by kernel_rfl) (by kernel_rfl) (fun _ _ _ h => h) (Or.inl ⟨by rfl, ?hy2⟩) (by assumption) ?rest2
  case hy2 => (intro w hSw; (try dsimp only at hSw); go_simp; (try with_reducible rfl))
  try simp only [Act.put, List.getElem_toArray, List.getElem_cons_zero, List.getElem_cons_succ, List.setIfInBounds_toArray, List.set_cons_zero, List.set_cons_succ]
  refine wpAnyH_take (i := 5) (v := ?v5) rfl (by kernel_rfl) (by kernel_rfl) (by kernel_rfl) (fun _ _ _ h => h) (Or.inl ⟨by rfl, ?hy5⟩) (by assumption) ?rest5
  case hy5 => (intro w hSw; (try dsimp only at hSw); go_simp; (try with_reducible rfl))
  try simp only [Act.put, List.getElem_toArray, List.getElem_cons_zero, List.getElem_cons_succ, List.setIfInBounds_toArray, List.set_cons_zero, List.set_cons_succ]
  refine wpAnyH_take (i := 6) (v := ?v6) rfl (by kernel_rfl) (by kernel_rfl) (by kernel_rfl) (fun _ _ _ h => h) (Or.inl ⟨by rfl, ?hy6⟩) (by assumption) ?rest6
  case hy6 => (intro w hSw; (try dsimp only at hSw); go_simp; (try with_reducible rfl))
  try simp only [Act.put, List.getElem_toArray, List.getElem_cons_zero, List.getElem_cons_succ, List.setIfInBounds_toArray, List.set_cons_zero, List.set_cons_succ]
  refine wpAnyH_take (i := 7) (v := ?v7) rfl (by kernel_rfl) (by kernel_rfl) (by kernel_rfl) (fun _ _ _ h => h) (Or.inl ⟨by rfl, ?hy7⟩) (by assumption) ?rest7
  case hy7 => (intro w hSw; (try dsimp only at hSw); (have hld := ld_rangeAt hctx hSw.2.2.2.2.2.2.2.2.2.1); go_simp; (try with_reducible rfl))
  try simp only [Act.put, List.getElem_toArray, List.getElem_cons_zero, List.getElem_cons_succ, List.setIfInBounds_toArray, List.set_cons_zero, List.set_cons_succ]
  refine wpAnyH_take (i := 8) (v := ?v8) rfl (by kernel_rfl) (by kernel_rfl) (by kernel_rfl) (fun _ _ _ h => h) (Or.inl ⟨by rfl, ?hy8⟩) (by assumption) ?rest8
  case hy8 => (intro w hSw; (try dsimp only at hSw); go_simp; (try with_reducible rfl))
  try simp only [Act.put, List.getElem_toArray, List.getElem_cons_zero, List.getElem_cons_succ, List.setIfInBounds_toArray, List.set_cons_zero, List.set_cons_succ]
  refine wpAnyH_ready (rs := [0]) (by kernel_rfl) (by simp) ?_
  refine AllReadyH.cons rfl (fun K hK => ?_) AllReadyH.nil
  go_simp
  refine (rules_at 2 21 _ rfl).mono ?_
  rintro e w2 ⟨rfl, hb2, hT⟩
  have hT2 : w2.cell? ⟨w1.heap.size, 2, none⟩ = some (.func (.func 21) #[] #[]) := hT
  clear hT
  refine hK.out _ _ (gS_step2 hb2 hHeld) (fun hHeld0 => ?_)
  clear hK K
  try simp only [Act.put, List.getElem_toArray, List.getElem_cons_zero, List.getElem_cons_succ, List.setIfInBounds_toArray, List.set_cons_zero, List.set_cons_succ]
  refine wpAnyH_take (i := 3) (v := ?v3) rfl (by kernel_rfl) (by kernel_rfl) (by kernel_rfl) (fun _ _ _ h => h) (Or.inl ⟨by rfl, ?hy3⟩) (by assumption) ?rest3
  case hy3 => (intro w hSw; (try dsimp only at hSw); go_simp; (try with_reducible rfl))
  try simp only [Act.put, List.getElem_toArray, List.getElem_cons_zero, List.getElem_cons_succ, List.setIfInBounds_toArray, List.set_cons_zero, List.set_cons_succ]
  refine wpAnyH_ready (rs := [4]) (by kernel_rfl) (by simp) ?_
  refine AllReadyH.cons rfl (fun K hK => ?_) AllReadyH.nil
  go_simp
  refine hK.out _ _ (hHeld0) (fun hHeld4 => ?_)
  clear hK K
  try simp only [Act.put, List.getElem_toArray, List.getElem_cons_zero, List.getElem_cons_succ, List.setIfInBounds_toArray, List.set_cons_zero, List.set_cons_succ]
  refine wpAnyH_ready (rs := [9]) (by kernel_rfl) (by simp) ?_
  refine AllReadyH.cons rfl (fun K hK => ?_) AllReadyH.nil
  go_simp
  refine (inside_any _ (by simp [size_spl, size_z58]) b0 o0 so sp n m ca co np cp i (C 28) code At _ (by simp [spl_get, hC, hctx, size_z58]) (by simp [spl_get, hC, hctx, size_z58]) (by simp [spl_get, hC, hctx, size_z58]) (by simp [spl_get, hC, hctx, size_z58]) (by simp [spl_get, hC, hctx, size_z58]) (G.bC 28).1 (G.bC 28).2 hi (hHeld4.2.2.2.2.2.2.2.2.2.2.2.in_.at_.cell i hi) hHeld4.2.2.2.2.2.2.2.2.2.2.2.in_.last hHeld4.2.2.2.2.2.2.2.2.2.2.2.in_.small).mono ?_
  rintro e w3 ⟨rfl, hb3⟩
  refine hK.out _ _ (gS_step2 hb3 hHeld4) (fun hHeld9 => ?_)
  clear hK K
  try simp only [Act.put, List.getElem_toArray, List.getElem_cons_zero, List.getElem_cons_succ, List.setIfInBounds_toArray, List.set_cons_zero, List.set_cons_succ]
  refine wpAnyH_take (i := 10) (v := ?v10) rfl (by kernel_rfl) (by kernel_rfl) (by kernel_rfl) (fun _ _ _ h => h) (Or.inl ⟨by rfl, ?hy10⟩) (by assumption) ?rest10
  case hy10 => (intro w hSw; (try dsimp only at hSw); go_simp; (try with_reducible rfl))
  try simp only [Act.put, List.getElem_toArray, List.getElem_cons_zero, List.getElem_cons_succ, List.setIfInBounds_toArray, List.set_cons_zero, List.set_cons_succ]
  refine wpAnyH_take (i := 11) (v := ?v11) rfl (by kernel_rfl) (by kernel_rfl) (by kernel_rfl) (fun _ _ _ h => h) (Or.inl ⟨by rfl, ?hy11⟩) (by assumption) ?rest11
  case hy11 => (intro w hSw; (try dsimp only at hSw); go_simp; (try with_reducible rfl))
  try simp only [Act.put, List.getElem_toArray, List.getElem_cons_zero, List.getElem_cons_succ, List.setIfInBounds_toArray, List.set_cons_zero, List.set_cons_succ]
  refine wpAnyH_take (i := 12) (v := ?v12) rfl (by kernel_rfl) (by kernel_rfl) (by kernel_rfl) (fun _ _ _ h => h) (Or.inl ⟨by rfl, ?hy12⟩) (by assumption) ?rest12
  case hy12 => (intro w hSw; (try dsimp only at hSw); go_simp; (try with_reducible rfl))
  try simp only [Act.put, List.getElem_toArray, List.getElem_cons_zero, List.getElem_cons_succ, List.setIfInBounds_toArray, List.set_cons_zero, List.set_cons_succ]
  refine wpAnyH_take (i := 13) (v := ?v13) rfl (by kernel_rfl) (by kernel_rfl) (by kernel_rfl) (fun _ _ _ h => h) (Or.inl ⟨by rfl, ?hy13⟩) (by assumption) ?rest13
  case hy13 => (intro w hSw; (try dsimp only at hSw); go_simp; (try with_reducible rfl))
  try simp only [Act.put, List.getElem_toArray, List.getElem_cons_zero, List.getElem_cons_succ, List.setIfInBounds_toArray, List.set_cons_zero, List.set_cons_succ]
  refine wpAnyH_take (i := 14) (v := ?v14) rfl (by kernel_rfl) (by kernel_rfl) (by kernel_rfl) (fun _ _ _ h => h) (Or.inl ⟨by rfl, ?hy14⟩) (by assumption) ?rest14
  case hy14 => (intro w hSw; (try dsimp only at hSw); go_simp; (try with_reducible rfl))
  try simp only [Act.put, List.getElem_toArray, List.getElem_cons_zero, List.getElem_cons_succ, List.setIfInBounds_toArray, List.set_cons_zero, List.set_cons_succ]
  refine wpAnyH_done (by kernel_rfl) ?_ _
  have hR : GR w st vs ctx V C steps (some ⟨b0, o0, none⟩) so n m At code w3 := hHeld9.2.2.2.2.2.2.2.2.2.2.2
  have HL3 := Lib.hid hHeld9
  clear hHeld9 hHeld4 hHeld0 hT2 hHeld
  have r1 := hR.st_
  have r2 := hR.vs_
  have r3 := hR.out_
  have r4 := hR.pl_
  have z5 := hR.big
  have z4 : w.heap.size + 1 + 1 + 1 + 1 < w3.heap.size := by omega
  have z3 : w.heap.size + 1 + 1 + 1 < w3.heap.size := by omega
  have z0 : w.heap.size < w3.heap.size := by omega
  have HR := Lib.hid hR.below
  clear hR
  go_wp2_with fail
  refine (Leave_any _ _ _ _ hst hvs V G.hV G.bV).mono ?_
  rintro e w4 ⟨rfl, hb4⟩
  obtain ⟨hc4, hf4⟩ := bcell hb4
  obtain ⟨hcs4, hpr4⟩ := bcs hb4
  have y := hb4.size
  have y5 : w.heap.size + 1 + 1 + 1 + 1 + 1 < w4.heap.size := by omega
  have y55 : ¬ (w.heap.size + 1 + 1 + 1 + 1 + 1 = w4.heap.size) := by omega
  have hlf := size_leaveF kind (flagsF (V 16) (V 17) (V 18)) st vs
  have hl22 := leaveF_22 kind (flagsF (V 16) (V 17) (V 18)) st vs hst steps h22
  have c28 := G.bC 28
  go_wp2_with fail
  refine bodyPost_ret_by (results_blk (n := 24) rfl _ Try.underlying28 rfl (by kernel_rfl) (by omega) _ _ _ rfl _ rfl (by go_simp)) rfl ⟨?_, ?_⟩
  · go_simp
    rfl
  · have HRo := HR.out
    repeat (first | exact Below.refl _ _ | assumption | refine below_call ?_ hb4 | refine Below.drew ?_ | refine Below.alloc ?_ (by first | exact Nat.le_refl _ | omega | (simp; done) | (simp; omega)) _ | refine Below.setCell ?_ (by first | exact Nat.le_refl _ | omega | (simp; done) | (simp; omega)) _ | refine below_row ?_ _ (by first | exact Nat.le_refl _ | omega | (simp; done) | (simp; omega)) _)

theorem gS_step3 {W w w1 : World} {st vs ctx : Array Value} {V C : Nat → Int} {steps : Int} {b0 o0 : Nat} {so sp : Option Addr} {n m ca co np cp : Nat} {At : Nat → Int} {code off tgt live cst : Int} {i : Nat} (hb : Below w.heap.size w w1) (h : w.cell? ⟨W.heap.size + 1, 0, none⟩ = some (.slice (some ⟨b0, o0, none⟩) n ca) ∧ w.cell? ⟨W.heap.size + 1, 1, none⟩ = some (.slice sp np cp) ∧ w.cell? ⟨W.heap.size + 1, 2, none⟩ = some (.slice so m co) ∧ w.cell? ⟨W.heap.size + 1 + 1, 0, none⟩ = some (.int .i64 off) ∧ w.cell? ⟨W.heap.size + 1 + 1, 1, none⟩ = some (.int .i64 3) ∧ w.cell? ⟨W.heap.size + 1 + 1, 2, none⟩ = some (.int .i64 (i : Int)) ∧ w.cell? ⟨W.heap.size + 1 + 1, 3, none⟩ = some (.int .u32 tgt) ∧ w.cell? ⟨W.heap.size + 1 + 1, 4, none⟩ = some (.int .u32 live) ∧ w.cell? ⟨W.heap.size + 1 + 1, 5, none⟩ = some (.int .i64 cst) ∧ w.rangeAt (W.heap.size + 1 + 1 + 1 + 1) 0 ctx.toList ∧ W.heap.size + 1 + 1 + 1 + 1 + 1 < w.heap.size ∧ GR W st vs ctx V C steps (some ⟨b0, o0, none⟩) so n m At code w) :
    w1.cell? ⟨W.heap.size + 1, 0, none⟩ = some (.slice (some ⟨b0, o0, none⟩) n ca) ∧ w1.cell? ⟨W.heap.size + 1, 1, none⟩ = some (.slice sp np cp) ∧ w1.cell? ⟨W.heap.size + 1, 2, none⟩ = some (.slice so m co) ∧ w1.cell? ⟨W.heap.size + 1 + 1, 0, none⟩ = some (.int .i64 off) ∧ w1.cell? ⟨W.heap.size + 1 + 1, 1, none⟩ = some (.int .i64 3) ∧ w1.cell? ⟨W.heap.size + 1 + 1, 2, none⟩ = some (.int .i64 (i : Int)) ∧ w1.cell? ⟨W.heap.size + 1 + 1, 3, none⟩ = some (.int .u32 tgt) ∧ w1.cell? ⟨W.heap.size + 1 + 1, 4, none⟩ = some (.int .u32 live) ∧ w1.cell? ⟨W.heap.size + 1 + 1, 5, none⟩ = some (.int .i64 cst) ∧ w1.rangeAt (W.heap.size + 1 + 1 + 1 + 1) 0 ctx.toList ∧ W.heap.size + 1 + 1 + 1 + 1 + 1 < w1.heap.size ∧ GR W st vs ctx V C steps (some ⟨b0, o0, none⟩) so n m At code w1 := by
  obtain ⟨h1, h2, h3, h4, h5, h6, h7, h8, h9, h10, h11, h12⟩ := h
  exact ⟨keepC hb h1, keepC hb h2, keepC hb h3, keepC hb h4, keepC hb h5, keepC hb h6, keepC hb h7, keepC hb h8, keepC hb h9, h10.below hb (by omega), keepZ hb h11, GR.step hb h12⟩

set_option maxRecDepth 100000 in
set_option maxHeartbeats 8000000 in
theorem Guest_3 (kind : Int) (st vs ctx : Array Value) (V C : Nat → Int) (steps : Int) (b0 o0 : Nat) (so sp : Option Addr) (n m ca co np cp : Nat) (At : Nat → Int) (code : Int) (off tgt live cst : Int) (i : Nat) (w : World) (G : GIn w st vs ctx V C steps (some ⟨b0, o0, none⟩) so n m At code) 
    (hi : i < n)
    (hval : validF 3 i n = true) :
    Calls Try.prog 7 #[.int .i64 kind, .agg st, .agg #[.slice (some ⟨b0, o0, none⟩) n ca, .slice sp np cp, .slice so m co], .agg #[.int .i64 off, .int .i64 3, .int .i64 (i : Int), .int .u32 tgt, .int .u32 live, .int .i64 cst], .agg vs, .agg ctx] w
      fun e w' => e = .returned (.agg (outG kind (flagsF (V 16) (V 17) (V 18)) st vs (At i) steps (((C 28 - lenF n m code) % 4294967296 + (i : Int) % 4294967296) % 4294967296))) ∧ Below w.heap.size w w' := by
  have hst := G.hst
  have hvs := G.hvs
  have hctx := G.hctx
  have hC := G.hC
  have h22 := G.h22
  haveI := G.ost
  haveI := G.ovs
  haveI := G.octx
  have hu32 := Try.underlying32
  have hi32 : (Try.prog.info? 32).map (·.size) = some ctx.toList.length := by rw [Array.length_toList, hctx]; exact size_32
  have h0n : ctx.toList.toArray = ctx := by simp
  go_enter Try.func7, Try.ntmps7
  go_wp2_with fail
  refine (valid_any _ _ _ _ _ _ _ _ _ _ _ _ _ _ _ _).mono ?_
  rintro e w1 ⟨rfl, hb⟩
  obtain ⟨hc, hf⟩ := bcell hb
  obtain ⟨hcs, hpr⟩ := bcs hb
  have hz := hb.size
  have hS : w1.drew.cell? ⟨w.heap.size + 1, 0, none⟩ = some (.slice (some ⟨b0, o0, none⟩) n ca) ∧ w1.drew.cell? ⟨w.heap.size + 1, 1, none⟩ = some (.slice sp np cp) ∧ w1.drew.cell? ⟨w.heap.size + 1, 2, none⟩ = some (.slice so m co) ∧ w1.drew.cell? ⟨w.heap.size + 1 + 1, 0, none⟩ = some (.int .i64 off) ∧ w1.drew.cell? ⟨w.heap.size + 1 + 1, 1, none⟩ = some (.int .i64 3) ∧ w1.drew.cell? ⟨w.heap.size + 1 + 1, 2, none⟩ = some (.int .i64 (i : Int)) ∧ w1.drew.cell? ⟨w.heap.size + 1 + 1, 3, none⟩ = some (.int .u32 tgt) ∧ w1.drew.cell? ⟨w.heap.size + 1 + 1, 4, none⟩ = some (.int .u32 live) ∧ w1.drew.cell? ⟨w.heap.size + 1 + 1, 5, none⟩ = some (.int .i64 cst) ∧ w1.drew.rangeAt (w.heap.size + 1 + 1 + 1 + 1) 0 ctx.toList ∧ w.heap.size + 1 + 1 + 1 + 1 + 1 < w1.drew.heap.size ∧ GR w st vs ctx V C steps (some ⟨b0, o0, none⟩) so n m At code w1.drew := gS_step3 (Below.drew (Below.refl _ w1)) (gS_step3 hb ⟨by go_simp, by go_simp, by go_simp, by go_simp, by go_simp, by go_simp, by go_simp, by go_simp, by go_simp, rangeAt_cs (by go_simp), by go_simp,
    ⟨by repeat (first | exact Below.refl _ _ | assumption | refine Below.drew ?_ | refine Below.alloc ?_ (by first | exact Nat.le_refl _ | omega | (simp; done) | (simp; omega)) _ | refine Below.setCell ?_ (by first | exact Nat.le_refl _ | omega | (simp; done) | (simp; omega)) _ | refine below_row ?_ _ (by first | exact Nat.le_refl _ | omega | (simp; done) | (simp; omega)) _), G.below (by repeat (first | exact Below.refl _ _ | assumption | refine Below.drew ?_ | refine Below.alloc ?_ (by first | exact Nat.le_refl _ | omega | (simp; done) | (simp; omega)) _ | refine Below.setCell ?_ (by first | exact Nat.le_refl _ | omega | (simp; done) | (simp; omega)) _ | refine below_row ?_ _ (by first | exact Nat.le_refl _ | omega | (simp; done) | (simp; omega)) _)), by go_simp, by go_simp, by go_simp, by go_simp, by go_simp⟩⟩)
  have HS := Lib.hid hS
  clear hS
  go_wp2_with fail
  refine wp_region_held_drew (S := (fun w' => w'.cell? ⟨w.heap.size + 1, 0, none⟩ = some (.slice (some ⟨b0, o0, none⟩) n ca) ∧ w'.cell? ⟨w.heap.size + 1, 1, none⟩ = some (.slice sp np cp) ∧ w'.cell? ⟨w.heap.size + 1, 2, none⟩ = some (.slice so m co) ∧ w'.cell? ⟨w.heap.size + 1 + 1, 0, none⟩ = some (.int .i64 off) ∧ w'.cell? ⟨w.heap.size + 1 + 1, 1, none⟩ = some (.int .i64 3) ∧ w'.cell? ⟨w.heap.size + 1 + 1, 2, none⟩ = some (.int .i64 (i : Int)) ∧ w'.cell? ⟨w.heap.size + 1 + 1, 3, none⟩ = some (.int .u32 tgt) ∧ w'.cell? ⟨w.heap.size + 1 + 1, 4, none⟩ = some (.int .u32 live) ∧ w'.cell? ⟨w.heap.size + 1 + 1, 5, none⟩ = some (.int .i64 cst) ∧ w'.rangeAt (w.heap.size + 1 + 1 + 1 + 1) 0 ctx.toList ∧ w.heap.size + 1 + 1 + 1 + 1 + 1 < w'.heap.size ∧ GR w st vs ctx V C steps (some ⟨b0, o0, none⟩) so n m At code w')) (by kernel_rfl) HS.out (fun hHeld => ?_)
  refine wpAnyH_take (i := 1) (v := ?v1) rfl (by kernel_rfl) (by kernel_rfl) (by kernel_rfl) (fun _ _ _ h => h) (Or.inl ⟨by rfl, ?hy1⟩) (by assumption) ?rest1
  case hy1 => (intro w hSw; (try dsimp only at hSw); go_simp; (try with_reducible rfl))
  try simp only [Act.put, List.getElem_toArray, List.getElem_cons_zero, List.getElem_cons_succ, List.setIfInBounds_toArray, List.set_cons_zero, List.set_cons_succ]
  refine wpAnyH_take (i := 2) (v := ?v2) rfl (by kernel_rfl) (by kernel_rfl) (by kernel_rfl) (fun _ _ _ h => h) (Or.inl ⟨by rfl, ?hy2⟩) (by assumption) ?rest2
  case hy2 => (intro w hSw; (try dsimp only at hSw); go_simp; (try with_reducible rfl))
  try simp only [Act.put, List.getElem_toArray, List.getElem_cons_zero, List.getElem_cons_succ, List.setIfInBounds_toArray, List.set_cons_zero, List.set_cons_succ]
  refine wpAnyH_take (i := 5) (v := ?v5) rfl (by kernel_rfl) (by kernel_rfl) (by kernel_rfl) (fun _ _ _ h => h) (Or.inl ⟨by rfl, ?hy5⟩) (by assumption) ?rest5
  case hy5 => (intro w hSw; (try dsimp only at hSw); go_simp; (try with_reducible rfl))
  try simp only [Act.put, List.getElem_toArray, List.getElem_cons_zero, List.getElem_cons_succ, List.setIfInBounds_toArray, List.set_cons_zero, List.set_cons_succ]
  refine wpAnyH_take (i := 6) (v := ?v6) rfl (by kernel_rfl) (by kernel_rfl) (by kernel_rfl) (fun _ _ _ h => h) (Or.inl ⟨by rfl, ?hy6⟩) (by assumption) ?rest6
  case hy6 => (intro w hSw; (try dsimp only at hSw); go_simp; (try with_reducible rfl))
  try simp only [Act.put, List.getElem_toArray, List.getElem_cons_zero, List.getElem_cons_succ, List.setIfInBounds_toArray, List.set_cons_zero, List.set_cons_succ]
  refine wpAnyH_take (i := 7) (v := ?v7) rfl (by kernel_rfl) (by kernel_rfl) (by kernel_rfl) (fun _ _ _ h => h) (Or.inl ⟨by rfl, ?hy7⟩) (by assumption) ?rest7
  case hy7 => (intro w hSw; (try dsimp only at hSw); (have hld := ld_rangeAt hctx hSw.2.2.2.2.2.2.2.2.2.1); go_simp; (try with_reducible rfl))
  try simp only [Act.put, List.getElem_toArray, List.getElem_cons_zero, List.getElem_cons_succ, List.setIfInBounds_toArray, List.set_cons_zero, List.set_cons_succ]
  refine wpAnyH_take (i := 8) (v := ?v8) rfl (by kernel_rfl) (by kernel_rfl) (by kernel_rfl) (fun _ _ _ h => h) (Or.inl ⟨by rfl, ?hy8⟩) (by assumption) ?rest8
  case hy8 => (intro w hSw; (try dsimp only at hSw); go_simp; (try with_reducible rfl))
  try simp only [Act.put, List.getElem_toArray, List.getElem_cons_zero, List.getElem_cons_succ, List.setIfInBounds_toArray, List.set_cons_zero, List.set_cons_succ]
  refine wpAnyH_ready (rs := [0]) (by kernel_rfl) (by simp) ?_
  refine AllReadyH.cons rfl (fun K hK => ?_) AllReadyH.nil
  go_simp
  refine (rules_at 3 21 _ rfl).mono ?_
  rintro e w2 ⟨rfl, hb2, hT⟩
  have hT2 : w2.cell? ⟨w1.heap.size, 3, none⟩ = some (.func (.func 21) #[] #[]) := hT
  clear hT
  refine hK.out _ _ (gS_step3 hb2 hHeld) (fun hHeld0 => ?_)
  clear hK K
  try simp only [Act.put, List.getElem_toArray, List.getElem_cons_zero, List.getElem_cons_succ, List.setIfInBounds_toArray, List.set_cons_zero, List.set_cons_succ]
  refine wpAnyH_take (i := 3) (v := ?v3) rfl (by kernel_rfl) (by kernel_rfl) (by kernel_rfl) (fun _ _ _ h => h) (Or.inl ⟨by rfl, ?hy3⟩) (by assumption) ?rest3
  case hy3 => (intro w hSw; (try dsimp only at hSw); go_simp; (try with_reducible rfl))
  try simp only [Act.put, List.getElem_toArray, List.getElem_cons_zero, List.getElem_cons_succ, List.setIfInBounds_toArray, List.set_cons_zero, List.set_cons_succ]
  refine wpAnyH_ready (rs := [4]) (by kernel_rfl) (by simp) ?_
  refine AllReadyH.cons rfl (fun K hK => ?_) AllReadyH.nil
  go_simp
  refine hK.out _ _ (hHeld0) (fun hHeld4 => ?_)
  clear hK K
  try simp only [Act.put, List.getElem_toArray, List.getElem_cons_zero, List.getElem_cons_succ, List.setIfInBounds_toArray, List.set_cons_zero, List.set_cons_succ]
  refine wpAnyH_ready (rs := [9]) (by kernel_rfl) (by simp) ?_
  refine AllReadyH.cons rfl (fun K hK => ?_) AllReadyH.nil
  go_simp
  refine (inside_any _ (by simp [size_spl, size_z58]) b0 o0 so sp n m ca co np cp i (C 28) code At _ (by simp [spl_get, hC, hctx, size_z58]) (by simp [spl_get, hC, hctx, size_z58]) (by simp [spl_get, hC, hctx, size_z58]) (by simp [spl_get, hC, hctx, size_z58]) (by simp [spl_get, hC, hctx, size_z58]) (G.bC 28).1 (G.bC 28).2 hi (hHeld4.2.2.2.2.2.2.2.2.2.2.2.in_.at_.cell i hi) hHeld4.2.2.2.2.2.2.2.2.2.2.2.in_.last hHeld4.2.2.2.2.2.2.2.2.2.2.2.in_.small).mono ?_
  rintro e w3 ⟨rfl, hb3⟩
  refine hK.out _ _ (gS_step3 hb3 hHeld4) (fun hHeld9 => ?_)
  clear hK K
  try simp only [Act.put, List.getElem_toArray, List.getElem_cons_zero, List.getElem_cons_succ, List.setIfInBounds_toArray, List.set_cons_zero, List.set_cons_succ]
  refine wpAnyH_take (i := 10) (v := ?v10) rfl (by kernel_rfl) (by kernel_rfl) (by kernel_rfl) (fun _ _ _ h => h) (Or.inl ⟨by rfl, ?hy10⟩) (by assumption) ?rest10
  case hy10 => (intro w hSw; (try dsimp only at hSw); go_simp; (try with_reducible rfl))
  try simp only [Act.put, List.getElem_toArray, List.getElem_cons_zero, List.getElem_cons_succ, List.setIfInBounds_toArray, List.set_cons_zero, List.set_cons_succ]
  refine wpAnyH_take (i := 11) (v := ?v11) rfl (by kernel_rfl) (by kernel_rfl) (by kernel_rfl) (fun _ _ _ h => h) (Or.inl ⟨by rfl, ?hy11⟩) (by assumption) ?rest11
  case hy11 => (intro w hSw; (try dsimp only at hSw); go_simp; (try with_reducible rfl))
  try simp only [Act.put, List.getElem_toArray, List.getElem_cons_zero, List.getElem_cons_succ, List.setIfInBounds_toArray, List.set_cons_zero, List.set_cons_succ]
  refine wpAnyH_take (i := 12) (v := ?v12) rfl (by kernel_rfl) (by kernel_rfl) (by kernel_rfl) (fun _ _ _ h => h) (Or.inl ⟨by rfl, ?hy12⟩) (by assumption) ?rest12
  case hy12 => (intro w hSw; (try dsimp only at hSw); go_simp; (try with_reducible rfl))
  try simp only [Act.put, List.getElem_toArray, List.getElem_cons_zero, List.getElem_cons_succ, List.setIfInBounds_toArray, List.set_cons_zero, List.set_cons_succ]
  refine wpAnyH_take (i := 13) (v := ?v13) rfl (by kernel_rfl) (by kernel_rfl) (by kernel_rfl) (fun _ _ _ h => h) (Or.inl ⟨by rfl, ?hy13⟩) (by assumption) ?rest13
  case hy13 => (intro w hSw; (try dsimp only at hSw); go_simp; (try with_reducible rfl))
  try simp only [Act.put, List.getElem_toArray, List.getElem_cons_zero, List.getElem_cons_succ, List.setIfInBounds_toArray, List.set_cons_zero, List.set_cons_succ]
  refine wpAnyH_take (i := 14) (v := ?v14) rfl (by kernel_rfl) (by kernel_rfl) (by kernel_rfl) (fun _ _ _ h => h) (Or.inl ⟨by rfl, ?hy14⟩) (by assumption) ?rest14
  case hy14 => (intro w hSw; (try dsimp only at hSw); go_simp; (try with_reducible rfl))
  try simp only [Act.put, List.getElem_toArray, List.getElem_cons_zero, List.getElem_cons_succ, List.setIfInBounds_toArray, List.set_cons_zero, List.set_cons_succ]
  refine wpAnyH_done (by kernel_rfl) ?_ _
  have hR : GR w st vs ctx V C steps (some ⟨b0, o0, none⟩) so n m At code w3 := hHeld9.2.2.2.2.2.2.2.2.2.2.2
  have HL3 := Lib.hid hHeld9
  clear hHeld9 hHeld4 hHeld0 hT2 hHeld
  have r1 := hR.st_
  have r2 := hR.vs_
  have r3 := hR.out_
  have r4 := hR.pl_
  have z5 := hR.big
  have z4 : w.heap.size + 1 + 1 + 1 + 1 < w3.heap.size := by omega
  have z3 : w.heap.size + 1 + 1 + 1 < w3.heap.size := by omega
  have z0 : w.heap.size < w3.heap.size := by omega
  have HR := Lib.hid hR.below
  clear hR
  go_wp2_with fail
  refine (Leave_any _ _ _ _ hst hvs V G.hV G.bV).mono ?_
  rintro e w4 ⟨rfl, hb4⟩
  obtain ⟨hc4, hf4⟩ := bcell hb4
  obtain ⟨hcs4, hpr4⟩ := bcs hb4
  have y := hb4.size
  have y5 : w.heap.size + 1 + 1 + 1 + 1 + 1 < w4.heap.size := by omega
  have y55 : ¬ (w.heap.size + 1 + 1 + 1 + 1 + 1 = w4.heap.size) := by omega
  have hlf := size_leaveF kind (flagsF (V 16) (V 17) (V 18)) st vs
  have hl22 := leaveF_22 kind (flagsF (V 16) (V 17) (V 18)) st vs hst steps h22
  have c28 := G.bC 28
  go_wp2_with fail
  refine bodyPost_ret_by (results_blk (n := 24) rfl _ Try.underlying28 rfl (by kernel_rfl) (by omega) _ _ _ rfl _ rfl (by go_simp)) rfl ⟨?_, ?_⟩
  · go_simp
    rfl
  · have HRo := HR.out
    repeat (first | exact Below.refl _ _ | assumption | refine below_call ?_ hb4 | refine Below.drew ?_ | refine Below.alloc ?_ (by first | exact Nat.le_refl _ | omega | (simp; done) | (simp; omega)) _ | refine Below.setCell ?_ (by first | exact Nat.le_refl _ | omega | (simp; done) | (simp; omega)) _ | refine below_row ?_ _ (by first | exact Nat.le_refl _ | omega | (simp; done) | (simp; omega)) _)

set_option maxRecDepth 100000 in
set_option maxHeartbeats 8000000 in
theorem Guest_0 (kind : Int) (st vs ctx : Array Value) (V C : Nat → Int) (steps : Int) (sa so sp : Option Addr) (n m ca co np cp : Nat) (At : Nat → Int) (code : Int) (off idx tgt live cst : Int) (w : World) (G : GIn w st vs ctx V C steps sa so n m At code) (k : Int)
    (hval : validF k idx n = false) :
    Calls Try.prog 7 #[.int .i64 kind, .agg st, .agg #[.slice sa n ca, .slice sp np cp, .slice so m co], .agg #[.int .i64 off, .int .i64 k, .int .i64 idx, .int .u32 tgt, .int .u32 live, .int .i64 cst], .agg vs, .agg ctx] w
      fun e w' => e = .returned (.agg st) ∧ Below w.heap.size w w' := by
  have hst := G.hst
  have hvs := G.hvs
  have hctx := G.hctx
  have hC := G.hC
  have h22 := G.h22
  haveI := G.ost
  haveI := G.ovs
  haveI := G.octx
  go_enter Try.func7, Try.ntmps7
  go_wp2_with fail
  refine (valid_any _ _ _ _ _ _ _ _ _ _ _ _ _ _ _ _).mono ?_
  rintro e w1 ⟨rfl, hb⟩
  obtain ⟨hc, hf⟩ := bcell hb
  obtain ⟨hcs, hpr⟩ := bcs hb
  have hz := hb.size
  go_wp2_with fail
  refine bodyPost_ret_by (results_blk (n := 24) rfl _ Try.underlying28 rfl (by kernel_rfl) (by omega) _ _ _ rfl _ rfl (by go_simp)) rfl ⟨?_, ?_⟩
  · go_simp
  · repeat (first | exact Below.refl _ _ | assumption | refine below_call ?_ hb | refine Below.drew ?_ | refine Below.alloc ?_ (by first | exact Nat.le_refl _ | omega | (simp; done) | (simp; omega)) _ | refine Below.setCell ?_ (by first | exact Nat.le_refl _ | omega | (simp; done) | (simp; omega)) _ | refine below_row ?_ _ (by first | exact Nat.le_refl _ | omega | (simp; done) | (simp; omega)) _)
end Go.Proofs.Ytehehnhomlcimaa
