/- Contracts of 'rules' and of the program's 'Guest'. -/
import Derived.Test.YtehehnhomlcimaaE
namespace Go.Proofs.Ytehehnhomlcimaa
open Go.RowKit
attribute [local go_sem ↓ high] loadAt25 storeAt25 ld25 st25 loadAt28 storeAt28 ld28 st28 loadAt31 storeAt31 ld31 st31 loadAt32 storeAt32 ld32 st32 copyB copy35
attribute [local go_sem] allOne_inst World.cs_alloc_at World.cs_alloc_past World.cs_drew World.plainRow_alloc_at World.plainRow_alloc_past World.plainRow_drew World.setRow_alloc_at World.setRow_alloc_past World.setRow_drew spl_all extract_all size_spl World.cs_setCell_same World.cs_setCell_other World.plainRow_setCell World.cs_setRow_same World.cs_setRow_other World.plainRow_setRow World.size_setRow' World.cell_setRow World.frozen_setRow ne_up1 ne_dn1 ne_up2 ne_dn2 ne_up3 ne_dn3 ne_up4 ne_dn4 ne_up5 ne_dn5 ne_up6 ne_dn6 ne_up7 ne_dn7 ne_up8 ne_dn8 ne_up9 ne_dn9 ne_up10 ne_dn10 ne_up11 ne_dn11 ne_up12 ne_dn12 ne_up13 ne_dn13 ne_up14 ne_dn14 ne_up15 ne_dn15 lt_up2 lt_up3 lt_up4 lt_up5 lt_up6 lt_up7 lt_up8 lt_up9 lt_up10 lt_up11 lt_up12 lt_up13 lt_up14 lt_up15

/-- The zero value of 'stop', as cells. -/
noncomputable def z58 : Array Value := match (Try.prog.info? 58).bind (·.zero) with | some (.agg c) => c | _ => #[]
theorem size_z58 : z58.size = 73 := by kernel_rfl
theorem one_z58 : allOne z58 = true := by kernel_rfl
instance : AllOne z58 := ⟨one_z58⟩
theorem built58 (parts : List (Nat × Value)) : Try.prog.built 58 parts = Instr.fill (#[(0, 3), (3, 6), (9, 64)][·]?) z58 parts := by kernel_rfl
theorem bd58 (a b c : Array Value) (ha : a.size = 3) (hb : b.size = 6) (hc : c.size = 64) (w : World) :
    (bdB 58 #[(0, .agg a), (1, .agg b), (2, .agg c)]).run Try.prog w = .ok (.agg (spl (spl (spl z58 0 a) 3 b) 9 c)) w := by
  refine run_build w 58 _ _ ?_
  rw [built58]
  have s0 := size_z58
  rw [fill_agg _ _ a 0 0 3 _ rfl ha (by omega), fill_agg _ _ b 1 3 6 _ rfl hb (by rw [size_spl]; omega), fill_agg _ _ c 2 9 64 _ rfl hc (by rw [size_spl, size_spl]; omega)]
  rfl
theorem buildB58 (parts : Array (Nat × Value)) : Instr.build 58 parts = bdB 58 parts := rfl

set_option maxHeartbeats 1000000 in
theorem rules_any (w : World) :
    Calls Try.prog 14 #[] w fun e w' => e = .returned (.slice (some ⟨w.heap.size, 0, none⟩) 7 7) ∧
      w.alloc (.cells #[.nilFunc, .func (.func 24) #[] #[], .func (.func 21) #[] #[], .func (.func 21) #[] #[], .func (.func 23) #[] #[], .func (.func 25) #[] #[], .func (.func 23) #[] #[]] 54) = w' := by
  go_enter Try.func14, Try.ntmps14
  go_wp2
  go_ret
  exact ⟨rfl, rfl⟩
end Go.Proofs.Ytehehnhomlcimaa
