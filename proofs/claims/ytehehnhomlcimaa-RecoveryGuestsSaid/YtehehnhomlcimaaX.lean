/- Two like states are equal. -/
import Derived.Test.YtehehnhomlcimaaV
namespace Go.Proofs.Ytehehnhomlcimaa
set_option maxRecDepth 100000 in
theorem run_equalIn_array {P : Program} (w : World) (d : Nat) (t e n : Nat) (xs : Array Value) (ht : P.underlying t = some (.array n e)) (hs : (sizeOf e).run P w = .ok 1 w)
    (hp : ∀ i, i < n → ∃ v, (part e xs (i * 1)).run P w = .ok v w ∧ (Op.equalIn d e v v).run P w = .ok true w) : (Op.equalIn (d + 1) t (.agg xs) (.agg xs)).run P w = .ok true w := by
  unfold Op.equalIn
  simp only [Sem.run_bind, run_underlying ht, Result.andThen_ok, hs]
  rw [Std.Legacy.Range.forIn_eq_forIn_range']
  have key : ∀ l : List Nat, (∀ i ∈ l, i < n) → ((forIn l (none, ()) fun (i : Nat) (__s : Option Bool × Unit) => do
              let __do_lift ← part e xs (i * 1)
              let __do_lift_1 ← part e xs (i * 1)
              let __do_lift ← Op.equalIn d e __do_lift __do_lift_1
              if (!__do_lift) = true then pure (ForInStep.done (some false, ())) else pure (ForInStep.yield (none, ())) : Sem (Option Bool × Unit))).run P w = .ok (none, ()) w := by
    intro l
    induction l with
    | nil => intro _; simp
    | cons i l ih =>
      intro hl
      obtain ⟨v, h1, h2⟩ := hp i (hl i (by simp))
      simp only [List.forIn_cons, Sem.run_bind, h1, h2, Result.andThen_ok, Bool.not_true, Bool.false_eq_true, if_false, Sem.run_pure]
      exact ih (fun j hj => hl j (by simp [hj]))
  rw [key _ (by intro i hi; simp at hi; omega)]
  simp
theorem size24 (w : World) : (sizeOf 24).run Try.prog w = .ok 1 w := by go_simp
theorem eq26 (w : World) (a b c d : Int) : (Op.equalIn 9999 26 (.agg #[.int .u32 a, .int .u32 b, .int .u32 c, .int .u32 d]) (.agg #[.int .u32 a, .int .u32 b, .int .u32 c, .int .u32 d])).run Try.prog w = .ok true w := by
  refine run_equalIn_array w 9998 26 24 4 _ Try.underlying26 (size24 w) (fun i hi => ?_)
  match i, hi with
  | 0, _ => exact ⟨.int .u32 a, by go_simp, by go_simp⟩
  | 1, _ => exact ⟨.int .u32 b, by go_simp, by go_simp⟩
  | 2, _ => exact ⟨.int .u32 c, by go_simp, by go_simp⟩
  | 3, _ => exact ⟨.int .u32 d, by go_simp, by go_simp⟩
theorem eq25 (w : World) (a0 a1 a2 a3 a4 a5 a6 a7 a8 a9 a10 a11 a12 a13 a14 a15 : Int) : (Op.equalIn 9999 25 (.agg #[.int .u32 a0, .int .u32 a1, .int .u32 a2, .int .u32 a3, .int .u32 a4, .int .u32 a5, .int .u32 a6, .int .u32 a7, .int .u32 a8, .int .u32 a9, .int .u32 a10, .int .u32 a11, .int .u32 a12, .int .u32 a13, .int .u32 a14, .int .u32 a15]) (.agg #[.int .u32 a0, .int .u32 a1, .int .u32 a2, .int .u32 a3, .int .u32 a4, .int .u32 a5, .int .u32 a6, .int .u32 a7, .int .u32 a8, .int .u32 a9, .int .u32 a10, .int .u32 a11, .int .u32 a12, .int .u32 a13, .int .u32 a14, .int .u32 a15])).run Try.prog w = .ok true w := by
  refine run_equalIn_array w 9998 25 24 16 _ Try.underlying25 (size24 w) (fun i hi => ?_)
  match i, hi with
  | 0, _ => exact ⟨.int .u32 a0, by go_simp, by go_simp⟩
  | 1, _ => exact ⟨.int .u32 a1, by go_simp, by go_simp⟩
  | 2, _ => exact ⟨.int .u32 a2, by go_simp, by go_simp⟩
  | 3, _ => exact ⟨.int .u32 a3, by go_simp, by go_simp⟩
  | 4, _ => exact ⟨.int .u32 a4, by go_simp, by go_simp⟩
  | 5, _ => exact ⟨.int .u32 a5, by go_simp, by go_simp⟩
  | 6, _ => exact ⟨.int .u32 a6, by go_simp, by go_simp⟩
  | 7, _ => exact ⟨.int .u32 a7, by go_simp, by go_simp⟩
  | 8, _ => exact ⟨.int .u32 a8, by go_simp, by go_simp⟩
  | 9, _ => exact ⟨.int .u32 a9, by go_simp, by go_simp⟩
  | 10, _ => exact ⟨.int .u32 a10, by go_simp, by go_simp⟩
  | 11, _ => exact ⟨.int .u32 a11, by go_simp, by go_simp⟩
  | 12, _ => exact ⟨.int .u32 a12, by go_simp, by go_simp⟩
  | 13, _ => exact ⟨.int .u32 a13, by go_simp, by go_simp⟩
  | 14, _ => exact ⟨.int .u32 a14, by go_simp, by go_simp⟩
  | 15, _ => exact ⟨.int .u32 a15, by go_simp, by go_simp⟩
  | k + 16, hk => exact absurd hk (by omega)
theorem eq28 (w : World) (f : Nat → Int) : (binOp .eql 28 (.agg #[.int .u32 (f 0), .int .u32 (f 1), .int .u32 (f 2), .int .u32 (f 3), .int .u32 (f 4), .int .u32 (f 5), .int .u32 (f 6), .int .u32 (f 7), .int .u32 (f 8), .int .u32 (f 9), .int .u32 (f 10), .int .u32 (f 11), .int .u32 (f 12), .int .u32 (f 13), .int .u32 (f 14), .int .u32 (f 15), .int .u32 (f 16), .int .u32 (f 17), .int .u32 (f 18), .int .u32 (f 19), .int .u32 (f 20), .int .u32 (f 21), .int .i64 (f 22), .int .i64 (f 23)]) (.agg #[.int .u32 (f 0), .int .u32 (f 1), .int .u32 (f 2), .int .u32 (f 3), .int .u32 (f 4), .int .u32 (f 5), .int .u32 (f 6), .int .u32 (f 7), .int .u32 (f 8), .int .u32 (f 9), .int .u32 (f 10), .int .u32 (f 11), .int .u32 (f 12), .int .u32 (f 13), .int .u32 (f 14), .int .u32 (f 15), .int .u32 (f 16), .int .u32 (f 17), .int .u32 (f 18), .int .u32 (f 19), .int .u32 (f 20), .int .u32 (f 21), .int .i64 (f 22), .int .i64 (f 23)])).run Try.prog w = .ok (.bool true) w := by
  rw [run_eql_struct]
  have h1 := eq25 w (f 1) (f 2) (f 3) (f 4) (f 5) (f 6) (f 7) (f 8) (f 9) (f 10) (f 11) (f 12) (f 13) (f 14) (f 15) (f 16)
  have h2 := eq26 w (f 18) (f 19) (f 20) (f 21)
  go_simp
theorem StOK.form {r : Array Value} (h : StOK r) : ∃ f : Nat → Int, r = #[.int .u32 (f 0), .int .u32 (f 1), .int .u32 (f 2), .int .u32 (f 3), .int .u32 (f 4), .int .u32 (f 5), .int .u32 (f 6), .int .u32 (f 7), .int .u32 (f 8), .int .u32 (f 9), .int .u32 (f 10), .int .u32 (f 11), .int .u32 (f 12), .int .u32 (f 13), .int .u32 (f 14), .int .u32 (f 15), .int .u32 (f 16), .int .u32 (f 17), .int .u32 (f 18), .int .u32 (f 19), .int .u32 (f 20), .int .u32 (f 21), .int .i64 (f 22), .int .i64 (f 23)] := by
  have hx : ∀ i, ∃ x : Int, i < 24 → r[i]? = some (if i < 22 then .int .u32 x else .int .i64 x) := fun i => by
    by_cases hi : i < r.size
    · obtain ⟨x, hx⟩ := h.2 i hi
      exact ⟨x, fun _ => by rw [Array.getElem?_eq_getElem hi, hx]⟩
    · exact ⟨0, fun h24 => absurd (h.1 ▸ h24) hi⟩
  let f : Nat → Int := fun i => (hx i).choose
  have hf := fun i => (hx i).choose_spec
  refine ⟨f, Array.ext_getElem? fun i => ?_⟩
  match i with
  | 0 => exact hf 0 (by omega)
  | 1 => exact hf 1 (by omega)
  | 2 => exact hf 2 (by omega)
  | 3 => exact hf 3 (by omega)
  | 4 => exact hf 4 (by omega)
  | 5 => exact hf 5 (by omega)
  | 6 => exact hf 6 (by omega)
  | 7 => exact hf 7 (by omega)
  | 8 => exact hf 8 (by omega)
  | 9 => exact hf 9 (by omega)
  | 10 => exact hf 10 (by omega)
  | 11 => exact hf 11 (by omega)
  | 12 => exact hf 12 (by omega)
  | 13 => exact hf 13 (by omega)
  | 14 => exact hf 14 (by omega)
  | 15 => exact hf 15 (by omega)
  | 16 => exact hf 16 (by omega)
  | 17 => exact hf 17 (by omega)
  | 18 => exact hf 18 (by omega)
  | 19 => exact hf 19 (by omega)
  | 20 => exact hf 20 (by omega)
  | 21 => exact hf 21 (by omega)
  | 22 => exact hf 22 (by omega)
  | 23 => exact hf 23 (by omega)
  | k + 24 => rw [Array.getElem?_eq_none (by rw [h.1]; omega), Array.getElem?_eq_none (by simp)]
theorem StOK.eq {r : Array Value} (h : StOK r) (w : World) : (binOp .eql 28 (.agg r) (.agg r)).run Try.prog w = .ok (.bool true) w := by
  obtain ⟨f, rfl⟩ := h.form
  exact eq28 w f
end Go.Proofs.Ytehehnhomlcimaa
