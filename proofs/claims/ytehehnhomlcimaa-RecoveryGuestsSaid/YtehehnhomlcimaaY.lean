/- The cells of the law's third argument, and what its calls of 'Guest' are given. -/
import Derived.Test.YtehehnhomlcimaaX
import Derived.Test.YtehehnhomlcimaaO
namespace Go.Proofs.Ytehehnhomlcimaa
open Go.RowKit
/-- The kind of each cell of the third argument. -/
def kAt (i : Nat) : IntKind := if i = 0 ∨ i = 23 ∨ i = 24 ∨ i = 25 ∨ i = 26 ∨ i = 27 ∨ i = 30 then .i64 else .u32
structure XOK (X : Array Value) : Prop where
  size : X.size = 123
  cell : ∀ (i : Nat) (h : i < X.size), ∃ n : Int, X[i] = .int (kAt i) n ∧ (kAt i = .u32 → 0 ≤ n ∧ n < 4294967296)
def numAt (X : Array Value) (i : Nat) : Int := intOf (X.getD i undef)
theorem XOK.at_ {X : Array Value} (h : XOK X) (i : Nat) (hi : i < 123) : X[i]? = some (.int (kAt i) (numAt X i)) ∧ (kAt i = .u32 → 0 ≤ numAt X i ∧ numAt X i < 4294967296) := by
  have hi' : i < X.size := by rw [h.size]; exact hi
  obtain ⟨n, hn, hb⟩ := h.cell i hi'
  have e : numAt X i = n := by simp [numAt, Array.getD, hi', hn, intOf]
  rw [e]
  exact ⟨by rw [Array.getElem?_eq_getElem hi', hn], hb⟩
theorem XOK.one {X : Array Value} (h : XOK X) : AllOne X := ⟨allOne_of fun v hv => by
  obtain ⟨i, hi, rfl⟩ := Array.mem_iff_getElem.1 hv
  obtain ⟨n, hn, _⟩ := h.cell i hi
  rw [hn]; rfl⟩
theorem XOK.sub {X : Array Value} (h : XOK X) (a b : Nat) (hb : b ≤ 123) (i : Nat) (hi : i < (X.extract a b).size) : (X.extract a b)[i] = .int (kAt (a + i)) (numAt X (a + i)) := by
  have hs : (X.extract a b).size = b - a := by rw [Array.size_extract, h.size, Nat.min_eq_left hb]
  have h1 := (h.at_ (a + i) (by omega)).1
  rw [Array.getElem_extract]
  rw [Array.getElem?_eq_getElem (by rw [h.size]; omega)] at h1
  exact Option.some.inj h1
theorem XOK.len {X : Array Value} (h : XOK X) (a b : Nat) (hb : b ≤ 123) : (X.extract a b).size = b - a := by rw [Array.size_extract, h.size, Nat.min_eq_left hb]
theorem XOK.st {X : Array Value} (h : XOK X) : StOK (X.extract 1 25) := by
  refine ⟨h.len 1 25 (by omega), fun i hi => ⟨numAt X (1 + i), ?_⟩⟩
  rw [h.sub 1 25 (by omega) i hi]
  have hi' : i < 24 := by rw [h.len 1 25 (by omega)] at hi; exact hi
  unfold kAt
  by_cases k : i < 22
  · rw [if_pos k, if_neg (by omega)]
  · rw [if_neg k, if_pos (by omega)]
theorem XOK.site {X : Array Value} (h : XOK X) : X.extract 25 31 = #[.int .i64 (numAt X 25), .int .i64 (numAt X 26), .int .i64 (numAt X 27), .int .u32 (numAt X 28), .int .u32 (numAt X 29), .int .i64 (numAt X 30)] := by
  refine Array.ext (h.len 25 31 (by omega)) fun i h1 h2 => ?_
  rw [h.sub 25 31 (by omega) i h1]
  have : i < 6 := h2
  match i, this with
  | 0, _ | 1, _ | 2, _ | 3, _ | 4, _ | 5, _ => rfl
def Vf (X : Array Value) (i : Nat) : Int := if i < 28 then numAt X (31 + i) else 0
def Cf (X : Array Value) (i : Nat) : Int := if i < 64 then numAt X (59 + i) else 0
theorem kAt_hi {i : Nat} (h : 31 ≤ i) : kAt i = .u32 := by unfold kAt; rw [if_neg (by omega)]
def lastC : List OpT → Int
  | [] => 0
  | x :: l => match l with | [] => x.1 | _ => lastC l
theorem lastC_get : ∀ (ops : List OpT) (h : 0 < ops.length), lastC ops = (ops[ops.length - 1]'(by omega)).1
  | [x], _ => rfl
  | x :: y :: l, _ => by
    show lastC (y :: l) = _
    rw [lastC_get (y :: l) (by simp)]
    rfl
theorem gin_any {X : Array Value} (hX : XOK X) {W : World} {sa so : Option Addr} {n m : Nat} {At : Nat → Int} {code : Int} (ha : AtIs W sa n At) (ho : LastIs W so m code) (hm : m ≤ 1000000000000) :
    GIn W (X.extract 1 25) (X.extract 31 59) (X.extract 59 123) (Vf X) (Cf X) (numAt X 23) sa so n m At code where
  hst := hX.len 1 25 (by omega)
  ost := haveI := hX.one; inferInstance
  hvs := hX.len 31 59 (by omega)
  ovs := haveI := hX.one; inferInstance
  hctx := hX.len 59 123 (by omega)
  octx := haveI := hX.one; inferInstance
  hV := fun i h => by
    have hi : i < 28 := by rw [hX.len 31 59 (by omega)] at h; exact h
    rw [hX.sub 31 59 (by omega) i h, kAt_hi (by omega)]; unfold Vf; rw [if_pos hi]
  bV := fun i => by
    unfold Vf
    by_cases hi : i < 28
    · rw [if_pos hi]; exact (hX.at_ (31 + i) (by omega)).2 (kAt_hi (by omega))
    · rw [if_neg hi]; omega
  hC := fun i h => by
    have hi : i < 64 := by rw [hX.len 59 123 (by omega)] at h; exact h
    rw [hX.sub 59 123 (by omega) i h, kAt_hi (by omega)]; unfold Cf; rw [if_pos hi]
  bC := fun i => by
    unfold Cf
    by_cases hi : i < 64
    · rw [if_pos hi]; exact (hX.at_ (59 + i) (by omega)).2 (kAt_hi (by omega))
    · rw [if_neg hi]; omega
  h22 := by rw [hX.sub 1 25 (by omega) 22 (by rw [hX.len 1 25 (by omega)]; omega)]; rfl
  at_ := ha
  last := ho
  small := hm
theorem atIs_of {W : World} {B n c : Nat} {sa : Option Addr} {l : List Int} (h : W.ownsRow B 24 1 (.slice sa n c) l.length (ats l)) : AtIs W sa n (fun i => l.getD i 0) := by
  intro hn
  rcases h.2 with ⟨e, _⟩ | ⟨g, cap, cur, e, _⟩
  · simp only [Value.slice.injEq] at e; omega
  · simp only [Value.slice.injEq] at e
    obtain ⟨rfl, rfl, rfl⟩ := e
    refine ⟨g, 0, rfl, fun i hi => ?_⟩
    rw [Nat.zero_add, h.cellAt i (by omega)]
    simp [ats, List.getElem?_map, List.getD, hi]
theorem lastIs_of {W : World} {B n c : Nat} {so : Option Addr} {l : List OpT} (h : W.ownsRow B 45 5 (.slice so n c) l.length (flat l)) : LastIs W so n (lastC l) := by
  intro hn
  rcases h.2 with ⟨e, _⟩ | ⟨g, cap, cur, e, _⟩
  · simp only [Value.slice.injEq] at e; omega
  · simp only [Value.slice.injEq] at e
    obtain ⟨rfl, rfl, rfl⟩ := e
    refine ⟨g, 0, rfl, ?_⟩
    rw [Nat.zero_add, lastC_get l hn]
    exact (h.cellAt ((l.length - 1) * 5 + 0) (by omega)).trans (flat_get l (l.length - 1) (by omega) 0 (by omega))
theorem own_n {w : World} {B e s : Nat} {a : Option Addr} {n c k : Nat} {xs : List Value} (h : w.ownsRow B e s (.slice a n c) k xs) : n = k := by
  rcases h.2 with ⟨e, h0⟩ | ⟨g, cap, cur, e, _⟩
  · simp only [Value.slice.injEq] at e; omega
  · simp only [Value.slice.injEq] at e; omega
theorem atIs_0 (W : World) (sa : Option Addr) (At : Nat → Int) : AtIs W sa 0 At := fun h => absurd h (by omega)
theorem lastIs_0 (W : World) (so : Option Addr) (c : Int) : LastIs W so 0 c := fun h => absurd h (by omega)
end Go.Proofs.Ytehehnhomlcimaa
