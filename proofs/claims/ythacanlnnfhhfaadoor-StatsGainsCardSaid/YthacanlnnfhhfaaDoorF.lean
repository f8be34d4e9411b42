/-
  StatsGains: for any two pairs of numbers the ratio, the sum and the text of a gain are the document's. No condition but the card's own: the three package-level tables start as the program's text lays them (the card ties them).
-/
import Derived.Test.YthacanlnnfhhfaaDoorE
import Derived.Test.YthacanlnnfhhfaaDoorRows
import Derived.Test.YthacanlnnfhhfaaDoorCards
import Derived.Test.YthacanlnnfhhfaaDoorTie
import Derived.SevenTiedAt
import Derived.WalkKit
import Derived.ProofKit
import Derived.OpenShut
import Derived.ChangeSame
import Derived.ChangeVars
import Derived.JoinedOf
import Derived.Lib.LaidIn
import Derived.Stop.LaidErr
import Derived.Lib.LaidTab
namespace Go.Proofs.YthacanlnnfhhfaaDoor
open Go.ChangeShapes Go.WideShapes Go.ChangeAt Go.RowKit Go.Lib

theorem own : ownKnob Tryd.prog.godebug = none := by kernel_rfl

def tab32 : List Int := [0, 1, 28, 2, 29, 14, 24, 3, 30, 22, 20, 15, 25, 17, 4, 8, 31, 27, 13, 23, 21, 19, 16, 7, 26, 12, 18, 6, 11, 5, 10, 9]
def tab64 : List Int := [0, 1, 56, 2, 57, 49, 28, 3, 61, 58, 42, 50, 38, 29, 17, 4, 62, 47, 59, 36, 45, 43, 51, 22, 53, 39, 33, 30, 24, 18, 12, 5, 63, 55, 48, 27, 60, 41, 37, 16, 46, 35, 44, 21, 52, 32, 23, 11, 54, 26, 40, 15, 34, 20, 31, 10, 25, 14, 19, 9, 13, 8, 7, 6]

noncomputable def laidWorld (os : Os) : World :=
  let w0 := World.holding Tryd.prog os ⟨#[], #[], []⟩
  let put (h : Array Obj) (g : Nat) (cs : Array Value) : Array Obj := h.modify g fun
    | .cells _ t frozen => .cells cs t frozen
    | o => o
  { w0 with heap := put (put (put w0.heap 0 (Lib.pow10Tab.map fun z => Value.int .u64 z).toArray) 1 (tab32.map fun z => Value.int .u8 z).toArray) 2 (tab64.map fun z => Value.int .u8 z).toArray }

def laidL : List (String × DataW Unit) := [("math/bits.deBruijn32tab", Rows.laid_math_bits_deBruijn32tab), ("math/bits.deBruijn64tab", Rows.laid_math_bits_deBruijn64tab), ("internal/strconv.uint64pow10", Rows.laid_internal_strconv_uint64pow10)]
def zz : Array Value := #[.agg #[.int .i64 0, .int .i64 0], .agg #[.int .i64 0, .int .i64 0]]
set_option maxRecDepth 1000000 in
theorem laid_met (os : Os) : laidMet Tryd.prog laidL ((laidWorld os).forCall (fun _ _ => 0) ⟨#[], zz, []⟩).memory :=
  (LaidIn.of_run [1, 2, 0] 8 (by kernel_rfl) (by kernel_rfl) (by kernel_rfl) (by kernel_rfl)).met

theorem pow_eq : Rows.laid_internal_strconv_uint64pow10 = (tabData .u64 Lib.pow10Tab : DataW Unit) := by rfl
theorem tab_of_laid {W : World} (h : laidMet Tryd.prog laidL W) : Lib.TabIs Tryd.prog W "internal/strconv.uint64pow10" .u64 Lib.pow10Tab := by
  have h2 : laidMet Tryd.prog [("internal/strconv.uint64pow10", Rows.laid_internal_strconv_uint64pow10)] W := laidMet.tail (laidMet.tail h)
  rw [pow_eq] at h2
  exact tabIs_of_head (g := 0) (t := 66) (e := 50) (n := 20) (by kernel_rfl) (by kernel_rfl) (by kernel_rfl) (by kernel_rfl) (by kernel_rfl) (by kernel_rfl) h2

theorem c22 : Tryd.prog.cellsOf 22 = 2 := by kernel_rfl
theorem c3 : Tryd.prog.cellsOf 3 = 1 := by kernel_rfl
theorem a22 : Tryd.prog.underlying 22 = some (.array 2 3) := Tryd.underlying22
section
variable {H : Type} {enc : TypeId × Value → H}
theorem open_pair {W : World} {base b0 : Nat} {sp : Nat → Bool} {held : Bool} {v : Value} {d : DataW H} {p : List MemPlace} (hv : Value.okWide Tryd.prog W .any b0 22 v) (h : DataW.Trod enc Tryd.prog W base sp held 22 v d p) :
    ∃ a b : Int, v = .agg #[.int .i64 a, .int .i64 b] ∧ d = .agg [.lit (.int .i64 a), .lit (.int .i64 b)] ∧ p = [] ∧ (Lit.int .i64 a).wf = true ∧ (Lit.int .i64 b).wf = true := by
  obtain ⟨cs, rfl, hsz⟩ : ∃ cs, v = .agg cs ∧ cs.size = Tryd.prog.cellsOf 22 := by
    simp only [Value.okWide, a22] at hv
    obtain ⟨cs, h1, h2, _⟩ := hv
    exact ⟨cs, h1, h2⟩
  rw [c22] at hsz
  obtain ⟨x, y, rfl⟩ : ∃ x y, cs = #[x, y] := by
    obtain ⟨l⟩ := cs
    match l, hsz with
    | [x, y], _ => exact ⟨x, y, rfl⟩
  · obtain ⟨fuel, hf⟩ := h
    obtain ⟨xs, m, rfl, hx, _, hl, hi⟩ := DataW.trod_array a22 hf
    rw [c3] at hi
    match xs, hl with
    | [u, t], _ =>
      have h0 := hi 0 (by omega)
      have h1 := hi 1 (by omega)
      simp at h0 h1
      obtain ⟨a, e0, rfl, wa⟩ := DataW.trod_int Tryd.underlying3 h0
      obtain ⟨b, e1, rfl, wb⟩ := DataW.trod_int Tryd.underlying3 h1
      simp [Value.cells] at e0 e1
      subst e0 e1
      obtain ⟨rfl, rfl⟩ : d = .agg [.lit (.int .i64 a), .lit (.int .i64 b)] ∧ p = [] := by simpa using hx
      exact ⟨a, b, rfl, rfl, rfl, wa, wb⟩
theorem shut_pair (W : World) (base : Nat) (sp : Nat → Bool) (held : Bool) {a b : Int} (ha : (Lit.int .i64 a).wf = true) (hb : (Lit.int .i64 b).wf = true) :
    DataW.Trod enc Tryd.prog W base sp held 22 (.agg #[.int .i64 a, .int .i64 b]) (.agg [.lit (.int .i64 a), .lit (.int .i64 b)]) [] := by
  refine ⟨2, ?_⟩
  have e : List.range 2 = [0, 1] := rfl
  simp [DataW.trod, c22, c3, Tryd.underlying3, ha, hb, e, Value.cells]
end

theorem wf_bd {a : Int} (h : (Lit.int .i64 a).wf = true) : -9223372036854775808 ≤ a ∧ a ≤ 9223372036854775807 := by
  have e1 : IntKind.i64.min = -9223372036854775808 := rfl
  have e2 : IntKind.i64.max = 9223372036854775807 := rfl
  simpa [Lit.wf, e1, e2] using h

set_option maxRecDepth 100000 in
theorem lifted (os : Os) (started : os.Started) (H : Type) (enc : TypeId × Value → H) :
    ReturnsInHanded {} Tryd.checked os 3 .any (fun w args => (Rows.statsGainsSpec.pre enc Tryd.prog Tryd.f3 [] false w args ∧ laidMet Tryd.prog laidL w) ∧ sizedMet enc Tryd.prog Tryd.f3 (OpenSpec.ofChange Rows.statsGainsSpec) false w args)
      (Rows.statsGainsSpec.post enc Tryd.prog Tryd.f3 false true false false) := by
  refine returnsInHanded_of_change_and (C := Tryd.checked) (X := fun w _ => laidMet Tryd.prog laidL w) (fun _ _ _ hh h => h.of_heap hh) own started (by kernel_rfl) Tryd.func3
    (ChangeSpec.witness_at (enc := enc) (C := Tryd.checked) (os := os) (X := fun w _ => laidMet Tryd.prog laidL w) false (laidWorld os) zz 8 rfl (by kernel_rfl) (by kernel_rfl) (by kernel_rfl) (by kernel_rfl) (by kernel_rfl) (laid_met os)) ?_
  intro W base args ds gs before hval0 hW _ _ hL _
  have hval : ∀ (j : Nat) t v, Tryd.f3.params[j]? = some t → args[j]? = some v → Value.okWide Tryd.prog W .any base t v := hval0
  have hW' := hW
  obtain ⟨p, q, hA0, hV, rfl, hfz, hnd⟩ := hW
  have hA : DataW.TrodAll enc Tryd.prog W 0 (fun _ => true) true Tryd.f3.params.toList args.toList ds p := hA0
  rw [Tryd.params3] at hA hval
  obtain ⟨v0, v1, d0, d1, p0, p1, rfl, rfl, rfl, h0, h1⟩ := trodAll_two hA
  obtain ⟨rfl, rfl⟩ := trodVars_none hV
  obtain ⟨a0, a1, rfl, rfl, rfl, wa0, wa1⟩ := open_pair (hval 0 22 v0 rfl rfl) h0
  obtain ⟨b0, b1, rfl, rfl, rfl, wb0, wb1⟩ := open_pair (hval 1 22 v1 rfl rfl) h1
  clear hA0 hval0
  refine (law_any a0 a1 b0 b1 W (wf_bd wa0) (wf_bd wa1) (tab_of_laid hL)).mono fun e W' ⟨he, hb⟩ => ?_
  subst he
  refine ⟨_, rfl, _, _, _, [], [], [], hW', ?_, ?_, ?_, hb.frame _, fun h => by cases h⟩
  · exact trodAll_mk1 (shut_bool Tryd.underlying4 true)
  · exact trodAll_mk2 (shut_pair _ _ _ _ wa0 wa1) (shut_pair _ _ _ _ wb0 wb1)
  · rfl

theorem row_holds : Rows.StatsGainsSaid :=
  OpenClaim.holds_of_wide 3 Tryd.f3 rfl rfl rfl rfl rfl rfl rfl ⟨rfl, rfl, rfl, rfl, rfl⟩ rfl rfl rfl rfl rfl (by kernel_rfl) Tryd.func3 (by kernel_rfl)
    (of_decide_eq_true (by kernel_rfl)) (by unfold Func.isWrapper; rw [if_neg (of_decide_eq_false (by kernel_rfl))]; exact ⟨rfl, rfl⟩)
    (fun os started H enc _ => lifted os started H enc)

theorem statsGains_card : Rows.StatsGainsCardSaid :=
  Claim7.holds_tied_plain_at .later [] [.data, .data, .data] true (true, "5b47cdbf78fb502e1342b18a8425038c1013be17f406371540998bbfd46efad6") false
    row_holds (fun _ h => by cases h) (by kernel_rfl) (fun _ h => by cases h) statsGains_row_tie rfl ⟨rfl, rfl⟩ (by kernel_rfl) rfl
    (fun f fn hf hfn => by
      obtain rfl : f = 3 := Option.some.inj ((show Tryd.prog.funcNamed "pemmican/pemmicanlaw45.StatsGains" = some 3 by kernel_rfl).symm.trans hf) |>.symm
      obtain rfl : fn = Tryd.f3 := (Option.some.inj (Tryd.func3.symm.trans hfn)).symm
      exact ⟨by kernel_rfl, fun j t ht => by
        rw [Tryd.params3] at ht
        have h3 : t = 22 := by
          rcases j with _ | _ | j
          · simpa using ht.symm
          · simpa using ht.symm
          · simp at ht
        subst h3
        exact (show Tryd.prog.wantsStandIn 22 = false by kernel_rfl)⟩)
    (by kernel_rfl)
#print axioms statsGains_card

end Go.Proofs.YthacanlnnfhhfaaDoor
