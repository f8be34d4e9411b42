import Derived.Test.YthacanlnnfhhfaaDoorProg
import Derived.Test.YthacanlnnfhhfaaDoorShelf
import Derived.Lib.SmallJoins
import Derived.Lib.QuietBelow
import Derived.Lib.ItoaLen
import Derived.Lib.AppendIntMem
import Derived.WalkKit
import Derived.Handy
import Derived.Outline
import Derived.WalkSpells
import Derived.WalkLawsBesides
import Derived.RegionTactic
import Derived.StillTailTactics
import Derived.Deep.QuietTactic
import Derived.BigQuiet
import Derived.Lib.Hide
namespace Go.Proofs.YthacanlnnfhhfaaDoor
open Go.RowKit

theorem max2_int (k k' : IntKind) (x y : Int) : Builtin.max2 (.int k x) (.int k' y) = pure (.int k (max x y)) := by
  simp only [Builtin.max2, gt_iff_lt]; rw [show (if x < y then y else x) = max x y from by omega]
theorem min2_int (k k' : IntKind) (x y : Int) : Builtin.min2 (.int k x) (.int k' y) = pure (.int k (min x y)) := by
  simp only [Builtin.min2]; rw [show (if y < x then y else x) = min x y from by omega]
theorem max_two (ats : Array TypeId) (ty : TypeId) (a b : Value) : Builtin.max_ ats ty #[a, b] = (Builtin.max2 a b >>= fun s => pure s) := by simp only [Builtin.max_, List.foldlM_cons, List.foldlM_nil]
theorem min_two (ats : Array TypeId) (ty : TypeId) (a b : Value) : Builtin.min_ ats ty #[a, b] = (Builtin.min2 a b >>= fun s => pure s) := by simp only [Builtin.min_, List.foldlM_cons, List.foldlM_nil]
attribute [local go_sem] max2_int min2_int max_two min_two

theorem region_tail {P : Program} {id : Nat} {Q : Exit → Act → World → Prop} {a : Act} {w : World} {l : List Oper} (n : Nat) (hm : P.follows .mixedOrders = true) (hB : Region.lexTailB .any l.toArray n = true)
    (h : wpStill P l.toArray w.drew (fun a' => wpList P l.toArray Q (l.drop n) a' w.drew) (l.take n) a) : (Code.region id l.toArray true).wp P Q a w := wp_region_still_tail n hm hB h
def br (x : Int) : Int := min (max x 0) 1099511627776
theorem br_bd (x : Int) : 0 ≤ br x ∧ br x ≤ 1099511627776 := by unfold br; omega

set_option maxHeartbeats 400000 in
theorem brought_any (n lo hi : Int) (w : World) :
    Calls Tryd.prog 13 #[.int .i64 n, .int .i64 lo, .int .i64 hi] w fun e w' => e = .returned (.int .i64 (min (max n lo) hi)) ∧ w = w' := by
  go_enter Tryd.func13, Tryd.ntmps13
  go_wp2
  go_ret
  exact ⟨rfl, rfl⟩
theorem brought_br (n : Int) (w : World) :
    Calls Tryd.prog 13 #[.int .i64 n, .int .i64 0, .int .i64 1099511627776] w fun e w' => e = .returned (.int .i64 (br n)) ∧ w = w' := brought_any _ _ _ _
def pl (n m : Int) : Int := min (br n + br m) 1099511627776
set_option maxHeartbeats 400000 in
theorem plus_any (n m : Int) (w : World) :
    Calls Tryd.prog 12 #[.int .i64 n, .int .i64 m] w fun e w' => e = .returned (.int .i64 (pl n m)) ∧ w = w' := by
  have h1 := br_bd n
  have h2 := br_bd m
  go_enter Tryd.func12, Tryd.ntmps12
  go_wp2_with (go_at_call 13; refine (brought_br _ _).mono ?_; rintro e w' ⟨rfl, rfl⟩)
  go_ret
  exact ⟨rfl, rfl⟩
def rat (r p : Int) : Int := if br r = 0 then 1000 else br p * 1000 / br r
set_option maxHeartbeats 400000 in
theorem ratio_any (r p : Int) (w : World) :
    Calls Tryd.prog 7 #[.agg #[.int .i64 r, .int .i64 p]] w fun e w' => e = .returned (.int .i64 (rat r p)) ∧ Below w.heap.size w w' := by
  obtain ⟨h1, h1'⟩ := br_bd r
  obtain ⟨h2, h2'⟩ := br_bd p
  by_cases h : br r = 0
  · have hb : (br r == 0) = true := by simpa using h
    have H := Lib.hid h; clear h
    go_enter Tryd.func7, Tryd.ntmps7
    go_wp2_with (go_at_call 13; refine (brought_br _ _).mono ?_; rintro e w' ⟨rfl, rfl⟩)
    go_ret
    exact ⟨by simp [rat, H.out], by go_grown⟩
  · have hb : (br r == 0) = false := by simpa using h
    have h3 : 1 ≤ br r := by omega
    have H := Lib.hid h; clear h
    go_enter Tryd.func7, Tryd.ntmps7
    go_wp2_with (go_at_call 13; refine (brought_br _ _).mono ?_; rintro e w' ⟨rfl, rfl⟩)
    · go_ret
      refine ⟨?_, by go_grown⟩
      have hr : rat r p = br p * 1000 / br r := by unfold rat; rw [if_neg H.out]
      have h4 : 0 ≤ br p * 1000 / br r := Int.ediv_nonneg (by omega) (by omega)
      have h5 : br p * 1000 / br r ≤ br p * 1000 := Int.ediv_le_self _ (by omega)
      rw [hr]; rfl
theorem rat_bd (r p : Int) : 0 ≤ rat r p ∧ rat r p ≤ 1099511627776000 := by
  have h1 := br_bd r
  have h2 := br_bd p
  unfold rat
  split
  · omega
  · have h4 : 0 ≤ br p * 1000 / br r := Int.ediv_nonneg (by omega) (by omega)
    have h5 : br p * 1000 / br r ≤ br p * 1000 := Int.ediv_le_self _ (by omega)
    omega
set_option maxHeartbeats 400000 in
theorem add_any (r p r2 p2: Int) (w : World) :
    Calls Tryd.prog 6 #[.agg #[.int .i64 r, .int .i64 p], .agg #[.int .i64 r2, .int .i64 p2]] w fun e w' => e = .returned (.agg #[.int .i64 (pl r r2), .int .i64 (pl p p2)]) ∧ Below w.heap.size w w' := by
  go_enter Tryd.func6, Tryd.ntmps6
  go_wp2_with fail
  refine region_tail 11 (by kernel_rfl) (by kernel_rfl) ?_
  simp only [List.take_succ_cons, List.take_zero, List.drop_succ_cons, List.drop_zero]
  repeat (first | still_step | still_call ((plus_any _ _ _).mono (by rintro e w' ⟨rfl, rfl⟩; exact ⟨rfl, rfl⟩)))
  refine wpStill_nil ?_
  go_wp2
  go_returns
  exact ⟨by simp [go_sem], by go_grown⟩

def sp : ByteArray := ⟨#[32]⟩
theorem tabkeep {w w' : World} {n : Nat} (hb : Below n w w') (hn : w.heap.size ≤ n) (h : Lib.TabIs Tryd.prog w "internal/strconv.uint64pow10" .u64 Lib.pow10Tab) : Lib.TabIs Tryd.prog w' "internal/strconv.uint64pow10" .u64 Lib.pow10Tab := by
  have hg : Tryd.prog.globalNamed "internal/strconv.uint64pow10" = some 0 := by kernel_rfl
  exact Joins.tab_stays hg h hb hn

theorem itoa_any (n : Int) (w : World) (h0 : -9223372036854775808 ≤ n) (h1 : n ≤ 9223372036854775807) (htab : Lib.TabIs Tryd.prog w "internal/strconv.uint64pow10" .u64 Lib.pow10Tab) :
    Calls Tryd.prog 14 #[.int .i64 n] w fun e w' => e = .returned (.string ⟨(Lib.itoa n).toArray⟩) ∧ Below w.heap.size w w' := by
  refine (Tryd.strconv_Itoa n h0 h1 w htab).mono ?_
  rintro e w' ⟨rfl, k, os, rfl⟩
  exact ⟨rfl, Lib.below_grow _ _ (Nat.le_refl _) _ _⟩

def it (n : Int) : ByteArray := ⟨(Lib.itoa n).toArray⟩
theorem it_size (n : Int) (h0 : -9223372036854775808 ≤ n) (h1 : n ≤ 9223372036854775807) : (it n).size ≤ 21 := by
  have := Lib.itoa_length_le n h0 h1
  show (Lib.itoa n).toArray.size ≤ 21
  simpa using this
theorem itoa_it (n : Int) (w : World) (h0 : -9223372036854775808 ≤ n) (h1 : n ≤ 9223372036854775807) (htab : Lib.TabIs Tryd.prog w "internal/strconv.uint64pow10" .u64 Lib.pow10Tab) :
    Calls Tryd.prog 14 #[.int .i64 n] w fun e w' => e = .returned (.string (it n)) ∧ Below w.heap.size w w' := itoa_any n w h0 h1 htab
set_option maxHeartbeats 400000 in
theorem text_any (r p : Int) (w : World) (hr0 : -9223372036854775808 ≤ r) (hr1 : r ≤ 9223372036854775807) (hp0 : -9223372036854775808 ≤ p) (hp1 : p ≤ 9223372036854775807) (htab : Lib.TabIs Tryd.prog w "internal/strconv.uint64pow10" .u64 Lib.pow10Tab) :
    Calls Tryd.prog 9 #[.agg #[.int .i64 r, .int .i64 p]] w fun e w' => e = .returned (.string (it r ++ sp ++ it p ++ sp ++ it (rat r p))) ∧ Below w.heap.size w w' := by
  have hr := rat_bd r p
  have c0 := fun (d : Nat) (os : Array Obj) => cell_regrown (w := ((w.alloc (Obj.cells #[Value.int IntKind.i64 r, Value.int IntKind.i64 p] 25)))) (a := ⟨w.heap.size, 0, none⟩) (v := .int .i64 r) (by simp [go_sem]) d os
  have c1 := fun (d : Nat) (os : Array Obj) => cell_regrown (w := ((w.alloc (Obj.cells #[Value.int IntKind.i64 r, Value.int IntKind.i64 p] 25)))) (a := ⟨w.heap.size, 1, none⟩) (v := .int .i64 p) (by simp [go_sem]) d os
  have htab1 := fun (d : Nat) (os : Array Obj) => tabkeep (((Below.refl w.heap.size w).alloc (Nat.le_refl _) (Obj.cells #[Value.int IntKind.i64 r, Value.int IntKind.i64 p] 25)).trans ((below_regrown _ d os).mono (by simp))) (Nat.le_refl _) htab
  have z1 := it_size r hr0 hr1
  have z2 := it_size p hp0 hp1
  have z3 := it_size (rat r p) (by omega) (by omega)
  have zs : (⟨#[32]⟩ : ByteArray).size ≤ 1 := Nat.le_refl _
  have cat1 := fun (w : World) => run_string_add_sum (P := Tryd.prog) w (it r) ⟨#[32]⟩ (by omega)
  have cat2 := fun (w : World) => run_string_add_sum (P := Tryd.prog) w (it r ++ ⟨#[32]⟩) (it p) (by simp only [ByteArray.size_append]; omega)
  have cat3 := fun (w : World) => run_string_add_sum (P := Tryd.prog) w (it r ++ ⟨#[32]⟩ ++ it p) ⟨#[32]⟩ (by simp only [ByteArray.size_append]; omega)
  have cat4 := fun (w : World) => run_string_add_sum (P := Tryd.prog) w (it r ++ ⟨#[32]⟩ ++ it p ++ ⟨#[32]⟩) (it (rat r p)) (by simp only [ByteArray.size_append]; omega)
  go_enter Tryd.func9, Tryd.ntmps9
  go_wp2_with fail
  refine wp_region_quiet_below (by kernel_rfl) (by kernel_rfl) ?_
  repeat (quiet_step (first | (go_at_call 14; refine Calls.regrown_of (itoa_it _ _ ?_ ?_ (htab1 _ _)) <;> omega) | (go_at_call 7; refine Calls.regrown_of (ratio_any _ _ _))))
  refine wpQuiet_nil ?_
  intro w2 hw2
  obtain ⟨q, hq⟩ := hw2
  have hb : Below w.heap.size w w2 := by
    rw [hq]
    exact ((Below.refl _ _).alloc (Nat.le_refl _) _).trans ((below_regrown _ _ _).mono (by simp))
  clear hq c0 c1 htab1 cat1 cat2 cat3 cat4
  go_wp2
  go_returns
  exact ⟨rfl, hb⟩

theorem bring_any (n : Int) (w : World) : Calls Tryd.prog 5 #[.int .i64 n] w fun e w' => e = .returned (.int .i64 (br n)) ∧ w = w' := by
  by_cases h1 : n < 0
  · have e : br n = 0 := by unfold br; omega
    have E := Lib.hid e; clear e
    go_enter Tryd.func5, Tryd.ntmps5
    go_wp2
    go_ret
    exact ⟨by rw [E.out]; rfl, rfl⟩
  · by_cases h2 : 1099511627776 < n
    · have e : br n = 1099511627776 := by unfold br; omega
      have E := Lib.hid e; clear e
      go_enter Tryd.func5, Tryd.ntmps5
      go_wp2
      go_ret
      exact ⟨by rw [E.out]; rfl, rfl⟩
    · have e : br n = n := by unfold br; omega
      have E := Lib.hid e; clear e
      go_enter Tryd.func5, Tryd.ntmps5
      go_wp2
      go_ret
      exact ⟨by rw [E.out]; rfl, rfl⟩

set_option maxHeartbeats 400000 in
theorem rratio_any (r p : Int) (w : World) :
    Calls Tryd.prog 8 #[.int .i64 r, .int .i64 p] w fun e w' => e = .returned (.int .i64 (rat r p)) ∧ w = w' := by
  obtain ⟨h1, h1'⟩ := br_bd r
  obtain ⟨h2, h2'⟩ := br_bd p
  by_cases h : br r = 0
  · have hb : (br r == 0) = true := by simpa using h
    have H := Lib.hid h; clear h
    go_enter Tryd.func8, Tryd.ntmps8
    go_wp2_with (go_at_call 5; refine (bring_any _ _).mono ?_; rintro e w' ⟨rfl, rfl⟩)
    go_ret
    exact ⟨by simp [rat, H.out], rfl⟩
  · have hb : (br r == 0) = false := by simpa using h
    have h3 : 1 ≤ br r := by omega
    have H := Lib.hid h; clear h
    go_enter Tryd.func8, Tryd.ntmps8
    go_wp2_with (go_at_call 5; refine (bring_any _ _).mono ?_; rintro e w' ⟨rfl, rfl⟩)
    go_ret
    have hr : rat r p = br p * 1000 / br r := by unfold rat; rw [if_neg H.out]
    exact ⟨by rw [hr]; rfl, rfl⟩

end Go.Proofs.YthacanlnnfhhfaaDoor
