import Derived.Test.YthacanlnnfhhfaaDoorA
import Derived.Test.YthacanlnnfhhfaaDoorB
import Derived.Test.YthacanlnnfhhfaaDoorC
namespace Go.Proofs.YthacanlnnfhhfaaDoor
open Go.RowKit

theorem sort312 : ([3, 1, 2] : List Int).mergeSort (fun x y => decide (x ≤ y)) = [1, 2, 3] := by
  simp [List.mergeSort, List.MergeSort.Internal.splitInTwo]

theorem brought_500 (w : World) : Calls Tryd.prog 13 #[.int .i64 500, .int .i64 0, .int .i64 1000] w fun e w' => e = .returned (.int .i64 500) ∧ w = w' := brought_any 500 0 1000 w
set_option maxHeartbeats 400000 in
theorem quantile_one (b : Nat) (w : World) (h : w.heap[b]? = some (.cells #[.int .i64 3, .int .i64 1, .int .i64 2] 3 (0, 0))) :
    Calls Tryd.prog 11 #[.slice (some ⟨b, 0, none⟩) 3 3, .int .i64 500] w fun e W' => e = .returned (.tuple #[.int .i64 2, .bool true]) ∧ Below w.heap.size w W' := by
  have hb : b < w.heap.size := (Array.getElem?_eq_some_iff.1 h).1
  have hV := callsIn_wide.1 (Si.values_in Fence.wide 3 trivial rfl (some ⟨b, 0, none⟩) 3 3 w)
  have hI : Si.Ints (w.alloc (.cells #[.slice (some ⟨b, 0, none⟩) 3 3] 35)).heap.size (w.alloc (.cells #[.slice (some ⟨b, 0, none⟩) 3 3] 35)) (.slice (some ⟨b, 0, none⟩) 3 3) [3, 1, 2] := by
    refine .inr ⟨b, 0, 3, rfl, by simp; omega, fun j hj => ?_⟩
    have hk : (w.alloc (.cells #[.slice (some ⟨b, 0, none⟩) 3 3] 35)).heap[b]? = some (.cells #[.int .i64 3, .int .i64 1, .int .i64 2] 3 (0, 0)) := (Below.heap_alloc _ _ _ hb).trans h
    simp at hj
    match j, hj with
    | 0, _ => simp [World.cell?, hk]
    | 1, _ => simp [World.cell?, hk]
    | 2, _ => simp [World.cell?, hk]
  have hS := sorted_any w.heap.size (.slice (some ⟨b, 0, none⟩) 3 3) [3, 1, 2] (by decide) (by decide) (w.alloc (.cells #[.slice (some ⟨b, 0, none⟩) 3 3] 35)) (by simp) (by simp [go_sem]) hI
  rw [sort312] at hS
  have hV := Lib.hid hV
  have HS := Lib.hid hS
  clear hS hI h
  go_enter Tryd.func11, Tryd.ntmps11
  go_wp2_with fail
  refine hV.out.mono ?_
  rintro e w1 ⟨rfl, rfl⟩
  go_wp2_with fail
  refine HS.out.mono ?_
  rintro e w2 ⟨v, rfl, ho, hb2⟩
  obtain ⟨g, cap, rfl⟩ := ownsRow_succ (k := 2) ho
  have hc : w2.cell? ⟨g, 1, none⟩ = some (.int .i64 2) := by
    have h2 := ho.cellAt 1 (by decide)
    simpa using h2
  have hb3 : Below w.heap.size w w2 := ((Below.refl _ w).alloc (Nat.le_refl _) _).trans (hb2.mono (by simp))
  clear ho hb2
  go_wp2_with (go_at_call 13; refine (brought_500 _).mono ?_; rintro e w' ⟨rfl, rfl⟩)
  go_ret2
  exact ⟨rfl, hb3⟩

theorem text_g (w : World) (htab : Lib.TabIs Tryd.prog w "internal/strconv.uint64pow10" .u64 Lib.pow10Tab) :
    Calls Tryd.prog 9 #[.agg #[.int .i64 10, .int .i64 5]] w fun e w' => e = .returned (.string ⟨#[49, 48, 32, 53, 32, 53, 48, 48]⟩) ∧ Below w.heap.size w w' := by
  have h : it 10 ++ sp ++ it 5 ++ sp ++ it (rat 10 5) = ⟨#[49, 48, 32, 53, 32, 53, 48, 48]⟩ := by decide +kernel
  have := text_any 10 5 w (by decide) (by decide) (by decide) (by decide) htab
  rwa [h] at this

theorem ratio_g (w : World) : Calls Tryd.prog 7 #[.agg #[.int .i64 10, .int .i64 5]] w fun e w' => e = .returned (.int .i64 500) ∧ Below w.heap.size w w' := ratio_any 10 5 w
theorem add_g (w : World) : Calls Tryd.prog 6 #[.agg #[.int .i64 10, .int .i64 5], .agg #[.int .i64 10, .int .i64 5]] w fun e w' => e = .returned (.agg #[.int .i64 20, .int .i64 10]) ∧ Below w.heap.size w w' := add_any 10 5 10 5 w

theorem run_f0 (x y : Int) (w : World) : (Instr.field 25 (.agg #[.int .i64 x, .int .i64 y]) 0).run Tryd.prog w = .ok (.int .i64 x) w := by kernel_rfl
theorem run_f1 (x y : Int) (w : World) : (Instr.field 25 (.agg #[.int .i64 x, .int .i64 y]) 1).run Tryd.prog w = .ok (.int .i64 y) w := by kernel_rfl
attribute [local go_sem] run_f0 run_f1
set_option maxHeartbeats 400000 in
theorem awake_any (w : World) (htab : Lib.TabIs Tryd.prog w "internal/strconv.uint64pow10" .u64 Lib.pow10Tab) :
    Calls Tryd.prog 4 #[] w fun e w' => e = .returned (.bool true) ∧ Below w.heap.size w w' := by
  have HT := Lib.hid htab
  clear htab
  go_enter Tryd.func4, Tryd.ntmps4
  go_wp2_with fail
  refine (quantile_one _ _ ?_).mono ?_
  · have := World.alloc_heap_new (w.alloc (.cells #[.int .i64 10, .int .i64 5] 25)) (.cells #[.int .i64 3, .int .i64 1, .int .i64 2] 3)
    simpa using this
  rintro e w1 ⟨rfl, hb1⟩
  have hc0 : w1.cell? ⟨w.heap.size, 0, none⟩ = some (.int .i64 10) := by rw [hb1.cell (by simp; omega)]; simp [go_sem]
  have hc1 : w1.cell? ⟨w.heap.size, 1, none⟩ = some (.int .i64 5) := by rw [hb1.cell (by simp; omega)]; simp [go_sem]
  have hbw : Below w.heap.size w w1 := (((Below.refl _ w).alloc (Nat.le_refl _) _).alloc (by simp) _).trans (hb1.mono (by simp; omega))
  have hz1 : w.heap.size + 2 ≤ w1.heap.size := by have := hb1.size; simpa using this
  clear hb1
  go_wp2_with fail
  refine (ratio_g _).mono ?_
  rintro e w2 ⟨rfl, hb2⟩
  have hd0 : w2.cell? ⟨w.heap.size, 0, none⟩ = some (.int .i64 10) := by rw [hb2.cell (by simp; omega)]; exact hc0
  have hd1 : w2.cell? ⟨w.heap.size, 1, none⟩ = some (.int .i64 5) := by rw [hb2.cell (by simp; omega)]; exact hc1
  have hbw2 := hbw.trans (hb2.mono (by omega))
  have hz2 : w.heap.size + 2 ≤ w2.heap.size := by have := hb2.size; omega
  clear hc0 hc1 hbw hb2
  go_wp2_with fail
  refine (add_g _).mono ?_
  rintro e w3 ⟨rfl, hb3⟩
  have he0 : w3.cell? ⟨w.heap.size, 0, none⟩ = some (.int .i64 10) := by rw [hb3.cell (by simp; omega)]; exact hd0
  have he1 : w3.cell? ⟨w.heap.size, 1, none⟩ = some (.int .i64 5) := by rw [hb3.cell (by simp; omega)]; exact hd1
  have hbw3 := hbw2.trans (hb3.mono (by omega))
  have hz3 : w.heap.size + 2 ≤ w3.heap.size := by have := hb3.size; omega
  clear hd0 hd1 hbw2 hb3
  go_wp2_with fail
  refine (text_g _ (tabkeep hbw3 (Nat.le_refl _) HT.out)).mono ?_
  rintro e w4 ⟨rfl, hb4⟩
  have hbw4 := hbw3.trans (hb4.mono (by omega))
  go_wp2
  go_ret
  exact ⟨rfl, hbw4⟩

end Go.Proofs.YthacanlnnfhhfaaDoor
