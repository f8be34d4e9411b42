import Derived.Test.YthacanlnnfhhfaaDoorD
import Derived.Laws.StructEq
import Derived.IntWalk
import Derived.Deep.DeepCutAuto
namespace Go.Proofs.YthacanlnnfhhfaaDoor
open Go.RowKit
attribute [local go_sem] run_f0 run_f1
theorem u25 : Tryd.prog.underlying 25 = some (.struct (Tryd.prog.fieldsOf 25)) := by kernel_rfl
theorem s25 : Tryd.prog.stoodInHeld 25 = false := by kernel_rfl
theorem eq25 (x y : Int) (w : World) : (binOp .eql 25 (.agg #[.int .i64 x, .int .i64 y]) (.agg #[.int .i64 x, .int .i64 y])).run Tryd.prog w = .ok (.bool true) w := by
  rw [run_eql_struct, run_equalIn_agg _ _ _ _ _ u25 s25]
  simp [go_sem]
theorem bool_self (l : List UInt8) : Ending.returned (.bool (l == l)) = .returned (.bool true) := by simp
theorem pl_comm (a b : Int) : pl a b = pl b a := by unfold pl; rw [Int.add_comm]
theorem pl_bd (a b : Int) : 0 ≤ pl a b ∧ pl a b ≤ 1099511627776 := by
  have h1 := br_bd a
  have h2 := br_bd b
  unfold pl; omega
theorem br_pl (a b : Int) : br (br a + br b) = pl a b := by
  have h1 := br_bd a
  have h2 := br_bd b
  show min (max (br a + br b) 0) 1099511627776 = min (br a + br b) 1099511627776
  omega
theorem bring_b (n : Int) (w : World) : Calls Tryd.prog 5 #[.int .i64 n] w fun e w' => e = .returned (.int .i64 (br n)) ∧ Below w.heap.size w w' :=
  (bring_any n w).mono fun _ _ ⟨h, e⟩ => ⟨h, e ▸ Below.refl _ _⟩
theorem bring_p (n m : Int) (w : World) : Calls Tryd.prog 5 #[.int .i64 (br n + br m)] w fun e w' => e = .returned (.int .i64 (pl n m)) ∧ Below w.heap.size w w' := by
  have := bring_b (br n + br m) w
  rwa [br_pl] at this
theorem rratio_b (r p : Int) (w : World) : Calls Tryd.prog 8 #[.int .i64 r, .int .i64 p] w fun e w' => e = .returned (.int .i64 (rat r p)) ∧ Below w.heap.size w w' :=
  (rratio_any r p w).mono fun _ _ ⟨h, e⟩ => ⟨h, e ▸ Below.refl _ _⟩
theorem add_c (r p r2 p2 : Int) (w : World) :
    Calls Tryd.prog 6 #[.agg #[.int .i64 r, .int .i64 p], .agg #[.int .i64 r2, .int .i64 p2]] w fun e w' => e = .returned (.agg #[.int .i64 (pl r2 r), .int .i64 (pl p2 p)]) ∧ Below w.heap.size w w' := by
  have := add_any r p r2 p2 w
  rwa [pl_comm r, pl_comm p] at this
theorem digits_it (n : Int) (w : World) (h0 : -9223372036854775808 ≤ n) (h1 : n ≤ 9223372036854775807) :
    Calls Tryd.prog 10 #[.int .i64 n] w fun e w' => e = .returned (.string (it n)) ∧ Below w.heap.size w w' := digits_any n w h0 h1

def Cl (w : World) (b : Nat) (x y : Int) : Prop := w.cell? ⟨b, 0, none⟩ = some (.int .i64 x) ∧ w.cell? ⟨b, 1, none⟩ = some (.int .i64 y) ∧ b < w.heap.size
theorem Cl.below {w w' : World} {b : Nat} {x y : Int} (h : Cl w b x y) (hb : Below w.heap.size w w') : Cl w' b x y :=
  ⟨(hb.cell (p := ⟨b, 0, none⟩) h.2.2).trans h.1, (hb.cell (p := ⟨b, 1, none⟩) h.2.2).trans h.2.1, Nat.lt_of_lt_of_le h.2.2 hb.size⟩
theorem Cl.alloc {w : World} {b : Nat} {x y : Int} (h : Cl w b x y) (o : Obj) : Cl (w.alloc o) b x y := h.below ((Below.refl _ _).alloc (Nat.le_refl _) o)
theorem Cl.new (w : World) (x y : Int) (t : TypeId) : Cl (w.alloc (.cells #[.int .i64 x, .int .i64 y] t)) w.heap.size x y := ⟨by simp [go_sem], by simp [go_sem], by simp⟩
def Meet (n B5 B6 : Nat) (a0 a1 b0 b1 : Int) (w wx : World) : Prop := Below n w wx ∧ Cl wx n a0 a1 ∧ Cl wx (n + 1) b0 b1 ∧ Cl wx B5 a0 a1 ∧ Cl wx B6 b0 b1
set_option maxRecDepth 100000 in
set_option maxHeartbeats 4000000 in
theorem law_any (a0 a1 b0 b1 : Int) (w : World) (ha0 : -9223372036854775808 ≤ a0 ∧ a0 ≤ 9223372036854775807) (ha1 : -9223372036854775808 ≤ a1 ∧ a1 ≤ 9223372036854775807)
    (htab : Lib.TabIs Tryd.prog w "internal/strconv.uint64pow10" .u64 Lib.pow10Tab) :
    Calls Tryd.prog 3 #[.agg #[.int .i64 a0, .int .i64 a1], .agg #[.int .i64 b0, .int .i64 b1]] w fun e w' => e = .returned (.bool true) ∧ Below w.heap.size w w' := by
  have HT := Lib.hid htab
  clear htab
  go_enter Tryd.func3, Tryd.ntmps3
  go_wp2_with fail
  refine (awake_any _ (tabkeep (((Below.refl _ w).alloc (Nat.le_refl _) (.cells #[.int .i64 a0, .int .i64 a1] 22)).alloc (by simp) (.cells #[.int .i64 b0, .int .i64 b1] 22)) (Nat.le_refl _) HT.out)).mono ?_
  rintro e w1 ⟨rfl, hb1⟩
  have hz1 : w.heap.size + 2 ≤ w1.heap.size := by have := hb1.size; simpa using this
  have C0 : Cl w1 w.heap.size a0 a1 := (Cl.alloc (Cl.new w a0 a1 22) _).below hb1
  have C1 : Cl w1 (w.heap.size + 1) b0 b1 := by
    have := (Cl.new (w.alloc (.cells #[.int .i64 a0, .int .i64 a1] 22)) b0 b1 22).below hb1
    simpa using this
  have hc0 := C0.1
  have hc1 := C0.2.1
  have hc2 := C1.1
  have hc3 := C1.2.1
  have hbw : Below w.heap.size w w1 := (((Below.refl _ w).alloc (Nat.le_refl _) _).alloc (by simp) _).trans (hb1.mono (by simp; omega))
  have hl1 : w.heap.size < w1.heap.size := by omega
  have hl2 : w.heap.size + 1 < w1.heap.size := by omega
  clear hb1
  go_wp2_with fail
  go_cut [5, 6] (fun p5 p6 wx => ∃ B5 B6 : Nat, p5 = .pointer (some ⟨B5, 0, none⟩) ∧ p6 = .pointer (some ⟨B6, 0, none⟩) ∧ Meet w.heap.size B5 B6 a0 a1 b0 b1 w wx)
  case first =>
    go_region
    · go_wp2_with fail
      go_meet
      refine ⟨w1.heap.size, w1.heap.size + 1, rfl, rfl, ?_⟩
      have h5 := (Cl.new w1 a0 a1 25).alloc (.cells #[.int .i64 b0, .int .i64 b1] 25)
      have h6 := Cl.new (w1.alloc (.cells #[.int .i64 a0, .int .i64 a1] 25)) b0 b1 25
      rw [World.size_alloc] at h6
      exact ⟨((hbw.alloc (by omega) _).alloc (by simp; omega) _).drew, (C0.alloc _).alloc _, (C1.alloc _).alloc _, h5, h6⟩
    · go_wp2_with fail
      go_meet
      refine ⟨w1.heap.size + 1, w1.heap.size, rfl, rfl, ?_⟩
      have h5 := (Cl.new w1 b0 b1 25).alloc (.cells #[.int .i64 a0, .int .i64 a1] 25)
      have h6 := Cl.new (w1.alloc (.cells #[.int .i64 b0, .int .i64 b1] 25)) a0 a1 25
      rw [World.size_alloc] at h6
      exact ⟨((hbw.alloc (by omega) _).alloc (by simp; omega) _).drew, (C0.alloc _).alloc _, (C1.alloc _).alloc _, h6, h5⟩
  case rest =>
    obtain ⟨B5, B6, rfl, rfl, hM⟩ := hcut
    obtain ⟨hbx, D0, D1, D5, D6⟩ := hM
    have e0 := D0.1
    have e1 := D0.2.1
    have e2 := D1.1
    have e3 := D1.2.1
    have e4 := D5.1
    have e5 := D5.2.1
    have e6 := D6.1
    have e7 := D6.2.1
    have T : Hid _ := (show Cl wc w.heap.size a0 a1 ∧ Cl wc (w.heap.size + 1) b0 b1 ∧ Cl wc B5 a0 a1 ∧ Cl wc B6 b0 b1 from ⟨D0, D1, D5, D6⟩)
    clear D0 D1 D5 D6
    go_wp2_with fail
    refine (add_any _ _ _ _ _).mono ?_
    rintro e w2 ⟨rfl, hb2⟩
    have hbw2 := hbx.trans (hb2.mono (by have := T.out.1.2.2; omega))
    have T2 : Hid _ := (show Cl w2 w.heap.size a0 a1 ∧ Cl w2 (w.heap.size + 1) b0 b1 ∧ Cl w2 B5 a0 a1 ∧ Cl w2 B6 b0 b1 from ⟨T.out.1.below hb2, T.out.2.1.below hb2, T.out.2.2.1.below hb2, T.out.2.2.2.below hb2⟩)
    have hz2 : w.heap.size < w2.heap.size := T2.out.1.2.2
    clear e0 e1 e2 e3 e4 e5 e6 e7 T hb2 hbx
    go_wp2_with fail
    obtain ⟨E0, E1, E5, E6⟩ := T2.out
    have k0 := fun (d : Nat) (os : Array Obj) => cell_regrown (w := w2.alloc (.cells #[.int .i64 (pl a0 b0), .int .i64 (pl a1 b1)] 25)) (a := ⟨w.heap.size, 0, none⟩) (v := .int .i64 a0) (E0.alloc _).1 d os
    have k1 := fun (d : Nat) (os : Array Obj) => cell_regrown (w := w2.alloc (.cells #[.int .i64 (pl a0 b0), .int .i64 (pl a1 b1)] 25)) (a := ⟨w.heap.size, 1, none⟩) (v := .int .i64 a1) (E0.alloc _).2.1 d os
    have k2 := fun (d : Nat) (os : Array Obj) => cell_regrown (w := w2.alloc (.cells #[.int .i64 (pl a0 b0), .int .i64 (pl a1 b1)] 25)) (a := ⟨w.heap.size + 1, 0, none⟩) (v := .int .i64 b0) (E1.alloc _).1 d os
    have k3 := fun (d : Nat) (os : Array Obj) => cell_regrown (w := w2.alloc (.cells #[.int .i64 (pl a0 b0), .int .i64 (pl a1 b1)] 25)) (a := ⟨w.heap.size + 1, 1, none⟩) (v := .int .i64 b1) (E1.alloc _).2.1 d os
    have k4 := fun (d : Nat) (os : Array Obj) => cell_regrown (w := w2.alloc (.cells #[.int .i64 (pl a0 b0), .int .i64 (pl a1 b1)] 25)) (a := ⟨B5, 0, none⟩) (v := .int .i64 a0) (E5.alloc _).1 d os
    have k5 := fun (d : Nat) (os : Array Obj) => cell_regrown (w := w2.alloc (.cells #[.int .i64 (pl a0 b0), .int .i64 (pl a1 b1)] 25)) (a := ⟨B5, 1, none⟩) (v := .int .i64 a1) (E5.alloc _).2.1 d os
    have k6 := fun (d : Nat) (os : Array Obj) => cell_regrown (w := w2.alloc (.cells #[.int .i64 (pl a0 b0), .int .i64 (pl a1 b1)] 25)) (a := ⟨B6, 0, none⟩) (v := .int .i64 b0) (E6.alloc _).1 d os
    have k7 := fun (d : Nat) (os : Array Obj) => cell_regrown (w := w2.alloc (.cells #[.int .i64 (pl a0 b0), .int .i64 (pl a1 b1)] 25)) (a := ⟨B6, 1, none⟩) (v := .int .i64 b1) (E6.alloc _).2.1 d os
    have k8 := fun (d : Nat) (os : Array Obj) => cell_regrown (w := w2.alloc (.cells #[.int .i64 (pl a0 b0), .int .i64 (pl a1 b1)] 25)) (a := ⟨w2.heap.size, 0, none⟩) (v := .int .i64 (pl a0 b0)) (by simp [go_sem]) d os
    have k9 := fun (d : Nat) (os : Array Obj) => cell_regrown (w := w2.alloc (.cells #[.int .i64 (pl a0 b0), .int .i64 (pl a1 b1)] 25)) (a := ⟨w2.heap.size, 1, none⟩) (v := .int .i64 (pl a1 b1)) (by simp [go_sem]) d os
    have hbw3 : Below w.heap.size w (w2.alloc (.cells #[.int .i64 (pl a0 b0), .int .i64 (pl a1 b1)] 25)) := hbw2.alloc (by omega) _
    clear E0 E1 E5 E6 T2
    have HK := Lib.hid (fun (d : Nat) (os : Array Obj) => tabkeep (hbw3.trans ((below_regrown _ d os).mono (by simp; omega))) (Nat.le_refl _) HT.out)
    have z1 := br_bd a0
    have z2 := br_bd a1
    have z3 := br_bd b0
    have z4 := br_bd b1
    have hr := rat_bd a0 a1
    obtain ⟨z1, z1'⟩ := z1
    obtain ⟨z2, z2'⟩ := z2
    obtain ⟨z3, z3'⟩ := z3
    obtain ⟨z4, z4'⟩ := z4
    obtain ⟨hr, hr'⟩ := hr
    clear hbw2
    have s1 := it_size a0 ha0.1 ha0.2
    have s2 := it_size a1 ha1.1 ha1.2
    have s3 := it_size (rat a0 a1) (by omega) (by omega)
    have zs : (⟨#[32]⟩ : ByteArray).size ≤ 1 := Nat.le_refl _
    have cat1 := fun (w : World) => run_string_add_sum (P := Tryd.prog) w (it a0) ⟨#[32]⟩ (by omega)
    have cat2 := fun (w : World) => run_string_add_sum (P := Tryd.prog) w (it a0 ++ ⟨#[32]⟩) (it a1) (by simp only [ByteArray.size_append]; omega)
    have cat3 := fun (w : World) => run_string_add_sum (P := Tryd.prog) w (it a0 ++ ⟨#[32]⟩ ++ it a1) ⟨#[32]⟩ (by simp only [ByteArray.size_append]; omega)
    have cat4 := fun (w : World) => run_string_add_sum (P := Tryd.prog) w (it a0 ++ ⟨#[32]⟩ ++ it a1 ++ ⟨#[32]⟩) (it (rat a0 a1)) (by simp only [ByteArray.size_append]; omega)
    have hw1 : IntKind.i64.wrap (br a0 + br b0) = br a0 + br b0 := IntWalk.i64_in _ (by omega)
    have hw2 : IntKind.i64.wrap (br a1 + br b1) = br a1 + br b1 := IntWalk.i64_in _ (by omega)
    have hp1 := br_pl a0 b0
    have hp2 := br_pl a1 b1
    have eqs := fun (w : World) => eq25 (pl a0 b0) (pl a1 b1) w
    refine wp_region_quiet_below (by kernel_rfl) (by kernel_rfl) ?_
    simp only [List.append_eq, List.cons_append, List.nil_append]
    repeat (quiet_step (first
      | (go_at_call 7; refine Calls.regrown_of (ratio_any _ _ _))
      | (go_at_call 8; refine Calls.regrown_of (rratio_b _ _ _))
      | (go_at_call 6; refine Calls.regrown_of (add_c _ _ _ _ _))
      | (go_at_call 5; refine Calls.regrown_of (bring_b _ _))
      | (go_at_call 9; refine Calls.regrown_of (text_any _ _ _ ha0.1 ha0.2 ha1.1 ha1.2 (HK.out _ _)))
      | (go_at_call 10; refine Calls.regrown_of (digits_it _ _ ?_ ?_) <;> omega)))
    refine wpQuiet_nil ?_
    intro w3 hw3
    obtain ⟨q, hq⟩ := hw3
    have hb : Below w.heap.size w w3 := by
      rw [hq]
      exact hbw3.trans ((below_regrown _ _ _).mono (by simp; omega))
    clear hq k0 k1 k2 k3 k4 k5 k6 k7 k8 k9 HK cat1 cat2 cat3 cat4 eqs
    go_wp2
    go_ret
    exact ⟨bool_self _, hb⟩

end Go.Proofs.YthacanlnnfhhfaaDoor
