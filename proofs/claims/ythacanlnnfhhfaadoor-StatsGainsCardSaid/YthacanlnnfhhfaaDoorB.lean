import Derived.Test.YthacanlnnfhhfaaDoorProg
import Derived.WalkKit
import Derived.Handy
import Derived.Outline
import Derived.WalkSpells
import Derived.WalkLawsBesides
import Derived.RegionTactic
import Derived.Lib.Hide
import Derived.Lib.ItoaLen
import Derived.Lib.ItoaNum
import Derived.Lib.ConvBytes
namespace Go.Proofs.YthacanlnnfhhfaaDoor
open Go.RowKit

set_option maxHeartbeats 400000 in
theorem digits_nat (N : Nat) (w : World) (h1 : N ≤ 9223372036854775807) :
    Calls Tryd.prog 10 #[.int .i64 N] w fun e w' => e = .returned (.string ⟨(Lib.decDigits N).toArray⟩) ∧ Below w.heap.size w w' := by
  have hne : ((N : Int) == -9223372036854775808) = false := by simp
  go_enter Tryd.func10, Tryd.ntmps10
  go_wp2
  go_loopw [0, 3] (fun n o wr => ∃ (u : Nat) (l : List UInt8), n = .int .i64 u ∧ o = .string ⟨l.toArray⟩ ∧ u ≤ N ∧ Hid (Lib.decDigits u ++ l = Lib.decDigits N) ∧ Below w.heap.size w wr) (fun n _ _ => (intOf n).toNat)
  case atStart => exact ⟨N, [], rfl, rfl, Nat.le_refl _, by show _ ++ _ = _; simp, Below.refl _ _⟩
  case round =>
    obtain ⟨u, l, rfl, rfl, hu, HD, hb⟩ := hrel
    have hl : l.length ≤ 21 := by
      have h2 := Lib.itoa_length_le N (by omega) (by omega)
      have h3 : Lib.itoa N = Lib.decDigits N := by unfold Lib.itoa; rw [if_neg (by omega)]; simp
      rw [h3, ← HD.out] at h2
      simp at h2; omega
    have kb := run_convert_bytes_arg (P := Tryd.prog) (wr.alloc (Obj.cells #[.int .u8 (48 + (u : Int) % 10)] 5)) 37 5 Tryd.underlying37 Tryd.underlying5 wr.heap.size 0 1 1 [48 + (u : Int) % 10] rfl (by intro i hi; obtain rfl : i = 0 := (by omega); simp [go_sem]) 9 Tryd.underlying9
    have cat := fun (w : World) => run_string_add_sum (P := Tryd.prog) w (strOfNums [48 + (u : Int) % 10]) ⟨l.toArray⟩ (by
      have h1 : (strOfNums [48 + (u : Int) % 10]).size ≤ 1 := by simp [strOfNums, ByteArray.size]
      have h2 : (⟨l.toArray⟩ : ByteArray).size ≤ 21 := by simpa [ByteArray.size] using hl
      omega)
    have hs : strOfNums [48 + (u : Int) % 10] ++ ⟨l.toArray⟩ = ⟨(UInt8.ofNat (48 + u % 10) :: l).toArray⟩ := by
      have e1 : (48 + (u : Int) % 10).toNat = 48 + u % 10 := by omega
      have e2 : strOfNums [48 + (u : Int) % 10] = ⟨#[UInt8.ofNat (48 + u % 10)]⟩ := by unfold strOfNums; simp only [List.map_cons, List.map_nil, e1]
      rw [e2]
      apply ByteArray.ext
      simp [ByteArray.data_append]
    have hbs := hb.size
    have HS := Lib.hid hs; clear hs
    by_cases h10 : u < 10
    · have hq : ((u : Int) / 10 == 0) = true := by simp; omega
      go_wp2
      go_ret
      refine ⟨?_, by go_grown⟩
      rw [← HD.out, HS.out]
      have e : Lib.decDigits u = [UInt8.ofNat (48 + u)] := by rw [Lib.decDigits, dif_pos h10]
      rw [e]
      have e2 : u % 10 = u := by omega
      rw [e2]; rfl
    · have hq : ((u : Int) / 10 == 0) = false := by simp; omega
      have hd : Lib.decDigits u = Lib.decDigits (u / 10) ++ [UInt8.ofNat (48 + u % 10)] := by rw [Lib.decDigits, dif_neg h10]
      have Hd := Lib.hid hd; clear hd
      go_wp2
      go_roundw
      case rel =>
        refine ⟨u / 10, UInt8.ofNat (48 + u % 10) :: l, by go_num, by rw [HS.out], by omega, ?_, by go_grown⟩
        show _ ++ _ = _
        rw [← HD.out, Hd.out]; simp
      case measure => simp [intOf]; omega

theorem digits_any (n : Int) (w : World) (h0 : -9223372036854775808 ≤ n) (h1 : n ≤ 9223372036854775807) :
    Calls Tryd.prog 10 #[.int .i64 n] w fun e w' => e = .returned (.string ⟨(Lib.itoa n).toArray⟩) ∧ Below w.heap.size w w' := by
  by_cases hn : 0 ≤ n
  · obtain ⟨N, rfl⟩ := Int.eq_ofNat_of_zero_le hn
    have e : Lib.itoa N = Lib.decDigits N := by unfold Lib.itoa; rw [if_neg (by omega)]; simp
    rw [e]
    exact digits_nat N w (by omega)
  · by_cases hm : n = -9223372036854775808
    · subst hm
      go_enter Tryd.func10, Tryd.ntmps10
      go_wp2
      go_ret
      refine ⟨?_, by go_grown⟩
      have e : Lib.itoa (-9223372036854775808) = [45, 57, 50, 50, 51, 51, 55, 50, 48, 51, 54, 56, 53, 52, 55, 55, 53, 56, 48, 56] := by decide +kernel
      rw [e]; rfl
    · have hne : (n == -9223372036854775808) = false := by simpa using hm
      obtain ⟨N, hN⟩ := Int.eq_ofNat_of_zero_le (show 0 ≤ -n by omega)
      have e : Lib.itoa n = 45 :: Lib.decDigits N := by unfold Lib.itoa; rw [if_pos (by omega)]; congr 2; omega
      have hc := fun (w : World) => digits_nat N w (by omega)
      rw [← hN] at hc
      have hlen : (Lib.decDigits N).length ≤ 21 := by
        have h2 := Lib.itoa_length_le N (by omega) (by omega)
        have h3 : Lib.itoa N = Lib.decDigits N := by unfold Lib.itoa; rw [if_neg (by omega)]; simp
        rwa [h3] at h2
      have cat := fun (w : World) => run_string_add_sum (P := Tryd.prog) w ⟨#[45]⟩ ⟨(Lib.decDigits N).toArray⟩ (by
        have h1 : (⟨#[45]⟩ : ByteArray).size ≤ 1 := Nat.le_refl _
        have h2 : (⟨(Lib.decDigits N).toArray⟩ : ByteArray).size ≤ 21 := by simpa [ByteArray.size] using hlen
        omega)
      have E := Lib.hid e; clear e
      have HN := Lib.hid hN; clear hN
      have HC := Lib.hid hc; clear hc
      go_enter Tryd.func10, Tryd.ntmps10
      go_wp2_with (go_at_call 10; refine (HC.out _).mono ?_; rintro e w' ⟨rfl, hb⟩)
      go_ret
      refine ⟨?_, hb⟩
      rw [E.out]
      show Ending.returned (.string (⟨#[45]⟩ ++ ⟨(Lib.decDigits N).toArray⟩)) = _
      have e : (⟨#[45]⟩ : ByteArray) ++ ⟨(Lib.decDigits N).toArray⟩ = ⟨(45 :: Lib.decDigits N).toArray⟩ := by
        apply ByteArray.ext
        simp [ByteArray.data_append]
      rw [e]

end Go.Proofs.YthacanlnnfhhfaaDoor
