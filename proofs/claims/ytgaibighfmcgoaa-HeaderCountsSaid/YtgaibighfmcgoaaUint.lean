/- The walk of octets.Uint: the number that so many bytes make. -/
import Derived.Test.YtgaibighfmcgoaaProg
import Derived.WalkKit
import Derived.WalkSpells
import Derived.Below
import Derived.Outline
import Derived.Lib.Hide
import Derived.Deep.LoopGhost
import Derived.Laws.Slices
import Derived.Laws.BitsLemmas
import Derived.Test.YtgaibighfmcgoaaWWords
import Derived.Test.YtgaibighfmcgoaaWLast
import Derived.Test.YtgaibighfmcgoaaWMore
import Derived.Test.YtgaibighfmcgoaaClone
namespace Go.Proofs.Ytgaibighfmcgoaa.Hand
open Go.RowKit Go.Proofs.YtgaibighfmcgoaaW.PrintWords Go.Proofs.YtgaibighfmcgoaaW.PrintLast Go.Proofs.YtgaibighfmcgoaaW.PrintMore
/-- the number that bytes make, as the code reckons -/
def uval (xs : List Int) : Int := xs.foldl (fun a c => Go.bits .or .u64 (IntKind.u64.wrap (a * 256)) (IntKind.u64.wrap c)) 0
theorem uval_snoc (xs : List Int) (c : Int) : uval (xs ++ [c]) = Go.bits .or .u64 (IntKind.u64.wrap (uval xs * 256)) (IntKind.u64.wrap c) := by
  simp [uval, List.foldl_append]
def octets_Uint.f (l0 : List Int) (a1 a2 : Int) : Option (Int × Bool) :=
  if 1 ≤ a2 ∧ a2 ≤ 8 ∧ 0 ≤ a1 ∧ a1 ≤ l0.length - a2 then some (uval ((l0.take (a1.toNat + a2.toNat)).drop a1.toNat), true) else some (0, false)
set_option maxHeartbeats 4000000 in
set_option maxRecDepth 100000 in
theorem uint_no (A0 : Option Addr) (c0 : Nat) (n0 : Nat) (a1 a2 : Int) (w : World) (hmx : n0 ≤ 9223372036854775807) (h : ¬ (1 ≤ a2 ∧ a2 ≤ 8 ∧ 0 ≤ a1 ∧ a1 ≤ n0 - a2)) :
    Calls Try.prog 23 #[.slice A0 n0 c0, .int .i64 a1, .int .i64 a2] w fun e w' => e = .returned (.tuple #[.int .u64 0, .bool false]) ∧ Drawn0 w w' := by
  by_cases h1 : 1 ≤ a2
  · by_cases h2 : a2 ≤ 8
    · by_cases h3 : 0 ≤ a1
      · have h4 : (n0 : Int) - a2 < a1 := by omega
        clear h
        go_enter Try.func23, Try.ntmps23
        go_wp2
        go_ret2
        exact ⟨rfl, Drawn0.refl _⟩
      · have h4 : a1 < 0 := by omega
        clear h h3
        go_enter Try.func23, Try.ntmps23
        go_wp2
        go_ret2
        exact ⟨rfl, Drawn0.refl _⟩
    · have h4 : 8 < a2 := by omega
      clear h h2
      go_enter Try.func23, Try.ntmps23
      go_wp2
      go_ret2
      exact ⟨rfl, Drawn0.refl _⟩
  · have h4 : a2 < 1 := by omega
    clear h h1
    go_enter Try.func23, Try.ntmps23
    go_wp2
    go_ret2
    exact ⟨rfl, Drawn0.refl _⟩
set_option maxHeartbeats 4000000 in
set_option maxRecDepth 100000 in
theorem uint_yes (A0 : Option Addr) (c0 : Nat) (l0 : List Int) (n m : Nat) (w : World) (hr0 : Kd.C (Kd.int .u8) w A0 l0.length l0) (hc0 : l0.length ≤ c0) (h1 : 1 ≤ m) (h2 : m ≤ 8) (h3 : n + m ≤ l0.length) :
    Calls Try.prog 23 #[.slice A0 l0.length c0, .int .i64 n, .int .i64 m] w fun e w' => e = .returned (.tuple #[.int .u64 (uval ((l0.take (n + m)).drop n)), .bool true]) ∧ Drawn0 w w' := by
  have hmx := Kd.C_max hr0
  obtain ⟨i0, hi0, _, hsz0, _⟩ := info_parts info_u8
  obtain ⟨A', hcut, hA, hC⟩ := print_mid_of (P := Try.prog) (Value.int .u8) (0 : Int) 28 5 .i64 .i64 Try.underlying28 hi0 hsz0 A0 c0 l0 (n : Int) ((n : Int) + (m : Int)) (by omega) (by omega) (by omega) hc0
  have e1 : ((n : Int) + (m : Int)).toNat = n + m := by omega
  have e2 : ((n : Int)).toNat = n := by omega
  rw [e1, e2] at hcut hA hC
  have hlen : ((l0.take (n + m)).drop n).length = m := by rw [List.length_drop, List.length_take]; omega
  have hR := hA w (Kd.reads_of_C hr0)
  generalize hT : (l0.take (n + m)).drop n = T at *
  rw [hlen] at hcut hR
  have HR := Lib.hid hR
  have HL := Lib.hid hlen
  clear hr0 hA hC hR hi0 hsz0 e1 e2 hlen hT
  go_enter Try.func23, Try.ntmps23
  go_wp2
  go_loop [6, 9, 35] (fun v u i => ∃ k : Nat, k ≤ m ∧ i = .int .i64 k ∧ v = .int .u64 (uval (T.take k))) (fun _ _ i => m - (intOf i).toNat)
  case atStart => exact ⟨0, Nat.zero_le _, rfl, rfl⟩
  case round =>
    obtain ⟨k, hk, rfl, rfl⟩ := hrel
    by_cases hlt : k < m
    · obtain ⟨ad, hA', hc⟩ := ReadsOf.at_ HR.out (k : Int) (by omega) (by omega)
      cases hA'
      have e : T.take (k + 1) = T.take k ++ [rdOf 0 T k] := by
        have hL := HL.out
        rw [List.take_succ_eq_append_getElem (by omega)]
        simp [rdOf, List.getD_eq_getElem?_getD, List.getElem?_eq_getElem (show k < T.length by omega)]
      have E := Lib.hid e
      have e3 : (k : Int).toNat = k := by omega
      rw [e3] at hc
      clear e e3
      go_wp2
      go_round
      case rel => exact ⟨k + 1, by omega, by go_num, by rw [E.out, uval_snoc]⟩
      case measure => simp [intOf]; omega
    · have hkm : k = m := by omega
      subst hkm
      have e : T.take k = T := List.take_of_length_le (by have := HL.out; omega)
      have E := Lib.hid e
      clear e
      go_wp2
      go_ret2
      exact ⟨congrArg (fun t => Ending.returned (.tuple #[.int .u64 (uval t), .bool true])) E.out, Drawn0.refl _⟩
theorem octets_Uint.calls (A0 : Option Addr) (c0 : Nat) (l0 : List Int) (a1 a2 : Int) (r1 : Int) (r2 : Bool) (w : World) (hr0 : Kd.C (Kd.int .u8) w A0 l0.length l0) (hc0 : l0.length ≤ c0) (h : octets_Uint.f l0 a1 a2 = some (r1, r2)) :
    Calls Try.prog 23 #[.slice A0 l0.length c0, .int .i64 a1, .int .i64 a2] w fun e w' => e = .returned (.tuple #[.int .u64 r1, .bool r2]) ∧ Drawn0 w w' := by
  unfold octets_Uint.f at h
  by_cases hd : 1 ≤ a2 ∧ a2 ≤ 8 ∧ 0 ≤ a1 ∧ a1 ≤ l0.length - a2
  · rw [if_pos hd] at h
    simp only [Option.some.injEq, Prod.mk.injEq] at h
    obtain ⟨rfl, rfl⟩ := h
    obtain ⟨n, rfl⟩ := Int.eq_ofNat_of_zero_le hd.2.2.1
    obtain ⟨m, rfl⟩ := Int.eq_ofNat_of_zero_le (show 0 ≤ a2 by omega)
    simp only [Int.toNat_natCast]
    exact uint_yes A0 c0 l0 n m w hr0 hc0 (by omega) (by omega) (by omega)
  · rw [if_neg hd] at h
    simp only [Option.some.injEq, Prod.mk.injEq] at h
    obtain ⟨rfl, rfl⟩ := h
    exact uint_no A0 c0 l0.length a1 a2 w (Kd.C_max hr0) hd
end Go.Proofs.Ytgaibighfmcgoaa.Hand
