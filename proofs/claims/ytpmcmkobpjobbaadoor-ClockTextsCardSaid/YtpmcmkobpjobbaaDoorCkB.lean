/- The walks of clock.padded, clock.Seconds. -/
import Derived.Test.YtpmcmkobpjobbaaDoorCkA
import Derived.Test.YtpmcmkobpjobbaaDoorShelf
import Derived.Lib.AppendIntMem
namespace Go.Proofs.YtpmcmkobpjobbaaDoor.Hand
open Go.RowKit Go.Proofs.YtpmcmkobpjobbaaDoorW.PrintWords Go.Proofs.YtpmcmkobpjobbaaDoorW.PrintLast Go.Proofs.YtpmcmkobpjobbaaDoorW.PrintMore Go.Proofs.YtpmcmkobpjobbaaDoor.PPA Cv
attribute [local go_sem] max2_int max_two
set_option linter.unusedVariables false
set_option linter.unusedSimpArgs false
theorem itoa_contract (n : Int) (h1 : -2147483648 ≤ n) (h2 : n ≤ 2147483648) (w : World) (hG : Glob w) :
    Calls Tryd.prog 36 #[.int .i64 (if n < -n then -n else n)] w fun e w' => e = .returned (.string ⟨(Lib.decDigits n.natAbs).toArray⟩) ∧ Below w.heap.size w w' := by
  have e : (if n < -n then -n else n) = (n.natAbs : Int) := by split <;> omega
  rw [e]
  refine (Tryd.strconv_Itoa n.natAbs (by omega) (by omega) w hG.2).mono ?_
  rintro e w' ⟨rfl, k, os, rfl⟩
  exact ⟨by rw [Lib.itoa_nonneg], Lib.below_grow _ _ (Nat.le_refl _) _ _⟩
theorem repeat_contract (c : Nat) (c2 : c ≤ 100) (D : Nat) (w : World) :
    Calls Tryd.prog 37 #[.string ⟨#[48]⟩, .int .i64 (if (c : Int) - (D : Int) < 0 then 0 else (c : Int) - (D : Int))] w fun e w' => e = .returned (.string ⟨(List.replicate (c - D) 48).toArray⟩) ∧ Below w.heap.size w w' := by
  have e : (if (c : Int) - (D : Int) < 0 then 0 else (c : Int) - (D : Int)) = ((c - D : Nat) : Int) := by split <;> omega
  rw [e]
  refine (Tryd.strings_Repeat ⟨#[48]⟩ (c - D) w (by omega) (by show 1 * _ ≤ _; omega)).mono ?_
  rintro e w' ⟨rfl, hb⟩
  refine ⟨?_, hb⟩
  have := Lib.repeatL_replicate 48 1 (c - D)
  rw [Nat.mul_one] at this
  have e2 : (⟨#[48]⟩ : ByteArray).data.toList = List.replicate 1 48 := rfl
  rw [e2, this]
set_option maxHeartbeats 2000000 in
set_option maxRecDepth 100000 in
theorem clock_padded.calls (n : Int) (c : Nat) (h1 : -2147483648 ≤ n) (h2 : n ≤ 2147483648) (c1 : 1 ≤ c) (c2 : c ≤ 100) (w : World) (hG : Glob w) :
    Calls Tryd.prog 25 #[.int .i64 n, .int .i64 (c : Int)] w fun e w' => e = .returned (.string ⟨(sgn n ++ padN c n.natAbs).toArray⟩) ∧ Below w.heap.size w w' := by
  have HB := Aside0.mk (Below.refl w.heap.size w)
  have HI := Aside0.mk (itoa_contract n h1 h2 w hG)
  have HR := Aside0.mk (repeat_contract c c2 (Lib.decDigits n.natAbs).length)
  have hs1 : sgn n ++ padN c n.natAbs = (if n < 0 then [45] else []) ++ (List.replicate (c - (Lib.decDigits n.natAbs).length) 48 ++ Lib.decDigits n.natAbs) := rfl
  have HP := Aside0.mk hs1
  have hD := Lib.nDigits_le20 n.natAbs (by omega)
  rw [← Lib.decDigits_length] at hD
  clear hs1
  generalize Lib.decDigits n.natAbs = dd at *
  have hT1 : (ByteArray.mk dd.toArray).size = dd.length := szl dd
  obtain ⟨T, hT⟩ : ∃ T, T = ByteArray.mk dd.toArray := ⟨_, rfl⟩
  obtain ⟨R, hR⟩ : ∃ R, R = ByteArray.mk (List.replicate (c - dd.length) 48).toArray := ⟨_, rfl⟩
  have hR1 : R.size ≤ 100 := by rw [hR, szl]; simp; omega
  rw [← hT] at HI hT1
  rw [← hR, ← hT1] at HR
  have HT := Aside0.mk hT
  have HRR := Aside0.mk hR
  have t20 : T.size ≤ 20 := by omega
  clear hT hR hT1 hD
  have k1 : R.size + T.size ≤ 9223372036854775807 := by omega
  have k1b0 := eq_true k1
  have k1b1 : decide (R.size + T.size ≤ 9223372036854775807) = true := decide_eq_true k1
  have k1b2 : (9223372036854775807 < R.size + T.size) = False := eq_false (Nat.not_lt.2 k1)
  have k2b2 : (9223372036854775807 < 1 + (R.size + T.size)) = False := eq_false (by omega)
  have k3b2 : (9223372036854775807 < (⟨#[45]⟩ : ByteArray).size + (R.size + T.size)) = False := eq_false (by rw [show (⟨#[45]⟩ : ByteArray).size = 1 from rfl]; omega)
  have ct : (c : Int) ≤ 100 := by omega
  have tt : (T.size : Int) ≤ 20 := by omega
  by_cases hn : n < 0
  · have hnb : decide (n < 0) = true := decide_eq_true hn
    rw [if_pos (by omega)] at HI
    go_enter Tryd.func25, Tryd.ntmps25
    go_wp2_with (first
      | (go_at_call 36; (with_reducible refine (HI.out).mono ?_); rintro e w2 ⟨rfl, hb⟩; have n0_ := Aside0.mk (below_step HB.out hb); clear HB; have HB := n0_; clear n0_ hb)
      | (go_at_call 37; (with_reducible refine (HR.out _).mono ?_); rintro e w3 ⟨rfl, hb⟩; have n0_ := Aside0.mk (below_step HB.out hb); clear HB; have HB := n0_; clear n0_ hb))
    all_goals
      go_ret
      refine ⟨?_, HB.out⟩
      rw [HP.out, if_pos hn, HT.out, HRR.out, mk1, ByteArray.mk_append_mk, ByteArray.mk_append_mk]
      rfl
  · have hnb : decide (n < 0) = false := decide_eq_false hn
    rw [if_neg (by omega)] at HI
    go_enter Tryd.func25, Tryd.ntmps25
    go_wp2_with (first
      | (go_at_call 36; (with_reducible refine (HI.out).mono ?_); rintro e w2 ⟨rfl, hb⟩; have n0_ := Aside0.mk (below_step HB.out hb); clear HB; have HB := n0_; clear n0_ hb)
      | (go_at_call 37; (with_reducible refine (HR.out _).mono ?_); rintro e w3 ⟨rfl, hb⟩; have n0_ := Aside0.mk (below_step HB.out hb); clear HB; have HB := n0_; clear n0_ hb))
    all_goals
      go_ret
      refine ⟨?_, HB.out⟩
      rw [HP.out, if_neg (by omega), HT.out, HRR.out, ByteArray.mk_append_mk]
      rfl
set_option maxHeartbeats 2000000 in
set_option maxRecDepth 100000 in
theorem clock_Seconds.calls (y m d H M S : Int) (w : World) (hG : Glob w) :
    Calls Tryd.prog 12 #[.agg #[.int .i64 y, .int .i64 m, .int .i64 d, .int .i64 H, .int .i64 M, .int .i64 S]] w fun e w' => e = .returned (.tuple #[.int .i64 (if cright y m d H M S = true then csec y m d H M S else 0), .int .i64 (if cright y m d H M S = true then 0 else 1)]) ∧ Below w.heap.size w w' := by
  have hu23 := Tryd.underlying23
  have HB := Aside0.mk (Below.refl w.heap.size w)
  have CR := Aside0.mk (fun W h => clock_Right.calls y m d H M S W h)
  by_cases hr : cright y m d H M S = true
  · rw [if_pos hr, if_pos hr]
    have HS := Aside0.mk (sec_code hr)
    have HD := Aside0.mk (days_yes y m d (cright_iff.mp hr).1)
    rw [hr] at CR
    clear hr
    generalize csec y m d H M S = s at *
    generalize D y m d = X at *
    go_enter Tryd.func12, Tryd.ntmps12
    go_wp2_with (first
      | ((with_reducible refine gate_dst (N := 1) rfl ?_); refine box_event ?hg (N := 1) ?hd (cs := #[.int .i64 y, .int .i64 m, .int .i64 d, .int .i64 H, .int .i64 M, .int .i64 S]) (t := 23) ?hr ?_; (case hd => rfl); (case hg => rfl); (case hr => first | (go_simp; done) | (go_simp; rfl)); intro gh hg w1 hbox hb; have Bgh := Aside0.mk hbox; have GEgh := Aside0.mk (show w.heap.size ≤ gh by first | omega | (have h_ := below_size HB.out; omega)); clear hbox hg; have n0_ := Aside0.mk (below_step HB.out hb); clear HB; have HB := n0_; clear n0_ hb; have a0 : w1.cell? ⟨gh, 0, none⟩ = some (.int .i64 y) := (blk_cell Bgh.out 0).trans rfl; have a1 : w1.cell? ⟨gh, 1, none⟩ = some (.int .i64 m) := (blk_cell Bgh.out 1).trans rfl; have a2 : w1.cell? ⟨gh, 2, none⟩ = some (.int .i64 d) := (blk_cell Bgh.out 2).trans rfl; have a3 : w1.cell? ⟨gh, 3, none⟩ = some (.int .i64 H) := (blk_cell Bgh.out 3).trans rfl; have a4 : w1.cell? ⟨gh, 4, none⟩ = some (.int .i64 M) := (blk_cell Bgh.out 4).trans rfl; have a5 : w1.cell? ⟨gh, 5, none⟩ = some (.int .i64 S) := (blk_cell Bgh.out 5).trans rfl)
      | (go_at_call 14; (with_reducible refine (CR.out _ (hG.below HB.out)).mono ?_); rintro e w2 ⟨rfl, hb⟩; have n0_ := Aside0.mk (blk_below Bgh.out hb); have n1_ := Aside0.mk (below_step HB.out hb); clear Bgh HB; have Bgh := n0_; have HB := n1_; clear n0_ n1_ hb; have b0 : w2.cell? ⟨gh, 0, none⟩ = some (.int .i64 y) := (blk_cell Bgh.out 0).trans rfl; have b1 : w2.cell? ⟨gh, 1, none⟩ = some (.int .i64 m) := (blk_cell Bgh.out 1).trans rfl; have b2 : w2.cell? ⟨gh, 2, none⟩ = some (.int .i64 d) := (blk_cell Bgh.out 2).trans rfl; have b3 : w2.cell? ⟨gh, 3, none⟩ = some (.int .i64 H) := (blk_cell Bgh.out 3).trans rfl; have b4 : w2.cell? ⟨gh, 4, none⟩ = some (.int .i64 M) := (blk_cell Bgh.out 4).trans rfl; have b5 : w2.cell? ⟨gh, 5, none⟩ = some (.int .i64 S) := (blk_cell Bgh.out 5).trans rfl)
      | (go_at_call 23; (with_reducible refine (civil_Days.calls y m d X 0 _ HD.out (hG.below HB.out)).mono ?_); rintro e w3 ⟨rfl, hd⟩; have hb := hd.below; clear hd; have n0_ := Aside0.mk (blk_below Bgh.out hb); have n1_ := Aside0.mk (below_step HB.out hb); clear Bgh HB; have Bgh := n0_; have HB := n1_; clear n0_ n1_ hb; have c0 : w3.cell? ⟨gh, 0, none⟩ = some (.int .i64 y) := (blk_cell Bgh.out 0).trans rfl; have c1 : w3.cell? ⟨gh, 1, none⟩ = some (.int .i64 m) := (blk_cell Bgh.out 1).trans rfl; have c2 : w3.cell? ⟨gh, 2, none⟩ = some (.int .i64 d) := (blk_cell Bgh.out 2).trans rfl; have c3 : w3.cell? ⟨gh, 3, none⟩ = some (.int .i64 H) := (blk_cell Bgh.out 3).trans rfl; have c4 : w3.cell? ⟨gh, 4, none⟩ = some (.int .i64 M) := (blk_cell Bgh.out 4).trans rfl; have c5 : w3.cell? ⟨gh, 5, none⟩ = some (.int .i64 S) := (blk_cell Bgh.out 5).trans rfl))
    go_ret2
    exact ⟨by rw [← HS.out]; rfl, HB.out⟩
  · rw [if_neg hr, if_neg hr]
    rw [Bool.eq_false_iff.mpr hr] at CR
    clear hr
    go_enter Tryd.func12, Tryd.ntmps12
    go_wp2_with (first
      | ((with_reducible refine gate_dst (N := 1) rfl ?_); refine box_event ?hg (N := 1) ?hd (cs := #[.int .i64 y, .int .i64 m, .int .i64 d, .int .i64 H, .int .i64 M, .int .i64 S]) (t := 23) ?hr ?_; (case hd => rfl); (case hg => rfl); (case hr => first | (go_simp; done) | (go_simp; rfl)); intro gh hg w1 hbox hb; have Bgh := Aside0.mk hbox; have GEgh := Aside0.mk (show w.heap.size ≤ gh by first | omega | (have h_ := below_size HB.out; omega)); clear hbox hg; have n0_ := Aside0.mk (below_step HB.out hb); clear HB; have HB := n0_; clear n0_ hb; have a0 : w1.cell? ⟨gh, 0, none⟩ = some (.int .i64 y) := (blk_cell Bgh.out 0).trans rfl; have a1 : w1.cell? ⟨gh, 1, none⟩ = some (.int .i64 m) := (blk_cell Bgh.out 1).trans rfl; have a2 : w1.cell? ⟨gh, 2, none⟩ = some (.int .i64 d) := (blk_cell Bgh.out 2).trans rfl; have a3 : w1.cell? ⟨gh, 3, none⟩ = some (.int .i64 H) := (blk_cell Bgh.out 3).trans rfl; have a4 : w1.cell? ⟨gh, 4, none⟩ = some (.int .i64 M) := (blk_cell Bgh.out 4).trans rfl; have a5 : w1.cell? ⟨gh, 5, none⟩ = some (.int .i64 S) := (blk_cell Bgh.out 5).trans rfl)
      | (go_at_call 14; (with_reducible refine (CR.out _ (hG.below HB.out)).mono ?_); rintro e w2 ⟨rfl, hb⟩; have n0_ := Aside0.mk (blk_below Bgh.out hb); have n1_ := Aside0.mk (below_step HB.out hb); clear Bgh HB; have Bgh := n0_; have HB := n1_; clear n0_ n1_ hb; have b0 : w2.cell? ⟨gh, 0, none⟩ = some (.int .i64 y) := (blk_cell Bgh.out 0).trans rfl; have b1 : w2.cell? ⟨gh, 1, none⟩ = some (.int .i64 m) := (blk_cell Bgh.out 1).trans rfl; have b2 : w2.cell? ⟨gh, 2, none⟩ = some (.int .i64 d) := (blk_cell Bgh.out 2).trans rfl; have b3 : w2.cell? ⟨gh, 3, none⟩ = some (.int .i64 H) := (blk_cell Bgh.out 3).trans rfl; have b4 : w2.cell? ⟨gh, 4, none⟩ = some (.int .i64 M) := (blk_cell Bgh.out 4).trans rfl; have b5 : w2.cell? ⟨gh, 5, none⟩ = some (.int .i64 S) := (blk_cell Bgh.out 5).trans rfl))
    go_ret2
    exact ⟨rfl, HB.out⟩
end Go.Proofs.YtpmcmkobpjobbaaDoor.Hand
