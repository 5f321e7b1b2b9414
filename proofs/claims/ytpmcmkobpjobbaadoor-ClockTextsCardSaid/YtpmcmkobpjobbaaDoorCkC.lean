/- The walk of clock.Text, and Compare in closed form. -/
import Derived.Test.YtpmcmkobpjobbaaDoorCkB
namespace Go.Proofs.YtpmcmkobpjobbaaDoor.Hand
open Go.RowKit Go.Proofs.YtpmcmkobpjobbaaDoorW.PrintWords Go.Proofs.YtpmcmkobpjobbaaDoorW.PrintLast Go.Proofs.YtpmcmkobpjobbaaDoorW.PrintMore Go.Proofs.YtpmcmkobpjobbaaDoor.PPA Cv
set_option linter.unusedVariables false
set_option linter.unusedSimpArgs false
theorem bsz (a b : Nat) (h : a ≤ b) : ((b < a) = False) := eq_false (Nat.not_lt.2 h)
def signs : List ByteArray := [⟨#[45]⟩, ⟨#[45]⟩, ⟨#[32]⟩, ⟨#[58]⟩, ⟨#[58]⟩]
/-- The text behind k of the five numbers. -/
def part (y m d H M S : Int) : Nat → List UInt8
  | 0 => sgn y ++ padN 4 y.natAbs
  | k + 1 => part y m d H M S k ++ (((([45, 45, 32, 58, 58] : List UInt8).getD k 0) :: padN 2 (([m, d, H, M, S] : List Int).getD k 0).toNat))
theorem part_5 (y m d H M S : Int) : part y m d H M S 5 = textL y m d H M S := by
  simp [part, textL]
theorem part_len (y m d H M S : Int) (hy : y.natAbs ≤ 4000000000) (hx : ∀ k, k < 5 → (([m, d, H, M, S] : List Int).getD k 0).toNat ≤ 99) : ∀ k, k ≤ 5 → (part y m d H M S k).length ≤ 30 + 30 * k := by
  intro k
  induction k with
  | zero =>
    intro _
    have := pad_len 4 y.natAbs hy
    unfold part sgn
    split <;> simp <;> omega
  | succ k ih =>
    intro hk
    have := ih (by omega)
    have h2 := pad_len 2 (([m, d, H, M, S] : List Int).getD k 0).toNat (by have := hx k (by omega); omega)
    unfold part
    simp only [List.length_append, List.length_cons]
    omega
set_option maxHeartbeats 2000000 in
set_option maxRecDepth 100000 in
theorem clock_Text.calls (y m d H M S : Int) (w : World) (hG : Glob w) :
    Calls Tryd.prog 13 #[.agg #[.int .i64 y, .int .i64 m, .int .i64 d, .int .i64 H, .int .i64 M, .int .i64 S]] w fun e w' => e = .returned (.string ⟨(if cright y m d H M S = true then textL y m d H M S else []).toArray⟩) ∧ Below w.heap.size w w' := by
  have hu23 := Tryd.underlying23
  have HB := Aside0.mk (Below.refl w.heap.size w)
  have CR := Aside0.mk (fun W h => clock_Right.calls y m d H M S W h)
  by_cases hr : cright y m d H M S = true
  · rw [if_pos hr]
    obtain ⟨hrr, h1, h2, h3, h4, h5, h6⟩ := cright_iff.mp hr
    obtain ⟨r1, r2, r3, r4, r5, r6⟩ := right_m hrr
    have hl := len_pos y m r1 r2
    have hx : ∀ k, k < 5 → 0 ≤ (([m, d, H, M, S] : List Int).getD k 0) ∧ (([m, d, H, M, S] : List Int).getD k 0) ≤ 99 := by
      intro k hk
      obtain rfl | rfl | rfl | rfl | rfl : k = 0 ∨ k = 1 ∨ k = 2 ∨ k = 3 ∨ k = 4 := by omega
      all_goals simp
      all_goals omega
    have PL := Aside0.mk (part_len y m d H M S (by omega) (fun k hk => by have := hx k hk; omega))
    have HX := Aside0.mk hx
    have PC := Aside0.mk (show ∀ w, Glob w → Calls Tryd.prog 25 #[.int .i64 y, .int .i64 4] w fun e w' => e = .returned (.string ⟨(sgn y ++ padN 4 y.natAbs).toArray⟩) ∧ Below w.heap.size w w' from clock_padded.calls y 4 (by omega) (by omega) (by omega) (by omega))
    have P5 := Aside0.mk (part_5 y m d H M S)
    rw [hr] at CR
    have PP := Aside0.mk (show ∀ k, k < 5 → ∀ w, Glob w → Calls Tryd.prog 25 #[.int .i64 (([m, d, H, M, S] : List Int).getD k 0), .int .i64 2] w fun e w' => e = .returned (.string ⟨(padN 2 (([m, d, H, M, S] : List Int).getD k 0).toNat).toArray⟩) ∧ Below w.heap.size w w' from fun k hk w hG => by
      obtain ⟨a, b⟩ := hx k hk
      have := clock_padded.calls (([m, d, H, M, S] : List Int).getD k 0) 2 (by omega) (by omega) (by omega) (by omega) w hG
      have e : (([m, d, H, M, S] : List Int).getD k 0).natAbs = (([m, d, H, M, S] : List Int).getD k 0).toNat := by omega
      rw [e] at this
      have e2 : sgn (([m, d, H, M, S] : List Int).getD k 0) = [] := by unfold sgn; rw [if_neg (by omega)]
      rw [e2] at this
      exact this)
    clear hr hrr h1 h2 h3 h4 h5 h6 r1 r2 r3 r4 r5 r6 hl hx
    go_enter Tryd.func13, Tryd.ntmps13
    go_upto_region 4 with (first
      | ((with_reducible refine gate_dst (N := 1) rfl ?_); refine box_event ?hg (N := 1) ?hd (cs := #[.int .i64 y, .int .i64 m, .int .i64 d, .int .i64 H, .int .i64 M, .int .i64 S]) (t := 23) ?hr ?_; (case hd => rfl); (case hg => rfl); (case hr => first | (go_simp; done) | (go_simp; rfl)); intro gh hg w1 hbox hb; have Bgh := Aside0.mk hbox; have GEgh := Aside0.mk (show w.heap.size ≤ gh by first | omega | (have h_ := below_size HB.out; omega)); clear hbox hg; have n0_ := Aside0.mk (below_step HB.out hb); clear HB; have HB := n0_; clear n0_ hb; have a0 : w1.cell? ⟨gh, 0, none⟩ = some (.int .i64 y) := (blk_cell Bgh.out 0).trans rfl; have a1 : w1.cell? ⟨gh, 1, none⟩ = some (.int .i64 m) := (blk_cell Bgh.out 1).trans rfl; have a2 : w1.cell? ⟨gh, 2, none⟩ = some (.int .i64 d) := (blk_cell Bgh.out 2).trans rfl; have a3 : w1.cell? ⟨gh, 3, none⟩ = some (.int .i64 H) := (blk_cell Bgh.out 3).trans rfl; have a4 : w1.cell? ⟨gh, 4, none⟩ = some (.int .i64 M) := (blk_cell Bgh.out 4).trans rfl; have a5 : w1.cell? ⟨gh, 5, none⟩ = some (.int .i64 S) := (blk_cell Bgh.out 5).trans rfl)
      | (go_at_call 14; (with_reducible refine (CR.out _ (hG.below HB.out)).mono ?_); rintro e w2 ⟨rfl, hb⟩; have n0_ := Aside0.mk (blk_below Bgh.out hb); have n1_ := Aside0.mk (below_step HB.out hb); clear Bgh HB; have Bgh := n0_; have HB := n1_; clear n0_ n1_ hb; have b0 : w2.cell? ⟨gh, 0, none⟩ = some (.int .i64 y) := (blk_cell Bgh.out 0).trans rfl; have b1 : w2.cell? ⟨gh, 1, none⟩ = some (.int .i64 m) := (blk_cell Bgh.out 1).trans rfl; have b2 : w2.cell? ⟨gh, 2, none⟩ = some (.int .i64 d) := (blk_cell Bgh.out 2).trans rfl; have b3 : w2.cell? ⟨gh, 3, none⟩ = some (.int .i64 H) := (blk_cell Bgh.out 3).trans rfl; have b4 : w2.cell? ⟨gh, 4, none⟩ = some (.int .i64 M) := (blk_cell Bgh.out 4).trans rfl; have b5 : w2.cell? ⟨gh, 5, none⟩ = some (.int .i64 S) := (blk_cell Bgh.out 5).trans rfl)
      | (go_at_call 24; (with_reducible refine (PPA.clock_list.calls y m d H M S [y, m, d, H, M, S] _ rfl (hG.below HB.out)).mono ?_); rintro e w3 ⟨v3, rfl, ho, hb⟩; have n0_ := Aside0.mk (below_step HB.out hb); clear HB; have HB := n0_; clear n0_ hb; have HO := Aside0.mk ho; clear ho))
    obtain ⟨ga, ca, rfl⟩ : ∃ g c, v3 = .slice (some ⟨g, 0, none⟩) 6 c := Joins.ownsRow_form (Kd.own_of_R HO.out) (by decide)
    have hca : 6 ≤ ca := (Kd.R_reads' HO.out).2.1
    have HL := Aside0.mk (show Kd.C (Kd.int .i64) w3 (some ⟨ga, 0, none⟩) 6 [y, m, d, H, M, S] from (Kd.R_reads' HO.out).2.2)
    have c0 : w3.cell? ⟨ga, 0, none⟩ = some (.int .i64 y) := (Kd.R_cell 0 HO.out (0 : Int) (by omega) (by simp)).1
    clear a0 a1 a2 a3 a4 a5 b0 b1 b2 b3 b4 b5 HO Bgh GEgh
    go_upto_region 5 with (go_at_call 25; (with_reducible refine (PC.out _ (hG.below HB.out)).mono ?_); rintro e w4 ⟨rfl, hb⟩; have n0_ := Aside0.mk (Kd.C_below HL.out hb); have n1_ := Aside0.mk (below_step HB.out hb); clear HL HB; have HL := n0_; have HB := n1_; clear n0_ n1_ hb)
    go_wp2_with (
      ((with_reducible refine gate_dst (N := 16) rfl ?_); refine Kd.R_lit Kd.string w4.heap.size 9 ?hg (N := 16) ?hd (xs := ([⟨#[45]⟩, ⟨#[45]⟩, ⟨#[32]⟩, ⟨#[58]⟩, ⟨#[58]⟩] : List ByteArray)) (inner := [.string ⟨#[45]⟩, .string ⟨#[45]⟩, .string ⟨#[32]⟩, .string ⟨#[58]⟩, .string ⟨#[58]⟩]) (ok := fun _ => True) (okp := fun _ => True) ?hr ?hp (fun _ hk => hk) trivial (Below.refl _ _) (Nat.le_refl _) (by simp) ?_; (case hd => rfl); (case hg => rfl); (case hr => first | (go_simp; done) | (go_simp; rfl)); (case hp => exact (Reps.one (show Kd.M Kd.string _ _ _ (⟨#[45]⟩ : ByteArray) [.string ⟨#[45]⟩] from rfl) (Reps.one (show Kd.M Kd.string _ _ _ (⟨#[45]⟩ : ByteArray) [.string ⟨#[45]⟩] from rfl) (Reps.one (show Kd.M Kd.string _ _ _ (⟨#[32]⟩ : ByteArray) [.string ⟨#[32]⟩] from rfl) (Reps.one (show Kd.M Kd.string _ _ _ (⟨#[58]⟩ : ByteArray) [.string ⟨#[58]⟩] from rfl) (Reps.one (show Kd.M Kd.string _ _ _ (⟨#[58]⟩ : ByteArray) [.string ⟨#[58]⟩] from rfl) (Reps.none _ _))))))); intro v16 w5 ho hb hg_ hnew_; clear hg_ hnew_; have HX1 := Aside0.mk ho; clear ho; have n0_ := Aside0.mk (Kd.C_below HL.out hb); have n1_ := Aside0.mk (below_step HB.out hb); clear HL HB; have HL := n0_; have HB := n1_; clear n0_ n1_ hb; obtain ⟨gs, cs, rfl⟩ : ∃ g c, v16 = .slice (some ⟨g, 0, none⟩) 5 c := Joins.ownsRow_form (Kd.own_of_R HX1.out) (by decide); have hcs : 5 ≤ cs := (Kd.R_reads' HX1.out).2.1; have HS := Aside0.mk (show Kd.C Kd.string w5 (some ⟨gs, 0, none⟩) 5 signs from (Kd.R_reads' HX1.out).2.2); clear HX1))
    go_loopg [4, 18] 5 (fun kq v4 v18 w' => ∃ i : Nat, i ≤ 5 ∧ kq = 5 - i ∧ v18 = .int .i64 (i : Int) ∧ v4 = .string ⟨(part y m d H M S i).toArray⟩ ∧ Aside0 (Kd.C (Kd.int .i64) w' (some ⟨ga, 0, none⟩) 6 [y, m, d, H, M, S]) ∧ Aside0 (Kd.C Kd.string w' (some ⟨gs, 0, none⟩) 5 signs) ∧ Aside0 (Below w.heap.size w w'))
    case atStart => exact ⟨0, by omega, rfl, rfl, rfl, HL, HS, HB⟩
    case round =>
      clear HL HS HB
      obtain ⟨i, hi, hgk, rfl, rfl, HL, HS, HB⟩ := hrel
      rename_i wl _
      by_cases hlt : i < 5
      · have i5 : decide ((i : Int) < 5) = true := decide_eq_true (by omega)
        obtain ⟨ad, eA, hmx⟩ := Kd.at_int HL.out ((i + 1 : Nat) : Int) (by omega) (by omega)
        cases eA
        rw [Int.toNat_natCast] at hmx
        have e1 : (⟨ga, 0, none⟩ : Addr).add (i + 1) = ⟨ga, i + 1, none⟩ := by unfold Addr.add; split <;> simp_all
        rw [e1] at hmx
        obtain ⟨ad, eA, hms⟩ := Kd.at_string HS.out (i : Int) (by omega) (by omega)
        cases eA
        rw [Int.toNat_natCast] at hms
        have e2 : (⟨gs, 0, none⟩ : Addr).add i = ⟨gs, i, none⟩ := by unfold Addr.add; split <;> simp_all
        rw [e2] at hms
        have hv : rd [y, m, d, H, M, S] ((i + 1 : Nat) : Int) = ([m, d, H, M, S] : List Int).getD i 0 := by
          obtain rfl | rfl | rfl | rfl | rfl : i = 0 ∨ i = 1 ∨ i = 2 ∨ i = 3 ∨ i = 4 := by omega
          all_goals rfl
        have hsg : rdOf ByteArray.empty signs (i : Int) = ⟨[([45, 45, 32, 58, 58] : List UInt8).getD i 0].toArray⟩ := by
          obtain rfl | rfl | rfl | rfl | rfl : i = 0 ∨ i = 1 ∨ i = 2 ∨ i = 3 ∨ i = 4 := by omega
          all_goals rfl
        rw [hv] at hmx
        rw [hsg] at hms
        have PPi := Aside0.mk (PP.out i hlt)
        have HLEN := PL.out i hi
        have hx := HX.out i hlt
        have HP2 := (pad_len 2 (([m, d, H, M, S] : List Int).getD i 0).toNat (by omega)).2
        have HPS : part y m d H M S (i + 1) = part y m d H M S i ++ (((([45, 45, 32, 58, 58] : List UInt8).getD i 0) :: padN 2 (([m, d, H, M, S] : List Int).getD i 0).toNat)) := rfl
        have HPN := Aside0.mk HPS
        clear hv hsg e1 e2 HPS
        generalize ([m, d, H, M, S] : List Int).getD i 0 = V at *
        generalize ([45, 45, 32, 58, 58] : List UInt8).getD i 0 = C at *
        generalize padN 2 V.toNat = PV at *
        generalize part y m d H M S i = P0 at *
        have z1 := szl P0
        have z2 := szl PV
        have z3 := szl [C]
        obtain ⟨B0, hB0⟩ : ∃ x, x = ByteArray.mk P0.toArray := ⟨_, rfl⟩
        obtain ⟨B1, hB1⟩ : ∃ x, x = ByteArray.mk [C].toArray := ⟨_, rfl⟩
        obtain ⟨B2, hB2⟩ : ∃ x, x = ByteArray.mk PV.toArray := ⟨_, rfl⟩
        rw [← hB0] at z1
        rw [← hB1] at z3 hms
        rw [← hB2] at z2 PPi
        rw [← hB0]
        rw [List.length_singleton] at z3
        have k1 := bsz (B1.size + B2.size) 9223372036854775807 (by omega)
        have k2 := bsz (B0.size + (B1.size + B2.size)) 9223372036854775807 (by omega)
        have EQ0 := Aside0.mk hB0
        have EQ1 := Aside0.mk hB1
        have EQ2 := Aside0.mk hB2
        have b20 : (1 : Int) + (i : Int) = ((i + 1 : Nat) : Int) := by omega
        clear hB0 hB1 hB2 z1 z2 z3 HLEN HP2 hx
        go_wp2_with (go_at_call 25; (with_reducible refine (PPi.out _ (hG.below HB.out)).mono ?_); rintro e w7 ⟨rfl, hb⟩; have n3_ := Aside0.mk (Kd.C_below HS.out hb); clear HS; have HS := n3_; have n0_ := Aside0.mk (Kd.C_below HL.out hb); have n1_ := Aside0.mk (below_step HB.out hb); clear HL HB; have HL := n0_; have HB := n1_; clear n0_ n1_ hb)
        go_roundg (4 - i)
        case measure => omega
        case rel => exact ⟨i + 1, by omega, by omega, by go_num, by rw [HPN.out, EQ0.out, EQ1.out, EQ2.out, ByteArray.mk_append_mk, ByteArray.mk_append_mk]; rfl, HL, HS, HB⟩
      · obtain rfl : i = 5 := by omega
        go_wp2
        go_ret
        exact ⟨by rw [← P5.out]; rfl, HB.out⟩
  · rw [if_neg hr]
    rw [Bool.eq_false_iff.mpr hr] at CR
    clear hr
    go_enter Tryd.func13, Tryd.ntmps13
    go_wp2_with (first
      | ((with_reducible refine gate_dst (N := 1) rfl ?_); refine box_event ?hg (N := 1) ?hd (cs := #[.int .i64 y, .int .i64 m, .int .i64 d, .int .i64 H, .int .i64 M, .int .i64 S]) (t := 23) ?hr ?_; (case hd => rfl); (case hg => rfl); (case hr => first | (go_simp; done) | (go_simp; rfl)); intro gh hg w1 hbox hb; have Bgh := Aside0.mk hbox; have GEgh := Aside0.mk (show w.heap.size ≤ gh by first | omega | (have h_ := below_size HB.out; omega)); clear hbox hg; have n0_ := Aside0.mk (below_step HB.out hb); clear HB; have HB := n0_; clear n0_ hb; have a0 : w1.cell? ⟨gh, 0, none⟩ = some (.int .i64 y) := (blk_cell Bgh.out 0).trans rfl; have a1 : w1.cell? ⟨gh, 1, none⟩ = some (.int .i64 m) := (blk_cell Bgh.out 1).trans rfl; have a2 : w1.cell? ⟨gh, 2, none⟩ = some (.int .i64 d) := (blk_cell Bgh.out 2).trans rfl; have a3 : w1.cell? ⟨gh, 3, none⟩ = some (.int .i64 H) := (blk_cell Bgh.out 3).trans rfl; have a4 : w1.cell? ⟨gh, 4, none⟩ = some (.int .i64 M) := (blk_cell Bgh.out 4).trans rfl; have a5 : w1.cell? ⟨gh, 5, none⟩ = some (.int .i64 S) := (blk_cell Bgh.out 5).trans rfl)
      | (go_at_call 14; (with_reducible refine (CR.out _ (hG.below HB.out)).mono ?_); rintro e w2 ⟨rfl, hb⟩; have n0_ := Aside0.mk (blk_below Bgh.out hb); have n1_ := Aside0.mk (below_step HB.out hb); clear Bgh HB; have Bgh := n0_; have HB := n1_; clear n0_ n1_ hb; have b0 : w2.cell? ⟨gh, 0, none⟩ = some (.int .i64 y) := (blk_cell Bgh.out 0).trans rfl; have b1 : w2.cell? ⟨gh, 1, none⟩ = some (.int .i64 m) := (blk_cell Bgh.out 1).trans rfl; have b2 : w2.cell? ⟨gh, 2, none⟩ = some (.int .i64 d) := (blk_cell Bgh.out 2).trans rfl; have b3 : w2.cell? ⟨gh, 3, none⟩ = some (.int .i64 H) := (blk_cell Bgh.out 3).trans rfl; have b4 : w2.cell? ⟨gh, 4, none⟩ = some (.int .i64 M) := (blk_cell Bgh.out 4).trans rfl; have b5 : w2.cell? ⟨gh, 5, none⟩ = some (.int .i64 S) := (blk_cell Bgh.out 5).trans rfl))
    go_ret
    exact ⟨rfl, HB.out⟩
end Go.Proofs.YtpmcmkobpjobbaaDoor.Hand
