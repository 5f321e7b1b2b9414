/- The printed law holds: a text tells a civil time's numbers; its walk as the card takes it. -/
import Derived.Test.YtpmcmkobpjobbaaDoorPPXx
import Derived.Test.YtpmcmkobpjobbaaDoorCkS2
import Derived.Laws.Strings
import Derived.LaidMore
import Derived.SevenTiedAt
import Derived.Stop.Joined
import Derived.ChangeOld
import Derived.ProofKit
namespace Go.Proofs.YtpmcmkobpjobbaaDoor
open Go.RowKit Cv Stub Go.Proofs.YtpmcmkobpjobbaaDoorW.PrintWords Go.Proofs.YtpmcmkobpjobbaaDoorW.PrintLast Go.Proofs.YtpmcmkobpjobbaaDoorW.PrintMore

theorem ch (q : Nat) (h : q ≤ 9) : ((UInt8.ofNat (48 + q)).toNat : Int) = 48 + q := by
  rw [UInt8.toNat_ofNat']
  omega
theorem l1_go (k : Nat) (x3 : Bool) (s : ByteArray) (L Fr To : List Int) (i j q e : Int) (x0 x1 x2 x3' x4 x5 : Int) (hT : To.length = 6) (hL : L.length = 6) (hi : 0 ≤ i) (hi6 : i < 6) (hj : 0 ≤ j) (hto : rd To i = e) (hj2 : j < e) (hs : s.size = 19) (he : e ≤ 19) (hb : bt s j = 48 + q) (q0 : 0 ≤ q) (q9 : q ≤ 9) (v : Int) (hv : rd L i = v) (v0 : 0 ≤ v) (v9 : v ≤ 1000) :
    PPX.longcaselaw03_ClockTexts.l1 (k + 1) x3 s L Fr To i j x0 x1 x2 x3' x4 x5 = PPX.longcaselaw03_ClockTexts.l1 k x3 s (L.set i.toNat (10 * v + q)) Fr To i (j + 1) x0 x1 x2 x3' x4 x5 := by
  rw [PPX.longcaselaw03_ClockTexts.l1, if_pos hi, if_pos (by omega), hto, if_pos hj2, if_pos hj, if_pos (by omega), hb, if_neg (by omega), if_neg (by omega), if_pos (by omega), hv, w64 (n := 10 * v) (by omega) (by omega), w64 (n := j + 1) (by omega) (by omega)]
  have : (48 + q - 48) % 256 = q := by omega
  rw [this, w64 (by omega) (by omega)]
theorem l1_end (k : Nat) (x3 : Bool) (s : ByteArray) (L Fr To : List Int) (i j : Int) (x0 x1 x2 x3' x4 x5 : Int) (hT : To.length = 6) (hi : 0 ≤ i) (hi6 : i < 6) (hto : rd To i = j) :
    PPX.longcaselaw03_ClockTexts.l1 (k + 1) x3 s L Fr To i j x0 x1 x2 x3' x4 x5 = PPX.longcaselaw03_ClockTexts.l0 k x3 s L Fr To (i + 1) x0 x1 x2 x3' x4 x5 := by
  rw [PPX.longcaselaw03_ClockTexts.l1, if_pos hi, if_pos (by omega), hto, if_neg (by omega), w64 (n := i + 1) (by omega) (by omega)]
theorem l0_go (k : Nat) (x3 : Bool) (s : ByteArray) (L Fr To : List Int) (i j : Int) (x0 x1 x2 x3' x4 x5 : Int) (hF : Fr.length = 6) (hi : 0 ≤ i) (hi6 : i < 6) (hfr : rd Fr i = j) :
    PPX.longcaselaw03_ClockTexts.l0 (k + 1) x3 s L Fr To i x0 x1 x2 x3' x4 x5 = PPX.longcaselaw03_ClockTexts.l1 k x3 s L Fr To i j x0 x1 x2 x3' x4 x5 := by
  rw [PPX.longcaselaw03_ClockTexts.l0, if_pos hi6, if_pos hi, if_pos (by omega), hfr]
theorem run_f (k : Nat) (s : ByteArray) (hs : s.size = 19) (y m d H M S : Int) (q0 : Int) (h0 : bt s 0 = 48 + q0) (z0 : 0 ≤ q0) (n0 : q0 ≤ 9) (q1 : Int) (h1 : bt s 1 = 48 + q1) (z1 : 0 ≤ q1) (n1 : q1 ≤ 9) (q2 : Int) (h2 : bt s 2 = 48 + q2) (z2 : 0 ≤ q2) (n2 : q2 ≤ 9) (q3 : Int) (h3 : bt s 3 = 48 + q3) (z3 : 0 ≤ q3) (n3 : q3 ≤ 9) (q5 : Int) (h5 : bt s 5 = 48 + q5) (z5 : 0 ≤ q5) (n5 : q5 ≤ 9) (q6 : Int) (h6 : bt s 6 = 48 + q6) (z6 : 0 ≤ q6) (n6 : q6 ≤ 9) (q8 : Int) (h8 : bt s 8 = 48 + q8) (z8 : 0 ≤ q8) (n8 : q8 ≤ 9) (q9 : Int) (h9 : bt s 9 = 48 + q9) (z9 : 0 ≤ q9) (n9 : q9 ≤ 9) (q11 : Int) (h11 : bt s 11 = 48 + q11) (z11 : 0 ≤ q11) (n11 : q11 ≤ 9) (q12 : Int) (h12 : bt s 12 = 48 + q12) (z12 : 0 ≤ q12) (n12 : q12 ≤ 9) (q14 : Int) (h14 : bt s 14 = 48 + q14) (z14 : 0 ≤ q14) (n14 : q14 ≤ 9) (q15 : Int) (h15 : bt s 15 = 48 + q15) (z15 : 0 ≤ q15) (n15 : q15 ≤ 9) (q17 : Int) (h17 : bt s 17 = 48 + q17) (z17 : 0 ≤ q17) (n17 : q17 ≤ 9) (q18 : Int) (h18 : bt s 18 = 48 + q18) (z18 : 0 ≤ q18) (n18 : q18 ≤ 9) (e0 : (10 * (10 * (10 * (10 * 0 + q0) + q1) + q2) + q3) = y) (e1 : (10 * (10 * 0 + q5) + q6) = m) (e2 : (10 * (10 * 0 + q8) + q9) = d) (e3 : (10 * (10 * 0 + q11) + q12) = H) (e4 : (10 * (10 * 0 + q14) + q15) = M) (e5 : (10 * (10 * 0 + q17) + q18) = S) (c4 : bt s 4 = 45) (c7 : bt s 7 = 45) (c10 : bt s 10 = 32) (c13 : bt s 13 = 58) (c16 : bt s 16 = 58) :
    PPX.longcaselaw03_ClockTexts.l0 (k + 28) true s [0, 0, 0, 0, 0, 0] [0, 5, 8, 11, 14, 17] [4, 7, 10, 13, 16, 19] 0 y m d H M S = some true := by
  have t : ∀ (x0 x1 x2 x3 x4 x5 : Int), rd [x0, x1, x2, x3, x4, x5] 0 = x0 ∧ rd [x0, x1, x2, x3, x4, x5] 1 = x1 ∧ rd [x0, x1, x2, x3, x4, x5] 2 = x2 ∧ rd [x0, x1, x2, x3, x4, x5] 3 = x3 ∧ rd [x0, x1, x2, x3, x4, x5] 4 = x4 ∧ rd [x0, x1, x2, x3, x4, x5] 5 = x5 := fun _ _ _ _ _ _ => ⟨rfl, rfl, rfl, rfl, rfl, rfl⟩
  have s0 : PPX.longcaselaw03_ClockTexts.l0 (k + 28) true s [0, 0, 0, 0, 0, 0] [0, 5, 8, 11, 14, 17] [4, 7, 10, 13, 16, 19] 0 y m d H M S = PPX.longcaselaw03_ClockTexts.l1 (k + 27) true s [0, 0, 0, 0, 0, 0] [0, 5, 8, 11, 14, 17] [4, 7, 10, 13, 16, 19] 0 0 y m d H M S := l0_go _ _ _ _ _ _ _ _ _ _ _ _ _ _ rfl (by omega) (by omega) rfl
  rw [s0]
  clear s0
  have s : PPX.longcaselaw03_ClockTexts.l1 (k + 27) true s [0, 0, 0, 0, 0, 0] [0, 5, 8, 11, 14, 17] [4, 7, 10, 13, 16, 19] 0 0 y m d H M S = PPX.longcaselaw03_ClockTexts.l1 (k + 26) true s [(10 * 0 + q0), 0, 0, 0, 0, 0] [0, 5, 8, 11, 14, 17] [4, 7, 10, 13, 16, 19] 0 1 y m d H M S := l1_go _ _ _ _ _ _ _ _ q0 4 _ _ _ _ _ _ rfl rfl (by omega) (by omega) (by omega) rfl (by omega) hs (by omega) h0 z0 n0 0 rfl (by omega) (by omega)
  rw [s]
  clear s
  have s : PPX.longcaselaw03_ClockTexts.l1 (k + 26) true s [(10 * 0 + q0), 0, 0, 0, 0, 0] [0, 5, 8, 11, 14, 17] [4, 7, 10, 13, 16, 19] 0 1 y m d H M S = PPX.longcaselaw03_ClockTexts.l1 (k + 25) true s [(10 * (10 * 0 + q0) + q1), 0, 0, 0, 0, 0] [0, 5, 8, 11, 14, 17] [4, 7, 10, 13, 16, 19] 0 2 y m d H M S := l1_go _ _ _ _ _ _ _ _ q1 4 _ _ _ _ _ _ rfl rfl (by omega) (by omega) (by omega) rfl (by omega) hs (by omega) h1 z1 n1 (10 * 0 + q0) rfl (by omega) (by omega)
  rw [s]
  clear s
  have s : PPX.longcaselaw03_ClockTexts.l1 (k + 25) true s [(10 * (10 * 0 + q0) + q1), 0, 0, 0, 0, 0] [0, 5, 8, 11, 14, 17] [4, 7, 10, 13, 16, 19] 0 2 y m d H M S = PPX.longcaselaw03_ClockTexts.l1 (k + 24) true s [(10 * (10 * (10 * 0 + q0) + q1) + q2), 0, 0, 0, 0, 0] [0, 5, 8, 11, 14, 17] [4, 7, 10, 13, 16, 19] 0 3 y m d H M S := l1_go _ _ _ _ _ _ _ _ q2 4 _ _ _ _ _ _ rfl rfl (by omega) (by omega) (by omega) rfl (by omega) hs (by omega) h2 z2 n2 (10 * (10 * 0 + q0) + q1) rfl (by omega) (by omega)
  rw [s]
  clear s
  have s : PPX.longcaselaw03_ClockTexts.l1 (k + 24) true s [(10 * (10 * (10 * 0 + q0) + q1) + q2), 0, 0, 0, 0, 0] [0, 5, 8, 11, 14, 17] [4, 7, 10, 13, 16, 19] 0 3 y m d H M S = PPX.longcaselaw03_ClockTexts.l1 (k + 23) true s [(10 * (10 * (10 * (10 * 0 + q0) + q1) + q2) + q3), 0, 0, 0, 0, 0] [0, 5, 8, 11, 14, 17] [4, 7, 10, 13, 16, 19] 0 4 y m d H M S := l1_go _ _ _ _ _ _ _ _ q3 4 _ _ _ _ _ _ rfl rfl (by omega) (by omega) (by omega) rfl (by omega) hs (by omega) h3 z3 n3 (10 * (10 * (10 * 0 + q0) + q1) + q2) rfl (by omega) (by omega)
  rw [s]
  clear s
  have s : PPX.longcaselaw03_ClockTexts.l1 (k + 23) true s [(10 * (10 * (10 * (10 * 0 + q0) + q1) + q2) + q3), 0, 0, 0, 0, 0] [0, 5, 8, 11, 14, 17] [4, 7, 10, 13, 16, 19] 0 4 y m d H M S = PPX.longcaselaw03_ClockTexts.l0 (k + 22) true s [(10 * (10 * (10 * (10 * 0 + q0) + q1) + q2) + q3), 0, 0, 0, 0, 0] [0, 5, 8, 11, 14, 17] [4, 7, 10, 13, 16, 19] 1 y m d H M S := l1_end _ _ _ _ _ _ _ _ _ _ _ _ _ _ rfl (by omega) (by omega) rfl
  rw [s]
  clear s
  rw [e0]
  have s1 : PPX.longcaselaw03_ClockTexts.l0 (k + 22) true s [y, 0, 0, 0, 0, 0] [0, 5, 8, 11, 14, 17] [4, 7, 10, 13, 16, 19] 1 y m d H M S = PPX.longcaselaw03_ClockTexts.l1 (k + 21) true s [y, 0, 0, 0, 0, 0] [0, 5, 8, 11, 14, 17] [4, 7, 10, 13, 16, 19] 1 5 y m d H M S := l0_go _ _ _ _ _ _ _ _ _ _ _ _ _ _ rfl (by omega) (by omega) rfl
  rw [s1]
  clear s1
  have s : PPX.longcaselaw03_ClockTexts.l1 (k + 21) true s [y, 0, 0, 0, 0, 0] [0, 5, 8, 11, 14, 17] [4, 7, 10, 13, 16, 19] 1 5 y m d H M S = PPX.longcaselaw03_ClockTexts.l1 (k + 20) true s [y, (10 * 0 + q5), 0, 0, 0, 0] [0, 5, 8, 11, 14, 17] [4, 7, 10, 13, 16, 19] 1 6 y m d H M S := l1_go _ _ _ _ _ _ _ _ q5 7 _ _ _ _ _ _ rfl rfl (by omega) (by omega) (by omega) rfl (by omega) hs (by omega) h5 z5 n5 0 rfl (by omega) (by omega)
  rw [s]
  clear s
  have s : PPX.longcaselaw03_ClockTexts.l1 (k + 20) true s [y, (10 * 0 + q5), 0, 0, 0, 0] [0, 5, 8, 11, 14, 17] [4, 7, 10, 13, 16, 19] 1 6 y m d H M S = PPX.longcaselaw03_ClockTexts.l1 (k + 19) true s [y, (10 * (10 * 0 + q5) + q6), 0, 0, 0, 0] [0, 5, 8, 11, 14, 17] [4, 7, 10, 13, 16, 19] 1 7 y m d H M S := l1_go _ _ _ _ _ _ _ _ q6 7 _ _ _ _ _ _ rfl rfl (by omega) (by omega) (by omega) rfl (by omega) hs (by omega) h6 z6 n6 (10 * 0 + q5) rfl (by omega) (by omega)
  rw [s]
  clear s
  have s : PPX.longcaselaw03_ClockTexts.l1 (k + 19) true s [y, (10 * (10 * 0 + q5) + q6), 0, 0, 0, 0] [0, 5, 8, 11, 14, 17] [4, 7, 10, 13, 16, 19] 1 7 y m d H M S = PPX.longcaselaw03_ClockTexts.l0 (k + 18) true s [y, (10 * (10 * 0 + q5) + q6), 0, 0, 0, 0] [0, 5, 8, 11, 14, 17] [4, 7, 10, 13, 16, 19] 2 y m d H M S := l1_end _ _ _ _ _ _ _ _ _ _ _ _ _ _ rfl (by omega) (by omega) rfl
  rw [s]
  clear s
  rw [e1]
  have s2 : PPX.longcaselaw03_ClockTexts.l0 (k + 18) true s [y, m, 0, 0, 0, 0] [0, 5, 8, 11, 14, 17] [4, 7, 10, 13, 16, 19] 2 y m d H M S = PPX.longcaselaw03_ClockTexts.l1 (k + 17) true s [y, m, 0, 0, 0, 0] [0, 5, 8, 11, 14, 17] [4, 7, 10, 13, 16, 19] 2 8 y m d H M S := l0_go _ _ _ _ _ _ _ _ _ _ _ _ _ _ rfl (by omega) (by omega) rfl
  rw [s2]
  clear s2
  have s : PPX.longcaselaw03_ClockTexts.l1 (k + 17) true s [y, m, 0, 0, 0, 0] [0, 5, 8, 11, 14, 17] [4, 7, 10, 13, 16, 19] 2 8 y m d H M S = PPX.longcaselaw03_ClockTexts.l1 (k + 16) true s [y, m, (10 * 0 + q8), 0, 0, 0] [0, 5, 8, 11, 14, 17] [4, 7, 10, 13, 16, 19] 2 9 y m d H M S := l1_go _ _ _ _ _ _ _ _ q8 10 _ _ _ _ _ _ rfl rfl (by omega) (by omega) (by omega) rfl (by omega) hs (by omega) h8 z8 n8 0 rfl (by omega) (by omega)
  rw [s]
  clear s
  have s : PPX.longcaselaw03_ClockTexts.l1 (k + 16) true s [y, m, (10 * 0 + q8), 0, 0, 0] [0, 5, 8, 11, 14, 17] [4, 7, 10, 13, 16, 19] 2 9 y m d H M S = PPX.longcaselaw03_ClockTexts.l1 (k + 15) true s [y, m, (10 * (10 * 0 + q8) + q9), 0, 0, 0] [0, 5, 8, 11, 14, 17] [4, 7, 10, 13, 16, 19] 2 10 y m d H M S := l1_go _ _ _ _ _ _ _ _ q9 10 _ _ _ _ _ _ rfl rfl (by omega) (by omega) (by omega) rfl (by omega) hs (by omega) h9 z9 n9 (10 * 0 + q8) rfl (by omega) (by omega)
  rw [s]
  clear s
  have s : PPX.longcaselaw03_ClockTexts.l1 (k + 15) true s [y, m, (10 * (10 * 0 + q8) + q9), 0, 0, 0] [0, 5, 8, 11, 14, 17] [4, 7, 10, 13, 16, 19] 2 10 y m d H M S = PPX.longcaselaw03_ClockTexts.l0 (k + 14) true s [y, m, (10 * (10 * 0 + q8) + q9), 0, 0, 0] [0, 5, 8, 11, 14, 17] [4, 7, 10, 13, 16, 19] 3 y m d H M S := l1_end _ _ _ _ _ _ _ _ _ _ _ _ _ _ rfl (by omega) (by omega) rfl
  rw [s]
  clear s
  rw [e2]
  have s3 : PPX.longcaselaw03_ClockTexts.l0 (k + 14) true s [y, m, d, 0, 0, 0] [0, 5, 8, 11, 14, 17] [4, 7, 10, 13, 16, 19] 3 y m d H M S = PPX.longcaselaw03_ClockTexts.l1 (k + 13) true s [y, m, d, 0, 0, 0] [0, 5, 8, 11, 14, 17] [4, 7, 10, 13, 16, 19] 3 11 y m d H M S := l0_go _ _ _ _ _ _ _ _ _ _ _ _ _ _ rfl (by omega) (by omega) rfl
  rw [s3]
  clear s3
  have s : PPX.longcaselaw03_ClockTexts.l1 (k + 13) true s [y, m, d, 0, 0, 0] [0, 5, 8, 11, 14, 17] [4, 7, 10, 13, 16, 19] 3 11 y m d H M S = PPX.longcaselaw03_ClockTexts.l1 (k + 12) true s [y, m, d, (10 * 0 + q11), 0, 0] [0, 5, 8, 11, 14, 17] [4, 7, 10, 13, 16, 19] 3 12 y m d H M S := l1_go _ _ _ _ _ _ _ _ q11 13 _ _ _ _ _ _ rfl rfl (by omega) (by omega) (by omega) rfl (by omega) hs (by omega) h11 z11 n11 0 rfl (by omega) (by omega)
  rw [s]
  clear s
  have s : PPX.longcaselaw03_ClockTexts.l1 (k + 12) true s [y, m, d, (10 * 0 + q11), 0, 0] [0, 5, 8, 11, 14, 17] [4, 7, 10, 13, 16, 19] 3 12 y m d H M S = PPX.longcaselaw03_ClockTexts.l1 (k + 11) true s [y, m, d, (10 * (10 * 0 + q11) + q12), 0, 0] [0, 5, 8, 11, 14, 17] [4, 7, 10, 13, 16, 19] 3 13 y m d H M S := l1_go _ _ _ _ _ _ _ _ q12 13 _ _ _ _ _ _ rfl rfl (by omega) (by omega) (by omega) rfl (by omega) hs (by omega) h12 z12 n12 (10 * 0 + q11) rfl (by omega) (by omega)
  rw [s]
  clear s
  have s : PPX.longcaselaw03_ClockTexts.l1 (k + 11) true s [y, m, d, (10 * (10 * 0 + q11) + q12), 0, 0] [0, 5, 8, 11, 14, 17] [4, 7, 10, 13, 16, 19] 3 13 y m d H M S = PPX.longcaselaw03_ClockTexts.l0 (k + 10) true s [y, m, d, (10 * (10 * 0 + q11) + q12), 0, 0] [0, 5, 8, 11, 14, 17] [4, 7, 10, 13, 16, 19] 4 y m d H M S := l1_end _ _ _ _ _ _ _ _ _ _ _ _ _ _ rfl (by omega) (by omega) rfl
  rw [s]
  clear s
  rw [e3]
  have s4 : PPX.longcaselaw03_ClockTexts.l0 (k + 10) true s [y, m, d, H, 0, 0] [0, 5, 8, 11, 14, 17] [4, 7, 10, 13, 16, 19] 4 y m d H M S = PPX.longcaselaw03_ClockTexts.l1 (k + 9) true s [y, m, d, H, 0, 0] [0, 5, 8, 11, 14, 17] [4, 7, 10, 13, 16, 19] 4 14 y m d H M S := l0_go _ _ _ _ _ _ _ _ _ _ _ _ _ _ rfl (by omega) (by omega) rfl
  rw [s4]
  clear s4
  have s : PPX.longcaselaw03_ClockTexts.l1 (k + 9) true s [y, m, d, H, 0, 0] [0, 5, 8, 11, 14, 17] [4, 7, 10, 13, 16, 19] 4 14 y m d H M S = PPX.longcaselaw03_ClockTexts.l1 (k + 8) true s [y, m, d, H, (10 * 0 + q14), 0] [0, 5, 8, 11, 14, 17] [4, 7, 10, 13, 16, 19] 4 15 y m d H M S := l1_go _ _ _ _ _ _ _ _ q14 16 _ _ _ _ _ _ rfl rfl (by omega) (by omega) (by omega) rfl (by omega) hs (by omega) h14 z14 n14 0 rfl (by omega) (by omega)
  rw [s]
  clear s
  have s : PPX.longcaselaw03_ClockTexts.l1 (k + 8) true s [y, m, d, H, (10 * 0 + q14), 0] [0, 5, 8, 11, 14, 17] [4, 7, 10, 13, 16, 19] 4 15 y m d H M S = PPX.longcaselaw03_ClockTexts.l1 (k + 7) true s [y, m, d, H, (10 * (10 * 0 + q14) + q15), 0] [0, 5, 8, 11, 14, 17] [4, 7, 10, 13, 16, 19] 4 16 y m d H M S := l1_go _ _ _ _ _ _ _ _ q15 16 _ _ _ _ _ _ rfl rfl (by omega) (by omega) (by omega) rfl (by omega) hs (by omega) h15 z15 n15 (10 * 0 + q14) rfl (by omega) (by omega)
  rw [s]
  clear s
  have s : PPX.longcaselaw03_ClockTexts.l1 (k + 7) true s [y, m, d, H, (10 * (10 * 0 + q14) + q15), 0] [0, 5, 8, 11, 14, 17] [4, 7, 10, 13, 16, 19] 4 16 y m d H M S = PPX.longcaselaw03_ClockTexts.l0 (k + 6) true s [y, m, d, H, (10 * (10 * 0 + q14) + q15), 0] [0, 5, 8, 11, 14, 17] [4, 7, 10, 13, 16, 19] 5 y m d H M S := l1_end _ _ _ _ _ _ _ _ _ _ _ _ _ _ rfl (by omega) (by omega) rfl
  rw [s]
  clear s
  rw [e4]
  have s5 : PPX.longcaselaw03_ClockTexts.l0 (k + 6) true s [y, m, d, H, M, 0] [0, 5, 8, 11, 14, 17] [4, 7, 10, 13, 16, 19] 5 y m d H M S = PPX.longcaselaw03_ClockTexts.l1 (k + 5) true s [y, m, d, H, M, 0] [0, 5, 8, 11, 14, 17] [4, 7, 10, 13, 16, 19] 5 17 y m d H M S := l0_go _ _ _ _ _ _ _ _ _ _ _ _ _ _ rfl (by omega) (by omega) rfl
  rw [s5]
  clear s5
  have s : PPX.longcaselaw03_ClockTexts.l1 (k + 5) true s [y, m, d, H, M, 0] [0, 5, 8, 11, 14, 17] [4, 7, 10, 13, 16, 19] 5 17 y m d H M S = PPX.longcaselaw03_ClockTexts.l1 (k + 4) true s [y, m, d, H, M, (10 * 0 + q17)] [0, 5, 8, 11, 14, 17] [4, 7, 10, 13, 16, 19] 5 18 y m d H M S := l1_go _ _ _ _ _ _ _ _ q17 19 _ _ _ _ _ _ rfl rfl (by omega) (by omega) (by omega) rfl (by omega) hs (by omega) h17 z17 n17 0 rfl (by omega) (by omega)
  rw [s]
  clear s
  have s : PPX.longcaselaw03_ClockTexts.l1 (k + 4) true s [y, m, d, H, M, (10 * 0 + q17)] [0, 5, 8, 11, 14, 17] [4, 7, 10, 13, 16, 19] 5 18 y m d H M S = PPX.longcaselaw03_ClockTexts.l1 (k + 3) true s [y, m, d, H, M, (10 * (10 * 0 + q17) + q18)] [0, 5, 8, 11, 14, 17] [4, 7, 10, 13, 16, 19] 5 19 y m d H M S := l1_go _ _ _ _ _ _ _ _ q18 19 _ _ _ _ _ _ rfl rfl (by omega) (by omega) (by omega) rfl (by omega) hs (by omega) h18 z18 n18 (10 * 0 + q17) rfl (by omega) (by omega)
  rw [s]
  clear s
  have s : PPX.longcaselaw03_ClockTexts.l1 (k + 3) true s [y, m, d, H, M, (10 * (10 * 0 + q17) + q18)] [0, 5, 8, 11, 14, 17] [4, 7, 10, 13, 16, 19] 5 19 y m d H M S = PPX.longcaselaw03_ClockTexts.l0 (k + 2) true s [y, m, d, H, M, (10 * (10 * 0 + q17) + q18)] [0, 5, 8, 11, 14, 17] [4, 7, 10, 13, 16, 19] 6 y m d H M S := l1_end _ _ _ _ _ _ _ _ _ _ _ _ _ _ rfl (by omega) (by omega) rfl
  rw [s]
  clear s
  rw [e5]
  obtain ⟨r0, r1, r2, r3, r4, r5⟩ := t y m d H M S
  have l6 : ([y, m, d, H, M, S] : List Int).length = 6 := rfl
  rw [PPX.longcaselaw03_ClockTexts.l0, if_neg (by omega), if_pos rfl, l6, hs, r0, r1, r2, r3, r4, r5, c4, c7, c10, c13, c16]
  simp
theorem texts_j (k : Nat) {y m d H M S : Int} (h : cright y m d H M S = true) (y0 : 0 ≤ y) (y9 : y ≤ 9999) : PPX.longcaselaw03_ClockTexts.j0 (k + 29) true false y m d H M S = some true := by
  obtain ⟨hr, h1, h2, h3, h4, h5, h6⟩ := cright_iff.mp h
  obtain ⟨r1, r2, r3, r4, r5, r6⟩ := right_m hr
  have hl := len_pos y m r1 r2
  have e : textL y m d H M S = [UInt8.ofNat (48 + y.toNat / 1000), UInt8.ofNat (48 + y.toNat / 100 % 10), UInt8.ofNat (48 + y.toNat / 10 % 10), UInt8.ofNat (48 + y.toNat % 10)] ++ tailL m d H M S := by
    rw [text_tail h]
    unfold sgn
    rw [if_neg (by omega), pad4 y.natAbs (by omega)]
    have : y.natAbs = y.toNat := by omega
    rw [this]
    rfl
  rw [PPX.longcaselaw03_ClockTexts.j0, if_neg (by decide), text_yes h, e]
  simp only [Option.bind_some]
  have sz : (ByteArray.mk ([UInt8.ofNat (48 + y.toNat / 1000), UInt8.ofNat (48 + y.toNat / 100 % 10), UInt8.ofNat (48 + y.toNat / 10 % 10), UInt8.ofNat (48 + y.toNat % 10)] ++ tailL m d H M S).toArray).size = 19 := rfl
  rw [sz, if_pos (by decide)]
  exact run_f (k + 0) _ rfl y m d H M S
    ((y.toNat / 1000 : Nat) : Int) (ch _ (by omega)) (by omega) (by omega)
    ((y.toNat / 100 % 10 : Nat) : Int) (ch _ (by omega)) (by omega) (by omega)
    ((y.toNat / 10 % 10 : Nat) : Int) (ch _ (by omega)) (by omega) (by omega)
    ((y.toNat % 10 : Nat) : Int) (ch _ (by omega)) (by omega) (by omega)
    ((m.toNat / 10 : Nat) : Int) (ch _ (by omega)) (by omega) (by omega)
    ((m.toNat % 10 : Nat) : Int) (ch _ (by omega)) (by omega) (by omega)
    ((d.toNat / 10 : Nat) : Int) (ch _ (by omega)) (by omega) (by omega)
    ((d.toNat % 10 : Nat) : Int) (ch _ (by omega)) (by omega) (by omega)
    ((H.toNat / 10 : Nat) : Int) (ch _ (by omega)) (by omega) (by omega)
    ((H.toNat % 10 : Nat) : Int) (ch _ (by omega)) (by omega) (by omega)
    ((M.toNat / 10 : Nat) : Int) (ch _ (by omega)) (by omega) (by omega)
    ((M.toNat % 10 : Nat) : Int) (ch _ (by omega)) (by omega) (by omega)
    ((S.toNat / 10 : Nat) : Int) (ch _ (by omega)) (by omega) (by omega)
    ((S.toNat % 10 : Nat) : Int) (ch _ (by omega)) (by omega) (by omega)
    (by omega)
    (by omega)
    (by omega)
    (by omega)
    (by omega)
    (by omega)
    rfl rfl rfl rfl rfl
theorem texts_f (k : Nat) (y m d H M S : Int) : PPX.longcaselaw03_ClockTexts.f (k + 29) y m d H M S = some true := by
  have no : PPX.longcaselaw03_ClockTexts.j0 (k + 29) true true y m d H M S = some true := by
    rw [PPX.longcaselaw03_ClockTexts.j0, if_pos rfl]
  unfold PPX.longcaselaw03_ClockTexts.f
  rw [show Stub.longcaselaw03_shown.f = some true from rfl, right_is]
  simp only [Option.bind_some]
  by_cases h : cright y m d H M S = true
  · rw [if_pos h]
    by_cases a : y < 0
    · rw [if_pos a, no]
    · rw [if_neg a]
      by_cases b : y > 9999
      · rw [decide_eq_true b, no]
      · rw [decide_eq_false b]
        exact texts_j k h (by omega) (by omega)
  · rw [if_neg h, no]
end Go.Proofs.YtpmcmkobpjobbaaDoor
namespace Go.Proofs.YtpmcmkobpjobbaaDoor.Hand
open Go.RowKit Cv
set_option linter.unusedVariables false
theorem texts_row (y m d H M S : Int) (w : World) (w_y : (Lit.int .i64 y).wf = true) (w_m : (Lit.int .i64 m).wf = true) (w_d : (Lit.int .i64 d).wf = true) (w_H : (Lit.int .i64 H).wf = true) (w_M : (Lit.int .i64 M).wf = true) (w_S : (Lit.int .i64 S).wf = true) (hG : Glob w) :
    Calls Tryd.prog 8 #[.agg #[.int .i64 y, .int .i64 m, .int .i64 d, .int .i64 H, .int .i64 M, .int .i64 S]] w fun e w' => e = .returned (.bool true) ∧ Below w.heap.size w w' :=
  PPX.longcaselaw03_ClockTexts.calls 29 y m d H M S true w (texts_f 0 y m d H M S) rfl hG
end Go.Proofs.YtpmcmkobpjobbaaDoor.Hand
/- The tables as the program lays them. -/
namespace Go.Proofs.YtpmcmkobpjobbaaDoor.Hand
open Go Go.ChangeShapes Go.WideShapes Go.ChangeAt Go.RowKit
theorem door_met (os : Os) (args : Array Value) : laidMetH Tryd.prog laidL ((World.doorLaid Tryd.prog 400 os).forCall (fun _ _ => 0) ⟨#[], args, []⟩).memory :=
  laidMetH_of_parts3 (fuel := 8) (laidMet_of_run' 8 (by kernel_rfl) (by kernel_rfl)) (by kernel_rfl) (by kernel_rfl)
end Go.Proofs.YtpmcmkobpjobbaaDoor.Hand
