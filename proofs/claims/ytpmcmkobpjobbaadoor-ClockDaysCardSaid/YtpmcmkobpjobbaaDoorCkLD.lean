/- The printed law holds: a day later the time of day is the same; its walk as the card takes it. -/
import Derived.Test.YtpmcmkobpjobbaaDoorPPDx
import Derived.Test.YtpmcmkobpjobbaaDoorCkS2
import Derived.Laws.Strings
import Derived.LaidMore
import Derived.SevenTiedAt
import Derived.Stop.Joined
import Derived.ChangeOld
import Derived.ProofKit
namespace Go.Proofs.YtpmcmkobpjobbaaDoor
open Go.RowKit Cv Stub Go.Proofs.YtpmcmkobpjobbaaDoorW.PrintWords Go.Proofs.YtpmcmkobpjobbaaDoorW.PrintLast Go.Proofs.YtpmcmkobpjobbaaDoorW.PrintMore

def hms (H M S : Int) : List UInt8 := [UInt8.ofNat (48 + H.toNat / 10), UInt8.ofNat (48 + H.toNat % 10), 58, UInt8.ofNat (48 + M.toNat / 10), UInt8.ofNat (48 + M.toNat % 10), 58, UInt8.ofNat (48 + S.toNat / 10), UInt8.ofNat (48 + S.toNat % 10)]
theorem tail_hms (m d H M S : Int) : tailL m d H M S = [45, UInt8.ofNat (48 + m.toNat / 10), UInt8.ofNat (48 + m.toNat % 10), 45, UInt8.ofNat (48 + d.toNat / 10), UInt8.ofNat (48 + d.toNat % 10), 32] ++ hms H M S := rfl
theorem last8 {y m d H M S : Int} (h : cright y m d H M S = true) :
    ((ByteArray.mk (textL y m d H M S).toArray).extract (wrap64 (((ByteArray.mk (textL y m d H M S).toArray).size : Int) - 8)).toNat (ByteArray.mk (textL y m d H M S).toArray).size).toList = hms H M S := by
  have hl := text_len h
  have e : textL y m d H M S = (sgn y ++ padN 4 y.natAbs ++ [45, UInt8.ofNat (48 + m.toNat / 10), UInt8.ofNat (48 + m.toNat % 10), 45, UInt8.ofNat (48 + d.toNat / 10), UInt8.ofNat (48 + d.toNat % 10), 32]) ++ hms H M S := by
    rw [text_tail h, tail_hms, List.append_assoc (sgn y ++ padN 4 y.natAbs)]
  generalize textL y m d H M S = L at *
  generalize (sgn y ++ padN 4 y.natAbs ++ [45, UInt8.ofNat (48 + m.toNat / 10), UInt8.ofNat (48 + m.toNat % 10), 45, UInt8.ofNat (48 + d.toNat / 10), UInt8.ofNat (48 + d.toNat % 10), 32]) = P at e
  have h8 : (hms H M S).length = 8 := rfl
  have hn : L.length = P.length + 8 := by rw [e, List.length_append, h8]
  rw [szl, w64 (by omega) (by omega)]
  have e2 : ((L.length : Int) - 8).toNat = P.length := by omega
  rw [e2]
  have e3 : (ByteArray.mk L.toArray).extract P.length L.length = ByteArray.mk (hms H M S).toArray := by
    apply ByteArray.ext
    rw [ByteArray.data_extract]
    apply Array.toList_inj.mp
    rw [Array.toList_extract]
    show (L.drop _).take _ = hms H M S
    rw [e, List.drop_left]
    exact List.take_of_length_le (by rw [h8, ← e, hn]; omega)
  rw [e3, ByteArray.toList_mk]
theorem days_f (a : Int) : PPD.longcaselaw03_ClockDays.f a = some true := by
  have hm := tdm a 60000000000000000 (by omega)
  obtain ⟨t, ht⟩ : ∃ t, t = Int.tmod a 60000000000000000 := ⟨_, rfl⟩
  have b1 : -60000000000000000 ≤ t := by omega
  have b2 : t ≤ 60000000000000000 := by omega
  have d1 : oB t = true := by unfold oB dateB; simp; omega
  have d2 : oB (t + 86400) = true := by unfold oB dateB; simp; omega
  have q : (t + 86400) % 86400 = t % 86400 := by omega
  have eH : oH (t + 86400) = oH t := by unfold oH; rw [q]
  have eM : oMi (t + 86400) = oMi t := by unfold oMi; rw [q]
  have eS : oS (t + 86400) = oS t := by unfold oS; rw [q]
  obtain ⟨r1, s1⟩ := of_right d1
  obtain ⟨r2, s2⟩ := of_right d2
  have hc := (cmp_lt6 r1 r2 (by omega)).1
  have hl1 := text_len r1
  have hl2 := text_len r2
  have l1 := last8 r1
  have l2 := last8 r2
  rw [eH, eM, eS] at l2
  unfold PPD.longcaselaw03_ClockDays.f
  rw [← ht, w64 (n := t + 86400) (by omega) (by omega), show Stub.longcaselaw03_shown.f = some true from rfl, of_is t (by omega) (by omega), of_is (t + 86400) (by omega) (by omega), if_pos d1, if_pos d2]
  simp only [Option.bind_some, if_true]
  rw [text_yes r1, text_yes r2]
  simp only [Option.bind_some]
  rw [eH, eM, eS] at *
  rw [l1, l2]
  rw [szl, szl, if_neg (by omega), if_neg (by omega), if_pos rfl, if_pos rfl, if_pos rfl, w64 (by omega) (by omega), w64 (by omega) (by omega), if_pos (by omega), if_pos (by omega), if_pos (by omega), if_pos (by omega), if_pos rfl, cmp_is, hc]
  rfl
end Go.Proofs.YtpmcmkobpjobbaaDoor
namespace Go.Proofs.YtpmcmkobpjobbaaDoor.Hand
open Go.RowKit Cv
set_option linter.unusedVariables false
theorem days_row (t : Int) (w : World) (w_t : (Lit.int .i64 t).wf = true) (hG : Glob w) :
    Calls Tryd.prog 7 #[.int .i64 t] w fun e w' => e = .returned (.bool true) ∧ Below w.heap.size w w' :=
  PPD.longcaselaw03_ClockDays.calls t true w (days_f t) rfl hG
end Go.Proofs.YtpmcmkobpjobbaaDoor.Hand
/- The tables as the program lays them. -/
namespace Go.Proofs.YtpmcmkobpjobbaaDoor.Hand
open Go Go.ChangeShapes Go.WideShapes Go.ChangeAt Go.RowKit
theorem door_met (os : Os) (args : Array Value) : laidMetH Tryd.prog laidL ((World.doorLaid Tryd.prog 400 os).forCall (fun _ _ => 0) ⟨#[], args, []⟩).memory :=
  laidMetH_of_parts3 (fuel := 8) (laidMet_of_run' 8 (by kernel_rfl) (by kernel_rfl)) (by kernel_rfl) (by kernel_rfl)
end Go.Proofs.YtpmcmkobpjobbaaDoor.Hand
