/- The walk of the octets statements' 'shown': what must be in any case. -/
import Derived.Test.YtgggjfclhjpboaaPOctAx
import Derived.Test.YtgggjfclhjpboaaClone
import Derived.Test.YtgggjfclhjpboaaName
import Derived.Test.YtgggjfclhjpboaaUint
import Derived.WalkKit
import Derived.WalkSpells
import Derived.Outline
import Derived.Lib.Hide
import Derived.Lib.SlBytesConst
namespace Go.Proofs.Ytgggjfclhjpboaa.Hand
open Go.RowKit Go.Proofs.YtgggjfclhjpboaaW.PrintWords Go.Proofs.YtgggjfclhjpboaaW.PrintLast Go.Proofs.YtgggjfclhjpboaaW.PrintMore Go.Proofs.Ytgggjfclhjpboaa.POctA
theorem C_of_block {W : World} {b : Nat} {C : Array Value} {e : TypeId} {fr : Nat × Nat} {xs : List Int} (h : W.heap[b]? = some (.cells C e fr)) (hc : C.toList = xs.map (Value.int .u8)) (hl : xs.length ≤ 9223372036854775807) :
    Kd.C (Kd.int .u8) W (some ⟨b, 0, none⟩) xs.length xs := by
  refine Kd.C_of_reads (enc := Value.int .u8) (d := (0 : Int)) (h1 := fun _ => rfl) ⟨rfl, hl, fun _ => ⟨_, rfl, fun j hj => ?_⟩⟩
  have hCj : C[j]? = some (.int .u8 (xs.getD j 0)) := by
    rw [← Array.getElem?_toList, hc, List.getElem?_map, List.getElem?_eq_getElem hj]
    simp [List.getD_eq_getElem?_getD, List.getElem?_eq_getElem hj]
  have ha : (⟨b, 0, none⟩ : Addr).add j = ⟨b, j, none⟩ := by unfold Addr.add; split <;> simp_all
  rw [ha]
  simp [World.cell?, h, hCj]
theorem heap_new (w : World) (o : Obj) : (w.alloc o).heap[w.heap.size]? = some o := by
  show (w.heap.push o)[w.heap.size]? = _
  simp
theorem C_last (W : World) (b : Nat) (hb : b = W.heap.size) (C : Array Value) (e : TypeId) (fr : Nat × Nat) (xs : List Int) (hc : C.toList = xs.map (Value.int .u8)) (hl : xs.length ≤ 9223372036854775807) :
    Kd.C (Kd.int .u8) (W.alloc (.cells C e fr)) (some ⟨b, 0, none⟩) xs.length xs := by
  subst hb
  exact C_of_block (heap_new _ _) hc hl
theorem conv_const (W : World) (b : Nat) (C : Array Value) (n c : Nat) (hb : W.heap.size = b) :
    (convert 22 22 (.slice (some ⟨b, 0, none⟩) n c)).run Try.prog (W.alloc (.cells C 5)) = .ok (.slice (some ⟨b, 0, none⟩) n c) (W.alloc (.cells C 5 (C.size, C.size + 1))) := by
  subst hb
  exact Lib.run_convert_bytes_const (P := Try.prog) W 22 5 C n c Try.underlying22 Try.underlying5
def longcaselaw04_shown.f : Option Bool := some true
set_option maxHeartbeats 8000000 in
set_option maxRecDepth 100000 in
theorem longcaselaw04_shown.calls (r : Bool) (w : World) (h : longcaselaw04_shown.f = some r) :
    Calls Try.prog 7 #[] w fun e w' => e = .returned (.bool r) ∧ Below w.heap.size w w' := by
  obtain rfl := Option.some.inj h
  clear h
  have kc := conv_const
  have i1 : octets_Int.f [255, 254] 0 2 = some (-2, true) := by decide +kernel
  have i2 : octets_Uint.f [1, 2, 3] 1 2 = some (515, true) := by decide +kernel
  have i3 : octets_Name.f [97, 98, 0, 99] 1 = some (⟨#[98]⟩, true) := by rfl
  have i4 : octets_Name.f [97, 98] 0 = some (ByteArray.empty, false) := by rfl
  have i5 : octets_Put.f 5 [] 2 258 = some [1, 2] := by decide +kernel
  have I1 := Lib.hid i1
  have I2 := Lib.hid i2
  have I3 := Lib.hid i3
  have I4 := Lib.hid i4
  have I5 := Lib.hid i5
  clear i1 i2 i3 i4 i5
  go_enter Try.func7, Try.ntmps7
  go_wp2_with fail
  refine (show Calls Try.prog 9 #[.slice (some ⟨w.heap.size, 0, none⟩) 2 2, .int .i64 0, .int .i64 2] _ _ from octets_Int.calls (some ⟨w.heap.size, 0, none⟩) 2 [255, 254] 0 2 _ _ _ (C_last _ _ rfl _ _ _ _ rfl (by decide)) (by decide) I1.out).mono ?_
  rintro e w1 ⟨rfl, ⟨n1, rfl⟩⟩
  go_wp2_with fail
  refine (show Calls Try.prog 11 #[.slice (some ⟨w.heap.size + 1, 0, none⟩) 3 3, .int .i64 1, .int .i64 2] _ _ from octets_Uint.calls (some ⟨w.heap.size + 1, 0, none⟩) 3 [1, 2, 3] 1 2 _ _ _ (C_last _ _ (by simp) _ _ _ _ rfl (by decide)) (by decide) I2.out).mono ?_
  rintro e w1 ⟨rfl, ⟨n2, rfl⟩⟩
  go_wp2_with fail
  refine (show Calls Try.prog 10 #[.slice (some ⟨w.heap.size + 1 + 1, 0, none⟩) 4 4, .int .i64 1] _ _ from octets_Name.calls (some ⟨w.heap.size + 1 + 1, 0, none⟩) 4 [97, 98, 0, 99] 1 _ _ _ (C_last _ _ (by simp) _ _ _ _ rfl (by decide)) (by decide) I3.out).mono ?_
  rintro e w3 ⟨rfl, hb3⟩
  have HB3 := Lib.hid (show Below w.heap.size w w3 from Below.trans (by repeat (first | exact Below.refl _ _ | apply pw_below_drewN | apply below_alloc)) (hb3.mono (by simp; omega)))
  clear hb3
  go_wp2_with fail
  refine (show Calls Try.prog 10 #[.slice (some ⟨w3.heap.size, 0, none⟩) 2 2, .int .i64 0] _ _ from octets_Name.calls (some ⟨w3.heap.size, 0, none⟩) 2 [97, 98] 0 _ _ _ (C_last _ _ (by simp) _ _ _ _ rfl (by decide)) (by decide) I4.out).mono ?_
  rintro e w4 ⟨rfl, hb4⟩
  have HB4 := Lib.hid (show Below w.heap.size w w4 from HB3.out.trans ((Below.trans (by repeat (first | exact Below.refl _ _ | apply pw_below_drewN | apply below_alloc)) (hb4.mono (by simp))).mono HB3.out.size))
  clear hb4 HB3
  go_wp2_with fail
  refine (show Calls Try.prog 8 #[.slice none 0 0, .int .i64 2, .int .u64 258] _ _ from octets_Put.calls 5 none 0 [] 2 258 _ _ (Kd.C_nil _ _) (by decide) I5.out).mono ?_
  rintro e w5 ⟨v5, rfl, hr5, hb5⟩
  have HB5 := Lib.hid (show Below w.heap.size w w5 from HB4.out.trans (hb5.mono HB4.out.size))
  clear hb5 HB4
  obtain ⟨A5, c5, rfl⟩ := Kd.R_slice hr5
  have hs : (convert 22 9 (.slice A5 2 c5)).run Try.prog w5 = _ := Kd.C_string Try.underlying22 Try.underlying5 Try.underlying9 (Kd.R_reads' hr5).2.2
  have hl : strOfNums [1, 2] = ⟨#[1, 2]⟩ := by decide +kernel
  rw [hl] at hs
  clear hr5 hl
  go_wp2
  go_ret
  exact ⟨rfl, HB5.out⟩
end Go.Proofs.Ytgggjfclhjpboaa.Hand
