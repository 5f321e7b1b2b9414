/- The walk of octets.Name: the bytes up to the next nought, as a string. -/
import Derived.Test.YtgggjfclhjpboaaProg
import Derived.WalkKit
import Derived.WalkSpells
import Derived.BigQuiet
import Derived.Deep.QuietTactic
import Derived.Deep.RegionWith
import Derived.Below
import Derived.Outline
import Derived.Lib.Hide
import Derived.Lib.BytesEntry
import Derived.Laws.Slices
import Derived.Test.YtgggjfclhjpboaaWWords
import Derived.Test.YtgggjfclhjpboaaWLast
import Derived.Test.YtgggjfclhjpboaaWMore
namespace Go.Proofs.Ytgggjfclhjpboaa.Hand
open Go.RowKit Go.Proofs.YtgggjfclhjpboaaW.PrintWords Go.Proofs.YtgggjfclhjpboaaW.PrintLast Go.Proofs.YtgggjfclhjpboaaW.PrintMore
/-- the entry without a body, at a row that is read -/
theorem run_ib {P : Program} (w : World) (A : Option Addr) (n c : Nat) (xs : List Int) (h : ReadsInt w .u8 A n xs) (cv : Int) :
    (Extern.BytealgIndexByte.indexByte #[.slice A n c, .int .u8 cv]).run P w = .ok (.int .i64 (Lib.indexByte (Lib.bytesOf xs) cv.toNat.toUInt8)) w := by
  have hn : xs.length = n := h.1
  have hs := Lib.run_indexByteString (P := P) ⟨(Lib.bytesOf xs).toArray⟩ cv w
  change Sem.run P (do
    let b ← Extern.Bytes.bytesOf (.string ⟨(Lib.bytesOf xs).toArray⟩)
    let c ← Extern.Bytes.asByte (.int .u8 cv)
    match (List.range b.size).find? fun i => b[i]! == c with
    | some i => pure (goInt i)
    | none => pure (goInt (-1))) w = _ at hs
  change Sem.run P (do
    let b ← Extern.Bytes.bytesOf (.slice A n c)
    let c ← Extern.Bytes.asByte (.int .u8 cv)
    match (List.range b.size).find? fun i => b[i]! == c with
    | some i => pure (goInt i)
    | none => pure (goInt (-1))) w = _
  have hl : (Extern.Bytes.bytesOf (.slice A n c)).run P w = .ok ⟨(Lib.bytesOf xs).toArray⟩ w := by
    cases A with
    | none =>
      have h0 : n = 0 := by
        rcases Nat.eq_zero_or_pos n with h0 | h0
        · exact h0
        · obtain ⟨ad, h', _⟩ := h.2.2 h0
          cases h'
      subst h0
      obtain rfl : xs = [] := List.eq_nil_of_length_eq_zero hn
      rfl
    | some ad =>
      have hl := Lib.run_loadBytesX (P := P) w xs ad .empty (fun j x hj => by
        have hjl : j < xs.length := (List.getElem?_eq_some_iff.1 hj).1
        obtain ⟨ad', he', hc⟩ := h.2.2 (by omega)
        injection he' with he'
        subst he'
        rw [hc j (by omega), List.getD_eq_getElem?_getD, hj]
        rfl)
      have he : (⟨ByteArray.empty.data ++ (Lib.bytesOf xs).toArray⟩ : ByteArray) = ⟨(Lib.bytesOf xs).toArray⟩ := by
        apply ByteArray.ext
        show (#[] : Array UInt8) ++ (Lib.bytesOf xs).toArray = (Lib.bytesOf xs).toArray
        simp
      rw [he, hn] at hl
      simpa only [Extern.Bytes.bytesOf] using hl
  simp only [Extern.Bytes.bytesOf, Sem.run_bind, Sem.run_pure, Result.andThen] at hs
  simp only [Sem.run_bind, hl, Result.andThen]
  exact hs
def bytes_IndexByte.f (l0 : List Int) (a1 : Int) : Option Int := some (Lib.indexByte (Lib.bytesOf l0) a1.toNat.toUInt8)
set_option maxHeartbeats 2000000 in
set_option maxRecDepth 100000 in
theorem bytes_IndexByte.calls (A0 : Option Addr) (c0 : Nat) (l0 : List Int) (a1 : Int) (r : Int) (w : World) (hr0 : Kd.C (Kd.int .u8) w A0 l0.length l0) (_hc0 : l0.length ≤ c0) (h : bytes_IndexByte.f l0 a1 = some r) :
    Calls Try.prog 15 #[.slice A0 l0.length c0, .int .u8 a1] w fun e w' => e = .returned (.int .i64 r) ∧ Drawn0 w w' := by
  obtain rfl := Option.some.inj h
  have hR : ReadsInt w .u8 A0 l0.length l0 := Kd.reads_of_C (d := (0 : Int)) hr0
  have H := Lib.hid hR
  clear hR h hr0
  go_enter Try.func15, Try.ntmps15
  go_wp2
  rw [run_callFunc_extern Try.func20 (by kernel_rfl) (by kernel_rfl) (by kernel_rfl) (e := Extern.BytealgIndexByte.indexByte) (by kernel_rfl), run_ib w A0 _ c0 l0 H.out a1]
  simp only [Result.andThen]
  rw [Oper.upon_value]
  go_wp2
  go_ret
  exact ⟨rfl, Drawn0.refl _⟩
set_option maxHeartbeats 2000000 in
set_option maxRecDepth 100000 in
theorem index_one (A0 : Option Addr) (c0 : Nat) (l0 : List Int) (g c1 : Nat) (w : World) (hr0 : Kd.C (Kd.int .u8) w A0 l0.length l0) (hc0 : l0.length ≤ c0) (h1 : w.cell? ⟨g, 0, none⟩ = some (.int .u8 0)) :
    Calls Try.prog 14 #[.slice A0 l0.length c0, .slice (some ⟨g, 0, none⟩) 1 c1] w fun e w' => e = .returned (.int .i64 (Lib.indexByte (Lib.bytesOf l0) 0)) ∧ Drawn0 w w' := by
  have H := Lib.hid hr0
  have HC := Lib.hid hc0
  clear hr0 hc0
  go_enter Try.func14, Try.ntmps14
  go_wp2_with (go_at_call 15; (with_reducible refine (bytes_IndexByte.calls A0 c0 l0 0 _ _ H.out HC.out rfl).mono ?_); rintro e w' ⟨rfl, ⟨nd, rfl⟩⟩)
  go_ret
  exact ⟨rfl, ⟨_, rfl⟩⟩
theorem ib_bd (l : List UInt8) (c : UInt8) : -1 ≤ Lib.indexByte l c ∧ (Lib.indexByte l c < l.length) := by
  induction l with
  | nil => simp [Lib.indexByte]
  | cons a l ih =>
    simp only [Lib.indexByte, List.length_cons]
    split
    · omega
    · split
      · omega
      · omega
theorem bytesOf_len (xs : List Int) : (Lib.bytesOf xs).length = xs.length := by simp [Lib.bytesOf]
set_option maxHeartbeats 2000000 in
set_option maxRecDepth 100000 in
theorem cut_no (A0 : Option Addr) (m c0 : Nat) (l0 : List Int) (g c1 : Nat) (w : World) (hr0 : Kd.C (Kd.int .u8) w A0 m l0) (hc0 : m ≤ c0) (h1 : w.cell? ⟨g, 0, none⟩ = some (.int .u8 0)) (hi : Lib.indexByte (Lib.bytesOf l0) 0 < 0) :
    Calls Try.prog 13 #[.slice A0 m c0, .slice (some ⟨g, 0, none⟩) 1 c1] w fun e w' => e = .returned (.tuple #[.slice A0 m c0, .slice none 0 0, .bool false]) ∧ Drawn0 w w' := by
  obtain rfl := Kd.C_len hr0
  have H := Lib.hid hr0
  have HC := Lib.hid hc0
  have H1 := Lib.hid h1
  clear hr0 hc0 h1
  generalize hI : Lib.indexByte (Lib.bytesOf l0) 0 = I at hi
  have HI := Lib.hid hI
  clear hI
  go_enter Try.func13, Try.ntmps13
  go_wp2_with (go_at_call 14; (with_reducible refine (index_one A0 c0 l0 g c1 _ H.out HC.out H1.out).mono ?_); rintro e w' ⟨rfl, ⟨nd, rfl⟩⟩; rw [HI.out])
  go_ret3
  exact ⟨rfl, ⟨_, rfl⟩⟩
set_option maxHeartbeats 2000000 in
set_option maxRecDepth 100000 in
theorem cut_yes (A0 : Option Addr) (m c0 : Nat) (l0 : List Int) (g c1 : Nat) (w : World) (hr0 : Kd.C (Kd.int .u8) w A0 m l0) (hc0 : m ≤ c0) (h1 : w.cell? ⟨g, 0, none⟩ = some (.int .u8 0)) (hi : 0 ≤ Lib.indexByte (Lib.bytesOf l0) 0) :
    Calls Try.prog 13 #[.slice A0 m c0, .slice (some ⟨g, 0, none⟩) 1 c1] w fun e w' => (∃ v2, e = .returned (.tuple #[.slice A0 (Lib.indexByte (Lib.bytesOf l0) 0).toNat c0, v2, .bool true])) ∧ Drawn0 w w' := by
  obtain rfl := Kd.C_len hr0
  have hb := ib_bd (Lib.bytesOf l0) 0
  have hmx := Kd.C_max hr0
  rw [bytesOf_len] at hb
  have H := Lib.hid hr0
  have HC := Lib.hid hc0
  have H1 := Lib.hid h1
  clear hr0 h1
  generalize hI : Lib.indexByte (Lib.bytesOf l0) 0 = I at *
  have HI := Lib.hid hI
  clear hI
  have b1 : I + 1 ≤ l0.length := by omega
  have b2 : (I + 1).toNat ≤ l0.length := by omega
  go_enter Try.func13, Try.ntmps13
  go_wp2_with (go_at_call 14; (with_reducible refine (index_one A0 c0 l0 g c1 _ H.out HC.out H1.out).mono ?_); rintro e w' ⟨rfl, ⟨nd, rfl⟩⟩; rw [HI.out])
  go_quiet (fail)
  all_goals go_wp2
  all_goals go_ret3
  all_goals exact ⟨⟨_, rfl⟩, ⟨_, by first | rfl | exact World.drewN_drewN _ _ _⟩⟩
def octets_Name.f (l0 : List Int) (a1 : Int) : Option (ByteArray × Bool) :=
  if a1 < 0 then some (ByteArray.empty, false) else if a1 > l0.length then some (ByteArray.empty, false) else
    if Lib.indexByte (Lib.bytesOf (l0.drop a1.toNat)) 0 < 0 then some (ByteArray.empty, false) else some (strOfNums ((l0.drop a1.toNat).take (Lib.indexByte (Lib.bytesOf (l0.drop a1.toNat)) 0).toNat), true)
set_option maxHeartbeats 2000000 in
set_option maxRecDepth 100000 in
theorem octets_Name.calls (A0 : Option Addr) (c0 : Nat) (l0 : List Int) (a1 : Int) (r1 : ByteArray) (r2 : Bool) (w : World) (hr0 : Kd.C (Kd.int .u8) w A0 l0.length l0) (hc0 : l0.length ≤ c0) (h : octets_Name.f l0 a1 = some (r1, r2)) :
    Calls Try.prog 10 #[.slice A0 l0.length c0, .int .i64 a1] w fun e w' => e = .returned (.tuple #[.string r1, .bool r2]) ∧ Below w.heap.size w w' := by
  unfold octets_Name.f at h
  by_cases h1 : a1 < 0
  · rw [if_pos h1] at h
    simp only [Option.some.injEq, Prod.mk.injEq] at h
    obtain ⟨rfl, rfl⟩ := h
    clear hr0 hc0
    go_enter Try.func10, Try.ntmps10
    go_wp2
    go_ret2
    exact ⟨rfl, Below.refl _ _⟩
  · rw [if_neg h1] at h
    by_cases h2 : a1 > l0.length
    · rw [if_pos h2] at h
      simp only [Option.some.injEq, Prod.mk.injEq] at h
      obtain ⟨rfl, rfl⟩ := h
      clear hr0 hc0
      go_enter Try.func10, Try.ntmps10
      go_wp2
      go_ret2
      exact ⟨rfl, Below.refl _ _⟩
    · rw [if_neg h2] at h
      have hmx := Kd.C_max hr0
      obtain ⟨n, rfl⟩ := Int.eq_ofNat_of_zero_le (show 0 ≤ a1 by omega)
      simp only [Int.toNat_natCast] at h
      have hn : n ≤ l0.length := by omega
      have hd := Kd.C_drop hr0 hn hc0
      have hlen : (l0.drop n).length = l0.length - n := by simp
      have hib := ib_bd (Lib.bytesOf (l0.drop n)) 0
      rw [bytesOf_len, hlen] at hib
      rw [hlen] at hd
      have hs1 : (Kd.int .u8).sz = 1 := rfl
      rw [hs1, Nat.mul_one] at hd
      by_cases h3 : Lib.indexByte (Lib.bytesOf (l0.drop n)) 0 < 0
      · rw [if_pos h3] at h
        simp only [Option.some.injEq, Prod.mk.injEq] at h
        obtain ⟨rfl, rfl⟩ := h
        have H3 := Lib.hid h3
        clear hr0 h1 h2 h3 hib hlen
        by_cases hcn : c0 = n
        · subst hcn
          rw [if_pos rfl] at hd
          have hz : l0.drop c0 = [] := List.eq_nil_of_length_eq_zero (by rw [List.length_drop]; omega)
          have hm0 : l0.length - c0 = 0 := by omega
          rw [hm0, hz] at hd
          have HD := Lib.hid hd
          have H4 : Hid (Lib.indexByte (Lib.bytesOf ([] : List Int)) 0 < 0) := by rw [← hz]; exact H3
          clear hd hz hm0
          go_enter Try.func10, Try.ntmps10
          go_wp2_with (go_at_call 13; (with_reducible refine (cut_no _ _ _ [] w.heap.size 1 _ (Kd.C_alloc HD.out _) (by omega) (by simp) H4.out).mono ?_); rintro e w' ⟨rfl, ⟨nd, rfl⟩⟩)
          go_ret2
          exact ⟨rfl, by repeat (first | exact Below.refl _ _ | apply pw_below_drewN | apply below_alloc)⟩
        · rw [if_neg hcn] at hd
          have HD := Lib.hid hd
          clear hd
          go_enter Try.func10, Try.ntmps10
          go_wp2_with (go_at_call 13; (with_reducible refine (cut_no _ _ _ (l0.drop n) w.heap.size 1 _ (Kd.C_alloc HD.out _) (by omega) (by simp) H3.out).mono ?_); rintro e w' ⟨rfl, ⟨nd, rfl⟩⟩)
          go_ret2
          exact ⟨rfl, by repeat (first | exact Below.refl _ _ | apply pw_below_drewN | apply below_alloc)⟩
      · rw [if_neg h3] at h
        simp only [Option.some.injEq, Prod.mk.injEq] at h
        obtain ⟨rfl, rfl⟩ := h
        have H3 := Lib.hid (show 0 ≤ Lib.indexByte (Lib.bytesOf (l0.drop n)) 0 by omega)
        generalize hI : (Lib.indexByte (Lib.bytesOf (l0.drop n)) 0).toNat = I at *
        have hIl : I ≤ (l0.drop n).length := by omega
        have HI := Lib.hid hI
        clear hr0 h1 h2 h3 hib hlen hI
        by_cases hcn : c0 = n
        · exfalso
          have hz : l0.drop n = [] := List.eq_nil_of_length_eq_zero (by rw [List.length_drop]; omega)
          have := H3.out
          rw [hz] at this
          simp [Lib.bytesOf, Lib.indexByte] at this
        · rw [if_neg hcn] at hd
          have HD := Lib.hid hd
          have hstr : ∀ W : World, Below w.heap.size w W → (convert 22 9 (.slice (A0.map (·.add n)) I (c0 - n))).run Try.prog W = .ok (.string (strOfNums ((l0.drop n).take I))) W := by
            intro W hW
            have hC := Kd.C_take (m := I) (by rw [List.length_drop]; exact Kd.C_below hd hW : (Kd.int .u8).C W _ (l0.drop n).length (l0.drop n)) hIl
            have hl2 : ((l0.drop n).take I).length = I := by rw [List.length_take]; omega
            rw [hl2] at hC
            exact Kd.C_string Try.underlying22 Try.underlying5 Try.underlying9 hC
          have HS := Lib.hid hstr
          clear hd hstr
          go_enter Try.func10, Try.ntmps10
          go_wp2_with (go_at_call 13; (with_reducible refine (cut_yes _ _ _ (l0.drop n) w.heap.size 1 _ (Kd.C_alloc HD.out _) (by omega) (by simp) H3.out).mono ?_); rintro e w' ⟨⟨v2, rfl⟩, ⟨nd, rfl⟩⟩; rw [HI.out]; have hS := HS.out ((w.alloc (.cells #[.int .u8 0] 5)).drewN nd) (pw_below_drewN (below_alloc (Below.refl _ _) _) _))
          go_ret2
          exact ⟨rfl, by repeat (first | exact Below.refl _ _ | apply pw_below_drewN | apply below_alloc)⟩
end Go.Proofs.Ytgggjfclhjpboaa.Hand
