/- The walk of the law OctetsNames. -/
import Derived.Test.YtgggjfclhjpboaaMarked
import Derived.Deep.LoopGhost
namespace Go.Proofs.Ytgggjfclhjpboaa.Names
open Go.RowKit Go.Proofs.YtgggjfclhjpboaaW.PrintWords Go.Proofs.YtgggjfclhjpboaaW.PrintLast Go.Proofs.YtgggjfclhjpboaaW.PrintMore Go.Proofs.Ytgggjfclhjpboaa.Hand
attribute [local go_sem] max2_int min2_int max_two min_two
/-- no nought among them -/
def nz (c : Int) : Int := if c = 0 then 1 else c
def part (xs : List Int) (k : Nat) : List Int := (xs.take k).map nz ++ xs.drop k
theorem part_len (xs : List Int) (k : Nat) : (part xs k).length = xs.length := by
  simp [part]; omega
theorem part_zero (xs : List Int) : part xs 0 = xs := by simp [part]
theorem part_all (xs : List Int) (k : Nat) (h : xs.length ≤ k) : part xs k = xs.map nz := by
  simp [part, List.take_of_length_le h, List.drop_eq_nil_of_le h]
theorem part_get (xs : List Int) (k : Nat) (h : k < xs.length) : (part xs k).getD k 0 = xs.getD k 0 := by
  unfold part
  rw [List.getD_eq_getElem?_getD, List.getElem?_append_right (by simp; omega), List.getD_eq_getElem?_getD]
  simp [Nat.min_eq_left (Nat.le_of_lt h)]
theorem part_keep (xs : List Int) (k : Nat) (h : k < xs.length) (hc : xs.getD k 0 ≠ 0) : part xs (k + 1) = part xs k := by
  have hg : xs[k] ≠ 0 := by simpa [List.getD_eq_getElem?_getD, List.getElem?_eq_getElem h] using hc
  unfold part
  rw [List.take_succ_eq_append_getElem h, List.map_append, List.append_assoc, List.drop_eq_getElem_cons h]
  simp [nz, hg]
theorem part_set (xs : List Int) (k : Nat) (h : k < xs.length) (hc : xs.getD k 0 = 0) : part xs (k + 1) = (part xs k).set k 1 := by
  have hg : xs[k] = 0 := by simpa [List.getD_eq_getElem?_getD, List.getElem?_eq_getElem h] using hc
  unfold part
  rw [List.take_succ_eq_append_getElem h, List.map_append, List.append_assoc, List.drop_eq_getElem_cons h, List.set_append_right _ _ (by simp; omega)]
  simp [nz, hg, Nat.min_eq_left (Nat.le_of_lt h)]
theorem ib_none (ys : List Int) (h : ∀ y ∈ ys, y.toNat.toUInt8 ≠ 0) : Lib.indexByte (Lib.bytesOf ys) 0 = -1 := by
  induction ys with
  | nil => rfl
  | cons y ys ih =>
    have hy := h y (by simp)
    have hi := ih (fun z hz => h z (by simp [hz]))
    show Lib.indexByte (y.toNat.toUInt8 :: Lib.bytesOf ys) 0 = -1
    simp only [Lib.indexByte]
    rw [if_neg (by simpa using hy), hi]
    rfl
theorem ib_some (ys r : List Int) (h : ∀ y ∈ ys, y.toNat.toUInt8 ≠ 0) : Lib.indexByte (Lib.bytesOf (ys ++ 0 :: r)) 0 = ys.length := by
  induction ys with
  | nil => rfl
  | cons y ys ih =>
    have hy := h y (by simp)
    have hi := ih (fun z hz => h z (by simp [hz]))
    show Lib.indexByte (y.toNat.toUInt8 :: Lib.bytesOf (ys ++ 0 :: r)) 0 = _
    simp only [Lib.indexByte]
    rw [if_neg (by simpa using hy), hi, if_neg (by simp)]
    simp
theorem nz_ne (s : ByteArray) : ∀ y ∈ (sbytes s).map nz, y.toNat.toUInt8 ≠ 0 := by
  intro y hy
  simp only [sbytes, List.map_map, List.mem_map, Function.comp] at hy
  obtain ⟨b, _, rfl⟩ := hy
  unfold nz
  split
  · decide
  · rename_i h
    simp only [Int.toNat_natCast]
    intro hc
    apply h
    have : (b.toNat.toUInt8) = b := by simp
    rw [this] at hc
    rw [hc]; rfl
set_option maxHeartbeats 8000000 in
set_option maxRecDepth 100000 in
theorem walk (A0 : Option Addr) (c0 : Nat) (l0 : List Int) (s : ByteArray) (A2 : Option Addr) (c2 : Nat) (l2 : List Int) (w : World)
    (hr0 : Kd.C (Kd.int .u8) w A0 l0.length l0) (hc0 : l0.length ≤ c0) (hr2 : Kd.C (Kd.int .u8) w A2 l2.length l2) (hc2 : l2.length ≤ c2) (hs : s.size ≤ 140737488351232) :
    Calls Try.prog 4 #[.slice A0 l0.length c0, .string s, .slice A2 l2.length c2] w fun e w' => e = .returned (.bool true) ∧ Below w.heap.size w w' := by
  have hm0 := Kd.C_max hr0
  have hm2 := Kd.C_max hr2
  obtain ⟨p, hp, p1, p2⟩ : ∃ p : Nat, (if 50 < (l0.length : Int) then 50 else (l0.length : Int)) = p ∧ p ≤ 50 ∧ p ≤ l0.length := ⟨min l0.length 50, by split <;> omega, by omega, by omega⟩
  obtain ⟨q, hq, q1, q2⟩ : ∃ p : Nat, (if 50 < (l2.length : Int) then 50 else (l2.length : Int)) = p ∧ p ≤ 50 ∧ p ≤ l2.length := ⟨min l2.length 50, by split <;> omega, by omega, by omega⟩
  obtain ⟨t, ht, t1, t2⟩ : ∃ p : Nat, (if 50 < (s.size : Int) then 50 else (s.size : Int)) = p ∧ p ≤ 50 ∧ p ≤ s.size := ⟨min s.size 50, by split <;> omega, by omega, by omega⟩
  have R0 := Lib.hid (Kd.C_take hr0 p2)
  have R2 := Lib.hid (Kd.C_take hr2 q2)
  have hl0 : (l0.take p).length = p := by rw [List.length_take]; omega
  have hl2 : (l2.take q).length = q := by rw [List.length_take]; omega
  have L0 := Lib.hid hl0
  have L2 := Lib.hid hl2
  have D0 := Lib.hid (show p ≤ c0 by omega)
  have D2 := Lib.hid (show q ≤ c2 by omega)
  have hcv := fun (W : World) (s : ByteArray) => Lib.run_convert_string_bytes (P := Try.prog) W 9 22 5 s Try.underlying9 Try.underlying22 Try.underlying5
  clear hr0 hr2 hl0 hl2
  go_enter Try.func4, Try.ntmps4
  go_wp2_with (go_at_call 7; (with_reducible refine (longcaselaw04_shown.calls true _ rfl).mono ?_); rintro e w1 ⟨rfl, hb1⟩)
  have hB0 : Below w.heap.size w (Lib.bytesWorld w1 5 (s.extract 0 t)) := below_bytes hb1 hb1.size _
  have hM0 : MB (Lib.bytesWorld w1 5 (s.extract 0 t)) w1.heap.size (part (sbytes (s.extract 0 t)) 0) := by rw [part_zero]; exact MB.made w1 _
  have hZ0 : (Lib.bytesWorld w1 5 (s.extract 0 t)).heap.size = w1.heap.size + 1 := Lib.bytesWorld_size _ _ _
  have hxl : (sbytes (s.extract 0 t)).length = t := by rw [sbytes_len, ByteArray.size_extract]; omega
  have hgB := hb1.size
  have HN := Lib.hid (nz_ne (s.extract 0 t))
  generalize Lib.bytesWorld w1 5 (s.extract 0 t) = W0 at *
  generalize sbytes (s.extract 0 t) = xs at *
  generalize w1.heap.size = g at *
  generalize grownCap w1 t 0 5 = C at *
  have HB0 := Lib.hid hB0
  have HM0 := Lib.hid hM0
  have HZ0 := Lib.hid hZ0
  have HX := Lib.hid hxl
  clear hb1 hB0 hM0 hZ0 hxl hp hq ht hcv
  go_loopw [9] (fun i wr => ∃ k : Nat, k ≤ t ∧ i = .int .i64 k ∧ Hid (Below w.heap.size w wr) ∧ Hid (MB wr g (part xs k)) ∧ Hid (wr.heap.size = g + 1)) (fun i _ => t - (intOf i).toNat)
  case atStart => exact ⟨0, Nat.zero_le _, rfl, HB0, HM0, HZ0⟩
  case round =>
    clear HB0 HM0 HZ0
    obtain ⟨k, hk, rfl, HB, HM, HZ⟩ := hrel
    by_cases hlt : k < t
    · have hkl : k < xs.length := by have := HX.out; omega
      have hc := HM.out.cell k (by rw [part_len]; exact hkl)
      have hf := HM.out.free k (by rw [part_len]; exact hkl)
      rw [part_get xs k hkl] at hc
      by_cases hz : xs.getD k 0 = 0
      · have hst := HM.out.store k (by rw [part_len]; exact hkl) 1
        rw [← part_set xs k hkl hz] at hst
        rw [hz] at hc
        have HM2 := Lib.hid hst
        clear hst hz hkl
        go_wp2
        go_roundw
        case rel => exact ⟨k + 1, by omega, by go_num, Lib.hid (HB.out.setCell (by simpa using hgB) _), HM2, Lib.hid (by have := HZ.out; simpa using this)⟩
        case measure => simp [intOf]; omega
      · have hst := HM.out
        rw [← part_keep xs k hkl hz] at hst
        have HM2 := Lib.hid hst
        have hz1 : (xs.getD k 0 == 0) = false := by simpa using hz
        clear hst hz hkl
        generalize xs.getD k 0 = y at *
        go_wp2
        go_roundw
        case rel => exact ⟨k + 1, by omega, by go_num, HB, HM2, HZ⟩
        case measure => simp [intOf]; omega
    · have hkt : k = t := by omega
      subst hkt
      have hM := HM.out
      rw [part_all xs k (by have := HX.out; omega)] at hM
      have hyl : (xs.map nz).length = k := by rw [List.length_map]; exact HX.out
      have hY := hM.reads (by rw [hyl]; omega)
      generalize xs.map nz = ys at *
      have R0 := Lib.hid (Kd.C_below R0.out HB.out)
      have R2 := Lib.hid (Kd.C_below R2.out HB.out)
      have HBW := HB
      clear HB
      have HB := Aside0.mk (Below.refl wr.heap.size wr)
      have RY := Lib.hid hY
      have LY := Lib.hid hyl
      clear hM HM hY hyl HX HZ hlt hk
      go_wp2_with (first | ((with_reducible refine gate_dst (N := 50) rfl ?_); refine Kd.R_lit (Kd.int .u8) _ 5 ?hg (N := 50) ?hd (xs := ([] : List Int)) (inner := []) (ok := fun _ => True) (okp := fun _ => True) ?hr ?hp (fun _ hk => hk) trivial (Below.refl _ _) (Nat.le_refl _) (by simp) ?_; (case hd => rfl); (case hg => rfl); (case hr => first | (go_simp; done) | (go_simp; rfl)); (case hp => exact (Reps.none _ _)); intro v131 w6 ho7 hb hg_ hnew_; clear hg_ hnew_; have n0_ := Aside0.mk (Kd.R_lower ho7 (below_size (by repeat (first | (with_reducible first | exact HB.out | apply below_alloc | apply pw_below_drewN | apply below_drew1) | exact HB.out)))); have n1_ := Aside0.mk (below_step (by repeat (first | (with_reducible first | exact HB.out | apply below_alloc | apply pw_below_drewN | apply below_drew1) | exact HB.out)) hb); clear HB; have HO := n0_; have HB := n1_; clear n0_ n1_; clear hb ho7) | ((with_reducible refine gate_builtin (b := .append) (xs := #[.tmp 50, .tmp 51]) rfl ?_); at_builtin; refine Kd.R_append_rows (Kd.int .u8) (w0 := wr) wr.heap.size rfl (.tmp 50) (.tmp 51) 22 5 (.int .u8 0) 1 rfl Try.underlying22 info_u8 rfl (by decide) (by omega) _ ([] : List Int) (l0.take p) _ _ _ (fun _ => True) (fun _ => False) rfl rfl ?aO ?aR (fun _ _ h => h) (fun _ h => h.elim) ?aF ?aB ?aS ?aL ?_; (case aR => (refine readsLen L0.out ?_; repeat (first | exact (Kd.C_below R0.out HB.out) | (with_reducible refine Kd.C_alloc ?_ _) | (with_reducible refine Kd.C_drewN ?_ _) | (with_reducible refine Kd.C_drew ?_)))); (case aB => exact (by repeat (first | (with_reducible first | exact HB.out | apply below_alloc | apply pw_below_drewN | apply below_drew1) | exact HB.out))); (case aF => exact (fun _ _ => trivial)); (case aO => exact (by (with_reducible repeat (first | apply Kd.R_alloc | apply Kd.R_drewN | apply Kd.R_drew)); exact HO.out)); (case aS => exact (below_size (by repeat (first | (with_reducible first | exact HB.out | apply below_alloc | apply pw_below_drewN | apply below_drew1) | exact HB.out)))); (case aL => simp [L0.out, LY.out]; omega); intro v1 w6 ho hb hg hat; have n0_ := Aside0.mk (hb); have n1_ := Aside0.mk (ho); clear HB; clear HO; have HB := n0_; have HO := n1_; clear n0_ n1_; clear ho hb hg hat) | ((with_reducible refine gate_builtin (b := .append) (xs := #[.tmp 52, .tmp 53]) rfl ?_); at_builtin; refine Kd.R_append_rows (Kd.int .u8) (w0 := wr) wr.heap.size rfl (.tmp 52) (.tmp 53) 22 5 (.int .u8 0) 1 rfl Try.underlying22 info_u8 rfl (by decide) (by omega) _ ([] ++ l0.take p) ys _ _ _ (fun _ => True) (fun _ => False) rfl rfl ?aO ?aR (fun _ _ h => h) (fun _ h => h.elim) ?aF ?aB ?aS ?aL ?_; (case aR => (refine readsLen LY.out ?_; repeat (first | exact (Kd.C_below RY.out HB.out) | (with_reducible refine Kd.C_alloc ?_ _) | (with_reducible refine Kd.C_drewN ?_ _) | (with_reducible refine Kd.C_drew ?_)))); (case aB => exact (by repeat (first | (with_reducible first | exact HB.out | apply below_alloc | apply pw_below_drewN | apply below_drew1) | exact HB.out))); (case aF => exact (fun _ _ => trivial)); (case aO => exact (by (with_reducible repeat (first | apply Kd.R_alloc | apply Kd.R_drewN | apply Kd.R_drew)); exact HO.out)); (case aS => exact (below_size (by repeat (first | (with_reducible first | exact HB.out | apply below_alloc | apply pw_below_drewN | apply below_drew1) | exact HB.out)))); (case aL => simp [L0.out, LY.out]; omega); intro v1 w6 ho hb hg hat; have n0_ := Aside0.mk (hb); have n1_ := Aside0.mk (ho); clear HB; clear HO; have HB := n0_; have HO := n1_; clear n0_ n1_; clear ho hb hg hat) | ((with_reducible refine gate_builtin (b := .append) (xs := #[.tmp 54, .tmp 55]) rfl ?_); at_builtin; refine Kd.R_append (Kd.int .u8) (w0 := wr) wr.heap.size rfl (.tmp 54) (.tmp 55) 22 5 (.int .u8 0) 1 rfl Try.underlying22 info_u8 rfl (by decide) (by omega) _ ([] ++ l0.take p ++ ys) 0 [.int .u8 0] (fun _ => True) (fun _ => False) rfl rfl ?aP (fun _ hk => hk.elim) ?aF ?aO ?aB ?aS ?aL ?_; (case aP => exact rfl); (case aB => exact (by repeat (first | (with_reducible first | exact HB.out | apply below_alloc | apply pw_below_drewN | apply below_drew1) | exact HB.out))); (case aF => exact (fun _ _ => trivial)); (case aO => exact (by (with_reducible repeat (first | apply Kd.R_alloc | apply Kd.R_drewN | apply Kd.R_drew)); exact HO.out)); (case aS => exact (below_size (by repeat (first | (with_reducible first | exact HB.out | apply below_alloc | apply pw_below_drewN | apply below_drew1) | exact HB.out)))); (case aL => simp [L0.out, LY.out]; omega); intro v1 w6 ho hb hg hat; have n0_ := Aside0.mk (hb); have n1_ := Aside0.mk (ho); clear HB; clear HO; have HB := n0_; have HO := n1_; clear n0_ n1_; clear ho hb hg hat) | ((with_reducible refine gate_builtin (b := .append) (xs := #[.tmp 56, .tmp 57]) rfl ?_); at_builtin; refine Kd.R_append_rows (Kd.int .u8) (w0 := wr) wr.heap.size rfl (.tmp 56) (.tmp 57) 22 5 (.int .u8 0) 1 rfl Try.underlying22 info_u8 rfl (by decide) (by omega) _ ([] ++ l0.take p ++ ys ++ [0]) (l2.take q) _ _ _ (fun _ => True) (fun _ => False) rfl rfl ?aO ?aR (fun _ _ h => h) (fun _ h => h.elim) ?aF ?aB ?aS ?aL ?_; (case aR => (refine readsLen L2.out ?_; repeat (first | exact (Kd.C_below R2.out HB.out) | (with_reducible refine Kd.C_alloc ?_ _) | (with_reducible refine Kd.C_drewN ?_ _) | (with_reducible refine Kd.C_drew ?_)))); (case aB => exact (by repeat (first | (with_reducible first | exact HB.out | apply below_alloc | apply pw_below_drewN | apply below_drew1) | exact HB.out))); (case aF => exact (fun _ _ => trivial)); (case aO => exact (by (with_reducible repeat (first | apply Kd.R_alloc | apply Kd.R_drewN | apply Kd.R_drew)); exact HO.out)); (case aS => exact (below_size (by repeat (first | (with_reducible first | exact HB.out | apply below_alloc | apply pw_below_drewN | apply below_drew1) | exact HB.out)))); (case aL => simp [L0.out, LY.out]; omega); intro v1 w6 ho hb hg hat; have n0_ := Aside0.mk (hb); have n1_ := Aside0.mk (ho); clear HB; clear HO; have HB := n0_; have HO := n1_; clear n0_ n1_; clear ho hb hg hat))
      have hN := HN.out
      have hX : ([] ++ l0.take p ++ ys ++ [0]) ++ l2.take q = l0.take p ++ (ys ++ 0 :: l2.take q) := by simp
      have hd1 : (l0.take p ++ (ys ++ 0 :: l2.take q)).drop p = ys ++ 0 :: l2.take q := by
        conv => lhs; arg 1; rw [← L0.out]
        exact List.drop_left
      have hd2 : (l0.take p ++ (ys ++ 0 :: l2.take q)).drop (p + k) = 0 :: l2.take q := by
        rw [← List.drop_drop, hd1]
        conv => lhs; arg 1; rw [← LY.out]
        exact List.drop_left
      have ht2 : (l0.take p ++ (ys ++ 0 :: l2.take q)).take (p + k) = l0.take p ++ ys := by
        rw [← List.append_assoc, List.take_append_of_le_length (by simp [L0.out, LY.out])]
        exact List.take_of_length_le (by simp [L0.out, LY.out])
      have hd3 : (l0.take p ++ ys).drop p = ys := by
        conv => lhs; arg 1; rw [← L0.out]
        exact List.drop_left
      have hlX : (l0.take p ++ (ys ++ 0 :: l2.take q)).length = p + k + 1 + q := by simp [L0.out, L2.out, LY.out]; omega
      have n1 : octets_Name.f (l0.take p ++ (ys ++ 0 :: l2.take q)) (p : Int) = some (strOfNums ys, true) := by
        unfold octets_Name.f
        rw [if_neg (by omega), if_neg (by rw [hlX]; omega), Int.toNat_natCast, hd1, ib_some ys _ hN, if_neg (by omega), Int.toNat_natCast]
        rw [List.take_left]
      have n2 : octets_Name.f (l0.take p ++ (ys ++ 0 :: l2.take q)) ((p : Int) + (k : Int)) = some (strOfNums [], true) := by
        have e : ((p : Int) + (k : Int)).toNat = p + k := by omega
        unfold octets_Name.f
        rw [if_neg (by omega), if_neg (by rw [hlX]; omega), e, hd2]
        have h0 : Lib.indexByte (Lib.bytesOf (0 :: l2.take q)) 0 = 0 := ib_some [] (l2.take q) (by simp)
        rw [h0]
        rfl
      have n3 : octets_Name.f (l0.take p ++ ys) (p : Int) = some (ByteArray.empty, false) := by
        unfold octets_Name.f
        rw [if_neg (by omega), if_neg (by rw [List.length_append, L0.out]; omega), Int.toNat_natCast, hd3, ib_none ys hN, if_pos (by decide)]
      have n4 : octets_Name.f (l0.take p ++ (ys ++ 0 :: l2.take q)) (-1) = some (ByteArray.empty, false) := by
        unfold octets_Name.f
        rw [if_pos (by decide)]
      have hO := HO.out
      rw [hX] at hO
      obtain ⟨Ax, cx, rfl⟩ := Kd.R_slice hO
      have hc := (Kd.R_reads' hO).2.2
      have hcx := (Kd.R_reads' hO).2.1
      have hc3 := Kd.C_take (m := p + k) hc (by rw [hlX]; omega)
      rw [ht2] at hc3
      have hlt : (l0.take p ++ ys).length = p + k := by simp [L0.out, LY.out]
      rw [hlX] at hcx
      have hstr := Kd.C_string (c := C) Try.underlying22 Try.underlying5 Try.underlying9 (readsLen LY.out (Kd.C_below RY.out HB.out) : (Kd.int .u8).C _ (some ⟨g, 0, none⟩) k ys)
      have hst0 : strOfNums [] = (⟨#[]⟩ : ByteArray) := rfl
      rw [hst0] at n2
      generalize hT : strOfNums ys = T at *
      have HT := Lib.hid hT
      clear hT
      generalize l0.take p ++ (ys ++ 0 :: l2.take q) = X at *
      generalize l0.take p ++ ys = Y at *
      have N1 := Lib.hid n1
      have N2 := Lib.hid n2
      have N3 := Lib.hid n3
      have N4 := Lib.hid n4
      have HC := Lib.hid hc
      have HCX := Lib.hid (show X.length ≤ cx by omega)
      have HC3 := Lib.hid hc3
      have HL3 := Lib.hid hlt
      have HLX := Lib.hid (show p + k ≤ X.length by omega)
      have HS := Lib.hid (readsLen LY.out (Kd.C_below RY.out HB.out) : (Kd.int .u8).C _ (some ⟨g, 0, none⟩) k ys)
      clear hstr n1 n2 n3 n4 hc hcx hc3 hlt hO hN HN hX hd1 hd2 ht2 hd3 hlX hst0 HO
      refine (octets_Name.calls Ax cx X p _ _ _ HC.out HCX.out N1.out).mono ?_
      rintro e w7 ⟨rfl, hb7⟩
      have H7 := Lib.hid hb7
      clear hb7
      go_wp2_with fail
      refine (octets_Name.calls Ax cx X ((p : Int) + (k : Int)) _ _ _ (Kd.C_below HC.out H7.out) HCX.out N2.out).mono ?_
      rintro e w8 ⟨rfl, hb8⟩
      have H8 := Lib.hid (H7.out.trans (hb8.mono H7.out.size))
      clear hb8
      have hpk : p + k ≤ cx := by have := HCX.out; have := HLX.out; omega
      go_wp2_with fail
      have C3 := octets_Name.calls Ax cx Y p _ _ w8 (Kd.C_below HC3.out H8.out) (by rw [HL3.out]; exact hpk) N3.out
      rw [HL3.out] at C3
      refine C3.mono ?_
      clear C3
      rintro e w9 ⟨rfl, hb9⟩
      have H9 := Lib.hid (H8.out.trans (hb9.mono H8.out.size))
      clear hb9
      go_wp2_with fail
      refine (octets_Name.calls Ax cx X (-1) _ _ _ (Kd.C_below HC.out H9.out) HCX.out N4.out).mono ?_
      rintro e w10 ⟨rfl, hb10⟩
      have H10 := Lib.hid (H9.out.trans (hb10.mono H9.out.size))
      clear hb10
      have hstr := Kd.C_string (c := C) Try.underlying22 Try.underlying5 Try.underlying9 (Kd.C_below HS.out H10.out)
      rw [HT.out] at hstr
      go_wp2
      go_ret
      exact ⟨by simp, HBW.out.trans ((HB.out.trans (H10.out.mono HB.out.size)).mono HBW.out.size)⟩
theorem row_walk (a0 : Option Addr) (len0 cap0 : Nat) (z0 : List Int) (s : ByteArray) (a2 : Option Addr) (len2 cap2 : Nat) (z2 : List Int) (w : World)
    (w0 : (a0 = none ∧ len0 = 0 ∧ cap0 = 0 ∧ z0 = []) ∨ ∃ x, a0 = some x ∧ len0 ≤ cap0 ∧ cap0 ≤ maxLen ∧ z0.length = cap0 ∧ (∀ i, i < z0.length → w.cell? (x.add i) = some (.int .u8 (z0.getD i 0))) ∧ ∀ n ∈ z0, (Lit.int .u8 n).wf = true) (_y0 : len0 * 1 ≤ 140737488351232)
    (w1 : s.size ≤ 140737488351232)
    (w2 : (a2 = none ∧ len2 = 0 ∧ cap2 = 0 ∧ z2 = []) ∨ ∃ x, a2 = some x ∧ len2 ≤ cap2 ∧ cap2 ≤ maxLen ∧ z2.length = cap2 ∧ (∀ i, i < z2.length → w.cell? (x.add i) = some (.int .u8 (z2.getD i 0))) ∧ ∀ n ∈ z2, (Lit.int .u8 n).wf = true) (_y2 : len2 * 1 ≤ 140737488351232) :
    Calls Try.prog 4 #[.slice a0 len0 cap0, .string s, .slice a2 len2 cap2] w fun e w' => e = .returned (.bool true) ∧ Below w.heap.size w w' := by
  obtain ⟨l0, rfl, hr0, hm0, hw0, hc0⟩ := ReadsInt.ofRowC w0
  obtain ⟨l2, rfl, hr2, hm2, hw2, hc2⟩ := ReadsInt.ofRowC w2
  exact walk a0 cap0 l0 s a2 cap2 l2 w (Kd.C_of_reads (d := (0 : Int)) (h1 := fun _ => rfl) hr0) hc0 (Kd.C_of_reads (d := (0 : Int)) (h1 := fun _ => rfl) hr2) hc2 w1
end Go.Proofs.Ytgggjfclhjpboaa.Names
