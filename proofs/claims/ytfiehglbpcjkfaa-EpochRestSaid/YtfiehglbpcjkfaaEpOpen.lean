/- Parameters that are slices (of bools, of ints, of steps), opened to rows. -/
import Derived.Test.YtfiehglbpcjkfaaProg
import Derived.Test.YtfiehglbpcjkfaaWWords
import Derived.Test.YtfiehglbpcjkfaaWLast
import Derived.Test.YtfiehglbpcjkfaaWMore
import Derived.Test.YtfiehglbpcjkfaaWSized
import Derived.Lib.SmallJoins
import Derived.Deep.Slices
import Derived.Deep.Strs
import Derived.Deep.Fields
import Derived.ChangeSame
namespace Go.Proofs.Ytfiehglbpcjkfaa.Hand
open Go.ChangeShapes Go.WideShapes Go.Deep Go.Joins Go.RowKit Go.Proofs.YtfiehglbpcjkfaaW.PrintWords
section
variable {H : Type} {enc : TypeId × Value → H} {P : Program} {w : World} {base : Nat} {spare : Nat → Bool} {held : Bool}
theorem open_C {α : Type} [Inhabited α] (d : Kd α) (good : α → Prop) {t e : TypeId} {fuel : Nat} {cs : List Value} {x : DataW H × List MemPlace} (ht : P.underlying t = some (.slice e)) (hc : P.cellsOf e = d.sz)
    (hel : ∀ (n : Nat) (cs' : List Value) (y : DataW H × List MemPlace), DataW.trod enc P w base spare held n e cs' = some y → cs'.length = d.sz → ∃ q : α, d.K w q cs' ∧ good q)
    (h : DataW.trod enc P w base spare held fuel t cs = some x) :
    ∃ (A : Option Addr) (c : Nat) (xs : List α), cs = [.slice A xs.length c] ∧ d.C w A xs.length xs ∧ xs.length ≤ c ∧ ∀ q ∈ xs, good q := by
  rcases open_slice ht h with ⟨rfl, _⟩ | ⟨a, len, cap, m, n, D, Pl, rfl, hb, hl, hm, hmm, hx, hi⟩
  · exact ⟨none, 0, [], rfl, ⟨rfl, by simp, fun h => by simp at h⟩, Nat.le_refl _, fun q hq => by cases hq⟩
  · have hlm : len ≤ m := by rw [hmm]; split <;> omega
    have each : ∀ i, i < len → ∃ q : α, good q ∧ ∃ c : List Value, c.length = d.sz ∧ d.K w q c ∧ ∀ k u, c[k]? = some u → w.cell? (a.add (i * d.sz + k)) = some u := by
      intro i hlt
      obtain ⟨cs', h1, h2⟩ := hi i (by omega)
      obtain ⟨_, hlen, hcell⟩ := World.cells?_some h1
      rw [hc] at hlen hcell
      obtain ⟨q, hq, hg⟩ := hel _ _ _ h2 hlen
      refine ⟨q, hg, cs', hlen, hq, fun k u hu => ?_⟩
      have hk : k < d.sz := by have := (List.getElem?_eq_some_iff.1 hu).1; omega
      rw [← Go.Deep.add_add, hcell k hk, hu]
    obtain ⟨q, hq⟩ := choose_lt each
    have hl2 : ((List.range len).map q).length = len := by simp
    refine ⟨some a, cap, (List.range len).map q, by rw [hl2], ?_, by rw [hl2]; exact hl, ?_⟩
    · rw [hl2]
      refine ⟨hl2, by have : maxLen = 2 ^ 63 - 1 := rfl; omega, fun _ => ⟨a, rfl, fun j p hp => ?_⟩⟩
      rw [List.getElem?_map] at hp
      obtain ⟨i, hi1, hi2⟩ := Option.map_eq_some_iff.1 hp
      obtain ⟨hi3, hi4⟩ := List.getElem?_eq_some_iff.1 hi1
      rw [List.getElem_range] at hi4
      subst hi4
      rw [List.length_range] at hi3
      subst hi2
      obtain ⟨_, c, h1, h2, h3⟩ := hq j hi3
      exact ⟨c, h1, h2, h3⟩
    · intro p hp
      obtain ⟨i, hi1, rfl⟩ := List.mem_map.1 hp
      exact (hq i (List.mem_range.1 hi1)).1
end
set_option linter.unusedVariables false
set_option linter.unusedSectionVars false
set_option linter.unusedSimpArgs false
/-- A struct of two ints. -/
def kS : Kd (Int × Int) := Kd.pair (Kd.int .i64) (Kd.int .i64)
theorem kS_mk (w : World) (x : Int × Int) : kS.K w x [.int .i64 x.1, .int .i64 x.2] := ⟨[.int .i64 x.1], [.int .i64 x.2], rfl, rfl, rfl⟩
def wfi (n : Int) : Prop := -9223372036854775808 ≤ n ∧ n ≤ 9223372036854775807
theorem wfi_of {n : Int} (h : (Lit.int .i64 n).wf = true) : wfi n := by
  simp only [Lit.wf, Bool.and_eq_true, decide_eq_true_eq] at h
  have h1 : IntKind.i64.min = -9223372036854775808 := by decide
  have h2 : IntKind.i64.max = 9223372036854775807 := by decide
  rw [h1, h2] at h
  unfold wfi
  omega
section
variable {H : Type} {enc : TypeId × Value → H} {w : World} {base : Nat} {spare : Nat → Bool} {held : Bool} {fuel : Nat} {cs : List Value} {x : DataW H × List MemPlace}
theorem openI (h : DataW.trod enc Try.prog w base spare held fuel 28 cs = some x) : ∃ (A : Option Addr) (c : Nat) (xs : List Int), cs = [.slice A xs.length c] ∧ Kd.C (Kd.int .i64) w A xs.length xs ∧ xs.length ≤ c ∧ ∀ q ∈ xs, wfi q := by
  refine open_C (Kd.int .i64) wfi Try.underlying28 (by kernel_rfl) ?_ h
  intro n cs' y h hl
  obtain ⟨b, e, _, hw⟩ := DataW.trod_int (by kernel_rfl) h
  exact ⟨b, e, wfi_of hw⟩
set_option maxRecDepth 100000 in
theorem openS (h : DataW.trod enc Try.prog w base spare held fuel 22 cs = some x) : ∃ (A : Option Addr) (c : Nat) (xs : List (Int × Int)), cs = [.slice A xs.length c] ∧ Kd.C kS w A xs.length xs ∧ xs.length ≤ c ∧ ∀ q ∈ xs, wfi q.1 ∧ wfi q.2 := by
  refine open_C kS (fun q => wfi q.1 ∧ wfi q.2) Try.underlying22 (by kernel_rfl) ?_ h
  intro n cs' y h hl
  obtain ⟨y0, y1, m, _, _, h0, h1⟩ := trod_struct2 Try.underlying32 h
  match cs', (show cs'.length = 2 from hl) with
  | [a, b], _ =>
    obtain ⟨z0, e0, _, hw⟩ := DataW.trod_int (by kernel_rfl) h0
    obtain ⟨z1, e1, _, hw1⟩ := DataW.trod_int (by kernel_rfl) h1
    have e0' : [a] = [.int .i64 z0] := by rw [← e0]; kernel_rfl
    have e1' : [b] = [.int .i64 z1] := by rw [← e1]; kernel_rfl
    injection e0' with e0'
    injection e1' with e1'
    subst e0' e1'
    exact ⟨⟨z0, z1⟩, kS_mk _ _, wfi_of hw, wfi_of hw1⟩
theorem openB (h : DataW.trod enc Try.prog w base spare held fuel 45 cs = some x) : ∃ (A : Option Addr) (c : Nat) (xs : List Bool), cs = [.slice A xs.length c] ∧ Kd.C Kd.bool w A xs.length xs ∧ xs.length ≤ c ∧ ∀ q ∈ xs, True := by
  refine open_C Kd.bool (fun _ => True) Try.underlying45 (by kernel_rfl) ?_ h
  intro n cs' y h hl
  obtain ⟨b, e, _⟩ := DataW.trod_bool (by kernel_rfl) h
  exact ⟨b, e, trivial⟩
end
end Go.Proofs.Ytfiehglbpcjkfaa.Hand
