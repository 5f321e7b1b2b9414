/- What the claim needs of its texts, one behind the other (laid by a program of the session's). -/
import Derived.Test.YthobnoknbdljgaaZBack4
section
namespace Go.Proofs.Ythobnoknbdljgaa.Hand
open Go.RowKit Go.Proofs.YthobnoknbdljgaaW.PrintWords PB0
set_option linter.unusedVariables false
def cur (s : Nat → Bool) (f : Nat → Value) (i : Nat) : Value := if s (i + 8) = true then f (i + 8) else f i
def RowI {α : Type} (d : Kd α) (e B : Nat) (xs : List α) (s : Nat → Bool) (f : Nat → Value) (w : World) (i : Nat) : Prop :=
 s i = true → d.R e w B (fun _ => True) (cur s f i) (if s (i + 8) = true then xs else [])
theorem row_move {α : Type} {d : Kd α} {e B : Nat} {xs : List α} {s : Nat → Bool} {f : Nat → Value} {w w1 : World} {i : Nat} (hd : ∀ {w : World} {ok1 ok2 : Nat → Prop} {x : α} {cs : List Value}, d.M w B ok1 x cs → d.M w B ok2 x cs)
  (h : RowI d e B xs s f w i) (hm : ∀ k, s i = true → (cur s f i).ownBlock = some k → w1.heap[k]? = w.heap[k]?) : RowI d e B xs s f w1 i := by
 intro hs
 exact Kd.R_flat hd (Kd.R_move (Kd.R_flat (ok' := fun k => (cur s f i).ownBlock = some k) hd (h hs) (fun k hk _ => hk)) (fun k hk => hm k hs hk)) (fun _ _ _ => trivial)
structure FI (w0 : World) (g1 g2 : Nat) (c1 c2 : Array Value) (x0 : List S56) (x1 : List S54) (x2 : List S67) (x3 : List Bool) (x4 : List Bool) (s : Nat → Bool) (f : Nat → Value) (w : World) : Prop where
 below : Below w0.heap.size w0 w
 b1 : w.heap[g1]? = some (.cells c1 27 (0, 0))
 b2 : w.heap[g2]? = some (.cells c2 27 (0, 0))
 r0 : RowI k56 56 w0.heap.size x0 s f w 0
 r1 : RowI k54 54 w0.heap.size x1 s f w 9
 r2 : RowI k67 67 w0.heap.size x2 s f w 18
 r3 : RowI Kd.bool 4 w0.heap.size x3 s f w 27
 r4 : RowI Kd.bool 4 w0.heap.size x4 s f w 36
 o0 : s 8 = true → s 0 = true
 o1 : s 17 = true → s 9 = true
 o2 : s 26 = true → s 18 = true
 o3 : s 35 = true → s 27 = true
 o4 : s 44 = true → s 36 = true
 d : s 27 = true → s 36 = true → NeRow (cur s f 27) (cur s f 36)
 al : s 46 = true → ∃ g3, f 46 = .pointer (some ⟨g3, 0, none⟩) ∧ w.heap[g3]? = some (.cells #[.slice none 0 0, .slice none 0 0, .slice none 0 0, .slice none 0 0, .slice none 0 0] 27 (0, 0)) ∧ w0.heap.size ≤ g3 ∧ g2 < g3
 bd : s 45 = true → f 45 = .agg #[f 8, f 17, f 26, f 35, f 44] ∧ s 8 = true ∧ s 17 = true ∧ s 26 = true ∧ s 35 = true ∧ s 44 = true
section
variable {w0 : World} {g1 g2 : Nat} {c1 c2 : Array Value} {x0 : List S56} {x1 : List S54} {x2 : List S67} {x3 x4 : List Bool} {s : Nat → Bool} {f : Nat → Value} {w w1 : World}
theorem R_hlt {α : Type} {d : Kd α} {e b : Nat} {ok : Nat → Prop} {v : Value} {xs : List α} (h : d.R e w b ok v xs) : ∀ k, v.ownBlock = some k → k < w.heap.size := by
 obtain ⟨_, inner, ho, _⟩ := h
 exact own_lt ho
theorem FI.step (h : FI w0 g1 g2 c1 c2 x0 x1 x2 x3 x4 s f w) (hb : Below w.heap.size w w1) : FI w0 g1 g2 c1 c2 x0 x1 x2 x3 x4 s f w1 where
 below := below_step h.below hb
 b1 := blk_below h.b1 hb
 b2 := blk_below h.b2 hb
 r0 := fun hs => Kd.R_below (h.r0 hs) hb
 r1 := fun hs => Kd.R_below (h.r1 hs) hb
 r2 := fun hs => Kd.R_below (h.r2 hs) hb
 r3 := fun hs => Kd.R_below (h.r3 hs) hb
 r4 := fun hs => Kd.R_below (h.r4 hs) hb
 o0 := h.o0
 o1 := h.o1
 o2 := h.o2
 o3 := h.o3
 o4 := h.o4
 d := h.d
 al := fun hs => by
  obtain ⟨g3, e1, e2, e3⟩ := h.al hs
  exact ⟨g3, e1, blk_below e2 hb, e3⟩
 bd := h.bd
theorem FI.empty0 {v : Value} (h : FI w0 g1 g2 c1 c2 x0 x1 x2 x3 x4 s f w) (hs : s 0 = false) (hb : Below w.heap.size w w1) (hr : Kd.R k56 56 w1 w0.heap.size (fun _ => True) v []) (hf : ∃ b, v.ownBlock = some b ∧ w.heap.size ≤ b) :
  FI w0 g1 g2 c1 c2 x0 x1 x2 x3 x4 (upd s 0 true) (upd f 0 v) w1 := by
 have q := h.step hb
 have h8 : s 8 = false := by cases e : s 8 with | false => rfl | true => exact absurd (h.o0 e) (by rw [hs]; decide)
 have hc : cur (upd s 0 true) (upd f 0 v) 0 = v := by unfold cur; rw [if_neg (show ¬ (upd s 0 true) (0 + 8) = true from by show ¬ s 8 = true; rw [h8]; decide)]; rfl
 exact {
  below := q.below, b1 := q.b1, b2 := q.b2
  r0 := fun _ => by rw [hc, if_neg (show ¬ (upd s 0 true) (0 + 8) = true from by show ¬ s 8 = true; rw [h8]; decide)]; exact hr
  r1 := q.r1
  r2 := q.r2
  r3 := q.r3
  r4 := q.r4
  o0 := fun _ => rfl
  o1 := q.o1
  o2 := q.o2
  o3 := q.o3
  o4 := q.o4
  d := q.d
  al := q.al, bd := fun hh => by have := q.bd hh; exact this }
theorem FI.empty1 {v : Value} (h : FI w0 g1 g2 c1 c2 x0 x1 x2 x3 x4 s f w) (hs : s 9 = false) (hb : Below w.heap.size w w1) (hr : Kd.R k54 54 w1 w0.heap.size (fun _ => True) v []) (hf : ∃ b, v.ownBlock = some b ∧ w.heap.size ≤ b) :
  FI w0 g1 g2 c1 c2 x0 x1 x2 x3 x4 (upd s 9 true) (upd f 9 v) w1 := by
 have q := h.step hb
 have h8 : s 17 = false := by cases e : s 17 with | false => rfl | true => exact absurd (h.o1 e) (by rw [hs]; decide)
 have hc : cur (upd s 9 true) (upd f 9 v) 9 = v := by unfold cur; rw [if_neg (show ¬ (upd s 9 true) (9 + 8) = true from by show ¬ s 17 = true; rw [h8]; decide)]; rfl
 exact {
  below := q.below, b1 := q.b1, b2 := q.b2
  r0 := q.r0
  r1 := fun _ => by rw [hc, if_neg (show ¬ (upd s 9 true) (9 + 8) = true from by show ¬ s 17 = true; rw [h8]; decide)]; exact hr
  r2 := q.r2
  r3 := q.r3
  r4 := q.r4
  o0 := q.o0
  o1 := fun _ => rfl
  o2 := q.o2
  o3 := q.o3
  o4 := q.o4
  d := q.d
  al := q.al, bd := fun hh => by have := q.bd hh; exact this }
theorem FI.empty2 {v : Value} (h : FI w0 g1 g2 c1 c2 x0 x1 x2 x3 x4 s f w) (hs : s 18 = false) (hb : Below w.heap.size w w1) (hr : Kd.R k67 67 w1 w0.heap.size (fun _ => True) v []) (hf : ∃ b, v.ownBlock = some b ∧ w.heap.size ≤ b) :
  FI w0 g1 g2 c1 c2 x0 x1 x2 x3 x4 (upd s 18 true) (upd f 18 v) w1 := by
 have q := h.step hb
 have h8 : s 26 = false := by cases e : s 26 with | false => rfl | true => exact absurd (h.o2 e) (by rw [hs]; decide)
 have hc : cur (upd s 18 true) (upd f 18 v) 18 = v := by unfold cur; rw [if_neg (show ¬ (upd s 18 true) (18 + 8) = true from by show ¬ s 26 = true; rw [h8]; decide)]; rfl
 exact {
  below := q.below, b1 := q.b1, b2 := q.b2
  r0 := q.r0
  r1 := q.r1
  r2 := fun _ => by rw [hc, if_neg (show ¬ (upd s 18 true) (18 + 8) = true from by show ¬ s 26 = true; rw [h8]; decide)]; exact hr
  r3 := q.r3
  r4 := q.r4
  o0 := q.o0
  o1 := q.o1
  o2 := fun _ => rfl
  o3 := q.o3
  o4 := q.o4
  d := q.d
  al := q.al, bd := fun hh => by have := q.bd hh; exact this }
theorem FI.empty3 {v : Value} (h : FI w0 g1 g2 c1 c2 x0 x1 x2 x3 x4 s f w) (hs : s 27 = false) (hb : Below w.heap.size w w1) (hr : Kd.R Kd.bool 4 w1 w0.heap.size (fun _ => True) v []) (hf : ∃ b, v.ownBlock = some b ∧ w.heap.size ≤ b) :
  FI w0 g1 g2 c1 c2 x0 x1 x2 x3 x4 (upd s 27 true) (upd f 27 v) w1 := by
 have q := h.step hb
 have h8 : s 35 = false := by cases e : s 35 with | false => rfl | true => exact absurd (h.o3 e) (by rw [hs]; decide)
 have hc : cur (upd s 27 true) (upd f 27 v) 27 = v := by unfold cur; rw [if_neg (show ¬ (upd s 27 true) (27 + 8) = true from by show ¬ s 35 = true; rw [h8]; decide)]; rfl
 exact {
  below := q.below, b1 := q.b1, b2 := q.b2
  r0 := q.r0
  r1 := q.r1
  r2 := q.r2
  r3 := fun _ => by rw [hc, if_neg (show ¬ (upd s 27 true) (27 + 8) = true from by show ¬ s 35 = true; rw [h8]; decide)]; exact hr
  r4 := q.r4
  o0 := q.o0
  o1 := q.o1
  o2 := q.o2
  o3 := fun _ => rfl
  o4 := q.o4
  d := fun _ h2 => by rw [hc]; obtain ⟨b, hb1, hb2⟩ := hf; intro k hk hk2; have h3 := R_hlt (h.r4 h2) k hk2; rw [hb1] at hk; injection hk with hk; omega
  al := q.al, bd := fun hh => by have := q.bd hh; exact this }
theorem FI.empty4 {v : Value} (h : FI w0 g1 g2 c1 c2 x0 x1 x2 x3 x4 s f w) (hs : s 36 = false) (hb : Below w.heap.size w w1) (hr : Kd.R Kd.bool 4 w1 w0.heap.size (fun _ => True) v []) (hf : ∃ b, v.ownBlock = some b ∧ w.heap.size ≤ b) :
  FI w0 g1 g2 c1 c2 x0 x1 x2 x3 x4 (upd s 36 true) (upd f 36 v) w1 := by
 have q := h.step hb
 have h8 : s 44 = false := by cases e : s 44 with | false => rfl | true => exact absurd (h.o4 e) (by rw [hs]; decide)
 have hc : cur (upd s 36 true) (upd f 36 v) 36 = v := by unfold cur; rw [if_neg (show ¬ (upd s 36 true) (36 + 8) = true from by show ¬ s 44 = true; rw [h8]; decide)]; rfl
 exact {
  below := q.below, b1 := q.b1, b2 := q.b2
  r0 := q.r0
  r1 := q.r1
  r2 := q.r2
  r3 := q.r3
  r4 := fun _ => by rw [hc, if_neg (show ¬ (upd s 36 true) (36 + 8) = true from by show ¬ s 44 = true; rw [h8]; decide)]; exact hr
  o0 := q.o0
  o1 := q.o1
  o2 := q.o2
  o3 := q.o3
  o4 := fun _ => rfl
  d := fun h2 _ => by rw [hc]; obtain ⟨b, hb1, hb2⟩ := hf; intro k hk hk2; have h3 := R_hlt (h.r3 h2) k hk; rw [hb1] at hk2; injection hk2 with hk2; omega
  al := q.al, bd := fun hh => by have := q.bd hh; exact this }
theorem FI.append0 {v : Value} (h : FI w0 g1 g2 c1 c2 x0 x1 x2 x3 x4 s f w) (h0 : s 0 = true) (hs : s 8 = false) (hB : Below w0.heap.size w0 w1) (hr : Kd.R k56 56 w1 w0.heap.size (fun _ => True) v x0) (hg : w.grownBy w1 (f 0).ownBlock) (hat : v.ownBlock = (f 0).ownBlock ∨ ∃ b, v.ownBlock = some b ∧ w.heap.size ≤ b) :
  FI w0 g1 g2 c1 c2 x0 x1 x2 x3 x4 (upd s 8 true) (upd f 8 v) w1 := by
 have hc0 : cur s f 0 = f 0 := by unfold cur; rw [if_neg (by rw [hs]; decide)]
 have hR := h.r0 h0
 rw [hc0] at hR
 have hty := Kd.R_typed hR
 have hc : cur (upd s 8 true) (upd f 8 v) 0 = v := by unfold cur; rw [if_pos (show (upd s 8 true) (0 + 8) = true from rfl)]; rfl
 have far : ∀ k, k < w.heap.size → some k ≠ (f 0).ownBlock → w1.heap[k]? = w.heap[k]? := fun k hk hn => hg.block k hk hn
 exact {
  below := hB, b1 := blk_grown h.b1 hg (Kd.R_ne hR h.b1 (by decide)), b2 := blk_grown h.b2 hg (Kd.R_ne hR h.b2 (by decide))
  r0 := fun _ => by rw [hc, if_pos (show (upd s 8 true) (0 + 8) = true from rfl)]; exact hr
  r1 := row_move (fun h_ => h_) h.r1 (fun b hs2 hb2 => far b (R_hlt (h.r1 hs2) b hb2) (fun e => by obtain ⟨q1, q2⟩ := Kd.R_typed (h.r1 hs2) b hb2; obtain ⟨q3, q4⟩ := hty b e.symm; rw [q2] at q4; injection q4 with q4; injection q4 with _ q4; exact absurd q4 (by decide)))
  r2 := row_move (fun h_ => h_) h.r2 (fun b hs2 hb2 => far b (R_hlt (h.r2 hs2) b hb2) (fun e => by obtain ⟨q1, q2⟩ := Kd.R_typed (h.r2 hs2) b hb2; obtain ⟨q3, q4⟩ := hty b e.symm; rw [q2] at q4; injection q4 with q4; injection q4 with _ q4; exact absurd q4 (by decide)))
  r3 := row_move (fun h_ => h_) h.r3 (fun b hs2 hb2 => far b (R_hlt (h.r3 hs2) b hb2) (fun e => by obtain ⟨q1, q2⟩ := Kd.R_typed (h.r3 hs2) b hb2; obtain ⟨q3, q4⟩ := hty b e.symm; rw [q2] at q4; injection q4 with q4; injection q4 with _ q4; exact absurd q4 (by decide)))
  r4 := row_move (fun h_ => h_) h.r4 (fun b hs2 hb2 => far b (R_hlt (h.r4 hs2) b hb2) (fun e => by obtain ⟨q1, q2⟩ := Kd.R_typed (h.r4 hs2) b hb2; obtain ⟨q3, q4⟩ := hty b e.symm; rw [q2] at q4; injection q4 with q4; injection q4 with _ q4; exact absurd q4 (by decide)))
  o0 := fun _ => h0
  o1 := h.o1
  o2 := h.o2
  o3 := h.o3
  o4 := h.o4
  d := h.d
  al := fun hs => by
   obtain ⟨g3, e1, e2, e3⟩ := h.al hs
   exact ⟨g3, e1, blk_grown e2 hg (Kd.R_ne hR e2 (by decide)), e3⟩
  bd := fun hh => by have := (h.bd hh).2; simp [hs] at this }
theorem FI.append1 {v : Value} (h : FI w0 g1 g2 c1 c2 x0 x1 x2 x3 x4 s f w) (h0 : s 9 = true) (hs : s 17 = false) (hB : Below w0.heap.size w0 w1) (hr : Kd.R k54 54 w1 w0.heap.size (fun _ => True) v x1) (hg : w.grownBy w1 (f 9).ownBlock) (hat : v.ownBlock = (f 9).ownBlock ∨ ∃ b, v.ownBlock = some b ∧ w.heap.size ≤ b) :
  FI w0 g1 g2 c1 c2 x0 x1 x2 x3 x4 (upd s 17 true) (upd f 17 v) w1 := by
 have hc0 : cur s f 9 = f 9 := by unfold cur; rw [if_neg (by rw [hs]; decide)]
 have hR := h.r1 h0
 rw [hc0] at hR
 have hty := Kd.R_typed hR
 have hc : cur (upd s 17 true) (upd f 17 v) 9 = v := by unfold cur; rw [if_pos (show (upd s 17 true) (9 + 8) = true from rfl)]; rfl
 have far : ∀ k, k < w.heap.size → some k ≠ (f 9).ownBlock → w1.heap[k]? = w.heap[k]? := fun k hk hn => hg.block k hk hn
 exact {
  below := hB, b1 := blk_grown h.b1 hg (Kd.R_ne hR h.b1 (by decide)), b2 := blk_grown h.b2 hg (Kd.R_ne hR h.b2 (by decide))
  r0 := row_move (fun h_ => h_) h.r0 (fun b hs2 hb2 => far b (R_hlt (h.r0 hs2) b hb2) (fun e => by obtain ⟨q1, q2⟩ := Kd.R_typed (h.r0 hs2) b hb2; obtain ⟨q3, q4⟩ := hty b e.symm; rw [q2] at q4; injection q4 with q4; injection q4 with _ q4; exact absurd q4 (by decide)))
  r1 := fun _ => by rw [hc, if_pos (show (upd s 17 true) (9 + 8) = true from rfl)]; exact hr
  r2 := row_move (fun h_ => h_) h.r2 (fun b hs2 hb2 => far b (R_hlt (h.r2 hs2) b hb2) (fun e => by obtain ⟨q1, q2⟩ := Kd.R_typed (h.r2 hs2) b hb2; obtain ⟨q3, q4⟩ := hty b e.symm; rw [q2] at q4; injection q4 with q4; injection q4 with _ q4; exact absurd q4 (by decide)))
  r3 := row_move (fun h_ => h_) h.r3 (fun b hs2 hb2 => far b (R_hlt (h.r3 hs2) b hb2) (fun e => by obtain ⟨q1, q2⟩ := Kd.R_typed (h.r3 hs2) b hb2; obtain ⟨q3, q4⟩ := hty b e.symm; rw [q2] at q4; injection q4 with q4; injection q4 with _ q4; exact absurd q4 (by decide)))
  r4 := row_move (fun h_ => h_) h.r4 (fun b hs2 hb2 => far b (R_hlt (h.r4 hs2) b hb2) (fun e => by obtain ⟨q1, q2⟩ := Kd.R_typed (h.r4 hs2) b hb2; obtain ⟨q3, q4⟩ := hty b e.symm; rw [q2] at q4; injection q4 with q4; injection q4 with _ q4; exact absurd q4 (by decide)))
  o0 := h.o0
  o1 := fun _ => h0
  o2 := h.o2
  o3 := h.o3
  o4 := h.o4
  d := h.d
  al := fun hs => by
   obtain ⟨g3, e1, e2, e3⟩ := h.al hs
   exact ⟨g3, e1, blk_grown e2 hg (Kd.R_ne hR e2 (by decide)), e3⟩
  bd := fun hh => by have := (h.bd hh).2; simp [hs] at this }
theorem FI.append2 {v : Value} (h : FI w0 g1 g2 c1 c2 x0 x1 x2 x3 x4 s f w) (h0 : s 18 = true) (hs : s 26 = false) (hB : Below w0.heap.size w0 w1) (hr : Kd.R k67 67 w1 w0.heap.size (fun _ => True) v x2) (hg : w.grownBy w1 (f 18).ownBlock) (hat : v.ownBlock = (f 18).ownBlock ∨ ∃ b, v.ownBlock = some b ∧ w.heap.size ≤ b) :
  FI w0 g1 g2 c1 c2 x0 x1 x2 x3 x4 (upd s 26 true) (upd f 26 v) w1 := by
 have hc0 : cur s f 18 = f 18 := by unfold cur; rw [if_neg (by rw [hs]; decide)]
 have hR := h.r2 h0
 rw [hc0] at hR
 have hty := Kd.R_typed hR
 have hc : cur (upd s 26 true) (upd f 26 v) 18 = v := by unfold cur; rw [if_pos (show (upd s 26 true) (18 + 8) = true from rfl)]; rfl
 have far : ∀ k, k < w.heap.size → some k ≠ (f 18).ownBlock → w1.heap[k]? = w.heap[k]? := fun k hk hn => hg.block k hk hn
 exact {
  below := hB, b1 := blk_grown h.b1 hg (Kd.R_ne hR h.b1 (by decide)), b2 := blk_grown h.b2 hg (Kd.R_ne hR h.b2 (by decide))
  r0 := row_move (fun h_ => h_) h.r0 (fun b hs2 hb2 => far b (R_hlt (h.r0 hs2) b hb2) (fun e => by obtain ⟨q1, q2⟩ := Kd.R_typed (h.r0 hs2) b hb2; obtain ⟨q3, q4⟩ := hty b e.symm; rw [q2] at q4; injection q4 with q4; injection q4 with _ q4; exact absurd q4 (by decide)))
  r1 := row_move (fun h_ => h_) h.r1 (fun b hs2 hb2 => far b (R_hlt (h.r1 hs2) b hb2) (fun e => by obtain ⟨q1, q2⟩ := Kd.R_typed (h.r1 hs2) b hb2; obtain ⟨q3, q4⟩ := hty b e.symm; rw [q2] at q4; injection q4 with q4; injection q4 with _ q4; exact absurd q4 (by decide)))
  r2 := fun _ => by rw [hc, if_pos (show (upd s 26 true) (18 + 8) = true from rfl)]; exact hr
  r3 := row_move (fun h_ => h_) h.r3 (fun b hs2 hb2 => far b (R_hlt (h.r3 hs2) b hb2) (fun e => by obtain ⟨q1, q2⟩ := Kd.R_typed (h.r3 hs2) b hb2; obtain ⟨q3, q4⟩ := hty b e.symm; rw [q2] at q4; injection q4 with q4; injection q4 with _ q4; exact absurd q4 (by decide)))
  r4 := row_move (fun h_ => h_) h.r4 (fun b hs2 hb2 => far b (R_hlt (h.r4 hs2) b hb2) (fun e => by obtain ⟨q1, q2⟩ := Kd.R_typed (h.r4 hs2) b hb2; obtain ⟨q3, q4⟩ := hty b e.symm; rw [q2] at q4; injection q4 with q4; injection q4 with _ q4; exact absurd q4 (by decide)))
  o0 := h.o0
  o1 := h.o1
  o2 := fun _ => h0
  o3 := h.o3
  o4 := h.o4
  d := h.d
  al := fun hs => by
   obtain ⟨g3, e1, e2, e3⟩ := h.al hs
   exact ⟨g3, e1, blk_grown e2 hg (Kd.R_ne hR e2 (by decide)), e3⟩
  bd := fun hh => by have := (h.bd hh).2; simp [hs] at this }
theorem FI.append3 {v : Value} (h : FI w0 g1 g2 c1 c2 x0 x1 x2 x3 x4 s f w) (h0 : s 27 = true) (hs : s 35 = false) (hB : Below w0.heap.size w0 w1) (hr : Kd.R Kd.bool 4 w1 w0.heap.size (fun _ => True) v x3) (hg : w.grownBy w1 (f 27).ownBlock) (hat : v.ownBlock = (f 27).ownBlock ∨ ∃ b, v.ownBlock = some b ∧ w.heap.size ≤ b) :
  FI w0 g1 g2 c1 c2 x0 x1 x2 x3 x4 (upd s 35 true) (upd f 35 v) w1 := by
 have hc0 : cur s f 27 = f 27 := by unfold cur; rw [if_neg (by rw [hs]; decide)]
 have hR := h.r3 h0
 rw [hc0] at hR
 have hty := Kd.R_typed hR
 have hc : cur (upd s 35 true) (upd f 35 v) 27 = v := by unfold cur; rw [if_pos (show (upd s 35 true) (27 + 8) = true from rfl)]; rfl
 have far : ∀ k, k < w.heap.size → some k ≠ (f 27).ownBlock → w1.heap[k]? = w.heap[k]? := fun k hk hn => hg.block k hk hn
 exact {
  below := hB, b1 := blk_grown h.b1 hg (Kd.R_ne hR h.b1 (by decide)), b2 := blk_grown h.b2 hg (Kd.R_ne hR h.b2 (by decide))
  r0 := row_move (fun h_ => h_) h.r0 (fun b hs2 hb2 => far b (R_hlt (h.r0 hs2) b hb2) (fun e => by obtain ⟨q1, q2⟩ := Kd.R_typed (h.r0 hs2) b hb2; obtain ⟨q3, q4⟩ := hty b e.symm; rw [q2] at q4; injection q4 with q4; injection q4 with _ q4; exact absurd q4 (by decide)))
  r1 := row_move (fun h_ => h_) h.r1 (fun b hs2 hb2 => far b (R_hlt (h.r1 hs2) b hb2) (fun e => by obtain ⟨q1, q2⟩ := Kd.R_typed (h.r1 hs2) b hb2; obtain ⟨q3, q4⟩ := hty b e.symm; rw [q2] at q4; injection q4 with q4; injection q4 with _ q4; exact absurd q4 (by decide)))
  r2 := row_move (fun h_ => h_) h.r2 (fun b hs2 hb2 => far b (R_hlt (h.r2 hs2) b hb2) (fun e => by obtain ⟨q1, q2⟩ := Kd.R_typed (h.r2 hs2) b hb2; obtain ⟨q3, q4⟩ := hty b e.symm; rw [q2] at q4; injection q4 with q4; injection q4 with _ q4; exact absurd q4 (by decide)))
  r3 := fun _ => by rw [hc, if_pos (show (upd s 35 true) (27 + 8) = true from rfl)]; exact hr
  r4 := row_move (fun h_ => h_) h.r4 (fun b hs2 hb2 => far b (R_hlt (h.r4 hs2) b hb2) (fun e => by have hd := h.d h0 hs2; rw [hc0] at hd; exact hd b e.symm hb2))
  o0 := h.o0
  o1 := h.o1
  o2 := h.o2
  o3 := fun _ => h0
  o4 := h.o4
  d := fun h1 h2 => by
   rw [hc]
   have hd := h.d h1 h2
   rw [hc0] at hd
   obtain ⟨_, inner, ho, _⟩ := h.r4 h2
   exact ne_append hd hat ho
  al := fun hs => by
   obtain ⟨g3, e1, e2, e3⟩ := h.al hs
   exact ⟨g3, e1, blk_grown e2 hg (Kd.R_ne hR e2 (by decide)), e3⟩
  bd := fun hh => by have := (h.bd hh).2; simp [hs] at this }
theorem FI.append4 {v : Value} (h : FI w0 g1 g2 c1 c2 x0 x1 x2 x3 x4 s f w) (h0 : s 36 = true) (hs : s 44 = false) (hB : Below w0.heap.size w0 w1) (hr : Kd.R Kd.bool 4 w1 w0.heap.size (fun _ => True) v x4) (hg : w.grownBy w1 (f 36).ownBlock) (hat : v.ownBlock = (f 36).ownBlock ∨ ∃ b, v.ownBlock = some b ∧ w.heap.size ≤ b) :
  FI w0 g1 g2 c1 c2 x0 x1 x2 x3 x4 (upd s 44 true) (upd f 44 v) w1 := by
 have hc0 : cur s f 36 = f 36 := by unfold cur; rw [if_neg (by rw [hs]; decide)]
 have hR := h.r4 h0
 rw [hc0] at hR
 have hty := Kd.R_typed hR
 have hc : cur (upd s 44 true) (upd f 44 v) 36 = v := by unfold cur; rw [if_pos (show (upd s 44 true) (36 + 8) = true from rfl)]; rfl
 have far : ∀ k, k < w.heap.size → some k ≠ (f 36).ownBlock → w1.heap[k]? = w.heap[k]? := fun k hk hn => hg.block k hk hn
 exact {
  below := hB, b1 := blk_grown h.b1 hg (Kd.R_ne hR h.b1 (by decide)), b2 := blk_grown h.b2 hg (Kd.R_ne hR h.b2 (by decide))
  r0 := row_move (fun h_ => h_) h.r0 (fun b hs2 hb2 => far b (R_hlt (h.r0 hs2) b hb2) (fun e => by obtain ⟨q1, q2⟩ := Kd.R_typed (h.r0 hs2) b hb2; obtain ⟨q3, q4⟩ := hty b e.symm; rw [q2] at q4; injection q4 with q4; injection q4 with _ q4; exact absurd q4 (by decide)))
  r1 := row_move (fun h_ => h_) h.r1 (fun b hs2 hb2 => far b (R_hlt (h.r1 hs2) b hb2) (fun e => by obtain ⟨q1, q2⟩ := Kd.R_typed (h.r1 hs2) b hb2; obtain ⟨q3, q4⟩ := hty b e.symm; rw [q2] at q4; injection q4 with q4; injection q4 with _ q4; exact absurd q4 (by decide)))
  r2 := row_move (fun h_ => h_) h.r2 (fun b hs2 hb2 => far b (R_hlt (h.r2 hs2) b hb2) (fun e => by obtain ⟨q1, q2⟩ := Kd.R_typed (h.r2 hs2) b hb2; obtain ⟨q3, q4⟩ := hty b e.symm; rw [q2] at q4; injection q4 with q4; injection q4 with _ q4; exact absurd q4 (by decide)))
  r3 := row_move (fun h_ => h_) h.r3 (fun b hs2 hb2 => far b (R_hlt (h.r3 hs2) b hb2) (fun e => by have hd := h.d hs2 h0; rw [hc0] at hd; exact hd b hb2 e.symm))
  r4 := fun _ => by rw [hc, if_pos (show (upd s 44 true) (36 + 8) = true from rfl)]; exact hr
  o0 := h.o0
  o1 := h.o1
  o2 := h.o2
  o3 := h.o3
  o4 := fun _ => h0
  d := fun h1 h2 => by
   rw [hc]
   have hd := h.d h1 h2
   rw [hc0] at hd
   obtain ⟨_, inner, ho, _⟩ := h.r3 h1
   exact ne_append' hd hat ho
  al := fun hs => by
   obtain ⟨g3, e1, e2, e3⟩ := h.al hs
   exact ⟨g3, e1, blk_grown e2 hg (Kd.R_ne hR e2 (by decide)), e3⟩
  bd := fun hh => by have := (h.bd hh).2; simp [hs] at this }
theorem FI.alloc (h : FI w0 g1 g2 c1 c2 x0 x1 x2 x3 x4 s f w) (hb : Below w.heap.size w w1) {g3 : Nat} (he : w1.heap[g3]? = some (.cells #[.slice none 0 0, .slice none 0 0, .slice none 0 0, .slice none 0 0, .slice none 0 0] 27 (0, 0))) (h0 : w0.heap.size ≤ g3) (h2 : g2 < g3) :
  FI w0 g1 g2 c1 c2 x0 x1 x2 x3 x4 (upd s 46 true) (upd f 46 (.pointer (some ⟨g3, 0, none⟩))) w1 := by
 have q := h.step hb
 exact { below := q.below, b1 := q.b1, b2 := q.b2, r0 := q.r0, r1 := q.r1, r2 := q.r2, r3 := q.r3, r4 := q.r4, o0 := q.o0, o1 := q.o1, o2 := q.o2, o3 := q.o3, o4 := q.o4, d := q.d, al := fun _ => ⟨g3, rfl, he, h0, h2⟩, bd := q.bd }
theorem FI.build (h : FI w0 g1 g2 c1 c2 x0 x1 x2 x3 x4 s f w) (h1 : s 8 = true) (h2 : s 17 = true) (h3 : s 26 = true) (h4 : s 35 = true) (h5 : s 44 = true) :
  FI w0 g1 g2 c1 c2 x0 x1 x2 x3 x4 (upd s 45 true) (upd f 45 (.agg #[f 8, f 17, f 26, f 35, f 44])) w :=
 { below := h.below, b1 := h.b1, b2 := h.b2, r0 := h.r0, r1 := h.r1, r2 := h.r2, r3 := h.r3, r4 := h.r4, o0 := h.o0, o1 := h.o1, o2 := h.o2, o3 := h.o3, o4 := h.o4, d := h.d, al := h.al, bd := fun _ => ⟨rfl, h1, h2, h3, h4, h5⟩ }
end
end Go.Proofs.Ythobnoknbdljgaa.Hand
end
section
namespace Go.Proofs.Ythobnoknbdljgaa.Hand
open Go.RowKit Go.Proofs.YthobnoknbdljgaaW.PrintWords Go.Proofs.YthobnoknbdljgaaW.PrintLast Go.Proofs.YthobnoknbdljgaaW.PrintMore PB0
attribute [local irreducible] setL putL
attribute [local go_sem] max2_int min2_int max_two min_two
set_option linter.unusedVariables false
set_option linter.unusedSimpArgs false
theorem cut0 (A : Option Addr) (n c m : Nat) (h2 : m ≤ c) : ∀ W : World, (Instr.slice 22 (.slice A n c) none (some (.int .i64 (m : Int))) none).run Try.prog W = .ok (.slice A m c) W := by
 intro W
 have hel : Try.prog.elem 22 = 56 := by simp [Program.elem, Try.underlying22]
 obtain ⟨i0, hi, hz0, hz1, hz2⟩ := info_parts info_kind
 rw [run_slice_h W 22 A n c (by rw [hel]; exact Try.underlying22) .i64 (m : Int) (by omega) (by omega), hel]
 have hs : (sizeOf 56).run Try.prog W = .ok 3 W := by simp [sizeOf, typeInfo, hi, hz1]
 rw [hs]
 simp only [Result.andThen, sliced, add0, Nat.sub_zero, ite_self, Int.toNat_natCast]
theorem cut1 (A : Option Addr) (n c m : Nat) (h2 : m ≤ c) : ∀ W : World, (Instr.slice 23 (.slice A n c) none (some (.int .i64 (m : Int))) none).run Try.prog W = .ok (.slice A m c) W := by
 intro W
 have hel : Try.prog.elem 23 = 54 := by simp [Program.elem, Try.underlying23]
 obtain ⟨i0, hi, hz0, hz1, hz2⟩ := info_parts info_jump
 rw [run_slice_h W 23 A n c (by rw [hel]; exact Try.underlying23) .i64 (m : Int) (by omega) (by omega), hel]
 have hs : (sizeOf 54).run Try.prog W = .ok 2 W := by simp [sizeOf, typeInfo, hi, hz1]
 rw [hs]
 simp only [Result.andThen, sliced, add0, Nat.sub_zero, ite_self, Int.toNat_natCast]
theorem cut2 (A : Option Addr) (n c m : Nat) (h2 : m ≤ c) : ∀ W : World, (Instr.slice 24 (.slice A n c) none (some (.int .i64 (m : Int))) none).run Try.prog W = .ok (.slice A m c) W := by
 intro W
 have hel : Try.prog.elem 24 = 67 := by simp [Program.elem, Try.underlying24]
 obtain ⟨i0, hi, hz0, hz1, hz2⟩ := info_parts info_leap
 rw [run_slice_h W 24 A n c (by rw [hel]; exact Try.underlying24) .i64 (m : Int) (by omega) (by omega), hel]
 have hs : (sizeOf 67).run Try.prog W = .ok 2 W := by simp [sizeOf, typeInfo, hi, hz1]
 rw [hs]
 simp only [Result.andThen, sliced, add0, Nat.sub_zero, ite_self, Int.toNat_natCast]
theorem cut3 (A : Option Addr) (n c m : Nat) (h2 : m ≤ c) : ∀ W : World, (Instr.slice 25 (.slice A n c) none (some (.int .i64 (m : Int))) none).run Try.prog W = .ok (.slice A m c) W := by
 intro W
 have hel : Try.prog.elem 25 = 4 := by simp [Program.elem, Try.underlying25]
 obtain ⟨i0, hi, hz0, hz1, hz2⟩ := info_parts PE.info4
 rw [run_slice_h W 25 A n c (by rw [hel]; exact Try.underlying25) .i64 (m : Int) (by omega) (by omega), hel]
 have hs : (sizeOf 4).run Try.prog W = .ok 1 W := by simp [sizeOf, typeInfo, hi, hz1]
 rw [hs]
 simp only [Result.andThen, sliced, add0, Nat.sub_zero, ite_self, Int.toNat_natCast]
def fL : List (Nat × Nat) := [(5, 0), (13, 8), (14, 9), (22, 17), (23, 18), (31, 26), (32, 27), (40, 35), (41, 36), (49, 44), (50, 45), (3, 46)]
def fI : List Nat := [0, 8, 9, 17, 18, 26, 27, 35, 36, 44, 45, 46, 47]
theorem name_frame {P : Program} {ops : Array Oper} {Q : Exit → Act → World → Prop} {md : Region.Mode} {S : World → Prop} {z n : Nat} {ls : Array Bool} {a : Act} {w : World} (h : ∀ l0 a0, l0 = ls → a0 = a → wpZ P md ops Q S z n l0 a0 w) : wpZ P md ops Q S z n ls a w := h _ _ rfl rfl
theorem R_put5 {α : Type} {d : Kd α} {e B t g : Nat} {xs : List α} {v v0 v1 v2 v3 v4 : Value} {cs : Array Value} {W : World} (hd : ∀ {w : World} {ok1 ok2 : Nat → Prop} {x : α} {cs : List Value}, d.M w B ok1 x cs → d.M w B ok2 x cs) (hR : d.R e W B (fun _ => True) v xs) (hb3 : W.heap[g]? = some (.cells cs t (0, 0))) (hne : e ≠ t) :
  d.R e (((((W.setCell ⟨g, 0, none⟩ v0).setCell ⟨g, 1, none⟩ v1).setCell ⟨g, 2, none⟩ v2).setCell ⟨g, 3, none⟩ v3).setCell ⟨g, 4, none⟩ v4) B (fun _ => True) v xs := by
 have hty := Kd.R_typed hR
 refine Kd.R_flat hd (Kd.R_move (Kd.R_flat (ok' := fun k => v.ownBlock = some k) hd hR (fun k hk _ => hk)) (fun k hk => ?_)) (fun _ _ _ => trivial)
 obtain ⟨q1, q2⟩ := hty k hk
 have hk2 : k ≠ g := by
  rintro rfl
  rw [hb3] at q2
  injection q2 with q2
  injection q2 with _ q3 _
  exact hne q3.symm
 exact (put5_far q2 hk2).trans q2.symm
theorem skip_step {P : Program} {ops : Array Oper} {o : Oper} {a : Act} {Kc : Act → World → Prop} {Q : Exit → Act → World → Prop} {W w1 : World} (hw : Region.wanted o (yielded ops a.tmps) = true) (hrun : (execOp a.eval o).run P W = .ok .skip w1) (h : Kc (a.put o.dst undef) w1) : if Region.wanted o (yielded ops a.tmps) = true then Oper.wp P o a W Kc Q else Kc (a.put o.dst undef) W := by
 rw [if_pos hw]
 unfold Oper.wp
 rw [hrun]
 exact h
theorem not_mem_of_eq {l : List Nat} {i : Nat} (h : i ∈ l) (e : l = []) : False := by subst e; cases h
def cutK (x : S56) : S56 := ⟨x.f0, x.f1, x.f2.extract 0 (min x.f2.size 60)⟩
theorem cutS (s : ByteArray) (m : Nat) (h : m ≤ s.size) : ∀ W : World, (Instr.slice 9 (.string s) none (some (.int .i64 (m : Int))) none).run Try.prog W = .ok (.string (s.extract 0 m)) W := by
 intro W
 have h0 : (0 : Int) ≤ (m : Int) := by omega
 have h1 : (m : Int) ≤ (s.size : Int) := by omega
 simp [Instr.slice, run_underlying Try.underlying9, Instr.sliceBounds, Instr.sliceBound, asIntOf, h0, h1, h, go_sem]
def cutTo (k : Nat) (xs : List S56) : List S56 := (xs.take k).map cutK ++ xs.drop k
theorem cutTo_len (k : Nat) (xs : List S56) : (cutTo k xs).length = xs.length := by
 unfold cutTo
 rw [List.length_append, List.length_map, List.length_take, List.length_drop]
 omega
theorem cutTo_zero (xs : List S56) : cutTo 0 xs = xs := by simp [cutTo]
theorem cutTo_all (xs : List S56) : cutTo xs.length xs = xs.map cutK := by simp [cutTo]
theorem cutTo_rd (k : Nat) (xs : List S56) (h : k < xs.length) : rd_T56 (cutTo k xs) (k : Int) = xs[k] := by
 unfold rd_T56 cutTo
 rw [Int.toNat_natCast, List.getD_eq_getElem?_getD, List.getElem?_append_right (by simp; omega)]
 simp [Nat.min_eq_left (Nat.le_of_lt h), h]
theorem cutTo_set (k : Nat) (xs : List S56) (h : k < xs.length) : (cutTo k xs).set k (cutK xs[k]) = cutTo (k + 1) xs := by
 unfold cutTo
 have hl : ((xs.take k).map cutK).length = k := by rw [List.length_map, List.length_take]; omega
 rw [List.set_append_right _ _ (by omega), hl, Nat.sub_self, List.drop_eq_getElem_cons h, List.set_cons_zero, List.take_succ_eq_append_getElem h, List.map_append, List.append_assoc]
 rfl
theorem kind_at {e base g n cap : Nat} {W : World} {xs : List S56} (h : k56.R e W base (fun _ => True) (.slice (some ⟨g, 0, none⟩) n cap) xs) (i : Nat) (hi : i < n) :
  W.cell? ⟨g, i * 3 + 2, none⟩ = some (.string (rd_T56 xs (i : Int)).f2) := by
 obtain ⟨c, hcl, hM, hcc, hf⟩ := Kd.R_elem h z56 (i : Int) (by omega) (by omega)
 have hc := k56_openM hM
 rw [Int.toNat_natCast] at hcc
 have hs : k56.sz = 3 := rfl
 rw [hs] at hcc
 subst hc
 exact hcc 2 _ rfl
set_option maxHeartbeats 4000000 in
set_option maxRecDepth 100000 in
theorem few_walk (A0_0 : Option Addr) (c0_0 : Nat) (l0_0 : List S56) (A0_1 : Option Addr) (c0_1 : Nat) (l0_1 : List S54) (A0_2 : Option Addr) (c0_2 : Nat) (l0_2 : List S67) (A0_3 : Option Addr) (c0_3 : Nat) (l0_3 : List Bool) (A0_4 : Option Addr) (c0_4 : Nat) (l0_4 : List Bool) (w : World) (hr0_0 : Kd.C k56 w A0_0 l0_0.length l0_0) (hc0_0 : l0_0.length ≤ c0_0) (hr0_1 : Kd.C k54 w A0_1 l0_1.length l0_1) (hc0_1 : l0_1.length ≤ c0_1) (hr0_2 : Kd.C k67 w A0_2 l0_2.length l0_2) (hc0_2 : l0_2.length ≤ c0_2) (hr0_3 : Kd.C Kd.bool w A0_3 l0_3.length l0_3) (hc0_3 : l0_3.length ≤ c0_3) (hr0_4 : Kd.C Kd.bool w A0_4 l0_4.length l0_4) (hc0_4 : l0_4.length ≤ c0_4) :
  Calls Try.prog 12 #[.agg #[.slice A0_0 l0_0.length c0_0, .slice A0_1 l0_1.length c0_1, .slice A0_2 l0_2.length c0_2, .slice A0_3 l0_3.length c0_3, .slice A0_4 l0_4.length c0_4]] w fun e w' => ∃ v0_ v1_ v2_ v3_ v4_ : Value, e = .returned (.agg #[v0_, v1_, v2_, v3_, v4_]) ∧ Kd.R k56 56 w' w.heap.size (fun _ => True) v0_ ((l0_0.take 40).map cutK) ∧ Kd.R k54 54 w' w.heap.size (fun _ => True) v1_ (l0_1.take 100) ∧ Kd.R k67 67 w' w.heap.size (fun _ => True) v2_ (l0_2.take 50) ∧ Kd.R Kd.bool 4 w' w.heap.size (fun k_ => some k_ ≠ (v4_ : Value).ownBlock) v3_ (l0_3.take 40) ∧ Kd.R Kd.bool 4 w' w.heap.size (fun k_ => some k_ ≠ (v3_ : Value).ownBlock) v4_ (l0_4.take 40) ∧ Below w.heap.size w w' := by
 have hu27 := Try.underlying27
 have HB := Aside0.mk (Below.refl w.heap.size w)
 obtain ⟨m0, hm0⟩ : ∃ x, x = min l0_0.length 40 := ⟨_, rfl⟩
 have HX0 := Aside0.mk (show Kd.C k56 w A0_0 m0 (l0_0.take 40) by
  have h := Kd.C_take (m := m0) hr0_0 (by omega)
  rw [List.length_take, show min m0 l0_0.length = m0 by omega] at h
  have e : l0_0.take m0 = l0_0.take 40 := by rw [hm0, Nat.min_comm, ← List.take_take, List.take_length]
  rwa [e] at h)
 have HM0 := Aside0.mk (show m0 ≤ 40 by omega)
 have q0 : (if (40 : Int) < (l0_0.length : Int) then (40 : Int) else (l0_0.length : Int)) = (m0 : Int) := by split <;> omega
 have p0 := cut0 A0_0 l0_0.length c0_0 m0 (by omega)
 obtain ⟨n0, hn0⟩ : ∃ x, x = l0_0.length := ⟨_, rfl⟩
 rw [← hn0] at q0 p0
 have HN0 := Aside0.mk hn0
 clear hr0_0 hc0_0 hm0
 obtain ⟨m1, hm1⟩ : ∃ x, x = min l0_1.length 100 := ⟨_, rfl⟩
 have HX1 := Aside0.mk (show Kd.C k54 w A0_1 m1 (l0_1.take 100) by
  have h := Kd.C_take (m := m1) hr0_1 (by omega)
  rw [List.length_take, show min m1 l0_1.length = m1 by omega] at h
  have e : l0_1.take m1 = l0_1.take 100 := by rw [hm1, Nat.min_comm, ← List.take_take, List.take_length]
  rwa [e] at h)
 have HM1 := Aside0.mk (show m1 ≤ 100 by omega)
 have q1 : (if (100 : Int) < (l0_1.length : Int) then (100 : Int) else (l0_1.length : Int)) = (m1 : Int) := by split <;> omega
 have p1 := cut1 A0_1 l0_1.length c0_1 m1 (by omega)
 obtain ⟨n1, hn1⟩ : ∃ x, x = l0_1.length := ⟨_, rfl⟩
 rw [← hn1] at q1 p1
 have HN1 := Aside0.mk hn1
 clear hr0_1 hc0_1 hm1
 obtain ⟨m2, hm2⟩ : ∃ x, x = min l0_2.length 50 := ⟨_, rfl⟩
 have HX2 := Aside0.mk (show Kd.C k67 w A0_2 m2 (l0_2.take 50) by
  have h := Kd.C_take (m := m2) hr0_2 (by omega)
  rw [List.length_take, show min m2 l0_2.length = m2 by omega] at h
  have e : l0_2.take m2 = l0_2.take 50 := by rw [hm2, Nat.min_comm, ← List.take_take, List.take_length]
  rwa [e] at h)
 have HM2 := Aside0.mk (show m2 ≤ 50 by omega)
 have q2 : (if (50 : Int) < (l0_2.length : Int) then (50 : Int) else (l0_2.length : Int)) = (m2 : Int) := by split <;> omega
 have p2 := cut2 A0_2 l0_2.length c0_2 m2 (by omega)
 obtain ⟨n2, hn2⟩ : ∃ x, x = l0_2.length := ⟨_, rfl⟩
 rw [← hn2] at q2 p2
 have HN2 := Aside0.mk hn2
 clear hr0_2 hc0_2 hm2
 obtain ⟨m3, hm3⟩ : ∃ x, x = min l0_3.length 40 := ⟨_, rfl⟩
 have HX3 := Aside0.mk (show Kd.C Kd.bool w A0_3 m3 (l0_3.take 40) by
  have h := Kd.C_take (m := m3) hr0_3 (by omega)
  rw [List.length_take, show min m3 l0_3.length = m3 by omega] at h
  have e : l0_3.take m3 = l0_3.take 40 := by rw [hm3, Nat.min_comm, ← List.take_take, List.take_length]
  rwa [e] at h)
 have HM3 := Aside0.mk (show m3 ≤ 40 by omega)
 have q3 : (if (40 : Int) < (l0_3.length : Int) then (40 : Int) else (l0_3.length : Int)) = (m3 : Int) := by split <;> omega
 have p3 := cut3 A0_3 l0_3.length c0_3 m3 (by omega)
 obtain ⟨n3, hn3⟩ : ∃ x, x = l0_3.length := ⟨_, rfl⟩
 rw [← hn3] at q3 p3
 have HN3 := Aside0.mk hn3
 clear hr0_3 hc0_3 hm3
 obtain ⟨m4, hm4⟩ : ∃ x, x = min l0_4.length 40 := ⟨_, rfl⟩
 have HX4 := Aside0.mk (show Kd.C Kd.bool w A0_4 m4 (l0_4.take 40) by
  have h := Kd.C_take (m := m4) hr0_4 (by omega)
  rw [List.length_take, show min m4 l0_4.length = m4 by omega] at h
  have e : l0_4.take m4 = l0_4.take 40 := by rw [hm4, Nat.min_comm, ← List.take_take, List.take_length]
  rwa [e] at h)
 have HM4 := Aside0.mk (show m4 ≤ 40 by omega)
 have q4 : (if (40 : Int) < (l0_4.length : Int) then (40 : Int) else (l0_4.length : Int)) = (m4 : Int) := by split <;> omega
 have p4 := cut3 A0_4 l0_4.length c0_4 m4 (by omega)
 obtain ⟨n4, hn4⟩ : ∃ x, x = l0_4.length := ⟨_, rfl⟩
 rw [← hn4] at q4 p4
 have HN4 := Aside0.mk hn4
 clear hr0_4 hc0_4 hm4
 rw [← hn0, ← hn1, ← hn2, ← hn3, ← hn4]
 clear hn0 hn1 hn2 hn3 hn4
 go_enter Try.func12, Try.ntmps12
 go_upto_region 1 with (first
  | ((with_reducible refine gate_dst (N := 1) rfl ?_); refine box_event ?hg (N := 1) ?hd (cs := #[.slice A0_0 n0 c0_0, .slice A0_1 n1 c0_1, .slice A0_2 n2 c0_2, .slice A0_3 n3 c0_3, .slice A0_4 n4 c0_4]) (t := 27) ?hr ?_; (case hd => rfl); (case hg => rfl); (case hr => first | (go_simp; done) | (go_simp; rfl)); intro g1 hg w1 hbox hb; have Bg1 := Aside0.mk hbox; have GEg1 := Aside0.mk (show w.heap.size ≤ g1 by first | omega | (have h_ := below_size HB.out; omega)); clear hbox hg; have n0_ := Aside0.mk (below_step HB.out hb); clear HB; have HB := n0_; clear n0_ hb)
  | ((with_reducible refine gate_dst (N := 2) rfl ?_); refine box_event ?hg (N := 2) ?hd (cs := #[.slice none 0 0, .slice none 0 0, .slice none 0 0, .slice none 0 0, .slice none 0 0]) (t := 27) ?hr ?_; (case hd => rfl); (case hg => rfl); (case hr => first | (go_simp; done) | (go_simp; rfl)); intro g2 hg w2 hbox hb; have Bg2 := Aside0.mk hbox; have GEg2 := Aside0.mk (show w.heap.size ≤ g2 by first | omega | (have h_ := below_size HB.out; omega)); have NE12 := Aside0.mk (show g1 < g2 by have := blk_lt Bg1.out; omega); have HG2 := Aside0.mk (show w.heap.size ≤ g2 by have := HB.out.size; omega); clear hbox hg; have n0_ := Aside0.mk (blk_below Bg1.out hb); have n1_ := Aside0.mk (below_step HB.out hb); clear Bg1 HB; have Bg1 := n0_; have HB := n1_; clear n0_ n1_ hb))
 have B1 := Bg1
 have B2 := Bg2
 clear Bg1 Bg2
 refine region_Z 99 (fun w' => w'.cell? ⟨g1, 0, none⟩ = some (.slice A0_0 n0 c0_0) ∧ w'.cell? ⟨g1, 1, none⟩ = some (.slice A0_1 n1 c0_1) ∧ w'.cell? ⟨g1, 2, none⟩ = some (.slice A0_2 n2 c0_2) ∧ w'.cell? ⟨g1, 3, none⟩ = some (.slice A0_3 n3 c0_3) ∧ w'.cell? ⟨g1, 4, none⟩ = some (.slice A0_4 n4 c0_4)) (by kernel_rfl) ?_
 refine zt 1 (⟨(blk_cell B1.out 0).trans rfl, (blk_cell B1.out 1).trans rfl, (blk_cell B1.out 2).trans rfl, (blk_cell B1.out 3).trans rfl, (blk_cell B1.out 4).trans rfl⟩) ?_; refine zt 2 (⟨(blk_cell B1.out 0).trans rfl, (blk_cell B1.out 1).trans rfl, (blk_cell B1.out 2).trans rfl, (blk_cell B1.out 3).trans rfl, (blk_cell B1.out 4).trans rfl⟩) ?_; refine zt 3 (⟨(blk_cell B1.out 0).trans rfl, (blk_cell B1.out 1).trans rfl, (blk_cell B1.out 2).trans rfl, (blk_cell B1.out 3).trans rfl, (blk_cell B1.out 4).trans rfl⟩) ?_; refine zt 4 (⟨(blk_cell B1.out 0).trans rfl, (blk_cell B1.out 1).trans rfl, (blk_cell B1.out 2).trans rfl, (blk_cell B1.out 3).trans rfl, (blk_cell B1.out 4).trans rfl⟩) ?_; refine zt 5 (⟨(blk_cell B1.out 0).trans rfl, (blk_cell B1.out 1).trans rfl, (blk_cell B1.out 2).trans rfl, (blk_cell B1.out 3).trans rfl, (blk_cell B1.out 4).trans rfl⟩) ?_; refine zt 6 (⟨(blk_cell B1.out 0).trans rfl, (blk_cell B1.out 1).trans rfl, (blk_cell B1.out 2).trans rfl, (blk_cell B1.out 3).trans rfl, (blk_cell B1.out 4).trans rfl⟩) ?_; refine zt 7 (⟨(blk_cell B1.out 0).trans rfl, (blk_cell B1.out 1).trans rfl, (blk_cell B1.out 2).trans rfl, (blk_cell B1.out 3).trans rfl, (blk_cell B1.out 4).trans rfl⟩) ?_; refine zt 10 (⟨(blk_cell B1.out 0).trans rfl, (blk_cell B1.out 1).trans rfl, (blk_cell B1.out 2).trans rfl, (blk_cell B1.out 3).trans rfl, (blk_cell B1.out 4).trans rfl⟩) ?_; refine zt 11 (⟨(blk_cell B1.out 0).trans rfl, (blk_cell B1.out 1).trans rfl, (blk_cell B1.out 2).trans rfl, (blk_cell B1.out 3).trans rfl, (blk_cell B1.out 4).trans rfl⟩) ?_; refine zt 12 (⟨(blk_cell B1.out 0).trans rfl, (blk_cell B1.out 1).trans rfl, (blk_cell B1.out 2).trans rfl, (blk_cell B1.out 3).trans rfl, (blk_cell B1.out 4).trans rfl⟩) ?_; refine zt 13 (⟨(blk_cell B1.out 0).trans rfl, (blk_cell B1.out 1).trans rfl, (blk_cell B1.out 2).trans rfl, (blk_cell B1.out 3).trans rfl, (blk_cell B1.out 4).trans rfl⟩) ?_; refine zt 14 (⟨(blk_cell B1.out 0).trans rfl, (blk_cell B1.out 1).trans rfl, (blk_cell B1.out 2).trans rfl, (blk_cell B1.out 3).trans rfl, (blk_cell B1.out 4).trans rfl⟩) ?_; refine zt 15 (⟨(blk_cell B1.out 0).trans rfl, (blk_cell B1.out 1).trans rfl, (blk_cell B1.out 2).trans rfl, (blk_cell B1.out 3).trans rfl, (blk_cell B1.out 4).trans rfl⟩) ?_; refine zt 16 (⟨(blk_cell B1.out 0).trans rfl, (blk_cell B1.out 1).trans rfl, (blk_cell B1.out 2).trans rfl, (blk_cell B1.out 3).trans rfl, (blk_cell B1.out 4).trans rfl⟩) ?_; refine zt 19 (⟨(blk_cell B1.out 0).trans rfl, (blk_cell B1.out 1).trans rfl, (blk_cell B1.out 2).trans rfl, (blk_cell B1.out 3).trans rfl, (blk_cell B1.out 4).trans rfl⟩) ?_; refine zt 20 (⟨(blk_cell B1.out 0).trans rfl, (blk_cell B1.out 1).trans rfl, (blk_cell B1.out 2).trans rfl, (blk_cell B1.out 3).trans rfl, (blk_cell B1.out 4).trans rfl⟩) ?_; refine zt 21 (⟨(blk_cell B1.out 0).trans rfl, (blk_cell B1.out 1).trans rfl, (blk_cell B1.out 2).trans rfl, (blk_cell B1.out 3).trans rfl, (blk_cell B1.out 4).trans rfl⟩) ?_; refine zt 22 (⟨(blk_cell B1.out 0).trans rfl, (blk_cell B1.out 1).trans rfl, (blk_cell B1.out 2).trans rfl, (blk_cell B1.out 3).trans rfl, (blk_cell B1.out 4).trans rfl⟩) ?_; refine zt 23 (⟨(blk_cell B1.out 0).trans rfl, (blk_cell B1.out 1).trans rfl, (blk_cell B1.out 2).trans rfl, (blk_cell B1.out 3).trans rfl, (blk_cell B1.out 4).trans rfl⟩) ?_; refine zt 24 (⟨(blk_cell B1.out 0).trans rfl, (blk_cell B1.out 1).trans rfl, (blk_cell B1.out 2).trans rfl, (blk_cell B1.out 3).trans rfl, (blk_cell B1.out 4).trans rfl⟩) ?_; refine zt 25 (⟨(blk_cell B1.out 0).trans rfl, (blk_cell B1.out 1).trans rfl, (blk_cell B1.out 2).trans rfl, (blk_cell B1.out 3).trans rfl, (blk_cell B1.out 4).trans rfl⟩) ?_; refine zt 28 (⟨(blk_cell B1.out 0).trans rfl, (blk_cell B1.out 1).trans rfl, (blk_cell B1.out 2).trans rfl, (blk_cell B1.out 3).trans rfl, (blk_cell B1.out 4).trans rfl⟩) ?_; refine zt 29 (⟨(blk_cell B1.out 0).trans rfl, (blk_cell B1.out 1).trans rfl, (blk_cell B1.out 2).trans rfl, (blk_cell B1.out 3).trans rfl, (blk_cell B1.out 4).trans rfl⟩) ?_; refine zt 30 (⟨(blk_cell B1.out 0).trans rfl, (blk_cell B1.out 1).trans rfl, (blk_cell B1.out 2).trans rfl, (blk_cell B1.out 3).trans rfl, (blk_cell B1.out 4).trans rfl⟩) ?_; refine zt 31 (⟨(blk_cell B1.out 0).trans rfl, (blk_cell B1.out 1).trans rfl, (blk_cell B1.out 2).trans rfl, (blk_cell B1.out 3).trans rfl, (blk_cell B1.out 4).trans rfl⟩) ?_; refine zt 32 (⟨(blk_cell B1.out 0).trans rfl, (blk_cell B1.out 1).trans rfl, (blk_cell B1.out 2).trans rfl, (blk_cell B1.out 3).trans rfl, (blk_cell B1.out 4).trans rfl⟩) ?_; refine zt 33 (⟨(blk_cell B1.out 0).trans rfl, (blk_cell B1.out 1).trans rfl, (blk_cell B1.out 2).trans rfl, (blk_cell B1.out 3).trans rfl, (blk_cell B1.out 4).trans rfl⟩) ?_; refine zt 34 (⟨(blk_cell B1.out 0).trans rfl, (blk_cell B1.out 1).trans rfl, (blk_cell B1.out 2).trans rfl, (blk_cell B1.out 3).trans rfl, (blk_cell B1.out 4).trans rfl⟩) ?_; refine zt 37 (⟨(blk_cell B1.out 0).trans rfl, (blk_cell B1.out 1).trans rfl, (blk_cell B1.out 2).trans rfl, (blk_cell B1.out 3).trans rfl, (blk_cell B1.out 4).trans rfl⟩) ?_; refine zt 38 (⟨(blk_cell B1.out 0).trans rfl, (blk_cell B1.out 1).trans rfl, (blk_cell B1.out 2).trans rfl, (blk_cell B1.out 3).trans rfl, (blk_cell B1.out 4).trans rfl⟩) ?_; refine zt 39 (⟨(blk_cell B1.out 0).trans rfl, (blk_cell B1.out 1).trans rfl, (blk_cell B1.out 2).trans rfl, (blk_cell B1.out 3).trans rfl, (blk_cell B1.out 4).trans rfl⟩) ?_; refine zt 40 (⟨(blk_cell B1.out 0).trans rfl, (blk_cell B1.out 1).trans rfl, (blk_cell B1.out 2).trans rfl, (blk_cell B1.out 3).trans rfl, (blk_cell B1.out 4).trans rfl⟩) ?_; refine zt 41 (⟨(blk_cell B1.out 0).trans rfl, (blk_cell B1.out 1).trans rfl, (blk_cell B1.out 2).trans rfl, (blk_cell B1.out 3).trans rfl, (blk_cell B1.out 4).trans rfl⟩) ?_; refine zt 42 (⟨(blk_cell B1.out 0).trans rfl, (blk_cell B1.out 1).trans rfl, (blk_cell B1.out 2).trans rfl, (blk_cell B1.out 3).trans rfl, (blk_cell B1.out 4).trans rfl⟩) ?_; refine zt 43 (⟨(blk_cell B1.out 0).trans rfl, (blk_cell B1.out 1).trans rfl, (blk_cell B1.out 2).trans rfl, (blk_cell B1.out 3).trans rfl, (blk_cell B1.out 4).trans rfl⟩) ?_
 clear q0 q1 q2 q3 q4 p0 p1 p2 p3 p4
 refine name_frame ?_
 intro l0 a0 hl ha
 have hl2 : l0 = #[false, true, true, true, true, true, true, true, false, false, true, true, true, true, true, true, true, false, false, true, true, true, true, true, true, true, false, false, true, true, true, true, true, true, true, false, false, true, true, true, true, true, true, true, false, false, false, false] := hl.trans (by kernel_rfl)
 have HL0 := Aside0.mk hl2
 have HA0 := Aside0.mk ha
 clear hl hl2 ha
 refine Z_inv (fun ls a W => (∃ (s : Nat → Bool) (f : Nat → Value), s 47 = false ∧ ls = setL l0 fI s ∧ a = putL a0 fL f ∧ FI w g1 g2 #[.slice A0_0 n0 c0_0, .slice A0_1 n1 c0_1, .slice A0_2 n2 c0_2, .slice A0_3 n3 c0_3, .slice A0_4 n4 c0_4] #[.slice none 0 0, .slice none 0 0, .slice none 0 0, .slice none 0 0, .slice none 0 0] (l0_0.take 40) (l0_1.take 100) (l0_2.take 50) (l0_3.take 40) (l0_4.take 40) s f W) ∨ (ls = setL l0 fI (fun _ => true) ∧ ∃ f g3, a = putL a0 fL f ∧ f 46 = .pointer (some ⟨g3, 0, none⟩) ∧ W.heap[g3]? = some (.cells #[f 8, f 17, f 26, f 35, f 44] 27 (0, 0)) ∧ Kd.R k56 56 W w.heap.size (fun _ => True) (f 8) (l0_0.take 40) ∧ Kd.R k54 54 W w.heap.size (fun _ => True) (f 17) (l0_1.take 100) ∧ Kd.R k67 67 W w.heap.size (fun _ => True) (f 26) (l0_2.take 50) ∧ Kd.R Kd.bool 4 W w.heap.size (fun _ => True) (f 35) (l0_3.take 40) ∧ Kd.R Kd.bool 4 W w.heap.size (fun _ => True) (f 44) (l0_4.take 40) ∧ NeRow (f 35) (f 44) ∧ W.heap[g2]? = some (.cells #[.slice none 0 0, .slice none 0 0, .slice none 0 0, .slice none 0 0, .slice none 0 0] 27 (0, 0)) ∧ g2 < g3 ∧ w.heap.size ≤ g3 ∧ Below w.heap.size w W)) ?he ?hs _ _ _ _ ?hn ?h0
 case hn => rw [HL0.out]; decide
 case h0 =>
  refine .inl ⟨fun _ => false, fun _ => undef, rfl, ?_, ?_, ?_⟩
  ·
   rw [HL0.out]; kernel_rfl
  ·
   refine (putL_self ?_).symm
   rw [HA0.out]
   intro p hp
   simp only [fL, List.mem_cons, List.not_mem_nil, or_false] at hp
   rcases hp with rfl | rfl | rfl | rfl | rfl | rfl | rfl | rfl | rfl | rfl | rfl | rfl
   all_goals rfl
  ·
   exact { below := below_drew1 HB.out, b1 := B1.out, b2 := B2.out, r0 := fun h => (by cases h), r1 := fun h => (by cases h), r2 := fun h => (by cases h), r3 := fun h => (by cases h), r4 := fun h => (by cases h), o0 := fun h => (by cases h), o1 := fun h => (by cases h), o2 := fun h => (by cases h), o3 := fun h => (by cases h), o4 := fun h => (by cases h), d := fun h => (by cases h), al := fun h => (by cases h), bd := fun h => (by cases h) }
 case hs =>
  rintro ls a W (⟨s, f, h47, rfl, rfl, h⟩ | ⟨rfl, _⟩) i hm
  ·
   have eL := HL0.out
   have eA := HA0.out
   clear HL0 HA0 B1 B2 HB hu27
   have nd1 : fI.Nodup := by decide
   have nd2 : (fL.map Prod.fst).Nodup := by decide
   have nd3 : (fL.map Prod.snd).Nodup := by decide
   have hlz : l0.size = 48 := by rw [eL]; rfl
   have haz : 50 < a0.tmps.size := by rw [eA]; exact Nat.le_of_ble_eq_true rfl
   have hi : i < 48 := by have h_ := ready_lt hm; rw [setL_size, hlz] at h_; exact h_
   have hin : i ∈ fI := by
    refine Decidable.byContradiction fun hn => ?_
    have h_ := ready_false hm
    rw [setL_out fI s hn, eL] at h_
    exact absurd h_ ((by decide : ∀ k, k < 48 → k ∉ fI → ¬ (#[false, true, true, true, true, true, true, true, false, false, true, true, true, true, true, true, true, false, false, true, true, true, true, true, true, true, false, false, true, true, true, true, true, true, true, false, false, true, true, true, true, true, true, true, false, false, false, false] : Array Bool).getD k true = false) i hi hn)
   have hf : s i = false := by have h_ := ready_false hm; rwa [setL_in fI nd1 hin s l0 (by omega)] at h_
   have dep := fun (k : Nat) (hk : k ∈ fI) (hw : zwaits .any _ i k = true) => (setL_in fI nd1 hk s l0 (by rw [hlz]; exact (by decide : ∀ k ∈ fI, k < 48) k hk)).symm.trans (ready_dep hm hw)
   have hbelow := h.below
   have hsz : w.heap.size ≤ W.heap.size := hbelow.size
   have hS : ∀ W1 : World, W1.heap[g1]? = some (.cells #[.slice A0_0 n0 c0_0, .slice A0_1 n1 c0_1, .slice A0_2 n2 c0_2, .slice A0_3 n3 c0_3, .slice A0_4 n4 c0_4] 27 (0, 0)) → (W1.cell? ⟨g1, 0, none⟩ = some (.slice A0_0 n0 c0_0) ∧ W1.cell? ⟨g1, 1, none⟩ = some (.slice A0_1 n1 c0_1) ∧ W1.cell? ⟨g1, 2, none⟩ = some (.slice A0_2 n2 c0_2) ∧ W1.cell? ⟨g1, 3, none⟩ = some (.slice A0_3 n3 c0_3) ∧ W1.cell? ⟨g1, 4, none⟩ = some (.slice A0_4 n4 c0_4)) := fun W1 hb => ⟨(blk_cell hb 0).trans rfl, (blk_cell hb 1).trans rfl, (blk_cell hb 2).trans rfl, (blk_cell hb 3).trans rfl, (blk_cell hb 4).trans rfl⟩
   clear hm
   simp only [fI, List.mem_cons, List.not_mem_nil, or_false] at hin
   rcases hin with rfl | rfl | rfl | rfl | rfl | rfl | rfl | rfl | rfl | rfl | rfl | rfl | rfl
   ·
    have hs0 : s 0 = false := hf
    refine wpOp_step rfl (fun K hK => ?_)
    refine Kd.R_lit_step k56 (w0 := w) w.heap.size 56 (by rfl) (N := 5) rfl (xs := []) (inner := []) (ok := fun _ => True) (okp := fun _ => False) ?hrun (Reps.none _ _) (fun _ h_ => h_.elim) trivial hbelow hsz (by simp) ?_
    case hrun => first | (go_simp; done) | (go_simp; rfl)
    intro v1 w1 hr hb hg hnew
    have h1 := h.empty0 hs0 (pw_below_grown (Below.refl W.heap.size W) none (Nat.le_refl _) hg (fun _ h_ => by cases h_)) hr hnew
    exact hK _ _ ⟨fun _ => hS _ h1.b1, .inl ⟨upd s 0 true, upd f 0 v1, h47, setL_upd fI nd1 (by decide) s true _, putL_upd fL nd2 nd3 (by decide) f _ _, h1⟩⟩
   ·
    have hs8 : s 8 = false := hf
    have hs0 : s 0 = true := dep 0 (by decide) (by kernel_rfl)
    have hrow := h.r0 hs0
    unfold cur at hrow
    rw [if_neg (by rw [hs8]; decide), if_neg (by rw [hs8]; decide)] at hrow
    refine wpOp_step rfl (fun K hK => ?_)
    refine Kd.R_append_rows_step k56 (w0 := w) (Rr := Kd.K k56 W) w.heap.size (by rfl) (.tmp 5) (.tmp 12) 22 56 (.agg #[.int .i64 0, .bool false, .string ⟨#[]⟩]) 32 rfl Try.underlying22 info_kind rfl (by decide) (by decide) (f 0) [] (l0_0.take 40) A0_0 m0 c0_0 (fun _ => True) (fun _ => False) (ev_in nd2 (by decide) f (by omega)) ((ev_out (by decide) f).trans (by rw [eA]; rfl)) hrow (Kd.C_below HX0.out hbelow) (fun x cs h_ => by rw [k56_open h_]; exact k56_mkM _ _ _ _) (fun _ h_ => h_.elim) (fun _ _ => trivial) hbelow hsz (by have h_ := HM0.out; simp only [List.length_nil]; omega) ?_
    intro v1 w1 hr hb hg hat
    rw [List.nil_append] at hr
    have h1 := h.append0 hs0 hs8 hb hr hg hat
    exact hK _ _ ⟨fun _ => hS _ h1.b1, .inl ⟨upd s 8 true, upd f 8 v1, h47, setL_upd fI nd1 (by decide) s true _, putL_upd fL nd2 nd3 (by decide) f _ _, h1⟩⟩
   ·
    have hs0 : s 9 = false := hf
    refine wpOp_step rfl (fun K hK => ?_)
    refine Kd.R_lit_step k54 (w0 := w) w.heap.size 54 (by rfl) (N := 14) rfl (xs := []) (inner := []) (ok := fun _ => True) (okp := fun _ => False) ?hrun (Reps.none _ _) (fun _ h_ => h_.elim) trivial hbelow hsz (by simp) ?_
    case hrun => first | (go_simp; done) | (go_simp; rfl)
    intro v1 w1 hr hb hg hnew
    have h1 := h.empty1 hs0 (pw_below_grown (Below.refl W.heap.size W) none (Nat.le_refl _) hg (fun _ h_ => by cases h_)) hr hnew
    exact hK _ _ ⟨fun _ => hS _ h1.b1, .inl ⟨upd s 9 true, upd f 9 v1, h47, setL_upd fI nd1 (by decide) s true _, putL_upd fL nd2 nd3 (by decide) f _ _, h1⟩⟩
   ·
    have hs8 : s 17 = false := hf
    have hs0 : s 9 = true := dep 9 (by decide) (by kernel_rfl)
    have hrow := h.r1 hs0
    unfold cur at hrow
    rw [if_neg (by rw [hs8]; decide), if_neg (by rw [hs8]; decide)] at hrow
    refine wpOp_step rfl (fun K hK => ?_)
    refine Kd.R_append_rows_step k54 (w0 := w) (Rr := Kd.K k54 W) w.heap.size (by rfl) (.tmp 14) (.tmp 21) 23 54 (.agg #[.int .i64 0, .int .i64 0]) 16 rfl Try.underlying23 info_jump rfl (by decide) (by decide) (f 9) [] (l0_1.take 100) A0_1 m1 c0_1 (fun _ => True) (fun _ => False) (ev_in nd2 (by decide) f (by omega)) ((ev_out (by decide) f).trans (by rw [eA]; rfl)) hrow (Kd.C_below HX1.out hbelow) (fun x cs h_ => by rw [k54_open h_]; exact k54_mkM _ _ _ _) (fun _ h_ => h_.elim) (fun _ _ => trivial) hbelow hsz (by have h_ := HM1.out; simp only [List.length_nil]; omega) ?_
    intro v1 w1 hr hb hg hat
    rw [List.nil_append] at hr
    have h1 := h.append1 hs0 hs8 hb hr hg hat
    exact hK _ _ ⟨fun _ => hS _ h1.b1, .inl ⟨upd s 17 true, upd f 17 v1, h47, setL_upd fI nd1 (by decide) s true _, putL_upd fL nd2 nd3 (by decide) f _ _, h1⟩⟩
   ·
    have hs0 : s 18 = false := hf
    refine wpOp_step rfl (fun K hK => ?_)
    refine Kd.R_lit_step k67 (w0 := w) w.heap.size 67 (by rfl) (N := 23) rfl (xs := []) (inner := []) (ok := fun _ => True) (okp := fun _ => False) ?hrun (Reps.none _ _) (fun _ h_ => h_.elim) trivial hbelow hsz (by simp) ?_
    case hrun => first | (go_simp; done) | (go_simp; rfl)
    intro v1 w1 hr hb hg hnew
    have h1 := h.empty2 hs0 (pw_below_grown (Below.refl W.heap.size W) none (Nat.le_refl _) hg (fun _ h_ => by cases h_)) hr hnew
    exact hK _ _ ⟨fun _ => hS _ h1.b1, .inl ⟨upd s 18 true, upd f 18 v1, h47, setL_upd fI nd1 (by decide) s true _, putL_upd fL nd2 nd3 (by decide) f _ _, h1⟩⟩
   ·
    have hs8 : s 26 = false := hf
    have hs0 : s 18 = true := dep 18 (by decide) (by kernel_rfl)
    have hrow := h.r2 hs0
    unfold cur at hrow
    rw [if_neg (by rw [hs8]; decide), if_neg (by rw [hs8]; decide)] at hrow
    refine wpOp_step rfl (fun K hK => ?_)
    refine Kd.R_append_rows_step k67 (w0 := w) (Rr := Kd.K k67 W) w.heap.size (by rfl) (.tmp 23) (.tmp 30) 24 67 (.agg #[.int .i64 0, .int .i64 0]) 16 rfl Try.underlying24 info_leap rfl (by decide) (by decide) (f 18) [] (l0_2.take 50) A0_2 m2 c0_2 (fun _ => True) (fun _ => False) (ev_in nd2 (by decide) f (by omega)) ((ev_out (by decide) f).trans (by rw [eA]; rfl)) hrow (Kd.C_below HX2.out hbelow) (fun x cs h_ => by rw [k67_open h_]; exact k67_mkM _ _ _ _) (fun _ h_ => h_.elim) (fun _ _ => trivial) hbelow hsz (by have h_ := HM2.out; simp only [List.length_nil]; omega) ?_
    intro v1 w1 hr hb hg hat
    rw [List.nil_append] at hr
    have h1 := h.append2 hs0 hs8 hb hr hg hat
    exact hK _ _ ⟨fun _ => hS _ h1.b1, .inl ⟨upd s 26 true, upd f 26 v1, h47, setL_upd fI nd1 (by decide) s true _, putL_upd fL nd2 nd3 (by decide) f _ _, h1⟩⟩
   ·
    have hs0 : s 27 = false := hf
    refine wpOp_step rfl (fun K hK => ?_)
    refine Kd.R_lit_step Kd.bool (w0 := w) w.heap.size 4 (by rfl) (N := 32) rfl (xs := []) (inner := []) (ok := fun _ => True) (okp := fun _ => False) ?hrun (Reps.none _ _) (fun _ h_ => h_.elim) trivial hbelow hsz (by simp) ?_
    case hrun => first | (go_simp; done) | (go_simp; rfl)
    intro v1 w1 hr hb hg hnew
    have h1 := h.empty3 hs0 (pw_below_grown (Below.refl W.heap.size W) none (Nat.le_refl _) hg (fun _ h_ => by cases h_)) hr hnew
    exact hK _ _ ⟨fun _ => hS _ h1.b1, .inl ⟨upd s 27 true, upd f 27 v1, h47, setL_upd fI nd1 (by decide) s true _, putL_upd fL nd2 nd3 (by decide) f _ _, h1⟩⟩
   ·
    have hs8 : s 35 = false := hf
    have hs0 : s 27 = true := dep 27 (by decide) (by kernel_rfl)
    have hrow := h.r3 hs0
    unfold cur at hrow
    rw [if_neg (by rw [hs8]; decide), if_neg (by rw [hs8]; decide)] at hrow
    refine wpOp_step rfl (fun K hK => ?_)
    refine Kd.R_append_rows_step Kd.bool (w0 := w) (Rr := Kd.K Kd.bool W) w.heap.size (by rfl) (.tmp 32) (.tmp 39) 25 4 (.bool false) 1 rfl Try.underlying25 PE.info4 rfl (by decide) (by decide) (f 27) [] (l0_3.take 40) A0_3 m3 c0_3 (fun _ => True) (fun _ => False) (ev_in nd2 (by decide) f (by omega)) ((ev_out (by decide) f).trans (by rw [eA]; rfl)) hrow (Kd.C_below HX3.out hbelow) (fun _ _ h_ => h_) (fun _ h_ => h_.elim) (fun _ _ => trivial) hbelow hsz (by have h_ := HM3.out; simp only [List.length_nil]; omega) ?_
    intro v1 w1 hr hb hg hat
    rw [List.nil_append] at hr
    have h1 := h.append3 hs0 hs8 hb hr hg hat
    exact hK _ _ ⟨fun _ => hS _ h1.b1, .inl ⟨upd s 35 true, upd f 35 v1, h47, setL_upd fI nd1 (by decide) s true _, putL_upd fL nd2 nd3 (by decide) f _ _, h1⟩⟩
   ·
    have hs0 : s 36 = false := hf
    refine wpOp_step rfl (fun K hK => ?_)
    refine Kd.R_lit_step Kd.bool (w0 := w) w.heap.size 4 (by rfl) (N := 41) rfl (xs := []) (inner := []) (ok := fun _ => True) (okp := fun _ => False) ?hrun (Reps.none _ _) (fun _ h_ => h_.elim) trivial hbelow hsz (by simp) ?_
    case hrun => first | (go_simp; done) | (go_simp; rfl)
    intro v1 w1 hr hb hg hnew
    have h1 := h.empty4 hs0 (pw_below_grown (Below.refl W.heap.size W) none (Nat.le_refl _) hg (fun _ h_ => by cases h_)) hr hnew
    exact hK _ _ ⟨fun _ => hS _ h1.b1, .inl ⟨upd s 36 true, upd f 36 v1, h47, setL_upd fI nd1 (by decide) s true _, putL_upd fL nd2 nd3 (by decide) f _ _, h1⟩⟩
   ·
    have hs8 : s 44 = false := hf
    have hs0 : s 36 = true := dep 36 (by decide) (by kernel_rfl)
    have hrow := h.r4 hs0
    unfold cur at hrow
    rw [if_neg (by rw [hs8]; decide), if_neg (by rw [hs8]; decide)] at hrow
    refine wpOp_step rfl (fun K hK => ?_)
    refine Kd.R_append_rows_step Kd.bool (w0 := w) (Rr := Kd.K Kd.bool W) w.heap.size (by rfl) (.tmp 41) (.tmp 48) 25 4 (.bool false) 1 rfl Try.underlying25 PE.info4 rfl (by decide) (by decide) (f 36) [] (l0_4.take 40) A0_4 m4 c0_4 (fun _ => True) (fun _ => False) (ev_in nd2 (by decide) f (by omega)) ((ev_out (by decide) f).trans (by rw [eA]; rfl)) hrow (Kd.C_below HX4.out hbelow) (fun _ _ h_ => h_) (fun _ h_ => h_.elim) (fun _ _ => trivial) hbelow hsz (by have h_ := HM4.out; simp only [List.length_nil]; omega) ?_
    intro v1 w1 hr hb hg hat
    rw [List.nil_append] at hr
    have h1 := h.append4 hs0 hs8 hb hr hg hat
    exact hK _ _ ⟨fun _ => hS _ h1.b1, .inl ⟨upd s 44 true, upd f 44 v1, h47, setL_upd fI nd1 (by decide) s true _, putL_upd fL nd2 nd3 (by decide) f _ _, h1⟩⟩
   ·
    have hs0 : s 45 = false := hf
    have d8 : s 8 = true := dep 8 (by decide) (by kernel_rfl)
    have d17 : s 17 = true := dep 17 (by decide) (by kernel_rfl)
    have d26 : s 26 = true := dep 26 (by decide) (by kernel_rfl)
    have d35 : s 35 = true := dep 35 (by decide) (by kernel_rfl)
    have d44 : s 44 = true := dep 44 (by decide) (by kernel_rfl)
    obtain ⟨A0_, c0_, e8⟩ : ∃ A c, f 8 = .slice A ((l0_0.take 40)).length c := by have hq := h.r0 (h.o0 d8); unfold cur at hq; rw [if_pos d8, if_pos d8] at hq; exact Kd.R_slice hq
    obtain ⟨A1_, c1_, e17⟩ : ∃ A c, f 17 = .slice A ((l0_1.take 100)).length c := by have hq := h.r1 (h.o1 d17); unfold cur at hq; rw [if_pos d17, if_pos d17] at hq; exact Kd.R_slice hq
    obtain ⟨A2_, c2_, e26⟩ : ∃ A c, f 26 = .slice A ((l0_2.take 50)).length c := by have hq := h.r2 (h.o2 d26); unfold cur at hq; rw [if_pos d26, if_pos d26] at hq; exact Kd.R_slice hq
    obtain ⟨A3_, c3_, e35⟩ : ∃ A c, f 35 = .slice A ((l0_3.take 40)).length c := by have hq := h.r3 (h.o3 d35); unfold cur at hq; rw [if_pos d35, if_pos d35] at hq; exact Kd.R_slice hq
    obtain ⟨A4_, c4_, e44⟩ : ∃ A c, f 44 = .slice A ((l0_4.take 40)).length c := by have hq := h.r4 (h.o4 d44); unfold cur at hq; rw [if_pos d44, if_pos d44] at hq; exact Kd.R_slice hq
    have h1 := h.build d8 d17 d26 d35 d44
    have ev0 : ∀ (a0_ : Act), True := fun _ => trivial
    clear ev0
    refine wpOp_step rfl (fun K hK => ?_)
    refine event_step (by rfl) (v := .agg #[f 8, f 17, f 26, f 35, f 44]) (w1 := W) ?hrun ?_
    case hrun =>
     have v0 := (ev_in (a := a0) nd2 (show (13, 8) ∈ fL by decide) f (by omega)).trans e8
     have v1 := (ev_in (a := a0) nd2 (show (22, 17) ∈ fL by decide) f (by omega)).trans e17
     have v2 := (ev_in (a := a0) nd2 (show (31, 26) ∈ fL by decide) f (by omega)).trans e26
     have v3 := (ev_in (a := a0) nd2 (show (40, 35) ∈ fL by decide) f (by omega)).trans e35
     have v4 := (ev_in (a := a0) nd2 (show (49, 44) ∈ fL by decide) f (by omega)).trans e44
     generalize (putL a0 fL f).eval = E_ at v0 v1 v2 v3 v4 ⊢
     rw [e8, e17, e26, e35, e44]
     first | done | (go_simp; done) | (go_simp; rfl)
    exact hK _ _ ⟨fun _ => hS _ h1.b1, .inl ⟨upd s 45 true, upd f 45 (.agg #[f 8, f 17, f 26, f 35, f 44]), h47, setL_upd fI nd1 (by decide) s true _, putL_upd fL nd2 nd3 (by decide) f _ _, h1⟩⟩
   ·
    refine wpOp_step rfl (fun K hK => ?_)
    refine event_step (by rfl) (v := .pointer (some ⟨W.heap.size, 0, none⟩)) (w1 := W.alloc (.cells #[.slice none 0 0, .slice none 0 0, .slice none 0 0, .slice none 0 0, .slice none 0 0] 27)) ?hrun ?_
    case hrun => first | (go_simp; done) | (go_simp; rfl)
    have h1 := h.alloc (below_alloc (Below.refl _ W) (.cells #[.slice none 0 0, .slice none 0 0, .slice none 0 0, .slice none 0 0, .slice none 0 0] 27)) (blk_new W _) hsz (blk_lt h.b2)
    exact hK _ _ ⟨fun _ => hS _ h1.b1, .inl ⟨upd s 46 true, upd f 46 _, h47, setL_upd fI nd1 (by decide) s true _, putL_upd fL nd2 nd3 (by decide) f _ _, h1⟩⟩
   ·
    have d45 : s 45 = true := dep 45 (by decide) (by kernel_rfl)
    have d46 : s 46 = true := dep 46 (by decide) (by kernel_rfl)
    obtain ⟨e45, d8, d17, d26, d35, d44⟩ := h.bd d45
    obtain ⟨g3, e46, hb3, hge, hlt⟩ := h.al d46
    have v3 : (putL a0 fL f).eval (.tmp 3) = .pointer (some ⟨g3, 0, none⟩) := (ev_in nd2 (show (3, 46) ∈ fL by decide) f (by omega)).trans e46
    have v50 : (putL a0 fL f).eval (.tmp 50) = .agg #[f 8, f 17, f 26, f 35, f 44] := (ev_in nd2 (show (50, 45) ∈ fL by decide) f (by omega)).trans e45
    have s0_ : W.cell? ⟨g3, 0, none⟩ = some (.slice none 0 0) := (blk_cell hb3 0).trans rfl
    have s1_ : W.cell? ⟨g3, 1, none⟩ = some (.slice none 0 0) := (blk_cell hb3 1).trans rfl
    have s2_ : W.cell? ⟨g3, 2, none⟩ = some (.slice none 0 0) := (blk_cell hb3 2).trans rfl
    have s3_ : W.cell? ⟨g3, 3, none⟩ = some (.slice none 0 0) := (blk_cell hb3 3).trans rfl
    have s4_ : W.cell? ⟨g3, 4, none⟩ = some (.slice none 0 0) := (blk_cell hb3 4).trans rfl
    have y0_ := blk_frozen hb3 0
    have y1_ := blk_frozen hb3 1
    have y2_ := blk_frozen hb3 2
    have y3_ := blk_frozen hb3 3
    have y4_ := blk_frozen hb3 4
    obtain ⟨A0_, c0_, e8⟩ : ∃ A c, f 8 = .slice A ((l0_0.take 40)).length c := by have hq := h.r0 (h.o0 d8); unfold cur at hq; rw [if_pos d8, if_pos d8] at hq; exact Kd.R_slice hq
    obtain ⟨A1_, c1_, e17⟩ : ∃ A c, f 17 = .slice A ((l0_1.take 100)).length c := by have hq := h.r1 (h.o1 d17); unfold cur at hq; rw [if_pos d17, if_pos d17] at hq; exact Kd.R_slice hq
    obtain ⟨A2_, c2_, e26⟩ : ∃ A c, f 26 = .slice A ((l0_2.take 50)).length c := by have hq := h.r2 (h.o2 d26); unfold cur at hq; rw [if_pos d26, if_pos d26] at hq; exact Kd.R_slice hq
    obtain ⟨A3_, c3_, e35⟩ : ∃ A c, f 35 = .slice A ((l0_3.take 40)).length c := by have hq := h.r3 (h.o3 d35); unfold cur at hq; rw [if_pos d35, if_pos d35] at hq; exact Kd.R_slice hq
    obtain ⟨A4_, c4_, e44⟩ : ∃ A c, f 44 = .slice A ((l0_4.take 40)).length c := by have hq := h.r4 (h.o4 d44); unfold cur at hq; rw [if_pos d44, if_pos d44] at hq; exact Kd.R_slice hq
    refine wpOp_step rfl (fun K hK => ?_)
    have hrun : ∀ E_ : Operand → Value, E_ (.tmp 3) = .pointer (some ⟨g3, 0, none⟩) → E_ (.tmp 50) = .agg #[f 8, f 17, f 26, f 35, f 44] → (execOp E_ ({ dst := none, op := Op.store 27 (Operand.tmp 3) (Operand.tmp 50), type := 0, pos := "law.go:31", after := #[], guard := none })).run Try.prog W = .ok .skip (((((W.setCell ⟨g3, 0, none⟩ (f 8)).setCell ⟨g3, 1, none⟩ (f 17)).setCell ⟨g3, 2, none⟩ (f 26)).setCell ⟨g3, 3, none⟩ (f 35)).setCell ⟨g3, 4, none⟩ (f 44)) := by
     intro E_ v3 v50
     rw [e8, e17, e26, e35, e44] at v50 ⊢
     go_simp
    refine skip_step (by rfl) (hrun _ v3 v50) ?_
    have hne : g1 ≠ g3 := by have h_ := NE12.out; omega
    refine hK _ _ ⟨fun _ => hS _ (put5_far h.b1 hne), .inr ⟨(setL_upd fI nd1 (by decide) s true _).trans (setL_congr fI ?_ _), f, g3, rfl, e46, put5_at hb3, ?_⟩⟩
    ·
     intro p hp
     simp only [fI, List.mem_cons, List.not_mem_nil, or_false] at hp
     rcases hp with rfl | rfl | rfl | rfl | rfl | rfl | rfl | rfl | rfl | rfl | rfl | rfl | rfl
     all_goals first | rfl | exact d8 | exact d17 | exact d26 | exact d35 | exact d44 | exact d45 | exact d46 | exact h.o0 d8 | exact h.o1 d17 | exact h.o2 d26 | exact h.o3 d35 | exact h.o4 d44
    ·
     exact ⟨(R_put5 (fun h_ => h_) (by have hq := h.r0 (h.o0 d8); unfold cur at hq; rwa [if_pos d8, if_pos d8] at hq) hb3 (by decide)), (R_put5 (fun h_ => h_) (by have hq := h.r1 (h.o1 d17); unfold cur at hq; rwa [if_pos d17, if_pos d17] at hq) hb3 (by decide)), (R_put5 (fun h_ => h_) (by have hq := h.r2 (h.o2 d26); unfold cur at hq; rwa [if_pos d26, if_pos d26] at hq) hb3 (by decide)), (R_put5 (fun h_ => h_) (by have hq := h.r3 (h.o3 d35); unfold cur at hq; rwa [if_pos d35, if_pos d35] at hq) hb3 (by decide)), (R_put5 (fun h_ => h_) (by have hq := h.r4 (h.o4 d44); unfold cur at hq; rwa [if_pos d44, if_pos d44] at hq) hb3 (by decide)), (by have hq := h.d (h.o3 d35) (h.o4 d44); unfold cur at hq; rwa [if_pos d35, if_pos d44] at hq), put5_far h.b2 (by omega), hlt, hge, put5_below hbelow hge⟩
  ·
   exact (not_mem_of_eq hm (by rw [HL0.out]; kernel_rfl)).elim
 case he =>
  rintro ls a W (⟨s, f, h47, e1, e2, h⟩ | ⟨e1, f, g3, e2, h⟩) hr
  ·
   exfalso
   subst e1
   have q := all_done (md := .any) (by kernel_rfl) (by rw [setL_size, HL0.out]; rfl) hr 47
   rw [setL_in fI (by decide) (by decide) s l0 (by rw [HL0.out]; decide), h47] at q
   cases q
  ·
   subst e1 e2
   clear hr
   have eA := HA0.out
   clear HA0 HL0
   subst eA
   simp only [putL, fL, List.foldl_cons, List.foldl_nil, Act.put, List.setIfInBounds_toArray, List.set_cons_zero, List.set_cons_succ]
   obtain ⟨hp, hb3, hr0, hr1, hr2, hr3, hr4, hne, hb2, hlt, hge, hbl⟩ := h
   obtain ⟨A8, c8, e8⟩ := Kd.R_slice hr0
   rw [hp]
   rw [e8] at hb3 hr0
   obtain ⟨v1, hv1⟩ : ∃ x, x = f 17 := ⟨_, rfl⟩
   obtain ⟨v2, hv2⟩ : ∃ x, x = f 26 := ⟨_, rfl⟩
   obtain ⟨v3, hv3⟩ : ∃ x, x = f 35 := ⟨_, rfl⟩
   obtain ⟨v4, hv4⟩ : ∃ x, x = f 44 := ⟨_, rfl⟩
   rw [← hv1] at hb3 hr1
   rw [← hv2] at hb3 hr2
   rw [← hv3] at hb3 hr3 hne
   rw [← hv4] at hb3 hr4 hne
   clear hv1 hv2 hv3 hv4 e8 hp
   obtain ⟨xs, hxs⟩ : ∃ x, x = l0_0.take 40 := ⟨_, rfl⟩
   rw [← hxs] at hb3 hr0
   have HXS := Aside0.mk hxs
   clear hxs
   obtain ⟨n, hn⟩ : ∃ x, x = xs.length := ⟨_, rfl⟩
   rw [← hn] at hb3
   rw [← hn] at hr0
   have HK := Aside0.mk hr0
   have HJ := Aside0.mk hr1
   have HLp := Aside0.mk hr2
   have HS := Aside0.mk hr3
   have HU := Aside0.mk hr4
   have NE := Aside0.mk hne
   clear B1 B2 HB
   have B3 : Aside0 (W.heap[g3]? = some (.cells #[.slice A8 n c8, v1, v2, v3, v4] 27 (0, 0))) := ⟨hb3⟩
   have B2 : Aside0 (W.heap[g2]? = some (.cells #[.slice none 0 0, .slice none 0 0, .slice none 0 0, .slice none 0 0, .slice none 0 0] 27 (0, 0))) := ⟨hb2⟩
   have GE := Aside0.mk hge
   have NE23 := Aside0.mk (show g2 ≠ g3 by omega)
   have HBL := Aside0.mk hbl
   clear hr0 hr1 hr2 hr3 hr4 hne hb3 hb2 hlt hge hbl NE12
   have hn40 : n ≤ 40 := by rw [hn, HXS.out, List.length_take]; omega
   go_upto_region 2 with (fail)
   go_wp2
   go_loopw [4] (fun i wr => ∃ k : Nat, k ≤ n ∧ i = .int .i64 k ∧ Kd.R k56 56 wr w.heap.size (fun _ => True) (.slice A8 n c8) (cutTo k xs) ∧ Aside0 (Kd.R k54 54 wr w.heap.size (fun _ => True) v1 (l0_1.take 100)) ∧ Aside0 (Kd.R k67 67 wr w.heap.size (fun _ => True) v2 (l0_2.take 50)) ∧ Aside0 (Kd.R Kd.bool 4 wr w.heap.size (fun _ => True) v3 (l0_3.take 40)) ∧ Aside0 (Kd.R Kd.bool 4 wr w.heap.size (fun _ => True) v4 (l0_4.take 40)) ∧ Aside0 (wr.heap[g2]? = some (.cells #[.slice none 0 0, .slice none 0 0, .slice none 0 0, .slice none 0 0, .slice none 0 0] 27 (0, 0))) ∧ Aside0 (wr.heap[g3]? = some (.cells #[.slice A8 n c8, v1, v2, v3, v4] 27 (0, 0))) ∧ Aside0 (Below w.heap.size w wr)) (fun i _ => n - (intOf i).toNat)
   case atStart => exact ⟨0, Nat.zero_le _, rfl, by rw [cutTo_zero]; exact HK.out, HJ, HLp, HS, HU, B2, B3, HBL⟩
   case round =>
    clear HK HJ HLp HS HU B2 B3 HBL
    obtain ⟨k, hk, rfl, hO, HJ, HLp, HS, HU, B2, B3, HBL⟩ := hrel
    have HO := Aside0.mk hO
    clear hO
    have h3 : wr.cell? ⟨g3, 0, none⟩ = some (.slice A8 n c8) := (blk_cell B3.out 0).trans rfl
    by_cases hlt : k < n
    ·
     have cl : decide ((k : Int) < (n : Int)) = true := decide_eq_true (by omega)
     have ck0 : decide (0 ≤ (k : Int)) = true := decide_eq_true (by omega)
     obtain ⟨g, cap, hv, _, hg0, cells, hcells⟩ := Kd.R_form HO.out (by rw [cutTo_len]; omega)
     rw [cutTo_len, ← hn] at hv
     injection hv with e1 _ e3
     subst e1
     subst e3
     have hlx : k < xs.length := by omega
     have hat := kind_at HO.out k hlt
     have hst := kind_put HO.out k hlt (xs[k].f2.extract 0 (min xs[k].f2.size 60))
     rw [cutTo_rd k xs hlx] at hat hst
     have hst' : (cutTo k xs).set k ⟨xs[k].f0, xs[k].f1, xs[k].f2.extract 0 (min xs[k].f2.size 60)⟩ = cutTo (k + 1) xs := cutTo_set k xs hlx
     rw [hst'] at hst
     clear hst'
     have hct := cutS xs[k].f2 (min xs[k].f2.size 60) (by omega)
     obtain ⟨nm, hnm⟩ : ∃ x, x = xs[k].f2 := ⟨_, rfl⟩
     rw [← hnm] at hat hst hct
     obtain ⟨m, hm⟩ : ∃ x, x = min nm.size 60 := ⟨_, rfl⟩
     rw [← hm] at hst hct
     have hmin : (if (60 : Int) < (nm.size : Int) then (60 : Int) else (nm.size : Int)) = (m : Int) := by split <;> omega
     obtain ⟨cn, hcn⟩ : ∃ x, x = nm.extract 0 m := ⟨_, rfl⟩
     rw [← hcn] at hst hct
     have HAT := Aside0.mk hat
     clear hat hcells hnm hm hcn
     go_upto_region 5 with (fail)
     refine region_Z 20 (fun w' => w'.cell? ⟨g3, 0, none⟩ = some (.slice (some ⟨g, 0, none⟩) n c8) ∧ w'.cell? ⟨g, k * 3 + 2, none⟩ = some (.string nm)) (by kernel_rfl) ?_
     refine zt 0 (⟨(blk_cell B3.out 0).trans rfl, HAT.out⟩) ?_; refine zt 1 (⟨(blk_cell B3.out 0).trans rfl, HAT.out⟩) ?_; refine zt 2 (⟨(blk_cell B3.out 0).trans rfl, HAT.out⟩) ?_; refine zt 3 (⟨(blk_cell B3.out 0).trans rfl, HAT.out⟩) ?_; refine zt 4 (⟨(blk_cell B3.out 0).trans rfl, HAT.out⟩) ?_; refine zt 5 (⟨(blk_cell B3.out 0).trans rfl, HAT.out⟩) ?_; refine zt 6 (⟨(blk_cell B3.out 0).trans rfl, HAT.out⟩) ?_; refine zt 7 (⟨(blk_cell B3.out 0).trans rfl, HAT.out⟩) ?_; refine zt 8 (⟨(blk_cell B3.out 0).trans rfl, HAT.out⟩) ?_; refine zt 9 (⟨(blk_cell B3.out 0).trans rfl, HAT.out⟩) ?_; refine zt 10 (⟨(blk_cell B3.out 0).trans rfl, HAT.out⟩) ?_; refine zt 11 (⟨(blk_cell B3.out 0).trans rfl, HAT.out⟩) ?_; refine zt 12 (⟨(blk_cell B3.out 0).trans rfl, HAT.out⟩) ?_; refine zt 13 (⟨(blk_cell B3.out 0).trans rfl, HAT.out⟩) ?_; refine zt 14 (⟨(blk_cell B3.out 0).trans rfl, HAT.out⟩) ?_; refine zt 15 (⟨(blk_cell B3.out 0).trans rfl, HAT.out⟩) ?_; refine zt 16 (⟨(blk_cell B3.out 0).trans rfl, HAT.out⟩) ?_; refine zt 17 (⟨(blk_cell B3.out 0).trans rfl, HAT.out⟩) ?_
     (refine wpZ_one (i := 18) (by kernel_rfl) rfl (fun K_ hK_ => ?_); go_simp; refine hK_.out _ _ (fun _ => ⟨(blk_cell B3.out 0).trans rfl, HAT.out⟩) ?_; clear hK_ K_; (try simp only [Act.put, List.getElem_toArray, List.getElem_cons_succ, List.getElem_cons_zero, List.setIfInBounds_toArray, List.set_cons_zero, List.set_cons_succ]))
     (refine wpZ_one (i := 19) (by kernel_rfl) rfl (fun K_ hK_ => ?_); go_simp; refine hK_.out _ _ (fun _ => ⟨(blk_cell B3.out 0).trans rfl, HAT.out⟩) ?_; clear hK_ K_; (try simp only [Act.put, List.getElem_toArray, List.getElem_cons_succ, List.getElem_cons_zero, List.setIfInBounds_toArray, List.set_cons_zero, List.set_cons_succ]))
     obtain ⟨HS1, HS2, ⟨u0, hz1⟩, hz2⟩ := hst
     have HSD := Aside0.mk (And.intro HS1 HS2)
     clear HS1 HS2
     (refine wpZ_one (i := 20) (by kernel_rfl) rfl (fun K_ hK_ => ?_); go_simp; refine hK_.out _ _ (fun h => absurd rfl h) ?_; clear hK_ K_; (try simp only [Act.put, List.getElem_toArray, List.getElem_cons_succ, List.getElem_cons_zero, List.setIfInBounds_toArray, List.set_cons_zero, List.set_cons_succ]))
     refine wpZ_done (by kernel_rfl) ?_ _
     clear hz1 hz2
     obtain ⟨HS1, HS2⟩ := HSD.out
     clear HSD
     have hn2 : g2 ≠ g := fun e => Kd.R_ne HO.out B2.out (by decide) (by rw [e]; simp [Value.ownBlock])
     have hn3 : g3 ≠ g := fun e => Kd.R_ne HO.out B3.out (by decide) (by rw [e]; simp [Value.ownBlock])
     have hge := Kd.R_base HO.out g (by simp [Value.ownBlock])
     obtain ⟨w8, hw8⟩ : ∃ x, x = wr.setCell ⟨g, k * 3 + 2, none⟩ (.string cn) := ⟨_, rfl⟩
     have n2_ := Aside0.mk (blk_far (p := ⟨g, k * 3 + 2, none⟩) B2.out hn2 (.string cn))
     have n3_ := Aside0.mk (blk_far (p := ⟨g, k * 3 + 2, none⟩) B3.out hn3 (.string cn))
     have n4_ := Aside0.mk (Kd.R_over' HJ.out (Kd.R_typed HO.out) (by decide) HS2)
     have n5_ := Aside0.mk (Kd.R_over' HLp.out (Kd.R_typed HO.out) (by decide) HS2)
     have n6_ := Aside0.mk (Kd.R_over' HS.out (Kd.R_typed HO.out) (by decide) HS2)
     have n7_ := Aside0.mk (Kd.R_over' HU.out (Kd.R_typed HO.out) (by decide) HS2)
     have n8_ := Aside0.mk (show Below w.heap.size w (wr.setCell ⟨g, k * 3 + 2, none⟩ (.string cn)) from below_set HBL.out hge)
     rw [← hw8] at n2_ n3_ n4_ n5_ n6_ n7_ n8_ HS1 ⊢
     clear hw8 B2 B3 HJ HLp HS HU HBL HO HS2 hn2 hn3 HAT
     go_wp2
     go_roundw
     case rel => exact ⟨k + 1, by omega, by go_num, Kd.R_drew HS1, ⟨Kd.R_drew n4_.out⟩, ⟨Kd.R_drew n5_.out⟩, ⟨Kd.R_drew n6_.out⟩, ⟨Kd.R_drew n7_.out⟩, ⟨blk_drew n2_.out⟩, ⟨blk_drew n3_.out⟩, ⟨by first | exact below_drew1 n8_.out | exact below_drew n8_.out⟩⟩
     case measure => simp [intOf]; omega
    ·
     have hkn : n = k := by omega
     subst hkn
     have cl : decide ((n : Int) < (n : Int)) = false := decide_eq_false (by omega)
     have HO2 : Kd.R k56 56 wr w.heap.size (fun _ => True) (.slice A8 n c8) ((l0_0.take 40).map cutK) := by rw [← HXS.out, ← cutTo_all, ← hn]; exact HO.out
     have HK := Aside0.mk HO2
     clear HO2 hn
     obtain ⟨A1_, n1_, a1_, rfl⟩ : ∃ A n c, v1 = .slice A n c := by obtain ⟨A, c, e⟩ := Kd.R_slice HJ.out; exact ⟨A, _, c, e⟩
     obtain ⟨A2_, n2_, a2_, rfl⟩ : ∃ A n c, v2 = .slice A n c := by obtain ⟨A, c, e⟩ := Kd.R_slice HLp.out; exact ⟨A, _, c, e⟩
     obtain ⟨A3_, n3_, a3_, rfl⟩ : ∃ A n c, v3 = .slice A n c := by obtain ⟨A, c, e⟩ := Kd.R_slice HS.out; exact ⟨A, _, c, e⟩
     obtain ⟨A4_, n4_, a4_, rfl⟩ : ∃ A n c, v4 = .slice A n c := by obtain ⟨A, c, e⟩ := Kd.R_slice HU.out; exact ⟨A, _, c, e⟩
     have c0_ : wr.cell? ⟨g3, 0, none⟩ = some (.slice A8 n c8) := (blk_cell B3.out 0).trans rfl
     have c1_ : wr.cell? ⟨g3, 1, none⟩ = some (.slice A1_ n1_ a1_) := (blk_cell B3.out 1).trans rfl
     have c2_ : wr.cell? ⟨g3, 2, none⟩ = some (.slice A2_ n2_ a2_) := (blk_cell B3.out 2).trans rfl
     have c3_ : wr.cell? ⟨g3, 3, none⟩ = some (.slice A3_ n3_ a3_) := (blk_cell B3.out 3).trans rfl
     have c4_ : wr.cell? ⟨g3, 4, none⟩ = some (.slice A4_ n4_ a4_) := (blk_cell B3.out 4).trans rfl
     have z0_ : wr.cell? ⟨g2, 0, none⟩ = some (.slice none 0 0) := (blk_cell B2.out 0).trans rfl
     have z1_ : wr.cell? ⟨g2, 1, none⟩ = some (.slice none 0 0) := (blk_cell B2.out 1).trans rfl
     have z2_ : wr.cell? ⟨g2, 2, none⟩ = some (.slice none 0 0) := (blk_cell B2.out 2).trans rfl
     have z3_ : wr.cell? ⟨g2, 3, none⟩ = some (.slice none 0 0) := (blk_cell B2.out 3).trans rfl
     have z4_ : wr.cell? ⟨g2, 4, none⟩ = some (.slice none 0 0) := (blk_cell B2.out 4).trans rfl
     have y0_ := blk_frozen B2.out 0
     have y1_ := blk_frozen B2.out 1
     have y2_ := blk_frozen B2.out 2
     have y3_ := blk_frozen B2.out 3
     have y4_ := blk_frozen B2.out 4
     clear HO
     go_wp2
     refine bodyPost_ret (results_single rfl (.cell g2 27 _ (0, 0) _ rfl (put5_at B2.out) Try.underlying27 rfl (by kernel_rfl) .nil)) rfl ?_
     exact ⟨_, _, _, _, _, rfl, put5_R HK.out B2.out (by decide), put5_R HJ.out B2.out (by decide), put5_R HLp.out B2.out (by decide), Kd.R_flat (fun h_ => h_) (put5_R HS.out B2.out (by decide)) (fun k hk _ e => NE.out k hk e.symm), Kd.R_flat (fun h_ => h_) (put5_R HU.out B2.out (by decide)) (fun k hk _ e => NE.out k e.symm hk), put5_below HBL.out HG2.out⟩
end Go.Proofs.Ythobnoknbdljgaa.Hand
end
section
namespace Go.Proofs.Ythobnoknbdljgaa.Stub2
open Go.RowKit Go.Proofs.YthobnoknbdljgaaW.PrintWords PB0 Hand
def longcaselaw06_few.f (l0 : List S56) (l1 : List S54) (l2 : List S67) (l3 l4 : List Bool) : Option (List S56 × List S54 × List S67 × List Bool × List Bool) := some ((l0.take 40).map cutK, l1.take 100, l2.take 50, l3.take 40, l4.take 40)
theorem longcaselaw06_few.calls (A0_0 : Option Addr) (c0_0 : Nat) (l0_0 : List S56) (A0_1 : Option Addr) (c0_1 : Nat) (l0_1 : List S54) (A0_2 : Option Addr) (c0_2 : Nat) (l0_2 : List S67) (A0_3 : Option Addr) (c0_3 : Nat) (l0_3 : List Bool) (A0_4 : Option Addr) (c0_4 : Nat) (l0_4 : List Bool) (t0 : List S56) (t1 : List S54) (t2 : List S67) (t3 t4 : List Bool) (w : World) (hr0_0 : Kd.C k56 w A0_0 l0_0.length l0_0) (hc0_0 : l0_0.length ≤ c0_0) (hr0_1 : Kd.C k54 w A0_1 l0_1.length l0_1) (hc0_1 : l0_1.length ≤ c0_1) (hr0_2 : Kd.C k67 w A0_2 l0_2.length l0_2) (hc0_2 : l0_2.length ≤ c0_2) (hr0_3 : Kd.C Kd.bool w A0_3 l0_3.length l0_3) (hc0_3 : l0_3.length ≤ c0_3) (hr0_4 : Kd.C Kd.bool w A0_4 l0_4.length l0_4) (hc0_4 : l0_4.length ≤ c0_4) (h : longcaselaw06_few.f l0_0 l0_1 l0_2 l0_3 l0_4 = some (t0, t1, t2, t3, t4)) :
  Calls Try.prog 12 #[.agg #[.slice A0_0 l0_0.length c0_0, .slice A0_1 l0_1.length c0_1, .slice A0_2 l0_2.length c0_2, .slice A0_3 l0_3.length c0_3, .slice A0_4 l0_4.length c0_4]] w fun e w' => ∃ v0_ v1_ v2_ v3_ v4_ : Value, e = .returned (.agg #[v0_, v1_, v2_, v3_, v4_]) ∧ Kd.R k56 56 w' w.heap.size (fun _ => True) v0_ t0 ∧ Kd.R k54 54 w' w.heap.size (fun _ => True) v1_ t1 ∧ Kd.R k67 67 w' w.heap.size (fun _ => True) v2_ t2 ∧ Kd.R Kd.bool 4 w' w.heap.size (fun k_ => some k_ ≠ (v4_ : Value).ownBlock) v3_ t3 ∧ Kd.R Kd.bool 4 w' w.heap.size (fun k_ => some k_ ≠ (v3_ : Value).ownBlock) v4_ t4 ∧ Below w.heap.size w w' := by
 unfold longcaselaw06_few.f at h
 simp only [Option.some.injEq, Prod.mk.injEq] at h
 obtain ⟨rfl, rfl, rfl, rfl, rfl⟩ := h
 exact few_walk A0_0 c0_0 l0_0 A0_1 c0_1 l0_1 A0_2 c0_2 l0_2 A0_3 c0_3 l0_3 A0_4 c0_4 l0_4 w hr0_0 hc0_0 hr0_1 hc0_1 hr0_2 hc0_2 hr0_3 hc0_3 hr0_4 hc0_4
end Go.Proofs.Ythobnoknbdljgaa.Stub2
end
