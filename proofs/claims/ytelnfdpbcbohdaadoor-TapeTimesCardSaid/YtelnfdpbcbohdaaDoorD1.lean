/-
  Rules for walking a function of the program, a rule an operation: the frame is a function of the slots, the context is never used for rewriting. Own work.
-/
import Derived.WalkKit
import Derived.Deep.LoopGhost
import Derived.LoopN
import Derived.Maps.AppendAt
namespace Go.Proofs.YtelnfdpbcbohdaaDoor
open Go Go.RowKit
set_option linter.unusedVariables false

/-! ### The frame as a function -/
abbrev Env := Nat → Value
def upd (E : Env) (d : Nat) (v : Value) : Env := fun i => bif Nat.beq i d then v else E i
def ev (E : Env) : Operand → Value
  | .tmp t => E t
  | .const v => v
  | .global g => .pointer (some ⟨g, 0, none⟩)
  | .func f => .func (.func f) #[] #[]
def nth : List Value → Nat → Value
  | [], _ => undef
  | v :: _, 0 => v
  | _ :: l, n + 1 => nth l n
/-- The frame at the call's begin. -/
def args (l : List Value) : Env := fun i => nth l i
def put (E : Env) : Option Tmp → Value → Env
  | some d, v => upd E d v
  | none, _ => E
def okDst : Option Tmp → Nat → Bool
  | some d, n => Nat.blt d n
  | none, _ => true

structure Fits (a : Act) (n : Nat) (E : Env) : Prop where
  size : a.tmps.size = n
  defers : a.defers = []
  get : ∀ i, a.tmps.getD i undef = E i

theorem Fits.eval {a : Act} {n : Nat} {E : Env} (h : Fits a n E) : a.eval = ev E := by
  funext x
  cases x <;> simp only [Act.eval, ev]
  exact h.get _

theorem Fits.put {a : Act} {n : Nat} {E : Env} (h : Fits a n E) {d : Option Tmp} (hd : okDst d n = true) (v : Value) : Fits (a.put d v) n (put E d v) := by
  cases d with
  | none => exact h
  | some d =>
    have hlt : d < n := by simpa [okDst, Nat.blt_eq] using hd
    refine ⟨by simp [Act.put, h.size], by simp [Act.put, h.defers], fun i => ?_⟩
    simp only [Act.put, Proofs.YtelnfdpbcbohdaaDoor.put, upd]
    by_cases e : i = d
    · subst e
      have : i < a.tmps.size := by rw [h.size]; exact hlt
      simp [this]
    · have hb : Nat.beq i d = false := by
        rw [Bool.eq_false_iff]; intro hh; exact e (Nat.eq_of_beq_eq_true hh)
      rw [hb]
      have := h.get i
      simp only [Array.getD_eq_getD_getElem?] at this ⊢
      rw [Array.getElem?_setIfInBounds_ne (by omega)]
      simpa using this

/-! ### Judgements -/
abbrev Post := Exit → Env → World → Prop
def liftQ (n : Nat) (Q : Post) : Exit → Act → World → Prop := fun e a w => ∃ E, Fits a n E ∧ Q e E w

/-- A piece of code from a frame and a world. -/
structure D (P : Program) (n : Nat) (c : Code) (Q : Post) (E : Env) (w : World) : Prop where
  intro ::
  wp : ∀ a, Fits a n E → c.wp P (liftQ n Q) a w
/-- The operations that are left of a region. -/
structure O (P : Program) (n : Nat) (ops : Array Oper) (l : List Oper) (Q : Post) (E : Env) (w : World) : Prop where
  intro ::
  wp : ∀ a, Fits a n E → wpList P ops (liftQ n Q) l a w

def seqQ (K : Env → World → Prop) (Q : Post) : Post
  | .normal, E, w => K E w
  | .outgrown, _, _ => False
  | e, E, w => Q e E w
def blockQ (id : Nat) (Q : Post) : Post
  | .exit i, E, w => if i = id then Q .normal E w else Q (.exit i) E w
  | e, E, w => Q e E w

section rules
variable {P : Program} {n : Nat} {Q : Post} {E : Env} {w : World}

theorem D_seq {x y : Code} (h : D P n x (seqQ (D P n y Q) Q) E w) : D P n (.seq x y) Q E w :=
  ⟨fun a ha => wp_seq (wp_mono (h.wp a ha) fun e a' w' ⟨E', hf, hq⟩ => by
    cases e with
    | normal => exact hq.wp a' hf
    | outgrown => exact hq.elim
    | _ => exact ⟨E', hf, hq⟩)⟩
theorem D_skip (h : Q .normal E w) : D P n .skip Q E w := ⟨fun a ha => wp_skip ⟨E, ha, h⟩⟩
theorem D_label {l : Nat} (h : Q .normal E w) : D P n (.label l) Q E w := ⟨fun a ha => wp_label ⟨E, ha, h⟩⟩
theorem D_ret (h : Q .ret E w) : D P n .ret Q E w := ⟨fun a ha => wp_ret ⟨E, ha, h⟩⟩
theorem D_exit {id : Nat} (h : Q (.exit id) E w) : D P n (.exit id) Q E w := ⟨fun a ha => wp_exit ⟨E, ha, h⟩⟩
theorem D_block {id : Nat} {c : Code} (h : D P n c (blockQ id Q) E w) : D P n (.block id c) Q E w :=
  ⟨fun a ha => wp_block (wp_mono (h.wp a ha) fun e a' w' ⟨E', hf, hq⟩ => by
    cases e with
    | exit i =>
      simp only [Exit.inBlock]
      simp only [blockQ] at hq
      split
      · rename_i hi; rw [if_pos hi] at hq; exact ⟨E', hf, hq⟩
      · rename_i hi; rw [if_neg hi] at hq; exact ⟨E', hf, hq⟩
    | _ => exact ⟨E', hf, hq⟩)⟩
theorem D_cond {c : Operand} {x y : Code} {b : Bool} (hc : ev E c = .bool b) (ht : b = true → D P n x Q E w) (hf : b = false → D P n y Q E w) : D P n (.cond c x y) Q E w :=
  ⟨fun a ha => by
    have he : a.eval c = .bool b := by rw [ha.eval]; exact hc
    exact wp_cond_split he (fun h => (ht h).wp a ha) (fun h => (hf h).wp a ha)⟩
theorem D_condT {c : Operand} {x y : Code} (hc : ev E c = .bool true) (ht : D P n x Q E w) : D P n (.cond c x y) Q E w :=
  D_cond hc (fun _ => ht) (fun h => by cases h)
theorem D_condF {c : Operand} {x y : Code} (hc : ev E c = .bool false) (ht : D P n y Q E w) : D P n (.cond c x y) Q E w :=
  D_cond hc (fun h => by cases h) (fun _ => ht)
theorem D_region {id : Nat} {l : List Oper} (h : O P n l.toArray l Q E w) : D P n (.region id l.toArray false) Q E w :=
  ⟨fun a ha => wp_region_lit (h.wp a ha)⟩
theorem D_mono {c : Code} {Q' : Post} (h : D P n c Q E w) (hq : ∀ e E w, Q e E w → Q' e E w) : D P n c Q' E w :=
  ⟨fun a ha => wp_mono (h.wp a ha) fun e a' w' ⟨E', hf, hh⟩ => ⟨E', hf, hq _ _ _ hh⟩⟩

/-! ### The slots that a loop turns -/
/-- The frame E, with whatever u has in the slots W. -/
def over (W : List Nat) (u E : Env) : Env := fun i => bif W.any (Nat.beq i) then u i else E i
def Agree (W : List Nat) (E E' : Env) : Prop := ∀ i, W.any (Nat.beq i) = false → E i = E' i
theorem agree_refl {W : List Nat} : Agree W E E := fun _ _ => rfl
theorem agree_over {W : List Nat} {u : Env} : Agree W (over W u E) E := fun i h => by simp only [over, h, cond_false]
theorem agree_upd {W : List Nat} {E' : Env} {d : Nat} {v : Value} (hd : W.any (Nat.beq d) = true) (h : Agree W E' E) : Agree W (upd E' d v) E := fun i hi => by
  have : Nat.beq i d = false := by
    rw [Bool.eq_false_iff]; intro hh
    have : i = d := Nat.eq_of_beq_eq_true hh
    subst this; rw [hd] at hi; cases hi
  simp only [upd, this, cond_false]; exact h i hi
/-- Slots with their values. -/
def upds (E : Env) : List (Nat × Value) → Env
  | [] => E
  | (d, v) :: l => upd (upds E l) d v
theorem over_self {W : List Nat} {E' : Env} (h : Agree W E' E) : E' = over W E' E := by
  funext i
  simp only [over]
  cases hi : W.any (Nat.beq i) with
  | true => rfl
  | false => exact h i hi
theorem upd_self {d : Nat} {v : Value} (h : E d = v) : E = upd E d v := by
  funext i
  simp only [upd]
  cases hi : Nat.beq i d with
  | true => have : i = d := Nat.eq_of_beq_eq_true hi; subst this; exact h
  | false => rfl
theorem upds_self (l : List (Nat × Value)) (h : ∀ x ∈ l, E x.1 = x.2) : E = upds E l := by
  induction l with
  | nil => rfl
  | cons x l ih =>
    obtain ⟨d, v⟩ := x
    have e := ih fun x hx => h x (List.mem_cons_of_mem _ hx)
    simp only [upds]
    rw [← e]
    exact upd_self (h (d, v) (List.mem_cons_self ..))
/-- What the next round is handed. -/
def AllAt (E : Env) : List (Nat × Value) → Prop
  | [] => True
  | (d, v) :: l => E d = v ∧ AllAt E l
theorem AllAt.mem {l : List (Nat × Value)} (h : AllAt E l) : ∀ x ∈ l, E x.1 = x.2 := by
  induction l with
  | nil => intro x hx; cases hx
  | cons y l ih =>
    intro x hx
    cases hx with
    | head => exact h.1
    | tail _ hx => exact ih h.2 x hx
/-- The end of a round: the frame as the loop's relation has it, for a later state. -/
structure Again {S : Type} (W : List Nat) (E0 : Env) (F : S → List (Nat × Value)) (I : S → World → Prop) (μ : S → Nat) (m : Nat) (E : Env) (w : World) : Prop where
  intro ::
  s : ∃ s, AllAt E (F s) ∧ Agree W E E0 ∧ I s w ∧ μ s < m

/-- A loop: S: what a round's state is; F: the slots by the state; I: what holds. -/
theorem D_loop {c : Code} {S : Type} (W : List Nat) (F : S → List (Nat × Value)) (I : S → World → Prop) (μ : S → Nat) (s0 : S)
    (h0 : AllAt E (F s0)) (hI : I s0 w)
    (round : ∀ (s : S) (u : Env) (w' : World), I s w' → D P n c (seqQ (Again W E F I μ (μ s)) Q) (upds (over W u E) (F s)) w') :
    D P n (.loop c) Q E w := by
  refine ⟨fun a ha => ?_⟩
  refine wp_loop_ghost (fun k a' w' => ∃ s u, Fits a' n (upds (over W u E) (F s)) ∧ I s w' ∧ μ s = k) (μ s0) ⟨s0, E, ?_, hI, rfl⟩ ?_
  · rw [← over_self agree_refl, ← upds_self _ h0.mem]; exact ha
  · rintro k a' w' ⟨s, u, hf, hs, rfl⟩
    refine wp_mono ((round s u w' hs).wp a' hf) ?_
    rintro e a2 w2 ⟨E2, hf2, hq⟩
    cases e with
    | normal =>
      obtain ⟨s2, h1, h2, h3, h4⟩ := hq.s
      refine ⟨μ s2, h4, s2, E2, ?_, h3, rfl⟩
      rw [← over_self h2, ← upds_self _ h1.mem]; exact hf2
    | outgrown => exact hq.elim
    | _ => exact ⟨E2, hf2, hq⟩
/-- A loop of at most so many rounds, each walked by itself. -/
structure Rd (P : Program) (n : Nat) (c : Code) (Q : Post) (k : Nat) (E : Env) (w : World) : Prop where
  intro ::
  wp : ∀ a, Fits a n E → Code.rounds P c (liftQ n Q) k a w
theorem D_rounds {c : Code} (k : Nat) (h : Rd P n c Q k E w) : D P n (.loop c) Q E w := ⟨fun a ha => wp_loop_rounds k (h.wp a ha)⟩
theorem Rd_succ {c : Code} {k : Nat} (h : D P n c (seqQ (Rd P n c Q k) Q) E w) : Rd P n c Q (k + 1) E w :=
  ⟨fun a ha => by
    rw [rounds_succ]
    refine wp_mono (h.wp a ha) fun e a' w' ⟨E', hf, hq⟩ => ?_
    cases e with
    | normal => exact hq.wp a' hf
    | outgrown => exact hq.elim
    | _ => exact ⟨E', hf, hq⟩⟩
end rules
end Go.Proofs.YtelnfdpbcbohdaaDoor
