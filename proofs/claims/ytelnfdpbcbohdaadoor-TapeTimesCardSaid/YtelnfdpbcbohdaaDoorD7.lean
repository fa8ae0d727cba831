/-
  A region that draws its order and whose operations leave memory alone: one walk of the lexical order. Own work.
-/
import Derived.Test.YtelnfdpbcbohdaaDoorD6
import Derived.Deep.Quiet
namespace Go.Proofs.YtelnfdpbcbohdaaDoor
open Go Go.RowKit
set_option linter.unusedVariables false
set_option linter.unusedSimpArgs false
/-- An operation that enters no function. -/
def calm : Op → Bool
  | .move _ | .assign _ | .pick .. | .load .. | .binOp .. | .unOp .. | .convert .. | .slice .. | .fieldAddr .. | .field .. | .indexAddr .. | .index .. | .extract .. | .makeInterface .. | .build .. => true
  | .call ⟨.builtin .len, _, _⟩ | .call ⟨.builtin .cap, _, _⟩ | .call ⟨.builtin .min, _, _⟩ | .call ⟨.builtin .max, _, _⟩ => true
  | _ => false
theorem run_value {P : Program} {s : Sem Value} {w w' : World} {nx : Next} (h : ((do pure (Next.value (← s))) : Sem Next).run P w = .ok nx w') : ∃ u, nx = .value u := by
  simp only [Sem.run_bind] at h
  cases hs : s.run P w <;> rw [hs] at h <;> simp [Result.andThen] at h
  exact ⟨_, h.1.symm⟩
theorem run_valueB {P : Program} {s : Sem Bool} {x y : Value} {w w' : World} {nx : Next} (h : ((do pure (Next.value (if ← s then x else y))) : Sem Next).run P w = .ok nx w') : ∃ u, nx = .value u := by
  simp only [Sem.run_bind] at h
  cases hs : s.run P w <;> rw [hs] at h <;> simp [Result.andThen] at h
  exact ⟨_, h.1.symm⟩
theorem calm_value {P : Program} {ρ : Operand → Value} {o : Oper} (h : calm o.op = true) (w w' : World) (nx : Next) (hr : (execOp ρ o).run P w = .ok nx w') : ∃ u, nx = .value u := by
  obtain ⟨d, op, ty, pos, af, g⟩ := o
  cases op <;> first
    | (simp only [calm] at h; exact absurd h (by decide))
    | exact run_value hr
    | exact run_valueB hr
    | (simp [execOp] at hr; exact ⟨_, hr.1.symm⟩)
    | skip
  rename_i c
  obtain ⟨cal, args, tys⟩ := c
  cases cal with
  | value f => simp [calm] at h
  | invoke a b => simp [calm] at h
  | builtin b =>
    cases b <;> first | (simp only [calm] at h; exact absurd h (by decide)) | skip
    all_goals
      simp only [execOp, resolve, Sem.run_bind, Sem.run_pure, Result.andThen_ok, invoke] at hr
      first | exact run_value hr | (unfold builtin at hr; exact run_value hr) | (unfold builtin at hr; simp at hr; exact ⟨_, hr.1.symm⟩)

/-- What an operation yields, the world let alone. -/
def AtQ (d : Nat) (v : Value) (w : World) : Post := fun e E' w' => e = .normal ∧ w' = w ∧ E' d = v
/-- What a call yields, in a world of the class. -/
def AtC (d : Nat) (v : Value) (C : World → Prop) : Post := fun e E' w' => e = .normal ∧ C w' ∧ E' d = v
structure QO (P : Program) (n : Nat) (ops : Array Oper) (C : World → Prop) (l : List Oper) (K : Env → Prop) (E : Env) : Prop where
  intro ::
  wp : ∀ a, Fits a n E → wpQuiet P ops C (fun a' => ∃ E', Fits a' n E' ∧ K E') l a
section
variable {P : Program} {n : Nat} {ops : Array Oper} {C : World → Prop} {rest : List Oper} {K : Env → Prop} {E : Env} {d : Tmp} {v : Value}
theorem QO_nil (h : K E) : QO P n ops C [] K E := ⟨fun a ha => ⟨E, ha, h⟩⟩
theorem put_at {a : Act} {u : Value} {E E' : Env} (ha : Fits a n E) (hd : Nat.blt d n = true) (h : Fits (a.put (some d) u) n E') : E' d = u := by
  have h1 := h.get d
  have h2 := (ha.put (d := some d) hd u).get d
  rw [← h1, h2]
  show upd E d u d = u
  simp [upd]
theorem letsOut_AtQ {w : World} : ¬ LetsOut (liftQ n (AtQ d v w)) := by rintro ⟨a, w', E', _, h, _⟩; cases h
theorem letsOut_AtC : ¬ LetsOut (liftQ n (AtC d v C)) := by rintro ⟨a, w', E', _, h, _⟩; cases h
theorem QO_val {o : Oper} (v : Value) (hd : o.dst = some d) (hlt : Nat.blt d n = true) (hc : calm o.op = true)
    (h : ∀ w, C w → O P n ops [o] (AtQ d v w) E w) (hw : ∃ w, C w) (k : QO P n ops C rest K (upd E d v)) : QO P n ops C (o :: rest) K E := by
  refine ⟨fun a ha => ?_⟩
  have hp := ha.put (d := some d) hlt v
  simp only [wpQuiet]
  split
  · rename_i hwant
    refine ⟨v, fun w hwC => ?_, by rw [hd]; exact k.wp _ hp⟩
    have h1 := (h w hwC).wp a ha
    simp only [wpList] at h1
    rw [if_pos hwant] at h1
    rcases h1 with h1 | h1
    · unfold Oper.wp at h1
      unfold Oper.quietAt
      have hne := calm_value (P := P) (ρ := a.eval) hc w
      generalize (execOp a.eval o).run P w = r at h1 hne ⊢
      cases r with
      | halt x w' =>
        simp only [Oper.upon] at h1
        cases x <;> simp only at h1
        · obtain ⟨E', _, h2, _⟩ := h1; cases h2
      | ok nx w' =>
        obtain ⟨u, rfl⟩ := hne w' nx rfl
        simp only [Oper.upon, Oper.quietUpon] at h1 ⊢
        obtain ⟨E', hf, _, h2, h3⟩ := h1
        rw [hd] at hf
        exact ⟨h2, by rw [← put_at ha hlt hf]; exact h3⟩
    · exact absurd h1.2 letsOut_AtQ
  · rename_i hwant
    obtain ⟨w, hwC⟩ := hw
    have h1 := (h w hwC).wp a ha
    simp only [wpList] at h1
    rw [if_neg hwant] at h1
    obtain ⟨E', hf, _, _, h3⟩ := h1
    rw [hd] at hf ⊢
    have : v = undef := by rw [← h3]; exact put_at ha hlt hf
    rw [← this]
    exact k.wp _ hp
theorem AtQ_done {w : World} {E : Env} {v : Value} : AtQ d v w .normal (upd E d v) w := ⟨rfl, rfl, by simp [upd]⟩
theorem wpQuiet_mono : ∀ (l : List Oper) (a : Act) (K K' : Act → Prop), (∀ a, K a → K' a) → wpQuiet P ops C K l a → wpQuiet P ops C K' l a
  | [], a, K, K', hk, h => hk _ h
  | o :: l, a, K, K', hk, h => by
    simp only [wpQuiet] at h ⊢
    split
    · rename_i hw; rw [if_pos hw] at h; exact Oper.quiet_mono (fun a h => wpQuiet_mono l a K K' hk h) h
    · rename_i hw; rw [if_neg hw] at h; exact wpQuiet_mono l _ K K' hk h
/-- A region that draws: memory is let alone. -/
theorem D_quiet {id : Nat} {l : List Oper} {Q : Post} {w : World} (hm : P.follows .mixedOrders = true) (hB : Region.lexB .any l.toArray = true)
    (h : QO P n l.toArray (fun w' => Fr [] w w') l (fun E' => ∀ w', Fr [] w w' → Q .normal E' w') E) : D P n (.region id l.toArray true) Q E w :=
  ⟨fun a ha => by
    refine wp_region_quiet (C := fun w' => Fr [] w w') hm hB (Fr.drewN w 1) ?_
    have h1 := h.wp a ha
    exact wpQuiet_mono _ _ _ _ (fun a' ⟨E', hf, hk⟩ w' hw' => ⟨E', hf, hk w' hw'⟩) h1⟩
end
section
variable {P : Program} {n : Nat} {ops : Array Oper} {rest : List Oper} {Q : Post} {E : Env} {w : World} {d : Tmp} {ty t : TypeId} {pos : String} {af : Array Edge}
theorem s_remv {x y : Operand} {ty' : TypeId} {kd : IntKind} {a b r : Int} (hx : ev E x = .int kd a) (hy : ev E y = .int kd b) (h0 : 0 < b) (ha : 0 ≤ a) (hr : a % b = r) (k : O P n ops rest Q (upd E d (.int kd r)) w) (hd : Nat.blt d n = true := by rfl) :
    O P n ops (⟨some d, .binOp .rem t x y ty', ty, pos, af, none⟩ :: rest) Q E w := by
  subst hr
  exact s_remi hx hy h0 ha k hd
/-- v[:h] of a slice of whose memory nothing is known. -/
theorem s_sliceRaw {x y : Operand} {a : Option Addr} {m c h sz bytes : Nat} {e : TypeId} {zs : List Value} (hx : ev E x = .slice a m c) (ht : P.underlying t = some (.slice e)) (hti : TI P e zs sz bytes)
    (hh : ev E y = .int .i64 h) (hhc : h ≤ c) (k : ∀ a', O P n ops rest Q (upd E d (.slice a' h c)) w) (hd : Nat.blt d n = true := by rfl) :
    O P n ops (⟨some d, .slice t x none (some y) none, ty, pos, af, none⟩ :: rest) Q E w := by
  obtain ⟨i, z, hi', hz, hcs, hsz, _⟩ := hti.parts
  refine O_step rfl hd ?_ (k (if c = 0 then a else a.map (·.add (0 * sz))))
  simp [execOp, Instr.sliceAt, Instr.slice, Instr.sliceBounds, Instr.sliceBound, asIntOf, hx, hh, run_underlying ht, sizeOf, typeInfo, hi', hsz, hhc]
end
end Go.Proofs.YtelnfdpbcbohdaaDoor
