/-
  Frames, blocks, and a rule an operation. Own work.
-/
import Derived.Test.YtelnfdpbcbohdaaDoorD1
namespace Go.Proofs.YtelnfdpbcbohdaaDoor
open Go Go.RowKit
set_option linter.unusedVariables false
set_option linter.unusedSimpArgs false

/-! ### What a step may change -/
/-- Of the blocks that were, only those of S may have changed; new ones may have come. -/
structure Fr (S : List Nat) (w w' : World) : Prop where
  os : w'.os = w.os
  tape : w'.tape = w.tape
  output : w'.output = w.output
  size : w.heap.size ≤ w'.heap.size
  block : ∀ k, k < w.heap.size → k ∉ S → w'.heap[k]? = w.heap[k]?
theorem Fr.refl (S : List Nat) (w : World) : Fr S w w := ⟨rfl, rfl, rfl, Nat.le_refl _, fun _ _ _ => rfl⟩
theorem Fr.trans {S S1 S2 : List Nat} {a b c : World} (h : Fr S1 a b) (k : Fr S2 b c) (h1 : ∀ i ∈ S1, i ∈ S) (h2 : ∀ i ∈ S2, i ∈ S ∨ a.heap.size ≤ i) : Fr S a c :=
  ⟨k.os.trans h.os, k.tape.trans h.tape, k.output.trans h.output, Nat.le_trans h.size k.size, fun i hi hs => by
    rw [k.block i (Nat.lt_of_lt_of_le hi h.size) (fun hm => by rcases h2 i hm with h2 | h2; exact hs h2; omega), h.block i hi (fun hm => hs (h1 i hm))]⟩
/-- One more step, of a frame that stays within S or in what is new. -/
theorem Fr.step {S S2 : List Nat} {a b c : World} (h : Fr S a b) (k : Fr S2 b c) (h2 : ∀ i ∈ S2, i ∈ S ∨ a.heap.size ≤ i) : Fr S a c := h.trans k (fun _ h => h) h2
theorem Fr.step0 {S : List Nat} {a b c : World} (h : Fr S a b) (k : Fr [] b c) : Fr S a c := h.step k (fun i hi => by cases hi)
theorem Fr.step1 {S : List Nat} {g : Nat} {a b c : World} (h : Fr S a b) (k : Fr [g] b c) (hg : a.heap.size ≤ g) : Fr S a c := h.step k (fun i hi => by simp at hi; subst hi; exact .inr hg)
theorem Fr.stepS {S : List Nat} {g : Nat} {a b c : World} (h : Fr S a b) (k : Fr [g] b c) (hg : g ∈ S) : Fr S a c := h.step k (fun i hi => by simp at hi; subst hi; exact .inl hg)
theorem Fr.mono {S S' : List Nat} {a b : World} (h : Fr S a b) (hs : ∀ i ∈ S, i ∈ S') : Fr S' a b := ⟨h.os, h.tape, h.output, h.size, fun k hk hn => h.block k hk (fun hm => hn (hs k hm))⟩
theorem Fr.drew {S : List Nat} {a b : World} (h : Fr S a b) : Fr S a b.drew := ⟨h.os, h.tape, h.output, h.size, h.block⟩
theorem Fr.below {a b : World} (h : Fr [] a b) : Below a.heap.size a b := ⟨h.os, h.tape, h.output, h.size, fun k hk => h.block k hk (by simp)⟩
theorem Fr.of_below {a b : World} (h : Below a.heap.size a b) : Fr [] a b := ⟨h.os, h.tape, h.output, h.size, fun k hk _ => h.block k hk⟩
theorem Fr.alloc (w : World) (o : Obj) : Fr [] w (w.alloc o) := ⟨rfl, rfl, rfl, by simp, fun k hk _ => Below.heap_alloc _ _ _ hk⟩
theorem Fr.cell {S : List Nat} {w w' : World} (h : Fr S w w') {a : Addr} (ha : a.block < w.heap.size) (hs : a.block ∉ S) : w'.cell? a = w.cell? a := World.cell?_of_block (h.block _ ha hs)

/-- Block b is a row of these cells, not frozen. -/
def Blk (w : World) (b : Nat) (cs : List Value) (t : TypeId) : Prop := w.heap[b]? = some (.cells cs.toArray t (0, 0))
theorem Blk.lt {w : World} {b : Nat} {cs : List Value} {t : TypeId} (h : Blk w b cs t) : b < w.heap.size := (Array.getElem?_eq_some_iff.1 h).1
theorem Blk.fr {S : List Nat} {w w' : World} {b : Nat} {cs : List Value} {t : TypeId} (h : Blk w b cs t) (f : Fr S w w') (hs : b ∉ S) : Blk w' b cs t := by
  unfold Blk; rw [f.block b h.lt hs]; exact h
theorem Blk.fr0 {w w' : World} {b : Nat} {cs : List Value} {t : TypeId} (h : Blk w b cs t) (f : Fr [] w w') : Blk w' b cs t := h.fr f (by simp)
theorem Blk.fr1 {w w' : World} {b g : Nat} {cs : List Value} {t : TypeId} (h : Blk w b cs t) (f : Fr [g] w w') (hs : b ≠ g) : Blk w' b cs t := h.fr f (by simpa using hs)
theorem Blk.cell {w : World} {b : Nat} {cs : List Value} {t : TypeId} (h : Blk w b cs t) (i : Nat) : w.cell? ⟨b, i, none⟩ = cs[i]? := by
  unfold Blk at h; simp [World.cell?, h]
theorem Blk.frozen {w : World} {b : Nat} {cs : List Value} {t : TypeId} (h : Blk w b cs t) (i : Nat) : w.frozen? ⟨b, i, none⟩ = false := by
  unfold Blk at h; simp [World.frozen?, h]
theorem Blk.new (w : World) (cs : Array Value) (t : TypeId) : Blk (w.alloc (.cells cs t)) w.heap.size cs.toList t := by
  unfold Blk; rw [heap_alloc_new]
theorem Blk.set {w : World} {b : Nat} {cs : List Value} {t : TypeId} (h : Blk w b cs t) (i : Nat) (v : Value) : Blk (w.setCell ⟨b, i, none⟩ v) b (cs.set i v) t := by
  have hlt := h.lt
  unfold Blk at h ⊢
  have : w.heap[b] = Obj.cells cs.toArray t (0, 0) := by
    have := h; rw [Array.getElem?_eq_getElem hlt] at this; exact Option.some.inj this
  simp [World.setCell, Array.getElem?_modify, h]
theorem Fr.set (w : World) (b i : Nat) (v : Value) : Fr [b] w (w.setCell ⟨b, i, none⟩ v) :=
  ⟨rfl, rfl, rfl, by simp [World.setCell], fun k _ hk => Below.heap_setCell _ _ _ _ (by simpa using hk)⟩

/-- The cell at a place of a list, by a path: so that a place that is a numeral is found without a reckoning. -/
inductive At : List Value → Nat → Value → Prop
  | z {v l} : At (v :: l) 0 v
  | s {x l n v} : At l n v → At (x :: l) (n + 1) v
theorem At.get {l : List Value} {n : Nat} {v : Value} (h : At l n v) : l[n]? = some v := by
  induction h with
  | z => rfl
  | s _ ih => simpa using ih
theorem At.of {l : List Value} {n : Nat} {v : Value} (h : l[n]? = some v) : At l n v := by
  induction l generalizing n with
  | nil => simp at h
  | cons x l ih =>
    cases n with
    | zero => simp at h; subst h; exact .z
    | succ n => exact .s (ih (by simpa using h))

section rules
variable {P : Program} {n : Nat} {ops : Array Oper} {rest : List Oper} {Q : Post} {E : Env} {w : World}

theorem O_nil (h : Q .normal E w) : O P n ops [] Q E w := ⟨fun a ha => wpList_nil ⟨E, ha, h⟩⟩

/-- An operation that yields a value. -/
theorem O_step {o : Oper} {v : Value} {w' : World} (hg : o.guard = none) (hd : okDst o.dst n = true) (hr : (execOp (ev E) o).run P w = .ok (.value v) w')
    (k : O P n ops rest Q (put E o.dst v) w') : O P n ops (o :: rest) Q E w :=
  ⟨fun a ha => wpList_plain hg fun K hK => by
    unfold Oper.wp
    rw [ha.eval, hr]
    exact hK _ _ (k.wp _ (ha.put hd v))⟩
theorem O_skips {o : Oper} {w' : World} (hg : o.guard = none) (hd : okDst o.dst n = true) (hr : (execOp (ev E) o).run P w = .ok .skip w')
    (k : O P n ops rest Q (put E o.dst undef) w') : O P n ops (o :: rest) Q E w :=
  ⟨fun a ha => wpList_plain hg fun K hK => by
    unfold Oper.wp
    rw [ha.eval, hr]
    exact hK _ _ (k.wp _ (ha.put hd undef))⟩
/-- A call. -/
theorem O_enter {o : Oper} {f : FuncId} {as : Array Value} (hg : o.guard = none) (hd : okDst o.dst n = true) (hr : (execOp (ev E) o).run P w = .ok (.enter f as) w)
    (k : Calls P f as w fun e w' => ∃ v, e = .returned v ∧ O P n ops rest Q (put E o.dst v) w') : O P n ops (o :: rest) Q E w :=
  ⟨fun a ha => wpList_plain hg fun K hK => by
    unfold Oper.wp
    rw [ha.eval, hr]
    refine Calls.mono k ?_
    rintro e w' ⟨v, rfl, h⟩
    exact hK _ _ (h.wp _ (ha.put hd v))⟩

/-- What an operation yielded whose bool a guard asks. -/
def yieldE (ops : Array Oper) (E : Env) (j : Nat) : Option Bool :=
  match (ops[j]?).bind (·.dst) with
  | some d => match E d with | .bool b => some b | _ => none
  | none => none
theorem Fits.yielded {a : Act} (h : Fits a n E) (j : Nat) : yielded ops a.tmps j = yieldE ops E j := by
  unfold Go.yielded yieldE
  cases hd : (ops[j]?).bind (·.dst) with
  | none => simp
  | some d =>
    simp only [Option.bind_some]
    have := h.get d
    rw [← this]
    simp only [Array.getD_eq_getD_getElem?]
    cases a.tmps[d]? with
    | none => simp [undef]
    | some v => cases v <;> simp
/-- A guarded operation whose guard holds is as one without a guard. -/
theorem O_want {d : Option Tmp} {op : Op} {ty : TypeId} {pos : String} {af : Array Edge} {j : Nat} {want : Bool} (hy : yieldE ops E j = some want)
    (k : O P n ops (⟨d, op, ty, pos, af, none⟩ :: rest) Q E w) : O P n ops (⟨d, op, ty, pos, af, some (j, want)⟩ :: rest) Q E w :=
  ⟨fun a ha => by
    have h := k.wp a ha
    simp only [wpList] at h ⊢
    rw [if_pos (by simp [Region.wanted])] at h
    rw [if_pos (by simp only [Region.wanted]; rw [ha.yielded, hy]; simp)]
    have e1 : Oper.wp P (Oper.mk d op ty pos af (some (j, want))) a w = Oper.wp P (Oper.mk d op ty pos af none) a w := by
      funext K Q; rfl
    have e2 : Oper.asks P (Oper.mk d op ty pos af (some (j, want))) a w = Oper.asks P (Oper.mk d op ty pos af none) a w := rfl
    rw [e1, e2]; exact h⟩
/-- One whose guard doesn't hold is passed by. -/
theorem O_pass {d : Tmp} {op : Op} {ty : TypeId} {pos : String} {af : Array Edge} {j : Nat} {want b : Bool} (hy : yieldE ops E j = some b) (hb : (b == want) = false)
    (k : O P n ops rest Q (upd E d undef) w) (hd : Nat.blt d n = true := by rfl) : O P n ops (⟨some d, op, ty, pos, af, some (j, want)⟩ :: rest) Q E w :=
  ⟨fun a ha => by
    simp only [wpList]
    rw [if_neg (by simp only [Region.wanted]; rw [ha.yielded, hy]; simpa using hb)]
    exact k.wp _ (ha.put (d := some d) hd undef)⟩

/-- One whose guard was itself passed by. -/
theorem O_passU {d : Tmp} {op : Op} {ty : TypeId} {pos : String} {af : Array Edge} {j : Nat} {want : Bool} (hy : yieldE ops E j = none)
    (k : O P n ops rest Q (upd E d undef) w) (hd : Nat.blt d n = true := by rfl) : O P n ops (⟨some d, op, ty, pos, af, some (j, want)⟩ :: rest) Q E w :=
  ⟨fun a ha => by
    simp only [wpList]
    rw [if_neg (by simp only [Region.wanted]; rw [ha.yielded, hy]; simp)]
    exact k.wp _ (ha.put (d := some d) hd undef)⟩

/-! ### Values -/
variable {d : Tmp} {ty t : TypeId} {pos : String} {af : Array Edge}
theorem s_move {x : Operand} {v : Value} (hx : ev E x = v) (k : O P n ops rest Q (upd E d v) w) (hd : Nat.blt d n = true := by rfl) : O P n ops (⟨some d, .move x, ty, pos, af, none⟩ :: rest) Q E w :=
  O_step rfl hd (by simp [execOp, hx]) k
theorem s_assign {x : Operand} {v : Value} (hx : ev E x = v) (k : O P n ops rest Q (upd E d v) w) (hd : Nat.blt d n = true := by rfl) : O P n ops (⟨some d, .assign x, ty, pos, af, none⟩ :: rest) Q E w :=
  O_step rfl hd (by simp [execOp, hx]) k
theorem s_pickT {c x y : Operand} {v : Value} (hc : ev E c = .bool true) (hx : ev E x = v) (k : O P n ops rest Q (upd E d v) w) (hd : Nat.blt d n = true := by rfl) : O P n ops (⟨some d, .pick c x y, ty, pos, af, none⟩ :: rest) Q E w :=
  O_step rfl hd (by simp [execOp, hc, asBool, hx]) k
theorem s_pickF {c x y : Operand} {v : Value} (hc : ev E c = .bool false) (hx : ev E y = v) (k : O P n ops rest Q (upd E d v) w) (hd : Nat.blt d n = true := by rfl) : O P n ops (⟨some d, .pick c x y, ty, pos, af, none⟩ :: rest) Q E w :=
  O_step rfl hd (by simp [execOp, hc, asBool, hx]) k

section ints
variable {x y : Operand} {kd kc : IntKind} {a b : Int} {ty' : TypeId}
theorem exec_int {op : BinOp} {v : Value} (hx : ev E x = .int kd a) (hy : ev E y = .int kc b) (hr : (binOp op t (.int kd a) (.int kc b)).run P w = .ok v w) :
    (execOp (ev E) ⟨some d, .binOp op t x y ty', ty, pos, af, none⟩).run P w = .ok (.value v) w := by
  simp only [execOp, hx, hy, eqGuard]
  cases op <;> simp [hr]
theorem s_add (hx : ev E x = .int kd a) (hy : ev E y = .int kd b) (k : O P n ops rest Q (upd E d (.int kd (kd.wrap (a + b)))) w) (hd : Nat.blt d n = true := by rfl) :
    O P n ops (⟨some d, .binOp .add t x y ty', ty, pos, af, none⟩ :: rest) Q E w :=
  O_step rfl hd (exec_int hx hy (by simp [binOp, Op.intArith])) k
theorem s_sub (hx : ev E x = .int kd a) (hy : ev E y = .int kd b) (k : O P n ops rest Q (upd E d (.int kd (kd.wrap (a - b)))) w) (hd : Nat.blt d n = true := by rfl) :
    O P n ops (⟨some d, .binOp .sub t x y ty', ty, pos, af, none⟩ :: rest) Q E w :=
  O_step rfl hd (exec_int hx hy (by simp [binOp, Op.intArith])) k
theorem s_mul (hx : ev E x = .int kd a) (hy : ev E y = .int kd b) (k : O P n ops rest Q (upd E d (.int kd (kd.wrap (a * b)))) w) (hd : Nat.blt d n = true := by rfl) :
    O P n ops (⟨some d, .binOp .mul t x y ty', ty, pos, af, none⟩ :: rest) Q E w :=
  O_step rfl hd (exec_int hx hy (by simp [binOp, Op.intArith])) k
/-- The same of an int that stays in its bounds. -/
theorem in64 {z : Int} (h : -9223372036854775808 ≤ z ∧ z ≤ 9223372036854775807) : IntKind.wrap .i64 z = z := IntWalk.i64_in _ h
theorem s_addi (hx : ev E x = .int .i64 a) (hy : ev E y = .int .i64 b) (h : -9223372036854775808 ≤ a + b ∧ a + b ≤ 9223372036854775807) (k : O P n ops rest Q (upd E d (.int .i64 (a + b))) w) (hd : Nat.blt d n = true := by rfl) :
    O P n ops (⟨some d, .binOp .add t x y ty', ty, pos, af, none⟩ :: rest) Q E w :=
  s_add hx hy (by rw [in64 h]; exact k) hd
theorem s_subi (hx : ev E x = .int .i64 a) (hy : ev E y = .int .i64 b) (h : -9223372036854775808 ≤ a - b ∧ a - b ≤ 9223372036854775807) (k : O P n ops rest Q (upd E d (.int .i64 (a - b))) w) (hd : Nat.blt d n = true := by rfl) :
    O P n ops (⟨some d, .binOp .sub t x y ty', ty, pos, af, none⟩ :: rest) Q E w :=
  s_sub hx hy (by rw [in64 h]; exact k) hd
theorem s_muli (hx : ev E x = .int .i64 a) (hy : ev E y = .int .i64 b) (h : -9223372036854775808 ≤ a * b ∧ a * b ≤ 9223372036854775807) (k : O P n ops rest Q (upd E d (.int .i64 (a * b))) w) (hd : Nat.blt d n = true := by rfl) :
    O P n ops (⟨some d, .binOp .mul t x y ty', ty, pos, af, none⟩ :: rest) Q E w :=
  s_mul hx hy (by rw [in64 h]; exact k) hd
theorem s_quo (hx : ev E x = .int kd a) (hy : ev E y = .int kd b) (h0 : b ≠ 0) (k : O P n ops rest Q (upd E d (.int kd (kd.wrap (a.tdiv b)))) w) (hd : Nat.blt d n = true := by rfl) :
    O P n ops (⟨some d, .binOp .quo t x y ty', ty, pos, af, none⟩ :: rest) Q E w :=
  O_step rfl hd (exec_int hx hy (by simp [binOp, Op.intDiv, h0])) k
theorem s_rem (hx : ev E x = .int kd a) (hy : ev E y = .int kd b) (h0 : b ≠ 0) (k : O P n ops rest Q (upd E d (.int kd (a.tmod b))) w) (hd : Nat.blt d n = true := by rfl) :
    O P n ops (⟨some d, .binOp .rem t x y ty', ty, pos, af, none⟩ :: rest) Q E w :=
  O_step rfl hd (exec_int hx hy (by simp [binOp, Op.intDiv, h0])) k
/-- / and % of numbers that aren't negative. -/
theorem s_quoi (hx : ev E x = .int .i64 a) (hy : ev E y = .int .i64 b) (h0 : 0 < b) (ha : 0 ≤ a) (hm : a ≤ 9223372036854775807) (k : O P n ops rest Q (upd E d (.int .i64 (a / b))) w) (hd : Nat.blt d n = true := by rfl) :
    O P n ops (⟨some d, .binOp .quo t x y ty', ty, pos, af, none⟩ :: rest) Q E w := by
  refine s_quo hx hy (by omega) ?_ hd
  have e : a.tdiv b = a / b := Int.tdiv_eq_ediv_of_nonneg ha
  rw [e, in64]
  · exact k
  · have h1 : 0 ≤ a / b := Int.ediv_nonneg ha (by omega)
    have h2 : a / b ≤ a := Int.ediv_le_self _ ha
    omega
theorem s_remi (hx : ev E x = .int kd a) (hy : ev E y = .int kd b) (h0 : 0 < b) (ha : 0 ≤ a) (k : O P n ops rest Q (upd E d (.int kd (a % b))) w) (hd : Nat.blt d n = true := by rfl) :
    O P n ops (⟨some d, .binOp .rem t x y ty', ty, pos, af, none⟩ :: rest) Q E w := by
  refine s_rem hx hy (by omega) ?_ hd
  rw [Int.tmod_eq_emod_of_nonneg ha]; exact k
/-- The bits of two numbers. -/
def bits2 (op : BinOp) (kd : IntKind) (a b : Int) : Int :=
  let x := BitVec.ofInt kd.bits a
  let y := BitVec.ofInt kd.bits b
  kd.wrap (match op with | .and => (x &&& y).toNat | .or => (x ||| y).toNat | .xor => (x ^^^ y).toNat | .andNot => (x &&& ~~~y).toNat | _ => 0)
theorem s_and (hx : ev E x = .int kd a) (hy : ev E y = .int kd b) (k : O P n ops rest Q (upd E d (.int kd (bits2 .and kd a b))) w) (hd : Nat.blt d n = true := by rfl) :
    O P n ops (⟨some d, .binOp .and t x y ty', ty, pos, af, none⟩ :: rest) Q E w :=
  O_step rfl hd (exec_int hx hy (by simp [binOp, Op.intBits, bits2])) k
theorem s_or (hx : ev E x = .int kd a) (hy : ev E y = .int kd b) (k : O P n ops rest Q (upd E d (.int kd (bits2 .or kd a b))) w) (hd : Nat.blt d n = true := by rfl) :
    O P n ops (⟨some d, .binOp .or t x y ty', ty, pos, af, none⟩ :: rest) Q E w :=
  O_step rfl hd (exec_int hx hy (by simp [binOp, Op.intBits, bits2])) k
theorem s_xor (hx : ev E x = .int kd a) (hy : ev E y = .int kd b) (k : O P n ops rest Q (upd E d (.int kd (bits2 .xor kd a b))) w) (hd : Nat.blt d n = true := by rfl) :
    O P n ops (⟨some d, .binOp .xor t x y ty', ty, pos, af, none⟩ :: rest) Q E w :=
  O_step rfl hd (exec_int hx hy (by simp [binOp, Op.intBits, bits2])) k
theorem s_andNot (hx : ev E x = .int kd a) (hy : ev E y = .int kd b) (k : O P n ops rest Q (upd E d (.int kd (bits2 .andNot kd a b))) w) (hd : Nat.blt d n = true := by rfl) :
    O P n ops (⟨some d, .binOp .andNot t x y ty', ty, pos, af, none⟩ :: rest) Q E w :=
  O_step rfl hd (exec_int hx hy (by simp [binOp, Op.intBits, bits2])) k
theorem s_shl (hx : ev E x = .int kd a) (hy : ev E y = .int kc b) (h0 : 0 ≤ b) (k : O P n ops rest Q (upd E d (.int kd (kd.wrap (a * 2 ^ min b.toNat kd.bits)))) w) (hd : Nat.blt d n = true := by rfl) :
    O P n ops (⟨some d, .binOp .shl t x y ty', ty, pos, af, none⟩ :: rest) Q E w :=
  O_step rfl hd (exec_int hx hy (by simp [binOp, Op.shift, show ¬ b < 0 by omega])) k
theorem s_shr (hx : ev E x = .int kd a) (hy : ev E y = .int kc b) (h0 : 0 ≤ b) (k : O P n ops rest Q (upd E d (.int kd (a.fdiv (2 ^ min b.toNat kd.bits)))) w) (hd : Nat.blt d n = true := by rfl) :
    O P n ops (⟨some d, .binOp .shr t x y ty', ty, pos, af, none⟩ :: rest) Q E w :=
  O_step rfl hd (exec_int hx hy (by simp [binOp, Op.shift, show ¬ b < 0 by omega])) k

/-- What a comparison asks. -/
def asks (op : BinOp) (a b : Int) : Prop :=
  match op with | .eql => a = b | .neq => a ≠ b | .lss => a < b | .leq => a ≤ b | .gtr => b < a | .geq => b ≤ a | _ => False
def isCmp : BinOp → Bool | .eql | .neq | .lss | .leq | .gtr | .geq => true | _ => false
theorem s_cmp {op : BinOp} (hop : isCmp op = true) (hx : ev E x = .int kd a) (hy : ev E y = .int kd b) {c : Bool} (hc : c = true ↔ asks op a b)
    (k : O P n ops rest Q (upd E d (.bool c)) w) (hd : Nat.blt d n = true := by rfl) :
    O P n ops (⟨some d, .binOp op t x y ty', ty, pos, af, none⟩ :: rest) Q E w := by
  refine O_step (v := .bool c) rfl hd (exec_int hx hy ?_) k
  cases op <;> simp [isCmp] at hop <;> simp only [asks] at hc <;> simp [binOp, Op.intCmp] <;> (rw [Bool.eq_iff_iff]; simp [hc]) <;> (try omega)
theorem s_cmpT {op : BinOp} (hop : isCmp op = true) (hx : ev E x = .int kd a) (hy : ev E y = .int kd b) (hc : asks op a b)
    (k : O P n ops rest Q (upd E d (.bool true)) w) (hd : Nat.blt d n = true := by rfl) :
    O P n ops (⟨some d, .binOp op t x y ty', ty, pos, af, none⟩ :: rest) Q E w := s_cmp hop hx hy (by simpa using hc) k hd
theorem s_cmpF {op : BinOp} (hop : isCmp op = true) (hx : ev E x = .int kd a) (hy : ev E y = .int kd b) (hc : ¬ asks op a b)
    (k : O P n ops rest Q (upd E d (.bool false)) w) (hd : Nat.blt d n = true := by rfl) :
    O P n ops (⟨some d, .binOp op t x y ty', ty, pos, af, none⟩ :: rest) Q E w := s_cmp hop hx hy (by simpa using hc) k hd
/-- A comparison that the context doesn't decide: two ways. -/
theorem s_cmp2 {op : BinOp} (hop : isCmp op = true) (hx : ev E x = .int kd a) (hy : ev E y = .int kd b)
    (k1 : asks op a b → O P n ops rest Q (upd E d (.bool true)) w) (k2 : ¬ asks op a b → O P n ops rest Q (upd E d (.bool false)) w) (hd : Nat.blt d n = true := by rfl) :
    O P n ops (⟨some d, .binOp op t x y ty', ty, pos, af, none⟩ :: rest) Q E w := by
  classical
  by_cases h : asks op a b
  · exact s_cmpT hop hx hy h (k1 h) hd
  · exact s_cmpF hop hx hy h (k2 h) hd
theorem s_conv {kk : IntKind} (hx : ev E x = .int kc a) {src dst : TypeId} (h1 : (P.underlying src).isSome = true) (h2 : P.underlying dst = some (.int kk)) (k : O P n ops rest Q (upd E d (.int kk (kk.wrap a))) w) (hd : Nat.blt d n = true := by rfl) :
    O P n ops (⟨some d, .convert src dst x, ty, pos, af, none⟩ :: rest) Q E w := by
  obtain ⟨u, hu⟩ := Option.isSome_iff_exists.1 h1
  refine O_step rfl hd ?_ k
  simp only [execOp, hx, convert, Sem.run_bind, run_underlying hu, run_underlying h2, Result.andThen_ok, Conv.intToInt]
  cases u <;> simp [Conv.intToInt]
end ints
theorem s_not {x : Operand} {b : Bool} (hx : ev E x = .bool b) (k : O P n ops rest Q (upd E d (.bool (!b))) w) (hd : Nat.blt d n = true := by rfl) {t : TypeId} :
    O P n ops (⟨some d, .unOp .not t x, ty, pos, af, none⟩ :: rest) Q E w :=
  O_step rfl hd (by simp [execOp, hx, Op.unary]) k
end rules
end Go.Proofs.YtelnfdpbcbohdaaDoor
