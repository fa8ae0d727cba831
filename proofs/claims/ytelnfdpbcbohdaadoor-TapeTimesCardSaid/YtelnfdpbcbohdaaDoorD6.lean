/-
  == of structs and arrays. Own work.
-/
import Derived.Test.YtelnfdpbcbohdaaDoorD5
import Derived.ChangeKeysEq
import Derived.Laws.StructEq
namespace Go.Proofs.YtelnfdpbcbohdaaDoor
open Go Go.RowKit
set_option linter.unusedVariables false
set_option linter.unusedSimpArgs false
theorem run_sizeOf_ti {P : Program} {t : TypeId} {cs : List Value} {s b : Nat} (h : TI P t cs s b) (w : World) : (sizeOf t).run P w = .ok s w := by
  obtain ⟨i, z, hi, _, _, hs, _⟩ := h.parts
  simp [sizeOf, typeInfo, hi, hs]
theorem run_part1 {P : Program} {t : TypeId} {cs : List Value} {off : Nat} {v : Value} (ha : aggB P t = some false) (h : At cs off v) (w : World) : (part t cs.toArray off).run P w = .ok v w := by
  unfold part; simp [run_isAgg ha, h.get]
theorem run_partA {P : Program} {t : TypeId} {cs vs zs : List Value} {off s b : Nat} (ha : aggB P t = some true) (ht : TI P t zs s b) (h : (cs.drop off).take s = vs) (w : World) : (part t cs.toArray off).run P w = .ok (.agg vs.toArray) w := by
  unfold part
  simp only [Sem.run_bind, run_isAgg ha, Result.andThen_ok, if_true, run_sizeOf_ti ht, Sem.run_pure]
  congr 2
  subst h
  simp [List.extract_eq_take_drop]
theorem cellsOf_ti {P : Program} {t : TypeId} {cs : List Value} {s b : Nat} (h : TI P t cs s b) : P.cellsOf t = s := by
  obtain ⟨i, z, hi, _, _, hs, _⟩ := h.parts
  simp [Program.cellsOf, hi, hs]
/-- x == y at a type, whatever the world. -/
def EqAs (P : Program) (d : Nat) (t : TypeId) (x y : Value) (b : Bool) : Prop := ∀ w, (Op.equalIn d t x y).run P w = .ok b w
theorem eqAs_int {P : Program} {d : Nat} {t : TypeId} {k kd : IntKind} {a b : Int} (h : P.underlying t = some (.int k)) : EqAs P (d + 1) t (.int kd a) (.int kd b) (a == b) := fun w => by
  unfold Op.equalIn
  simp [run_underlying h]
theorem eqAs_bool {P : Program} {d : Nat} {t : TypeId} {a b : Bool} (h : P.underlying t = some .bool) : EqAs P (d + 1) t (.bool a) (.bool b) (a == b) := fun w => by
  unfold Op.equalIn
  simp [run_underlying h]
theorem eqAs_str {P : Program} {d : Nat} {t : TypeId} {a b : ByteArray} (h : P.underlying t = some .string) : EqAs P (d + 1) t (.string a) (.string b) (a == b) := fun w => by
  unfold Op.equalIn
  simp [run_underlying h]
/-- The fields' parts, one by one. -/
def EqFs (P : Program) (d : Nat) (xs ys : List Value) : List (String × Nat × Nat) → Bool → Prop
  | [], b => b = true
  | (n, t, o) :: l, b => n ≠ "_" ∧ ∃ x y r s, (∀ w, (part t xs.toArray o).run P w = .ok x w) ∧ (∀ w, (part t ys.toArray o).run P w = .ok y w) ∧ EqAs P d t x y r ∧ EqFs P d xs ys l s ∧ b = (r && s)
theorem run_eqFs {P : Program} {d : Nat} {xs ys : List Value} : ∀ (fs : List Field) (b : Bool), EqFs P d xs ys (fs.map fun f => (f.name, f.type, f.offset)) b → ∀ w, (Op.eqFields d xs.toArray ys.toArray fs).run P w = .ok b w := by
  intro fs
  induction fs with
  | nil => intro b h w; simp only [List.map_nil, EqFs] at h; subst h; simp [Op.eqFields]
  | cons f fs ih =>
    intro b h w
    obtain ⟨hn, x, y, r, s, h1, h2, h3, h4, rfl⟩ := h
    simp only [Op.eqFields, if_pos hn, Sem.run_bind, h1 w, h2 w, h3 w, Result.andThen_ok]
    cases r
    · simp
    · simpa using ih s h4 w
theorem eqAs_struct {P : Program} {d : Nat} {t : TypeId} {xs ys : List Value} {b : Bool} {l : List (String × Nat × Nat)} (ht : P.underlying t = some (.struct (P.fieldsOf t))) (hp : P.stoodInHeld t = false) (hl : (P.fieldsOf t).toList.map (fun f => (f.name, f.type, f.offset)) = l)
    (h : EqFs P d xs ys l b) : EqAs P (d + 1) t (.agg xs.toArray) (.agg ys.toArray) b := fun w => by
  rw [run_equalIn_struct w d t _ _ ht hp]
  subst hl
  exact run_eqFs _ b h w
/-- An array's parts, one by one. -/
def EqIs (P : Program) (d : Nat) (e : TypeId) (sz : Nat) (xs ys : List Value) : List Nat → Bool → Prop
  | [], b => b = true
  | i :: l, b => ∃ x y r s, (∀ w, (part e xs.toArray (i * sz)).run P w = .ok x w) ∧ (∀ w, (part e ys.toArray (i * sz)).run P w = .ok y w) ∧ EqAs P d e x y r ∧ EqIs P d e sz xs ys l s ∧ b = (r && s)
theorem run_eqIs {P : Program} {d : Nat} {e : TypeId} {sz : Nat} {xs ys : List Value} : ∀ (is : List Nat) (b : Bool), EqIs P d e sz xs ys is b → ∀ w, (Op.eqItems d e sz xs.toArray ys.toArray is).run P w = .ok b w := by
  intro is
  induction is with
  | nil => intro b h w; simp only [EqIs] at h; subst h; simp [Op.eqItems]
  | cons i is ih =>
    intro b h w
    obtain ⟨x, y, r, s, h1, h2, h3, h4, rfl⟩ := h
    simp only [Op.eqItems, Sem.run_bind, h1 w, h2 w, h3 w, Result.andThen_ok]
    cases r
    · simp
    · simpa using ih s h4 w
theorem eqAs_array {P : Program} {d : Nat} {t e : TypeId} {n sz bytes : Nat} {zs xs ys : List Value} {b : Bool} (ht : P.underlying t = some (.array n e)) (he : TI P e zs sz bytes) (h : EqIs P d e sz xs ys (List.range n) b) : EqAs P (d + 1) t (.agg xs.toArray) (.agg ys.toArray) b := fun w => by
  obtain ⟨i, z, hi, _, _, hs, _⟩ := he.parts
  rw [run_equalIn_array w d _ _ ht hi, cellsOf_ti he]
  exact run_eqIs _ b h w
section rules
variable {P : Program} {n : Nat} {ops : Array Oper} {rest : List Oper} {Q : Post} {E : Env} {w : World} {d : Tmp} {ty t : TypeId} {pos : String} {af : Array Edge}
theorem s_eqA {x y : Operand} {ty' : TypeId} {xs ys : Array Value} {b : Bool} (hx : ev E x = .agg xs) (hy : ev E y = .agg ys) (hm : P.eqGuardType P.depth t = false) (he : EqAs P 10000 t (.agg xs) (.agg ys) b)
    (k : O P n ops rest Q (upd E d (.bool b)) w) (hd : Nat.blt d n = true := by rfl) : O P n ops (⟨some d, .binOp .eql t x y ty', ty, pos, af, none⟩ :: rest) Q E w := by
  refine O_step rfl hd ?_ k
  have h1 : (Op.equal t (.agg xs) (.agg ys)).run P w = .ok b w := he w
  simp [execOp, hx, hy, run_eqGuard_agg w _ _ _ _ _ _ hm, binOp, h1]
theorem s_neA {x y : Operand} {ty' : TypeId} {xs ys : Array Value} {b : Bool} (hx : ev E x = .agg xs) (hy : ev E y = .agg ys) (hm : P.eqGuardType P.depth t = false) (he : EqAs P 10000 t (.agg xs) (.agg ys) b)
    (k : O P n ops rest Q (upd E d (.bool (!b))) w) (hd : Nat.blt d n = true := by rfl) : O P n ops (⟨some d, .binOp .neq t x y ty', ty, pos, af, none⟩ :: rest) Q E w := by
  refine O_step rfl hd ?_ k
  have h1 : (Op.equal t (.agg xs) (.agg ys)).run P w = .ok b w := he w
  simp [execOp, hx, hy, run_eqGuard_agg w _ _ _ _ _ _ hm, binOp, h1]
/-- An element of an array that is a value; each element one cell. -/
theorem s_indexAg {x y : Operand} {cs : List Value} {m i bytes : Nat} {e : TypeId} {zs : List Value} {kd : IntKind} {z : Int} {v : Value} (hx : ev E x = .agg cs.toArray) (hy : ev E y = .int kd z) (hz : z = i) (ht : P.underlying t = some (.array m e)) (hti : TI P e zs 1 bytes) (hag : aggB P e = some false) (hi : i < m) (hv : cs[i]? = some v)
    (k : O P n ops rest Q (upd E d v) w) (hd : Nat.blt d n = true := by rfl) :
    O P n ops (⟨some d, .index t x y, ty, pos, af, none⟩ :: rest) Q E w := by
  subst hz
  refine O_step rfl hd ?_ k
  have h1 := run_part1 (P := P) (t := e) (w := w) hag (At.of hv)
  simp [execOp, Instr.index, hx, hy, asIntOf, run_underlying ht, hi, run_sizeOf_ti hti, h1]
/-- v[:h] of an array in memory. -/
theorem s_sliceArr {x y : Operand} {b o m h sz bytes : Nat} {e : TypeId} {zs : List Value} (hx : ev E x = .pointer (some ⟨b, o, none⟩)) (hy : ev E y = .int .i64 h) (ht : P.underlying t = some (.array m e)) (hti : TI P e zs sz bytes) (hh : h ≤ m)
    (k : O P n ops rest Q (upd E d (.slice (some ⟨b, o, none⟩) h m)) w) (hd : Nat.blt d n = true := by rfl) :
    O P n ops (⟨some d, .slice t x none (some y) none, ty, pos, af, none⟩ :: rest) Q E w := by
  refine O_step rfl hd ?_ k
  have e1 : (if m = 0 then (⟨b, o, none⟩ : Addr) else (⟨b, o, none⟩ : Addr).add (0 * sz)) = ⟨b, o, none⟩ := by simp [Addr.add]
  simp [execOp, Instr.sliceAt, Instr.sliceBounds, Instr.sliceBound, hx, hy, Instr.sureAddr, asIntOf, run_underlying ht, hh, run_sizeOf_ti hti]
  simpa using e1
end rules
end Go.Proofs.YtelnfdpbcbohdaaDoor
