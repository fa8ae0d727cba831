/-
  Rules for texts, structs, memory, calls. Own work.
-/
import Derived.Test.YtelnfdpbcbohdaaDoorD2
namespace Go.Proofs.YtelnfdpbcbohdaaDoor
open Go Go.RowKit
set_option linter.unusedVariables false
set_option linter.unusedSimpArgs false

theorem size_mk (l : List UInt8) : (⟨l.toArray⟩ : ByteArray).size = l.length := by simp [ByteArray.size]
/-! ### Closed facts on types -/
/-- A type's zero cells, how many, and its bytes. -/
def TI (P : Program) (t : TypeId) (cs : List Value) (size bytes : Nat) : Prop :=
  (P.info? t).map (fun i => (i.zero.map (fun z => z.cells.toList), i.size, i.bytes)) = some (some cs, size, bytes)
theorem TI.parts {P : Program} {t : TypeId} {cs : List Value} {size bytes : Nat} (h : TI P t cs size bytes) :
    ∃ i z, P.info? t = some i ∧ i.zero = some z ∧ z.cells = cs.toArray ∧ i.size = size ∧ i.bytes = bytes := by
  obtain ⟨i, hi, he⟩ := Option.map_eq_some_iff.1 h
  simp only [Prod.mk.injEq] at he
  obtain ⟨h1, h2, h3⟩ := he
  obtain ⟨z, hz, hc⟩ := Option.map_eq_some_iff.1 h1
  exact ⟨i, z, hi, hz, by rw [← hc], h2, h3⟩
/-- Is it a struct or an array? -/
def aggB (P : Program) (t : TypeId) : Option Bool :=
  match P.underlying t with
  | some (.struct _) | some (.array _ _) => some true
  | some _ => some false
  | none => none
theorem run_isAgg {P : Program} {t : TypeId} {b : Bool} (h : aggB P t = some b) (w : World) : (isAgg t).run P w = .ok b w := by
  unfold aggB at h
  unfold isAgg
  cases hu : P.underlying t with
  | none => rw [hu] at h; simp at h
  | some u =>
    rw [hu] at h
    rw [Sem.run_bind, run_underlying hu]
    cases u <;> simp at h <;> subst h <;> simp
/-- Where a struct's field lies, if it has cells. -/
def fieldOff (P : Program) (s : TypeId) (f : Nat) : Option Nat :=
  match P.underlying s with
  | some (.struct fs) =>
    match fs[f]? with
    | some x => match P.info? x.type with
      | some i => if i.size = 0 then none else some x.offset
      | none => none
    | none => none
  | _ => none

/-- Cells from a place on. -/
def Row (w : World) (b o : Nat) (cs : List Value) : Prop := ∀ j v, cs[j]? = some v → w.cell? ⟨b, o + j, none⟩ = some v
theorem Blk.row {w : World} {b : Nat} {cs : List Value} {t : TypeId} (h : Blk w b cs t) : Row w b 0 cs := fun j v hj => by rw [Nat.zero_add, h.cell, hj]
theorem Row.at {w : World} {b o : Nat} {cs : List Value} (h : Row w b o cs) {j : Nat} {v : Value} (ha : At cs j v) {r : Nat} (hr : o + j = r) : w.cell? ⟨b, r, none⟩ = some v := by
  subst hr; exact h j v ha.get
theorem Blk.at {w : World} {b : Nat} {cs : List Value} {t : TypeId} (h : Blk w b cs t) {j : Nat} {v : Value} (ha : At cs j v) : w.cell? ⟨b, j, none⟩ = some v := h.row.at ha (Nat.zero_add _)
theorem Row.sub {w : World} {b o : Nat} {cs vs : List Value} (h : Row w b o cs) (k m : Nat) (hv : (cs.drop k).take m = vs) {r : Nat} (hr : o + k = r) : Row w b r vs := fun j v hj => by
  subst hr; subst hv
  rw [List.getElem?_take] at hj
  split at hj
  · rw [List.getElem?_drop] at hj
    have := h (k + j) v hj
    rwa [← Nat.add_assoc] at this
  · cases hj
theorem Row.fr {S : List Nat} {w w' : World} {b o : Nat} {cs : List Value} (h : Row w b o cs) (f : Fr S w w') (hb : b < w.heap.size) (hs : b ∉ S) : Row w' b o cs := fun j v hj => by
  rw [f.cell hb hs]; exact h j v hj
/-- Is it a value of one cell? -/
abbrev One (v : Value) : Prop := v.oneCell' = true

theorem Addr.add_mk (b o k : Nat) : (⟨b, o, none⟩ : Addr).add k = ⟨b, o + k, none⟩ := by
  unfold Addr.add; split <;> simp_all

theorem run_load_at {P : Program} {w : World} {a : Addr} {v : Value} (h : w.cell? a = some v) (m : Mode) : (load a m).run P w = .ok v w := by
  rw [run_load, h]
theorem run_store_at {P : Program} {w : World} {a : Addr} {v u : Value} (h : w.cell? a = some u) (hf : w.frozen? a = false) (hv : One v) (m : Mode) : (store a v m).run P w = .ok () (w.setCell a v) := by
  rw [run_store P w a v m hv, h, hf]; simp
theorem run_loadCells_row {P : Program} {w : World} {b o : Nat} {cs : List Value} (h : Row w b o cs) : ∀ (l : List Value) (i : Nat) (acc : Array Value), cs.drop i = l → (loadCellsFrom ⟨b, o, none⟩ i l.length acc).run P w = .ok (acc ++ l.toArray) w := by
  intro l
  induction l with
  | nil => intro i acc _; simp [loadCellsFrom]
  | cons v l ih =>
    intro i acc hd
    have hv : cs[i]? = some v := by
      have h2 : (cs.drop i)[0]? = some v := by rw [hd]; rfl
      simpa using h2
    have hd' : cs.drop (i + 1) = l := by rw [← List.drop_drop, hd]; rfl
    simp only [List.length_cons, loadCellsFrom, Sem.run_bind, Addr.add_mk, run_load_at (h i v hv), Result.andThen_ok]
    rw [ih (i + 1) (acc.push v) hd']
    simp

section rules
variable {P : Program} {n : Nat} {ops : Array Oper} {rest : List Oper} {Q : Post} {E : Env} {w : World} {d : Tmp} {ty t : TypeId} {pos : String} {af : Array Edge}

/-! ### Texts -/
theorem exec_str {x y : Operand} {ty' : TypeId} {op : BinOp} {a b : ByteArray} {v : Value} (hx : ev E x = .string a) (hy : ev E y = .string b) (hr : (Op.stringOp op a b).run P w = .ok v w) (hop : op ≠ .shl ∧ op ≠ .shr) :
    (execOp (ev E) ⟨some d, .binOp op t x y ty', ty, pos, af, none⟩).run P w = .ok (.value v) w := by
  simp only [execOp, hx, hy, eqGuard]
  cases op <;> simp [binOp, hr] at hop ⊢
theorem s_seqT {x y : Operand} {ty' : TypeId} {a b : ByteArray} (hx : ev E x = .string a) (hy : ev E y = .string b) (h : a = b) (k : O P n ops rest Q (upd E d (.bool true)) w) (hd : Nat.blt d n = true := by rfl) :
    O P n ops (⟨some d, .binOp .eql t x y ty', ty, pos, af, none⟩ :: rest) Q E w :=
  O_step rfl hd (exec_str hx hy (by subst h; simp [Op.stringOp]) (by simp)) k
theorem toList_ne {a b : ByteArray} (h : a ≠ b) : (a.toList == b.toList) = false := by
  rw [beq_eq_false_iff_ne]
  intro e
  apply h
  rw [ByteArray.toList_eq, ByteArray.toList_eq] at e
  cases a; cases b
  congr 1
  exact Array.toList_inj.1 e
theorem s_seqF {x y : Operand} {ty' : TypeId} {a b : ByteArray} (hx : ev E x = .string a) (hy : ev E y = .string b) (h : a ≠ b) (k : O P n ops rest Q (upd E d (.bool false)) w) (hd : Nat.blt d n = true := by rfl) :
    O P n ops (⟨some d, .binOp .eql t x y ty', ty, pos, af, none⟩ :: rest) Q E w :=
  O_step rfl hd (exec_str hx hy (by simp [Op.stringOp, toList_ne h]) (by simp)) k
theorem s_seq2 {x y : Operand} {ty' : TypeId} {a b : ByteArray} (hx : ev E x = .string a) (hy : ev E y = .string b) (k1 : a = b → O P n ops rest Q (upd E d (.bool true)) w) (k2 : a ≠ b → O P n ops rest Q (upd E d (.bool false)) w) (hd : Nat.blt d n = true := by rfl) :
    O P n ops (⟨some d, .binOp .eql t x y ty', ty, pos, af, none⟩ :: rest) Q E w := by
  classical
  by_cases h : a = b
  · exact s_seqT hx hy h (k1 h) hd
  · exact s_seqF hx hy h (k2 h) hd
theorem s_sneF {x y : Operand} {ty' : TypeId} {a b : ByteArray} (hx : ev E x = .string a) (hy : ev E y = .string b) (h : a = b) (k : O P n ops rest Q (upd E d (.bool false)) w) (hd : Nat.blt d n = true := by rfl) :
    O P n ops (⟨some d, .binOp .neq t x y ty', ty, pos, af, none⟩ :: rest) Q E w :=
  O_step rfl hd (exec_str hx hy (by subst h; simp [Op.stringOp]) (by simp)) k
theorem s_sneT {x y : Operand} {ty' : TypeId} {a b : ByteArray} (hx : ev E x = .string a) (hy : ev E y = .string b) (h : a ≠ b) (k : O P n ops rest Q (upd E d (.bool true)) w) (hd : Nat.blt d n = true := by rfl) :
    O P n ops (⟨some d, .binOp .neq t x y ty', ty, pos, af, none⟩ :: rest) Q E w :=
  O_step rfl hd (exec_str hx hy (by simp [Op.stringOp, toList_ne h]) (by simp)) k
theorem s_sne2 {x y : Operand} {ty' : TypeId} {a b : ByteArray} (hx : ev E x = .string a) (hy : ev E y = .string b) (k1 : a ≠ b → O P n ops rest Q (upd E d (.bool true)) w) (k2 : a = b → O P n ops rest Q (upd E d (.bool false)) w) (hd : Nat.blt d n = true := by rfl) :
    O P n ops (⟨some d, .binOp .neq t x y ty', ty, pos, af, none⟩ :: rest) Q E w := by
  classical
  by_cases h : a = b
  · exact s_sneF hx hy h (k2 h) hd
  · exact s_sneT hx hy h (k1 h) hd
theorem s_scat {x y : Operand} {ty' : TypeId} {a b : ByteArray} (hx : ev E x = .string a) (hy : ev E y = .string b) (h : a.size + b.size ≤ 9223372036854775807) (k : O P n ops rest Q (upd E d (.string (a ++ b))) w) (hd : Nat.blt d n = true := by rfl) :
    O P n ops (⟨some d, .binOp .add t x y ty', ty, pos, af, none⟩ :: rest) Q E w := by
  refine O_step rfl hd (exec_str hx hy ?_ (by simp)) k
  have : ¬ ((a.size + b.size : Nat) : Int) > IntKind.i64.max := by simp [IntKind.max, IntKind.signed, IntKind.bits]; omega
  simp only [Op.stringOp]
  rw [if_neg this]; rfl
theorem s_lenS {x : Operand} {a : ByteArray} (hx : ev E x = .string a) (ht : P.underlying t = some .string) (k : O P n ops rest Q (upd E d (.int .i64 a.size)) w) (hd : Nat.blt d n = true := by rfl) :
    O P n ops (⟨some d, .call ⟨.builtin .len, #[x], #[t]⟩, ty, pos, af, none⟩ :: rest) Q E w :=
  O_step rfl hd (by simp [execOp, resolve, invoke, builtin, Builtin.len_, hx, run_underlying ht, goInt]) k
theorem s_lenL {x : Operand} {a : Option Addr} {m c : Nat} {e : TypeId} (hx : ev E x = .slice a m c) (ht : P.underlying t = some (.slice e)) (k : O P n ops rest Q (upd E d (.int .i64 m)) w) (hd : Nat.blt d n = true := by rfl) :
    O P n ops (⟨some d, .call ⟨.builtin .len, #[x], #[t]⟩, ty, pos, af, none⟩ :: rest) Q E w :=
  O_step rfl hd (by simp [execOp, resolve, invoke, builtin, Builtin.len_, hx, run_underlying ht, goInt]) k
theorem s_lenA {x : Operand} {m : Nat} {e : TypeId} (ht : P.underlying t = some (.array m e)) (k : O P n ops rest Q (upd E d (.int .i64 m)) w) (hd : Nat.blt d n = true := by rfl) :
    O P n ops (⟨some d, .call ⟨.builtin .len, #[x], #[t]⟩, ty, pos, af, none⟩ :: rest) Q E w :=
  O_step rfl hd (by simp [execOp, resolve, invoke, builtin, Builtin.len_, run_underlying ht, goInt]) k
theorem s_min {x y : Operand} {a b : Int} {kd : IntKind} (hx : ev E x = .int kd a) (hy : ev E y = .int kd b) {t' : TypeId} (k : O P n ops rest Q (upd E d (.int kd (if b < a then b else a))) w) (hd : Nat.blt d n = true := by rfl) :
    O P n ops (⟨some d, .call ⟨.builtin .min, #[x, y], #[t, t']⟩, ty, pos, af, none⟩ :: rest) Q E w :=
  O_step rfl hd (by simp [execOp, resolve, invoke, builtin, Builtin.min_, Builtin.min2, hx, hy]) k
theorem s_max {x y : Operand} {a b : Int} {kd : IntKind} (hx : ev E x = .int kd a) (hy : ev E y = .int kd b) {t' : TypeId} (k : O P n ops rest Q (upd E d (.int kd (if a < b then b else a))) w) (hd : Nat.blt d n = true := by rfl) :
    O P n ops (⟨some d, .call ⟨.builtin .max, #[x, y], #[t, t']⟩, ty, pos, af, none⟩ :: rest) Q E w :=
  O_step rfl hd (by simp [execOp, resolve, invoke, builtin, Builtin.max_, Builtin.max2, hx, hy]) k
theorem s_indexS {x y : Operand} {s : ByteArray} {kd : IntKind} {i : Int} (hx : ev E x = .string s) (hy : ev E y = .int kd i) (ht : P.underlying t = some .string) {j : Nat} (hj : i = j) {c : UInt8} (hc : s[j]? = some c)
    (k : O P n ops rest Q (upd E d (.int .u8 c.toNat)) w) (hd : Nat.blt d n = true := by rfl) :
    O P n ops (⟨some d, .index t x y, ty, pos, af, none⟩ :: rest) Q E w := by
  subst hj
  refine O_step rfl hd ?_ k
  simp [execOp, Instr.index, hx, hy, asIntOf, run_underlying ht, hc]
theorem s_sliceS {x : Operand} {s : ByteArray} {lo hi : Option Operand} {l h : Nat} (hx : ev E x = .string s) (ht : P.underlying t = some .string)
    (hl : (lo.map (ev E)).getD (.int .i64 0) = .int .i64 l) (hh : (hi.map (ev E)).getD (.int .i64 s.size) = .int .i64 h) (h1 : l ≤ h) (h2 : h ≤ s.size)
    (k : O P n ops rest Q (upd E d (.string (s.extract l h))) w) (hd : Nat.blt d n = true := by rfl) :
    O P n ops (⟨some d, .slice t x lo hi none, ty, pos, af, none⟩ :: rest) Q E w := by
  refine O_step rfl hd ?_ k
  have hlh : (l : Int) ≤ (h : Int) := by omega
  have hhs : (h : Int) ≤ (s.size : Int) := by omega
  cases lo with
  | none =>
    simp at hl
    cases hi with
    | none =>
      simp at hh
      have : l = 0 := by omega
      have : h = s.size := by omega
      subst l; subst h
      simp [execOp, Instr.sliceAt, Instr.slice, Instr.sliceBounds, hx, run_underlying ht]
    | some z =>
      simp at hh
      have : l = 0 := by omega
      subst l
      simp [execOp, Instr.sliceAt, Instr.slice, Instr.sliceBounds, Instr.sliceBound, asIntOf, hx, hh, run_underlying ht, hhs, h2]
  | some y =>
    simp at hl
    cases hi with
    | none =>
      simp at hh
      have : h = s.size := by omega
      subst h
      simp [execOp, Instr.sliceAt, Instr.slice, Instr.sliceBounds, Instr.sliceBound, asIntOf, hx, hl, run_underlying ht, h1]
    | some z =>
      simp at hh
      simp [execOp, Instr.sliceAt, Instr.slice, Instr.sliceBounds, Instr.sliceBound, asIntOf, hx, hl, hh, run_underlying ht, h1, h2]

/-! ### Tuples and structs -/
theorem s_extract {x : Operand} {l : List Value} {i : Nat} {v : Value} (hx : ev E x = .tuple l.toArray) (hi : At l i v) (k : O P n ops rest Q (upd E d v) w) (hd : Nat.blt d n = true := by rfl) :
    O P n ops (⟨some d, .extract x i, ty, pos, af, none⟩ :: rest) Q E w :=
  O_step rfl hd (by simp [execOp, hx, Instr.extract, hi.get]) k

/-! ### Memory -/
theorem s_alloc {cs : List Value} {size bytes : Nat} (ht : TI P t cs size bytes)
    (k : ∀ b w', w.heap.size ≤ b → Blk w' b cs t → Fr [] w w' → O P n ops rest Q (upd E d (.pointer (some ⟨b, 0, none⟩))) w') (hd : Nat.blt d n = true := by rfl) :
    O P n ops (⟨some d, .alloc t, ty, pos, af, none⟩ :: rest) Q E w := by
  obtain ⟨i, z, hi, hz, hc, _, _⟩ := ht.parts
  refine O_step (v := .pointer (some ⟨w.heap.size, 0, none⟩)) (w' := w.alloc (.cells z.cells t)) rfl hd ?_ (k _ _ (Nat.le_refl _) (by have := Blk.new w z.cells t; rw [hc] at this ⊢; simpa using this) (Fr.alloc _ _))
  simp [execOp, Instr.alloc, zeroValue, typeInfo, hi, hz, newVar, newRow, World.alloc_eq]
theorem s_box {x : Operand} {v : Value} {cs : List Value} (hx : ev E x = v) (hv : v.cells = cs.toArray)
    (k : ∀ b w', w.heap.size ≤ b → Blk w' b cs t → Fr [] w w' → O P n ops rest Q (upd E d (.pointer (some ⟨b, 0, none⟩))) w') (hd : Nat.blt d n = true := by rfl) :
    O P n ops (⟨some d, .box t x, ty, pos, af, none⟩ :: rest) Q E w := by
  refine O_step (v := .pointer (some ⟨w.heap.size, 0, none⟩)) (w' := w.alloc (.cells v.cells t)) rfl hd ?_ (k _ _ (Nat.le_refl _) (by have := Blk.new w v.cells t; rw [hv] at this ⊢; simpa using this) (Fr.alloc _ _))
  simp [execOp, Instr.box, hx, newVar, newRow, World.alloc_eq]
theorem s_fieldAddr {x : Operand} {f : Nat} {b o off r : Nat} (hx : ev E x = .pointer (some ⟨b, o, none⟩)) (hf : fieldOff P t f = some off) (hr : o + off = r)
    (k : O P n ops rest Q (upd E d (.pointer (some ⟨b, r, none⟩))) w) (hd : Nat.blt d n = true := by rfl) :
    O P n ops (⟨some d, .fieldAddr t x f, ty, pos, af, none⟩ :: rest) Q E w := by
  subst hr
  refine O_step rfl hd ?_ k
  unfold fieldOff at hf
  split at hf <;> try cases hf
  rename_i fs hu
  split at hf <;> try cases hf
  rename_i fx hfx
  split at hf <;> try cases hf
  rename_i i hi
  split at hf
  · cases hf
  · rename_i hne
    simp at hf; subst hf
    simp [execOp, Instr.fieldAt, run_underlying hu, hfx, hx, Instr.sureAddr, fieldPlace, sizeOf, typeInfo, hi, hne, Addr.add_mk]
theorem s_load1 {x : Operand} {a : Addr} {v : Value} (hx : ev E x = .pointer (some a)) (ht : aggB P t = some false) (hc : w.cell? a = some v)
    (k : O P n ops rest Q (upd E d v) w) (hd : Nat.blt d n = true := by rfl) :
    O P n ops (⟨some d, .load t x, ty, pos, af, none⟩ :: rest) Q E w :=
  O_step rfl hd (by simp [execOp, Instr.loadAt, hx, Instr.sureAddr, loadVar, run_isAgg ht, hc]) k
theorem s_loadA {x : Operand} {b o : Nat} {vs zs : List Value} {size bytes : Nat} (hx : ev E x = .pointer (some ⟨b, o, none⟩)) (ht : aggB P t = some true) (hti : TI P t zs size bytes) (hl : vs.length = size) (hc : Row w b o vs)
    (k : O P n ops rest Q (upd E d (.agg vs.toArray)) w) (hd : Nat.blt d n = true := by rfl) :
    O P n ops (⟨some d, .load t x, ty, pos, af, none⟩ :: rest) Q E w := by
  obtain ⟨i, z, hi, hz, hcs, hs, _⟩ := hti.parts
  refine O_step rfl hd ?_ k
  have h := run_loadCells_row (P := P) hc vs 0 #[] rfl
  simp [execOp, Instr.loadAt, hx, Instr.sureAddr, loadVar, run_isAgg ht, sizeOf, typeInfo, hi, hs, ← hl, loadCells, h]
theorem cells_one {v : Value} (hv : One v) : v.cells = #[v] := by cases v <;> first | rfl | (simp [One, Value.oneCell'] at hv)
/-- Cells laid one behind the other. -/
def setAll : List Value → Nat → List Value → List Value
  | cs, _, [] => cs
  | cs, o, v :: vs => setAll (cs.set o v) (o + 1) vs
theorem run_storeCells_blk (vs : List Value) : ∀ {w : World} {b o i : Nat} {cs : List Value} {t' : TypeId} (hb : Blk w b cs t') (ho : o + i + vs.length ≤ cs.length) (h1 : ∀ v ∈ vs, One v),
    ∃ w', (storeCells ⟨b, o, none⟩ vs i).run P w = .ok () w' ∧ Blk w' b (setAll cs (o + i) vs) t' ∧ Fr [b] w w' := by
  induction vs with
  | nil => intro w b o i cs t' hb _ _; exact ⟨w, by simp [storeCells], hb, Fr.refl _ _⟩
  | cons v vs ih =>
    intro w b o i cs t' hb ho h1
    simp only [List.length_cons] at ho
    have hc : w.cell? ⟨b, o + i, none⟩ = some (cs[o + i]'(by omega)) := by rw [hb.cell]; simp
    have hst := run_store_at (P := P) (v := v) hc (hb.frozen (o + i)) (h1 v (List.mem_cons_self ..)) .plain
    obtain ⟨w', hr, hb', hf⟩ := ih (i := i + 1) (o := o) (hb.set (o + i) v) (by simp; omega) (fun v hv => h1 v (List.mem_cons_of_mem _ hv))
    refine ⟨w', ?_, ?_, (Fr.set w b (o + i) v).step hf (fun i hi => .inl hi)⟩
    · simp only [storeCells, Addr.add_mk, Sem.run_bind, hst, Result.andThen_ok]
      exact hr
    · simp only [setAll]
      rw [Nat.add_assoc]; exact hb'
/-- A store of a value of one cell or more. -/
theorem s_store {x y : Operand} {b o : Nat} {v : Value} {vs cs rs : List Value} {t' zs size bytes} (hx : ev E x = .pointer (some ⟨b, o, none⟩)) (hy : ev E y = v) (hv : v.cells = vs.toArray) (h1 : ∀ u ∈ vs, One u) (hti : TI P t zs size bytes) (hl : vs.length = size) (hb : Blk w b cs t') (ho : o + vs.length ≤ cs.length)
    (hr : setAll cs o vs = rs) (k : ∀ w', Blk w' b rs t' → Fr [b] w w' → O P n ops rest Q E w') :
    O P n ops (⟨none, .store t x y, ty, pos, af, none⟩ :: rest) Q E w := by
  obtain ⟨i, z, hi, hz, hcs, hs, _⟩ := hti.parts
  subst hr
  obtain ⟨w', hrun, hb', hf⟩ := run_storeCells_blk (P := P) vs (i := 0) hb (by omega) h1
  refine O_skips rfl rfl ?_ (k w' hb' hf)
  simp [execOp, Instr.storeAt, hx, hy, Instr.sureAddr, storeVar, hv, sizeOf, typeInfo, hi, hs, hl, hrun]
theorem s_store1 {x y : Operand} {b o : Nat} {v : Value} {cs rs : List Value} {t' zs bytes} (hx : ev E x = .pointer (some ⟨b, o, none⟩)) (hy : ev E y = v) (hv : One v) (hti : TI P t zs 1 bytes) (hb : Blk w b cs t') (ho : o < cs.length)
    (hr : cs.set o v = rs) (k : ∀ w', Blk w' b rs t' → Fr [b] w w' → O P n ops rest Q E w') :
    O P n ops (⟨none, .store t x y, ty, pos, af, none⟩ :: rest) Q E w :=
  s_store hx hy (cells_one hv) (by intro u hu; simp at hu; subst hu; exact hv) hti rfl hb ho hr k
theorem s_indexA {x y : Operand} {b o i r m size bytes : Nat} {e : TypeId} {zs : List Value} {kd : IntKind} (hx : ev E x = .pointer (some ⟨b, o, none⟩)) (hy : ev E y = .int kd i) (ht : P.underlying t = some (.array m e)) (hti : TI P e zs size bytes) (hi : i < m) (hr : o + i * size = r)
    (k : O P n ops rest Q (upd E d (.pointer (some ⟨b, r, none⟩))) w) (hd : Nat.blt d n = true := by rfl) :
    O P n ops (⟨some d, .indexAddr t x y, ty, pos, af, none⟩ :: rest) Q E w := by
  obtain ⟨ii, z, hii, hz, hcs, hs, _⟩ := hti.parts
  subst hr
  refine O_step rfl hd ?_ k
  simp [execOp, Instr.indexAt, hx, hy, asIntOf, run_underlying ht, Instr.sureAddr, hi, sizeOf, typeInfo, hii, hs, Addr.add_mk]
/-- A slice that reads as these elements, each of so many cells. -/
structure Sl (w : World) (v : Value) (sz : Nat) (els : List (List Value)) : Prop where
  intro ::
  out : ∃ a c, v = .slice a els.length c ∧ els.length ≤ c ∧ c ≤ maxLen ∧ (∀ e ∈ els, e.length = sz) ∧ (a = none → els = [] ∧ c = 0) ∧
    ∀ ad, a = some ad → ad.spot = none ∧ ad.block < w.heap.size ∧ ∀ i e, els[i]? = some e → Row w ad.block (ad.off + i * sz) e
theorem Sl.nil (w : World) (sz : Nat) : Sl w (.slice none 0 0) sz [] := ⟨none, 0, rfl, Nat.le_refl _, by simp [maxLen], by simp, fun _ => ⟨rfl, rfl⟩, fun _ h => by cases h⟩
theorem Sl.len {v : Value} {sz : Nat} {els : List (List Value)} (h : Sl w v sz els) : ∃ a c, v = .slice a els.length c := by
  obtain ⟨a, c, hv, _⟩ := h.out; exact ⟨a, c, hv⟩
theorem Sl.max {v : Value} {sz : Nat} {els : List (List Value)} (h : Sl w v sz els) : els.length ≤ maxLen := by
  obtain ⟨a, c, hv, h1, h2, _⟩ := h.out; omega
theorem Sl.fr {S : List Nat} {w w' : World} {v : Value} {sz : Nat} {els : List (List Value)} (h : Sl w v sz els) (f : Fr S w w') (hs : ∀ b, v.ownBlock = some b → b ∉ S) : Sl w' v sz els := by
  obtain ⟨a, c, hv, h1, h2, h3, h4, h5⟩ := h.out
  refine ⟨a, c, hv, h1, h2, h3, h4, fun ad ha => ?_⟩
  obtain ⟨p1, p2, p3⟩ := h5 ad ha
  exact ⟨p1, Nat.lt_of_lt_of_le p2 f.size, fun i e hi => (p3 i e hi).fr f p2 (hs _ (by subst hv; subst ha; rfl))⟩
theorem Sl.fr0 {w w' : World} {v : Value} {sz : Nat} {els : List (List Value)} (h : Sl w v sz els) (f : Fr [] w w') : Sl w' v sz els := h.fr f (by simp)
theorem s_lenSl {x : Operand} {v : Value} {sz m : Nat} {els : List (List Value)} {e : TypeId} (hx : ev E x = v) (hs : Sl w v sz els) (hm : els.length = m) (ht : P.underlying t = some (.slice e)) (k : O P n ops rest Q (upd E d (.int .i64 m)) w) (hd : Nat.blt d n = true := by rfl) :
    O P n ops (⟨some d, .call ⟨.builtin .len, #[x], #[t]⟩, ty, pos, af, none⟩ :: rest) Q E w := by
  obtain ⟨a, c, rfl⟩ := hs.len
  subst hm
  exact s_lenL hx ht k hd
theorem s_indexSl {x y : Operand} {v : Value} {i sz bytes : Nat} {els : List (List Value)} {e : TypeId} {zs : List Value} {kd : IntKind} {z : Int} (hx : ev E x = v) (hy : ev E y = .int kd z) (hz : z = i) (hs : Sl w v sz els) (ht : P.underlying t = some (.slice e)) (hti : TI P e zs sz bytes) (hi : i < els.length)
    (k : ∀ b o, b < w.heap.size → (∀ l, els[i]? = some l → Row w b o l) → O P n ops rest Q (upd E d (.pointer (some ⟨b, o, none⟩))) w) (hd : Nat.blt d n = true := by rfl) :
    O P n ops (⟨some d, .indexAddr t x y, ty, pos, af, none⟩ :: rest) Q E w := by
  obtain ⟨ii, z', hii, hz', hcs, hsz, _⟩ := hti.parts
  obtain ⟨a, c, rfl, h1, h2, h3, h4, h5⟩ := hs.out
  subst hz
  cases a with
  | none => obtain ⟨rfl, _⟩ := h4 rfl; simp at hi
  | some ad =>
    obtain ⟨p1, p2, p3⟩ := h5 ad rfl
    obtain ⟨bl, of, sp⟩ := ad
    simp only at p1; subst p1
    refine O_step rfl hd ?_ (k bl (of + i * sz) p2 (fun l hl => p3 i l hl))
    simp [execOp, Instr.indexAt, hx, hy, asIntOf, run_underlying ht, hi, sizeOf, typeInfo, hii, hsz, Addr.add_mk]

/-! ### Calls -/
def callable (P : Program) (f : FuncId) : Bool :=
  match P.funcs[f]? with
  | some fn => !(fn.name == "runtime.NumGoroutine") && fn.body.isSome
  | none => false
theorem run_callFunc_enter {f : FuncId} (h : callable P f = true) (as : Array Value) : (callFunc f as).run P w = .ok (.enter f as) w := by
  unfold callable at h
  cases hf : P.funcs[f]? with
  | none => rw [hf] at h; simp at h
  | some fn =>
    rw [hf] at h
    simp only [Bool.and_eq_true, Bool.not_eq_true'] at h
    obtain ⟨h1, h2⟩ := h
    obtain ⟨bd, hbd⟩ := Option.isSome_iff_exists.1 h2
    unfold callFunc
    simp only [Sem.run_bind, run_program, Result.andThen_ok, hf, h1, hbd]
    simp
theorem s_call {f : FuncId} {l : List Operand} {tys : Array TypeId} {av : List Value} (ha : l.map (ev E) = av) (hf : callable P f = true)
    (k : Calls P f av.toArray w fun e w' => ∃ v, e = .returned v ∧ O P n ops rest Q (upd E d v) w') (hd : Nat.blt d n = true := by rfl) :
    O P n ops (⟨some d, .call ⟨.value (.func f), l.toArray, tys⟩, ty, pos, af, none⟩ :: rest) Q E w := by
  refine O_enter rfl hd ?_ k
  subst ha
  simp [execOp, resolve, ev, Deferred.ofValue, invoke, run_callFunc_enter hf]
/-- A call of a function value. -/
theorem s_callv {x : Operand} {f : FuncId} {first cap : List Value} {l : List Operand} {tys : Array TypeId} {av : List Value} (hx : ev E x = .func (.func f) first.toArray cap.toArray) (ha : first ++ (l.map (ev E)) ++ cap = av) (hf : callable P f = true)
    (k : Calls P f av.toArray w fun e w' => ∃ v, e = .returned v ∧ O P n ops rest Q (upd E d v) w') (hd : Nat.blt d n = true := by rfl) :
    O P n ops (⟨some d, .call ⟨.value x, l.toArray, tys⟩, ty, pos, af, none⟩ :: rest) Q E w := by
  refine O_enter rfl hd ?_ k
  subst ha
  simp [execOp, resolve, hx, Deferred.ofValue, invoke, run_callFunc_enter hf]
theorem s_makeFunc {fn : Fn} {first cap : List Operand} {vs us : List Value} (h1 : first.map (ev E) = vs) (h2 : cap.map (ev E) = us) (k : O P n ops rest Q (upd E d (.func fn vs.toArray us.toArray)) w) (hd : Nat.blt d n = true := by rfl) :
    O P n ops (⟨some d, .makeFunc fn first.toArray cap.toArray, ty, pos, af, none⟩ :: rest) Q E w := by
  subst h1; subst h2
  exact O_step rfl hd (by simp [execOp, Instr.makeFunc]) k
end rules

/-! ### A function's begin and end -/
def resE (P : Program) (E : Env) (w : World) : List ResultVar → List Value → Prop
  | [], vs => vs = []
  | .tmp t :: l, vs => ∃ us, vs = E t :: us ∧ resE P E w l us
  | .cell a t :: l, vs => ∃ v us, vs = v :: us ∧ (∃ ad, E a = .pointer (some ad) ∧ (loadVar t ad).run P w = .ok v w) ∧ resE P E w l us
def tupled : List Value → Value
  | [v] => v
  | l => .tuple l.toArray
structure Rtd (P : Program) (rs : List ResultVar) (R : Ending → World → Prop) (E : Env) (w : World) : Prop where
  intro ::
  out : ∃ vs, resE P E w rs vs ∧ R (.returned (tupled vs)) w
/-- What a function's end must give. -/
def retQ (P : Program) (rs : List ResultVar) (R : Ending → World → Prop) : Post
  | .normal, E, w | .ret, E, w => Rtd P rs R E w
  | _, _, _ => False
def resSem (tmps : Array Value) : ResultVar → Sem Value
  | .tmp t => pure (tmps.getD t undef)
  | .cell a t => do loadVar t (← asAddr (tmps.getD a undef))
theorem results_eq (fn : Func) (tmps : Array Value) : results fn tmps = (do let vs ← fn.results.mapM (resSem tmps); pure (if h : vs.size = 1 then vs[0] else .tuple vs)) := by
  unfold results
  congr 2
theorem results_of_resE {P : Program} {E : Env} {w : World} {tmps : Array Value} (ht : ∀ i, tmps.getD i undef = E i) (rs : List ResultVar) : ∀ vs, resE P E w rs vs →
    (rs.mapM (resSem tmps)).run P w = .ok vs w := by
  induction rs with
  | nil => intro vs h; simp only [resE] at h; subst h; rfl
  | cons r rs ih =>
    intro vs h
    cases r with
    | tmp t =>
      obtain ⟨us, rfl, h⟩ := h
      have := ih us h
      simp only [List.mapM_cons, resSem, Sem.run_bind, Sem.run_pure, Result.andThen_ok, ht, this]
    | cell a t =>
      obtain ⟨v, us, rfl, ⟨ad, ha, hl⟩, h⟩ := h
      have := ih us h
      simp only [List.mapM_cons, resSem, Sem.run_bind, Sem.run_pure, Result.andThen_ok, ht, ha, asAddr, hl, this]
theorem calls_of_D {P : Program} {f : FuncId} {fn : Func} {c : Code} {n : Nat} {rs : List ResultVar} {as : List Value} {w : World} {R : Ending → World → Prop} (hf : P.funcs[f]? = some fn) (hb : fn.body = some c) (hn : fn.ntmps = n) (hr : fn.results = rs.toArray) (ha : Nat.ble as.length n = true)
    (h : D P n c (retQ P rs R) (args as) w) : Calls P f as.toArray w R := by
  refine calls_of_wp hf hb (wp_mono (h.wp _ ⟨?_, rfl, fun i => ?_⟩) ?_)
  · rw [hn]; have := Nat.le_of_ble_eq_true ha; simp; omega
  · simp only [args, Array.getD_eq_getD_getElem?]
    rw [Array.getElem?_append]
    split
    · rename_i hi
      have key : ∀ (l : List Value) (i : Nat), i < l.length → (l[i]?).getD undef = nth l i := by
        intro l
        induction l with
        | nil => intro i hi; simp at hi
        | cons x l ih => intro i hi; cases i with
          | zero => rfl
          | succ i => simp only [List.length_cons] at hi; simpa [nth] using ih i (by omega)
      simpa using key as i (by simpa using hi)
    · rename_i hi
      have key : ∀ (l : List Value) (i : Nat), l.length ≤ i → nth l i = undef := by
        intro l
        induction l with
        | nil => intro i _; rfl
        | cons x l ih => intro i hi; cases i with
          | zero => simp at hi
          | succ i => simp only [List.length_cons] at hi; exact ih i (by omega)
      rw [key as i (by simpa using hi)]
      rw [Array.getElem?_replicate]
      split <;> rfl
  · rintro e a' w' ⟨E', hf', hq⟩
    have go : (∃ vs, resE P E' w' rs vs ∧ R (.returned (tupled vs)) w') → a'.defers = [] ∧ ∃ v, (results fn a'.tmps).run P w' = .ok v w' ∧ R (.returned v) w' := by
      rintro ⟨vs, h1, h2⟩
      refine ⟨hf'.defers, tupled vs, ?_, h2⟩
      have := results_of_resE (P := P) hf'.get rs vs h1
      rw [results_eq, hr]
      simp only [List.mapM_toArray, Sem.run_bind, Sem.run_map, this, Result.andThen_ok, Sem.run_pure]
      congr 1
      match vs with
      | [] => rfl
      | [v] => rfl
      | v :: u :: l => simp [tupled]
    cases e with
    | normal => exact go hq.out
    | ret => exact go hq.out
    | _ => exact hq.elim
theorem ret1 {P : Program} {R : Ending → World → Prop} {E : Env} {w : World} {t : Tmp} {v : Value} (hv : E t = v) (h : R (.returned v) w) : Rtd P [.tmp t] R E w :=
  .intro ⟨[v], ⟨[], by rw [hv], rfl⟩, h⟩
theorem ret2 {P : Program} {R : Ending → World → Prop} {E : Env} {w : World} {t u : Tmp} {v x : Value} (hv : E t = v) (hx : E u = x) (h : R (.returned (.tuple #[v, x])) w) : Rtd P [.tmp t, .tmp u] R E w :=
  .intro ⟨[v, x], ⟨[x], by rw [hv], [], by rw [hx], rfl⟩, h⟩
theorem ret3 {P : Program} {R : Ending → World → Prop} {E : Env} {w : World} {t u s : Tmp} {v x y : Value} (hv : E t = v) (hx : E u = x) (hy : E s = y) (h : R (.returned (.tuple #[v, x, y])) w) : Rtd P [.tmp t, .tmp u, .tmp s] R E w :=
  .intro ⟨[v, x, y], ⟨[x, y], by rw [hv], [y], by rw [hx], [], by rw [hy], rfl⟩, h⟩
theorem ret0 {P : Program} {R : Ending → World → Prop} {E : Env} {w : World} (h : R (.returned (.tuple #[])) w) : Rtd P [] R E w := .intro ⟨[], rfl, h⟩
theorem end0 {P : Program} {R : Ending → World → Prop} {E : Env} {w : World} (h : R (.returned (.tuple #[])) w) : Rtd P [] R E w := .intro ⟨[], rfl, h⟩
theorem run_loadVar_row {P : Program} {w : World} {b o : Nat} {t : TypeId} {vs zs : List Value} {size bytes : Nat} (ht : aggB P t = some true) (hti : TI P t zs size bytes) (hl : vs.length = size) (hc : Row w b o vs) : (loadVar t ⟨b, o, none⟩).run P w = .ok (.agg vs.toArray) w := by
  obtain ⟨i, z, hi, hz, hcs, hs, _⟩ := hti.parts
  have h := run_loadCells_row (P := P) hc vs 0 #[] rfl
  simp [loadVar, run_isAgg ht, sizeOf, typeInfo, hi, hs, ← hl, loadCells, h]
/-- A struct or an array as the first of two results. -/
theorem retC2 {P : Program} {R : Ending → World → Prop} {E : Env} {w : World} {a u : Tmp} {x : Value} {b o : Nat} {t : TypeId} {vs zs : List Value} {size bytes : Nat} (ha : E a = .pointer (some ⟨b, o, none⟩)) (ht : aggB P t = some true) (hti : TI P t zs size bytes) (hl : vs.length = size) (hc : Row w b o vs) (hx : E u = x)
    (h : R (.returned (.tuple #[.agg vs.toArray, x])) w) : Rtd P [.cell a t, .tmp u] R E w :=
  .intro ⟨[.agg vs.toArray, x], ⟨_, _, rfl, ⟨_, ha, run_loadVar_row ht hti hl hc⟩, [], by rw [hx], rfl⟩, h⟩
theorem retC1 {P : Program} {R : Ending → World → Prop} {E : Env} {w : World} {a : Tmp} {b o : Nat} {t : TypeId} {vs zs : List Value} {size bytes : Nat} (ha : E a = .pointer (some ⟨b, o, none⟩)) (ht : aggB P t = some true) (hti : TI P t zs size bytes) (hl : vs.length = size) (hc : Row w b o vs)
    (h : R (.returned (.agg vs.toArray)) w) : Rtd P [.cell a t] R E w :=
  .intro ⟨[.agg vs.toArray], ⟨_, _, rfl, ⟨_, ha, run_loadVar_row ht hti hl hc⟩, rfl⟩, h⟩
end Go.Proofs.YtelnfdpbcbohdaaDoor
