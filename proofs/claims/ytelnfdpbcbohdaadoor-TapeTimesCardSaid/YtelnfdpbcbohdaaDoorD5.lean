/-
  Rules for slices whose block is known, clear, interfaces against nil. Own work.
-/
import Derived.Test.YtelnfdpbcbohdaaDoorD4
import Derived.Lib.ConvBytes
import Derived.Sort.Grow
import Derived.Deep.Draws
namespace Go.Proofs.YtelnfdpbcbohdaaDoor
open Go Go.RowKit
set_option linter.unusedVariables false
set_option linter.unusedSimpArgs false
/-! ### Frames of the library's worlds -/
theorem Fr.drewN (w : World) (n : Nat) : Fr [] w (w.drewN n) := ⟨rfl, rfl, rfl, Nat.le_refl _, fun _ _ _ => rfl⟩
theorem Fr.grow (w : World) (os : Array Obj) : Fr [] w (Go.«Sort».grow w os) :=
  ⟨rfl, rfl, rfl, by simp [Go.«Sort».grow], fun k hk _ => by simp only [Go.«Sort».grow]; rw [Array.getElem?_append_left hk]⟩
theorem Fr.itoa {w w' : World} (h : ∃ k os, w' = Go.«Sort».grow (w.drewN k) os) : Fr [] w w' := by
  obtain ⟨k, os, rfl⟩ := h
  exact (Fr.drewN w k).step0 (Fr.grow _ os)
theorem Fr.freeze (w : World) (a : Addr) (n : Nat) : Fr [a.block] w (w.freeze a n) := by
  unfold World.freeze
  split
  · exact Fr.refl _ _
  · exact ⟨rfl, rfl, rfl, by simp, fun k hk hn => by simp only [Array.getElem?_modify]; rw [if_neg (by simpa using fun h => hn (by simp [h]))]⟩
theorem Fr.bytesWorld (w : World) (e : TypeId) (s : ByteArray) : Fr [] w (Go.Lib.bytesWorld w e s) := by
  unfold Go.Lib.bytesWorld
  have h1 : Fr [] w (w.drew.alloc (.cells (Go.Lib.bytesCells w e s) e)) := (Fr.refl [] w).drew.step0 (Fr.alloc _ _)
  exact h1.step1 (Fr.freeze _ _ _) (Nat.le_refl _)

section rules
variable {P : Program} {n : Nat} {ops : Array Oper} {rest : List Oper} {Q : Post} {E : Env} {w : World} {d : Tmp} {ty t : TypeId} {pos : String} {af : Array Edge}
/-- The place of an element of a slice whose address is known. -/
theorem s_indexC {x y : Operand} {b o m c i r sz bytes : Nat} {e : TypeId} {zs : List Value} {kd : IntKind} {z : Int} (hx : ev E x = .slice (some ⟨b, o, none⟩) m c) (hy : ev E y = .int kd z) (hz : z = i) (ht : P.underlying t = some (.slice e)) (hti : TI P e zs sz bytes) (hi : i < m) (hr : o + i * sz = r)
    (k : O P n ops rest Q (upd E d (.pointer (some ⟨b, r, none⟩))) w) (hd : Nat.blt d n = true := by rfl) :
    O P n ops (⟨some d, .indexAddr t x y, ty, pos, af, none⟩ :: rest) Q E w := by
  obtain ⟨ii, z', hii, hz', hcs, hsz, _⟩ := hti.parts
  subst hz; subst hr
  refine O_step rfl hd ?_ k
  simp [execOp, Instr.indexAt, hx, hy, asIntOf, run_underlying ht, hi, sizeOf, typeInfo, hii, hsz, Addr.add_mk]
/-- The place of an element of an array, the index an int. -/
theorem s_indexV {x y : Operand} {b o i r m size bytes : Nat} {e : TypeId} {zs : List Value} {kd : IntKind} {z : Int} (hx : ev E x = .pointer (some ⟨b, o, none⟩)) (hy : ev E y = .int kd z) (hz : z = i) (ht : P.underlying t = some (.array m e)) (hti : TI P e zs size bytes) (hi : i < m) (hr : o + i * size = r)
    (k : O P n ops rest Q (upd E d (.pointer (some ⟨b, r, none⟩))) w) (hd : Nat.blt d n = true := by rfl) :
    O P n ops (⟨some d, .indexAddr t x y, ty, pos, af, none⟩ :: rest) Q E w := by
  subst hz
  exact s_indexA hx hy ht hti hi hr k hd
/-- v[l:h] of a slice whose address is known; the numbers as Nat. -/
theorem s_sliceC {x : Operand} {b o m c l h : Nat} {lo hi : Option Operand} {sz bytes : Nat} {e : TypeId} {zs : List Value} (hx : ev E x = .slice (some ⟨b, o, none⟩) m c) (ht : P.underlying t = some (.slice e)) (hti : TI P e zs sz bytes)
    (hl : (lo.map (ev E)).getD (.int .i64 0) = .int .i64 l) (hh : (hi.map (ev E)).getD (.int .i64 m) = .int .i64 h) (h1 : l ≤ h) (h2 : h ≤ c) (hmc : m ≤ c)
    (k : O P n ops rest Q (upd E d (.slice (some (if c = l then ⟨b, o, none⟩ else ⟨b, o + l * sz, none⟩)) (h - l) (c - l))) w) (hd : Nat.blt d n = true := by rfl) :
    O P n ops (⟨some d, .slice t x lo hi none, ty, pos, af, none⟩ :: rest) Q E w := by
  obtain ⟨i, z, hi', hz, hcs, hsz, _⟩ := hti.parts
  refine O_step rfl hd ?_ k
  have hlh : (l : Int) ≤ (h : Int) := by omega
  have hhc : (h : Int) ≤ (c : Int) := by omega
  have hfin : ∀ (a : Addr) (q : Prop) [Decidable q], (if q then (some a) else (some a).map (·.add (l * sz))) = some (if q then a else a.add (l * sz)) := by intro a q _; split <;> rfl
  cases lo with
  | none =>
    simp at hl
    have hl0 : l = 0 := by omega
    subst l
    cases hi with
    | none =>
      simp at hh
      have hh0 : h = m := by omega
      subst h
      simp [execOp, Instr.sliceAt, Instr.slice, Instr.sliceBounds, hx, run_underlying ht, sizeOf, typeInfo, hi', hsz, Addr.add]
    | some y =>
      simp at hh
      simp [execOp, Instr.sliceAt, Instr.slice, Instr.sliceBounds, Instr.sliceBound, asIntOf, hx, hh, run_underlying ht, sizeOf, typeInfo, hi', hsz, h2, Addr.add]
  | some y =>
    simp at hl
    cases hi with
    | none =>
      simp at hh
      have hh0 : h = m := by omega
      subst h
      simp [execOp, Instr.sliceAt, Instr.slice, Instr.sliceBounds, Instr.sliceBound, asIntOf, hx, hl, run_underlying ht, sizeOf, typeInfo, hi', hsz, h1, Addr.add_mk]
      split <;> rfl
    | some y =>
      simp at hh
      simp [execOp, Instr.sliceAt, Instr.slice, Instr.sliceBounds, Instr.sliceBound, asIntOf, hx, hl, hh, run_underlying ht, sizeOf, typeInfo, hi', hsz, h2, h1, Addr.add_mk]
      split <;> rfl
/-- v[:h]. -/
theorem s_sliceC0 {x y : Operand} {b o m c h : Nat} {sz bytes : Nat} {e : TypeId} {zs : List Value} (hx : ev E x = .slice (some ⟨b, o, none⟩) m c) (ht : P.underlying t = some (.slice e)) (hti : TI P e zs sz bytes)
    (hh : ev E y = .int .i64 h) (h2 : h ≤ c) (hmc : m ≤ c)
    (k : O P n ops rest Q (upd E d (.slice (some ⟨b, o, none⟩) h c)) w) (hd : Nat.blt d n = true := by rfl) :
    O P n ops (⟨some d, .slice t x none (some y) none, ty, pos, af, none⟩ :: rest) Q E w := by
  refine s_sliceC (l := 0) (h := h) hx ht hti rfl (by simpa using hh) (Nat.zero_le _) h2 hmc ?_ hd
  have e1 : (if c = 0 then (⟨b, o, none⟩ : Addr) else ⟨b, o + 0 * sz, none⟩) = ⟨b, o, none⟩ := by split <;> simp
  rw [e1]; exact k
theorem setAll_get_lt (vs : List Value) : ∀ (cs : List Value) (o j : Nat), j < o → (setAll cs o vs)[j]? = cs[j]? := by
  induction vs with
  | nil => intro cs o j _; rfl
  | cons v vs ih => intro cs o j h; simp only [setAll]; rw [ih _ _ _ (by omega), List.getElem?_set_ne (by omega)]
theorem setAll_get_ge (vs : List Value) : ∀ (cs : List Value) (o j : Nat), o + vs.length ≤ j → (setAll cs o vs)[j]? = cs[j]? := by
  induction vs with
  | nil => intro cs o j _; rfl
  | cons v vs ih => intro cs o j h; simp only [List.length_cons] at h; simp only [setAll]; rw [ih _ _ _ (by omega), List.getElem?_set_ne (by omega)]
theorem setAll_get_in (vs : List Value) : ∀ (cs : List Value) (o j : Nat), j < vs.length → o + vs.length ≤ cs.length → (setAll cs o vs)[o + j]? = vs[j]? := by
  induction vs with
  | nil => intro cs o j h _; simp at h
  | cons v vs ih =>
    intro cs o j h ho
    simp only [List.length_cons] at h ho
    simp only [setAll]
    cases j with
    | zero => rw [setAll_get_lt _ _ _ _ (by omega), Nat.add_zero, List.getElem?_set_self (by omega)]; rfl
    | succ j => rw [show o + (j + 1) = o + 1 + j by omega, ih _ _ _ (by omega) (by simp; omega)]; simp
/-- clear of a slice whose cells are one each: what stands ahead of it in the block stays. -/
theorem s_clear1 {x : Operand} {b o m c : Nat} {cs : List Value} {t' e : TypeId} {z : Value} {bytes : Nat} (hx : ev E x = .slice (some ⟨b, o, none⟩) m c) (ht : P.underlying t = some (.slice e)) (hti : TI P e [z] 1 bytes) (hz : One z) (hb : Blk w b cs t') (ho : o + m ≤ cs.length)
    (k : ∀ w', Blk w' b (setAll cs o (List.replicate m z)) t' → Fr [b] w w' → O P n ops rest Q E w') :
    O P n ops (⟨none, .call ⟨.builtin .clear, #[x], #[t]⟩, ty, pos, af, none⟩ :: rest) Q E w := by
  obtain ⟨i, zz, hi, hz', hcs, hsz, _⟩ := hti.parts
  cases m with
  | zero => exact O_step (v := .tuple #[]) rfl rfl (by simp [execOp, resolve, invoke, builtin, Builtin.clear_, hx, run_underlying ht]) (k w (by simpa [setAll] using hb) (Fr.refl _ _))
  | succ m =>
    obtain ⟨w', hrun, hb', hf⟩ := run_storeCells_blk (P := P) (List.replicate (m + 1) z) (i := 0) (o := o) hb (by simpa using ho) (by intro v hv; simp at hv; rw [hv]; exact hz)
    refine O_step (v := .tuple #[]) (w' := w') rfl rfl ?_ (k w' hb' hf)
    have e1 : (Builtin.zeroCells zz.cells (m + 1)).toList = List.replicate (m + 1) z := by
      rw [hcs]
      unfold Builtin.zeroCells
      apply List.ext_getElem
      · simp
      · intro i h1 h2; simp [Nat.mod_one]
    simp [execOp, resolve, invoke, builtin, Builtin.clear_, hx, run_underlying ht, zeroValue, typeInfo, hi, hz', e1, hrun]
/-! ### An interface value against nil -/
theorem s_nilIfT {x y : Operand} {ty' : TypeId} (hx : ev E x = .nilIface) (hc : ∃ v, y = .const v) (hy : ev E y = .nilIface) (htt : ∃ ms, P.underlying t = some (.interface ms))
    (k : O P n ops rest Q (upd E d (.bool true)) w) (hd : Nat.blt d n = true := by rfl) : O P n ops (⟨some d, .binOp .eql t x y ty', ty, pos, af, none⟩ :: rest) Q E w := by
  obtain ⟨v, rfl⟩ := hc
  obtain ⟨ms, ht⟩ := htt
  refine O_step rfl hd ?_ k
  have he : (Op.equal t .nilIface .nilIface).run P w = .ok true w := by
    unfold Op.equal Op.maxDepth Op.equalIn
    simp [run_underlying ht]
  simp [execOp, hx, hy, eqGuard, binOp, he]
theorem s_nilIfF {x y : Operand} {ty' u : TypeId} {v : Value} (hx : ev E x = .iface u v) (hy : ev E y = .nilIface) (htt : ∃ ms, P.underlying t = some (.interface ms))
    (k : O P n ops rest Q (upd E d (.bool false)) w) (hd : Nat.blt d n = true := by rfl) : O P n ops (⟨some d, .binOp .eql t x y ty', ty, pos, af, none⟩ :: rest) Q E w := by
  obtain ⟨ms, ht⟩ := htt
  refine O_step rfl hd ?_ k
  have he : (Op.equal t (.iface u v) .nilIface).run P w = .ok false w := by
    unfold Op.equal Op.maxDepth Op.equalIn
    simp [run_underlying ht]
  simp [execOp, hx, hy, eqGuard, binOp, he]
end rules
end Go.Proofs.YtelnfdpbcbohdaaDoor
