/-
  Rules for literals of structs and slices, for append and make. Own work.
-/
import Derived.Test.YtelnfdpbcbohdaaDoorD3
namespace Go.Proofs.YtelnfdpbcbohdaaDoor
open Go Go.RowKit
set_option linter.unusedVariables false
set_option linter.unusedSimpArgs false

theorem setAll_length (vs : List Value) : ∀ (cs : List Value) (o : Nat), (setAll cs o vs).length = cs.length := by
  induction vs with
  | nil => intro cs o; rfl
  | cons v vs ih => intro cs o; simp [setAll, ih]
/-- Parts laid into cells. -/
def fillL : List Value → List (Nat × List Value) → List Value
  | zs, [] => zs
  | zs, (o, cs) :: l => fillL (setAll zs o cs) l
theorem foldl_setAll (cs : List Value) : ∀ (zs : Array Value) (o k : Nat), (cs.zipIdx k).foldl (fun (a : Array Value) (x : Value × Nat) => a.setIfInBounds (o + x.2) x.1) zs = (setAll zs.toList (o + k) cs).toArray := by
  induction cs with
  | nil => intro zs o k; simp [setAll]
  | cons c cs ih =>
    intro zs o k
    simp only [List.zipIdx_cons, List.foldl_cons, setAll]
    rw [ih]
    simp [Nat.add_assoc]
/-- The parts of a literal: each of its operand's cells, at its place. -/
def Parts (E : Env) (place : Nat → Option (Nat × Nat)) (zl : Nat) : List (Nat × Operand) → List (Nat × List Value) → Prop
  | [], [] => True
  | (i, x) :: ps, (o, cs) :: l => place i = some (o, cs.length) ∧ (ev E x).cells = cs.toArray ∧ o + cs.length ≤ zl ∧ Parts E place zl ps l
  | _, _ => False
theorem fill_eq {E : Env} (place : Nat → Option (Nat × Nat)) : ∀ (parts : List (Nat × Operand)) (l : List (Nat × List Value)) (zs : List Value),
    Parts E place zs.length parts l → Instr.fill place zs.toArray (parts.map fun p => (p.1, ev E p.2)) = some (fillL zs l).toArray := by
  intro parts
  induction parts with
  | nil => intro l zs h; cases l with | nil => rfl | cons => exact h.elim
  | cons p parts ih =>
    intro l zs h
    cases l with
    | nil => exact h.elim
    | cons q l =>
      obtain ⟨pi, px⟩ := p
      obtain ⟨qo, qc⟩ := q
      obtain ⟨h1, h2, h3, h4⟩ := h
      simp only [List.map_cons, Instr.fill, h1, h2, fillL]
      rw [if_neg (by simp; omega)]
      have e : (qc.toArray.zipIdx.foldl (fun (cs : Array Value) (x : Value × Nat) => cs.setIfInBounds (qo + x.2) x.1) zs.toArray) = (setAll zs qo qc).toArray := by
        have := foldl_setAll qc zs.toArray qo 0
        rw [← Array.foldl_toList]
        simpa using this
      rw [e]
      exact ih l _ (by rw [setAll_length]; exact h4)
theorem nth_get : ∀ {l : List Value} {i : Nat} (h : i < l.length), nth l i = l[i]
  | [], i, h => by simp at h
  | _ :: _, 0, _ => rfl
  | _ :: l, i + 1, h => by simp only [nth]; rw [nth_get (by simpa using h)]; rfl

section rules
variable {P : Program} {n : Nat} {ops : Array Oper} {rest : List Oper} {Q : Post} {E : Env} {w : World} {d : Tmp} {ty t : TypeId} {pos : String} {af : Array Edge}

theorem run_fieldsMapM : ∀ (l : List Field) (r : List (Nat × Nat)), (l.mapM fun f => (P.info? f.type).map fun x => (f.offset, x.size)) = some r →
    (l.mapM (fun f => do pure (f.offset, ← sizeOf f.type) : Field → Sem (Nat × Nat))).run P w = .ok r w := by
  intro l
  induction l with
  | nil => intro r h; simp at h; subst h; rfl
  | cons x l ih =>
    intro r h
    simp only [List.mapM_cons, Option.bind_eq_bind, Option.bind_eq_some_iff] at h
    obtain ⟨y, hy, ys, hys, hr⟩ := h
    simp at hr; subst hr
    obtain ⟨i, hi, rfl⟩ := Option.map_eq_some_iff.1 hy
    have hs : (sizeOf x.type).run P w = .ok i.size w := by simp [sizeOf, typeInfo, hi]
    simp only [List.mapM_cons, Sem.run_bind, hs, Result.andThen_ok, Sem.run_pure, ih ys hys]
/-- All fields' places. -/
def allPlaces (P : Program) (t : TypeId) : Option (List (Nat × Nat)) :=
  match P.underlying t with
  | some (.struct fs) => fs.toList.mapM fun f => (P.info? f.type).map fun x => (f.offset, x.size)
  | _ => none
theorem s_build {parts : List (Nat × Operand)} {pl : List (Nat × Nat)} {l : List (Nat × List Value)} {zs rs : List Value} {size bytes : Nat} (hti : TI P t zs size bytes)
    (hpl : allPlaces P t = some pl) (hv : Parts E (fun i => pl[i]?) zs.length parts l) (hr : fillL zs l = rs)
    (k : O P n ops rest Q (upd E d (.agg rs.toArray)) w) (hd : Nat.blt d n = true := by rfl) :
    O P n ops (⟨some d, .build t parts.toArray, ty, pos, af, none⟩ :: rest) Q E w := by
  obtain ⟨i, z, hi, hz, hcs, hs, _⟩ := hti.parts
  unfold allPlaces at hpl
  cases hu : P.underlying t with
  | none => rw [hu] at hpl; simp at hpl
  | some u =>
    rw [hu] at hpl
    cases u <;> simp at hpl
    rename_i fs
    have hm := run_fieldsMapM (P := P) (w := w) fs.toList pl hpl
    subst hr
    have hf := fill_eq _ parts l zs hv
    have hm2 : (fs.mapM (fun f => do pure (f.offset, ← sizeOf f.type) : Field → Sem (Nat × Nat))).run P w = .ok pl.toArray w := by
      have e : fs = fs.toList.toArray := by simp
      rw [e, List.mapM_toArray, Sem.run_map, hm]; rfl
    refine O_step rfl hd ?_ k
    simp only [execOp, Instr.build, List.map_toArray]
    simp only [Sem.run_bind, zeroValue, typeInfo, run_program, Result.andThen_ok, hi, hz, Sem.run_pure, hcs, run_underlying hu, hm2]
    have e2 : (fun (x : Nat) => pl.toArray[x]?) = fun i => pl[i]? := by funext x; simp
    rw [e2, hf]
    rfl
theorem s_buildArr {parts : List (Nat × Operand)} {l : List (Nat × List Value)} {zs rs es : List Value} {size bytes m esz eb : Nat} {e : TypeId} (hti : TI P t zs size bytes)
    (ht : P.underlying t = some (.array m e)) (he : TI P e es esz eb) (hv : Parts E (fun i => some (i * esz, esz)) zs.length parts l) (hr : fillL zs l = rs)
    (k : O P n ops rest Q (upd E d (.agg rs.toArray)) w) (hd : Nat.blt d n = true := by rfl) :
    O P n ops (⟨some d, .build t parts.toArray, ty, pos, af, none⟩ :: rest) Q E w := by
  obtain ⟨i, z, hi, hz, hcs, hs, _⟩ := hti.parts
  obtain ⟨i', z', hi', hz', hcs', hs', _⟩ := he.parts
  subst hr
  have hf := fill_eq _ parts l zs hv
  refine O_step rfl hd ?_ k
  have hsz : (sizeOf e).run P w = .ok esz w := by simp [sizeOf, typeInfo, hi', hs']
  simp only [execOp, Instr.build, List.map_toArray]
  simp only [Sem.run_bind, zeroValue, typeInfo, run_program, Result.andThen_ok, hi, hz, Sem.run_pure, hcs, run_underlying ht, hsz]
  rw [hf]
  rfl
theorem s_buildSl {parts : List (Nat × Operand)} {l : List (Nat × List Value)} {rs es : List Value} {m esz eb : Nat} {e : TypeId}
    (ht : P.underlying t = some (.slice e)) (he : TI P e es esz eb) (hm : m * esz ≤ 16777216) (hel : es.length = esz) (hv : Parts E (fun i => some (i * esz, esz)) (m * esz) parts l) (hr : fillL (((List.range (m * esz)).map fun i => nth es (i % esz))) l = rs)
    (k : ∀ b w', w.heap.size ≤ b → Blk w' b rs e → Fr [] w w' → O P n ops rest Q (upd E d (.slice (some ⟨b, 0, none⟩) m m)) w') (hd : Nat.blt d n = true := by rfl) :
    O P n ops (⟨some d, .buildSlice t m parts.toArray, ty, pos, af, none⟩ :: rest) Q E w := by
  obtain ⟨i, z, hi, hz, hcs, hs, _⟩ := he.parts
  subst hr
  have hf := fill_eq _ parts l ((List.range (m * esz)).map fun i => nth es (i % esz)) (by simpa using hv)
  have hsz : (sizeOf e).run P w = .ok esz w := by simp [sizeOf, typeInfo, hi, hs]
  have hnew : Blk (w.alloc (.cells (fillL ((List.range (m * esz)).map fun i => nth es (i % esz)) l).toArray e)) w.heap.size (fillL ((List.range (m * esz)).map fun i => nth es (i % esz)) l) e := by
    have := Blk.new w (fillL ((List.range (m * esz)).map fun i => nth es (i % esz)) l).toArray e
    simpa using this
  refine O_step rfl hd ?_ (k _ _ (Nat.le_refl _) hnew (Fr.alloc _ _))
  have hnot : ¬ m * esz > 2 ^ 24 := by omega
  have hzero : (if m * esz = 0 then pure #[] else do pure (← zeroValue e).cells : Sem (Array Value)).run P w = .ok (if m * esz = 0 then #[] else es.toArray) w := by
    split <;> simp [zeroValue, typeInfo, hi, hz, hcs]
  have hrange : ((Array.range (m * esz)).map fun i => (if m * esz = 0 then (#[] : Array Value) else es.toArray)[i % (if m * esz = 0 then (#[] : Array Value) else es.toArray).size]!) = ((List.range (m * esz)).map fun i => nth es (i % esz)).toArray := by
    by_cases h0 : m * esz = 0
    · simp [h0]
    · simp only [h0, if_false]
      apply Array.ext
      · simp
      · intro k h1 h2
        simp only [Array.getElem_map, Array.getElem_range, List.size_toArray, hel, List.getElem_toArray, List.getElem_map, List.getElem_range]
        have hlt : k % esz < es.length := by rw [hel]; exact Nat.mod_lt _ (by rcases Nat.eq_zero_or_pos esz with h | h; (rw [h, Nat.mul_zero] at h0; exact absurd rfl h0); exact h)
        rw [nth_get hlt]
        simp [hlt]
  have e3 : (parts.map fun x => (x.1, ev E x.2)) = parts.map fun p => (p.1, ev E p.2) := rfl
  by_cases h0 : m * esz = 0
  · simp only [h0, if_true] at hrange
    simp only [h0] at hf
    simp [execOp, Instr.buildSlice, run_underlying ht, hsz, h0]
    simp [h0] at hf
    have e0 : (Array.map (fun _ => (default : Value)) (Array.range 0)) = #[] := by simp
    rw [e0, hf]
    simp [newRow, World.alloc_eq, h0]
  · simp only [h0, if_false] at hrange
    have hzr : (zeroValue e).run P w = .ok z w := by simp [zeroValue, typeInfo, hi, hz]
    simp only [execOp, Instr.buildSlice, List.map_toArray, Sem.run_bind, run_underlying ht, Result.andThen_ok, hsz, if_neg hnot, h0, if_false, hzr, Sem.run_pure, hcs, hrange]
    rw [hf]
    simp [newRow, World.alloc_eq]

/-! ### A slice that the call itself made, and append -/
/-- Slice v with these elements (each of sz cells) lies at the head of a block from base on that nobody else has. -/
structure Ow (w : World) (base : Nat) (e : TypeId) (sz : Nat) (v : Value) (els : List (List Value)) : Prop where
  row : w.ownsRow base e sz v els.length els.flatten
  each : ∀ l ∈ els, l.length = sz
theorem Ow.nil (w : World) (base : Nat) (e : TypeId) (sz : Nat) : Ow w base e sz (.slice none 0 0) [] := ⟨World.ownsRow_nil w base e sz, by simp⟩
theorem Ow.lt {w : World} {base : Nat} {e : TypeId} {sz : Nat} {v : Value} {els : List (List Value)} (h : Ow w base e sz v els) : ∀ k, v.ownBlock = some k → base ≤ k ∧ k < w.heap.size := h.row.lt
theorem Ow.fr {w w' : World} {S : List Nat} {base : Nat} {e : TypeId} {sz : Nat} {v : Value} {els : List (List Value)} (h : Ow w base e sz v els) (f : Fr S w w') (hs : ∀ k, v.ownBlock = some k → k ∉ S) : Ow w' base e sz v els := by
  refine ⟨⟨h.row.1, ?_⟩, h.each⟩
  rcases h.row.2 with hn | ⟨g, cap, cur, rfl, hb, hg, r⟩
  · exact .inl hn
  · refine .inr ⟨g, cap, cur, rfl, hb, ?_, r⟩
    rw [f.block g (Array.getElem?_eq_some_iff.1 hg).1 (hs g rfl)]; exact hg
theorem Ow.fr0 {w w' : World} {base : Nat} {e : TypeId} {sz : Nat} {v : Value} {els : List (List Value)} (h : Ow w base e sz v els) (f : Fr [] w w') : Ow w' base e sz v els := h.fr f (by simp)
theorem Ow.base {w : World} {base base' : Nat} {e : TypeId} {sz : Nat} {v : Value} {els : List (List Value)} (h : Ow w base e sz v els) (hb : base' ≤ base) : Ow w base' e sz v els := by
  refine ⟨⟨h.row.1, ?_⟩, h.each⟩
  rcases h.row.2 with hn | ⟨g, cap, cur, rfl, hb', r⟩
  · exact .inl hn
  · exact .inr ⟨g, cap, cur, rfl, by omega, r⟩
theorem flatten_get {sz : Nat} : ∀ {els : List (List Value)} (h : ∀ l ∈ els, l.length = sz) (i j : Nat) (l : List Value) (v : Value), els[i]? = some l → l[j]? = some v → els.flatten[i * sz + j]? = some v
  | [], _, i, j, l, v, hi, _ => by simp at hi
  | l0 :: els, h, 0, j, l, v, hi, hj => by
    simp at hi; subst hi
    simp only [List.flatten_cons, Nat.zero_mul, Nat.zero_add]
    rw [List.getElem?_append_left (List.getElem?_eq_some_iff.1 hj).1]; exact hj
  | l0 :: els, h, i + 1, j, l, v, hi, hj => by
    have h0 : l0.length = sz := h l0 (List.mem_cons_self ..)
    have ih := flatten_get (els := els) (fun l hl => h l (List.mem_cons_of_mem _ hl)) i j l v (by simpa using hi) hj
    simp only [List.flatten_cons]
    rw [List.getElem?_append_right (by rw [h0, Nat.add_mul]; omega), h0, show (i + 1) * sz + j - sz = i * sz + j by rw [Nat.add_mul]; omega]
    exact ih
theorem flatten_len {sz : Nat} : ∀ {els : List (List Value)} (h : ∀ l ∈ els, l.length = sz), els.flatten.length = els.length * sz
  | [], _ => by simp
  | l0 :: els, h => by
    have h0 : l0.length = sz := h l0 (List.mem_cons_self ..)
    have ih := flatten_len (els := els) (fun l hl => h l (List.mem_cons_of_mem _ hl))
    simp only [List.flatten_cons, List.length_append, List.length_cons, ih, h0, Nat.add_mul]
    omega
theorem flatten_mem {sz : Nat} (hsz : 0 < sz) : ∀ {els : List (List Value)} (h : ∀ l ∈ els, l.length = sz) (j : Nat) (v : Value), els.flatten[j]? = some v → ∃ l, els[j / sz]? = some l ∧ l[j % sz]? = some v
  | [], _, j, v, hj => by simp at hj
  | l0 :: els, h, j, v, hj => by
    have h0 : l0.length = sz := h l0 (List.mem_cons_self ..)
    simp only [List.flatten_cons] at hj
    by_cases hlt : j < sz
    · rw [List.getElem?_append_left (by omega)] at hj
      exact ⟨l0, by rw [Nat.div_eq_of_lt hlt]; rfl, by rw [Nat.mod_eq_of_lt hlt]; exact hj⟩
    · rw [List.getElem?_append_right (by omega), h0] at hj
      obtain ⟨l, h1, h2⟩ := flatten_mem hsz (fun l hl => h l (List.mem_cons_of_mem _ hl)) (j - sz) v hj
      have e1 : j / sz = (j - sz) / sz + 1 := by rw [← Nat.add_div_right _ hsz]; congr 1; omega
      have e2 : j % sz = (j - sz) % sz := by rw [← Nat.add_mod_right (j - sz) sz]; congr 1; omega
      exact ⟨l, by rw [e1]; simpa using h1, by rw [e2]; exact h2⟩
theorem Ow.sl {w : World} {base : Nat} {e : TypeId} {sz : Nat} {v : Value} {els : List (List Value)} (h : Ow w base e sz v els) : Sl w v sz els := by
  rcases h.row.2 with ⟨rfl, h0⟩ | ⟨g, cap, cur, rfl, hb, hg, h1, h2, h3, h4⟩
  · have : els = [] := List.eq_nil_of_length_eq_zero h0
    subst this; exact Sl.nil w sz
  · refine ⟨_, cap, rfl, h1, h2, h.each, by simp, fun ad ha => ?_⟩
    simp at ha; subst ha
    refine ⟨rfl, (Array.getElem?_eq_some_iff.1 hg).1, fun i l hi j v hj => ?_⟩
    have := flatten_get h.each i j l v hi hj
    simp only [Nat.zero_add]
    rw [cell_of_row w g (i * sz + j) cur e (0, 0) hg]
    rw [← h4, List.getElem?_take] at this
    split at this
    · simpa using this
    · cases this
theorem s_append {x y : Operand} {v u : Value} {base sz bytes : Nat} {els els2 : List (List Value)} {e : TypeId} {zs : List Value} (hx : ev E x = v) (hy : ev E y = u) (ht : P.underlying t = some (.slice e)) (hti : TI P e zs sz bytes) (hzl : zs.length = sz) (hsz : 0 < sz)
    (ho : Ow w base e sz v els) (hs : Sl w u sz els2) (h1 : ∀ l ∈ els2, ∀ c ∈ l, One c) {N : Nat} (hN : els.length + els2.length ≤ N) (hNb : N * bytes ≤ 140737488355328) (hb0 : 0 < bytes) (hbase : base ≤ w.heap.size)
    (k : ∀ v' w', Ow w' base e sz v' (els ++ els2) → Fr v.ownBlock.toList w w' → (v'.ownBlock = v.ownBlock ∨ v'.ownBlock = some w.heap.size) → O P n ops rest Q (upd E d v') w') (hd : Nat.blt d n = true := by rfl) :
    O P n ops (⟨some d, .call ⟨.builtin .append, #[x, y], #[t, t]⟩, ty, pos, af, none⟩ :: rest) Q E w := by
  obtain ⟨i, z, hi, hz, hcs, hsz', hby⟩ := hti.parts
  obtain ⟨a, c, rfl, g1, g2, g3, g4, g5⟩ := hs.out
  have hbytes : (els.length + els2.length) * bytes ≤ 140737488355328 := Nat.le_trans (Nat.mul_le_mul_right _ hN) hNb
  have hmax : els.length + els2.length ≤ maxLen := by
    have := Nat.le_mul_of_pos_right (els.length + els2.length) hb0
    simp only [maxLen]; omega
  have hrun : ∀ (v' : Value) (w' : World), (Builtin.append_ #[t, t] ty #[v, .slice a els2.length c]).run P w = .ok v' w' → (execOp (ev E) ⟨some d, .call ⟨.builtin .append, #[x, y], #[t, t]⟩, ty, pos, af, none⟩).run P w = .ok (.value v') w' := by
    intro v' w' h
    simp [execOp, resolve, invoke, builtin, hx, hy, h]
  cases a with
  | none =>
    obtain ⟨rfl, rfl⟩ := g4 rfl
    have := run_append_owned_none (P := P) w base t ty e i sz ht hi v els.length els.flatten ho.row
    exact O_step rfl hd (hrun _ _ this) (k v w (by simpa using ho) (Fr.refl _ _) (.inl rfl))
  | some ad =>
    obtain ⟨p1, p2, p3⟩ := g5 ad rfl
    obtain ⟨bl, of, sp⟩ := ad
    simp only at p1; subst p1
    obtain ⟨v', w', hr, r2, r3, _, r5⟩ := run_append_own_at (P := P) w base t ty e i z sz bytes ht hi hz hsz' hby (by rw [hcs]; simpa using hzl) hsz v els.length els.flatten ho.row ⟨bl, of, none⟩ els2.length c els2.flatten (flatten_len g3)
      (fun j u hu => by
        obtain ⟨l, q1, q2⟩ := flatten_mem hsz g3 j u hu
        have := p3 _ l q1 _ u q2
        rw [Addr.add_mk]
        have e1 : of + j / sz * sz + j % sz = of + j := by rw [Nat.add_assoc, Nat.mul_comm, Nat.div_add_mod]
        rw [← e1]; exact this)
      (fun u hu => by obtain ⟨l, q1, q2⟩ := List.mem_flatten.1 hu; exact h1 l q1 u q2) hmax hbytes hbase
    refine O_step rfl hd (hrun _ _ hr) (k v' w' ⟨by simpa using r2, fun l hl => by rcases List.mem_append.1 hl with hl | hl; exact ho.each l hl; exact g3 l hl⟩ ⟨r3.os, r3.tape, r3.output, r3.size, fun k hk hn => r3.block k hk (fun e => hn (by rw [← e]; simp))⟩ r5)

/-! ### == nil -/
theorem run_equal_nilSl {e : TypeId} (ht : P.underlying t = some (.slice e)) (a : Option Addr) (m c : Nat) : (Op.equal t (.slice a m c) (.slice none 0 0)).run P w = .ok a.isNone w := by
  unfold Op.equal Op.maxDepth
  unfold Op.equalIn
  cases a <;> simp [run_underlying ht]
theorem run_equal_nilPtr {e : TypeId} (ht : P.underlying t = some (.pointer e)) (a : Option Addr) : (Op.equal t (.pointer a) (.pointer none)).run P w = .ok a.isNone w := by
  unfold Op.equal Op.maxDepth
  unfold Op.equalIn
  cases a <;> simp [run_underlying ht]
theorem s_nilSl {x y : Operand} {ty' : TypeId} {a : Option Addr} {m c : Nat} {e : TypeId} (hx : ev E x = .slice a m c) (hy : ev E y = .slice none 0 0) (ht : P.underlying t = some (.slice e)) {b : Bool} (hb : a.isNone = b)
    (k : O P n ops rest Q (upd E d (.bool b)) w) (hd : Nat.blt d n = true := by rfl) : O P n ops (⟨some d, .binOp .eql t x y ty', ty, pos, af, none⟩ :: rest) Q E w :=
  O_step rfl hd (by simp [execOp, hx, hy, eqGuard, binOp, run_equal_nilSl ht, hb]) k
theorem s_nilPtr {x y : Operand} {ty' : TypeId} {a : Option Addr} {e : TypeId} (hx : ev E x = .pointer a) (hy : ev E y = .pointer none) (ht : P.underlying t = some (.pointer e)) {b : Bool} (hb : a.isNone = b)
    (k : O P n ops rest Q (upd E d (.bool b)) w) (hd : Nat.blt d n = true := by rfl) : O P n ops (⟨some d, .binOp .eql t x y ty', ty, pos, af, none⟩ :: rest) Q E w :=
  O_step rfl hd (by simp [execOp, hx, hy, eqGuard, binOp, run_equal_nilPtr ht, hb]) k
theorem s_notnilPtr {x y : Operand} {ty' : TypeId} {a : Option Addr} {e : TypeId} (hx : ev E x = .pointer a) (hy : ev E y = .pointer none) (ht : P.underlying t = some (.pointer e)) {b : Bool} (hb : (!a.isNone) = b)
    (k : O P n ops rest Q (upd E d (.bool b)) w) (hd : Nat.blt d n = true := by rfl) : O P n ops (⟨some d, .binOp .neq t x y ty', ty, pos, af, none⟩ :: rest) Q E w :=
  O_step rfl hd (by simp [execOp, hx, hy, eqGuard, binOp, run_equal_nilPtr ht, hb]) k
/-- A slice that has elements is not nil. -/
theorem Sl.nonnil {v : Value} {sz : Nat} {els : List (List Value)} (h : Sl w v sz els) (hne : els ≠ []) : ∃ ad c, v = .slice (some ad) els.length c := by
  obtain ⟨a, c, rfl, _, _, _, h4, _⟩ := h.out
  cases a with
  | none => exact absurd (h4 rfl).1 hne
  | some ad => exact ⟨ad, c, rfl⟩

/-- A block of the call's own, as a slice that it owns. -/
theorem Blk.ow {b m sz : Nat} {cs : List Value} {e : TypeId} {els : List (List Value)} {base : Nat} (h : Blk w b cs e) (hb : base ≤ b) (he : ∀ l ∈ els, l.length = sz) (hm : els.length = m) (hx : m ≤ maxLen) (hc : cs = els.flatten) : Ow w base e sz (.slice (some ⟨b, 0, none⟩) m m) els := by
  subst hm; subst hc
  have hl := flatten_len he
  refine ⟨⟨hl, .inr ⟨b, els.length, els.flatten.toArray, rfl, hb, h, Nat.le_refl _, hx, by simpa using hl, ?_⟩⟩, he⟩
  simp [List.take_of_length_le (Nat.le_of_eq hl)]
theorem Blk.sl {b m sz : Nat} {cs : List Value} {e : TypeId} {els : List (List Value)} (h : Blk w b cs e) (he : ∀ l ∈ els, l.length = sz) (hm : els.length = m) (hx : m ≤ maxLen) (hc : cs = els.flatten) : Sl w (.slice (some ⟨b, 0, none⟩) m m) sz els := (h.ow (Nat.zero_le _) he hm hx hc).sl
/-- One new element. -/
theorem Blk.sl1 {b sz : Nat} {cs : List Value} {e : TypeId} (h : Blk w b cs e) (hz : cs.length = sz) : Sl w (.slice (some ⟨b, 0, none⟩) 1 1) sz [cs] := h.sl (by simpa using hz) rfl (by simp [maxLen]) (by simp)
theorem Fr.stepOw {S : List Nat} {w0 w w' : World} {v : Value} (h : Fr S w0 w) (f : Fr v.ownBlock.toList w w') (hl : ∀ k, v.ownBlock = some k → w0.heap.size ≤ k ∨ k ∈ S) : Fr S w0 w' :=
  h.step f (fun i hi => by
    have : v.ownBlock = some i := by simpa using hi
    exact (hl i this).symm)
theorem Blk.frOw {w w' : World} {b : Nat} {cs : List Value} {t : TypeId} {v : Value} (h : Blk w b cs t) (f : Fr v.ownBlock.toList w w') (ha : ∀ k, v.ownBlock = some k → b ≠ k) : Blk w' b cs t :=
  h.fr f (fun hm => ha b (by simpa using hm) rfl)
theorem apart_append {w : World} {b : Nat} {v v' : Value} (hat : v'.ownBlock = v.ownBlock ∨ v'.ownBlock = some w.heap.size) (ha : ∀ k, v.ownBlock = some k → b ≠ k) (hb : b < w.heap.size) : ∀ k, v'.ownBlock = some k → b ≠ k := by
  intro k hk
  rcases hat with h | h
  · exact ha k (h ▸ hk)
  · rw [h] at hk; cases hk; omega
theorem Ow.apart {w : World} {base b : Nat} {e : TypeId} {sz : Nat} {v : Value} {els : List (List Value)} (h : Ow w base e sz v els) (hb : w.heap.size ≤ b) : ∀ k, v.ownBlock = some k → b ≠ k := fun k hk => by have := h.lt k hk; omega
theorem Ow.frBox {w w' : World} {base g : Nat} {e : TypeId} {sz : Nat} {v : Value} {els : List (List Value)} (h : Ow w base e sz v els) (f : Fr [g] w w') (hs : ∀ k, v.ownBlock = some k → g ≠ k) : Ow w' base e sz v els :=
  h.fr f (fun k hk => by have := hs k hk; simp; omega)

/-! ### v[l:h] of a slice -/
theorem Sl.cut {v : Value} {sz l h : Nat} {els : List (List Value)} (hs : Sl w v sz els) (h1 : l ≤ h) (h2 : h ≤ els.length) :
    ∃ a c, v = .slice a els.length c ∧ els.length ≤ c ∧ Sl w (.slice (if c = l then a else a.map (·.add (l * sz))) (h - l) (c - l)) sz ((els.take h).drop l) := by
  obtain ⟨a, c, rfl, g1, g2, g3, g4, g5⟩ := hs.out
  refine ⟨a, c, rfl, g1, ?_⟩
  have hlen : ((els.take h).drop l).length = h - l := by simp; omega
  refine ⟨(if c = l then a else a.map (·.add (l * sz))), c - l, by rw [hlen], by rw [hlen]; omega, by omega, fun e he => g3 e (List.mem_of_mem_take (List.mem_of_mem_drop he)), ?_, ?_⟩
  · intro hn
    cases a with
    | none => obtain ⟨e1, e2⟩ := g4 rfl; subst e1; subst e2; simp
    | some ad => split at hn <;> simp at hn
  · intro ad had
    cases a with
    | none => split at had <;> simp at had
    | some ad0 =>
      obtain ⟨p1, p2, p3⟩ := g5 ad0 rfl
      obtain ⟨bl, of, sp⟩ := ad0
      simp only at p1; subst p1
      by_cases hcl : c = l
      · rw [if_pos hcl] at had
        simp at had; subst had
        refine ⟨rfl, p2, fun i e hi => ?_⟩
        have : (els.take h).drop l = [] := List.eq_nil_of_length_eq_zero (by rw [hlen]; omega)
        rw [this] at hi; simp at hi
      · rw [if_neg hcl] at had
        simp [Addr.add_mk] at had; subst had
        refine ⟨rfl, p2, fun i e hi => ?_⟩
        rw [List.getElem?_drop] at hi
        have hi2 : els[l + i]? = some e := by
          rw [List.getElem?_take] at hi
          split at hi
          · exact hi
          · cases hi
        have := p3 (l + i) e hi2
        rw [Nat.add_mul, ← Nat.add_assoc] at this
        exact this
theorem s_sliceSl {x : Operand} {v : Value} {sz bytes : Nat} {els : List (List Value)} {lo hi : Option Operand} {l h : Nat} {e : TypeId} {zs : List Value} (hx : ev E x = v) (hs : Sl w v sz els) (ht : P.underlying t = some (.slice e)) (hti : TI P e zs sz bytes)
    (hl : (lo.map (ev E)).getD (.int .i64 0) = .int .i64 l) (hh : (hi.map (ev E)).getD (.int .i64 els.length) = .int .i64 h) (h1 : l ≤ h) (h2 : h ≤ els.length)
    (k : ∀ v', Sl w v' sz ((els.take h).drop l) → (∀ b, v'.ownBlock = some b → v.ownBlock = some b) → O P n ops rest Q (upd E d v') w) (hd : Nat.blt d n = true := by rfl) :
    O P n ops (⟨some d, .slice t x lo hi none, ty, pos, af, none⟩ :: rest) Q E w := by
  obtain ⟨a, c, rfl, hc, hcut⟩ := hs.cut h1 h2
  obtain ⟨i, z, hi', hz, hcs, hsz, _⟩ := hti.parts
  refine O_step rfl hd ?_ (k _ hcut ?_)
  · have hlh : (l : Int) ≤ (h : Int) := by omega
    have hhc : (h : Int) ≤ (c : Int) := by omega
    have hll : (l : Int) ≤ (els.length : Int) := by omega
    have hle : l ≤ els.length := by omega
    have hhc' : h ≤ c := by omega
    cases lo with
    | none =>
      simp at hl
      have hl0 : l = 0 := by omega
      subst l
      cases hi with
      | none =>
        simp at hh
        have hh0 : h = els.length := by omega
        subst h
        simp [execOp, Instr.sliceAt, Instr.slice, Instr.sliceBounds, hx, run_underlying ht, sizeOf, typeInfo, hi', hsz]
      | some y =>
        simp at hh
        simp [execOp, Instr.sliceAt, Instr.slice, Instr.sliceBounds, Instr.sliceBound, asIntOf, hx, hh, run_underlying ht, sizeOf, typeInfo, hi', hsz, hhc']
    | some y =>
      simp at hl
      cases hi with
      | none =>
        simp at hh
        have hh0 : h = els.length := by omega
        subst h
        simp [execOp, Instr.sliceAt, Instr.slice, Instr.sliceBounds, Instr.sliceBound, asIntOf, hx, hl, run_underlying ht, sizeOf, typeInfo, hi', hsz, hle]
      | some y =>
        simp at hh
        simp [execOp, Instr.sliceAt, Instr.slice, Instr.sliceBounds, Instr.sliceBound, asIntOf, hx, hl, hh, run_underlying ht, sizeOf, typeInfo, hi', hsz, hhc', h1]
  · intro b hb
    cases a with
    | none => split at hb <;> simp [Value.ownBlock] at hb
    | some ad =>
      simp only [Option.map_some] at hb
      split at hb
      · simpa [Value.ownBlock] using hb
      · obtain ⟨bl, of, sp⟩ := ad
        simp [Value.ownBlock, Addr.add] at hb ⊢
        split at hb <;> exact hb

/-- Two values don't lie in one block. -/
def Apart (v u : Value) : Prop := ∀ k, v.ownBlock = some k → u.ownBlock = some k → False
theorem Apart.append {base : Nat} {e : TypeId} {sz : Nat} {els : List (List Value)} {v u u' : Value} (h : Apart v u) (hv : Ow w base e sz v els) (hat : u'.ownBlock = u.ownBlock ∨ u'.ownBlock = some w.heap.size) : Apart v u' := by
  intro k hk hu
  rcases hat with hat | hat
  · exact h k hk (hat ▸ hu)
  · rw [hat] at hu; cases hu; have := hv.lt _ hk; omega
theorem Apart.ow {w' : World} {base : Nat} {e : TypeId} {sz : Nat} {els : List (List Value)} {v u : Value} (h : Apart v u) (hv : Ow w base e sz v els) (f : Fr u.ownBlock.toList w w') : Ow w' base e sz v els :=
  hv.fr f (fun k hk hm => h k hk (by simpa using hm))
theorem Ow.apartOf {base : Nat} {e : TypeId} {sz : Nat} {els : List (List Value)} {v u : Value} (hv : Ow w base e sz v els) (hu : ∀ k, u.ownBlock = some k → k < base) : Apart v u := by
  intro k hk hk'
  have := hv.lt k hk; have := hu k hk'; omega
end rules
end Go.Proofs.YtelnfdpbcbohdaaDoor
