/-
  From the row's form to the walks: what the listed variables hold; the arguments' shapes; what stands behind the call. Own work.
-/
import Derived.Test.YtelnfdpbcbohdaaDoorD7
import Derived.WalkKit
import Derived.ProofKit
import Derived.OpenShut
import Derived.WideKeyArgs
import Derived.Deep.DeepHandedRow
import Derived.Lib.LaidU8
import Derived.Lay
import Derived.LaidSub
import Derived.MakeChecks
namespace Go.Proofs.YtelnfdpbcbohdaaDoor
open Go Go.RowKit Go.ChangeShapes Go.WideShapes
set_option linter.unusedVariables false
set_option linter.unusedSimpArgs false

/-! ### Plain data, cell for cell -/
mutual
def flatD {H : Type} : DataW H → List Value
  | .lit (.int k n) => [.int k n]
  | .lit (.bool b) => [.bool b]
  | .lit (.string s) => [.string ⟨s.toArray⟩]
  | .agg l => flatL l
  | _ => []
def flatL {H : Type} : List (DataW H) → List Value
  | [] => []
  | d :: r => flatD d ++ flatL r
end
/-- Fields that lie one behind the other from o to e. -/
def contig (P : Program) (plain : TypeId → Bool) : Nat → List Field → Nat → Bool
  | o, [], e => o == e
  | o, f :: fs, e => f.offset == o && plain f.type && contig P plain (o + P.cellsOf f.type) fs e
/-- Types of numbers, bools, strings, arrays and structs of them. -/
def plainB (P : Program) : Nat → TypeId → Bool
  | 0, _ => false
  | n + 1, t => match P.underlying t with
    | some (.int _) | some .bool | some .string => P.cellsOf t == 1
    | some (.struct fs) => contig P (plainB P n) 0 fs.toList (P.cellsOf t)
    | some (.array m e) => plainB P n e && m * P.cellsOf e == P.cellsOf t
    | _ => false
section
variable {H : Type} {enc : TypeId × Value → H} {P : Program} {w : World} {base : Nat} {sp : Nat → Bool} {held : Bool}
theorem take_drop_split {α : Type} (l : List α) (a b : Nat) : l.drop a = (l.drop a).take b ++ l.drop (a + b) := by
  rw [← List.drop_drop]; exact (List.take_append_drop b (l.drop a)).symm
theorem flat_of_trod : ∀ (n : Nat) (t : TypeId) (fuel : Nat) (cs : List Value) (d : DataW H) (p : List MemPlace), plainB P n t = true → DataW.trod enc P w base sp held fuel t cs = some (d, p) → cs = flatD d := by
  intro n
  induction n with
  | zero => intro t fuel cs d p h; simp [plainB] at h
  | succ n ih =>
    intro t fuel cs d p h hd
    unfold plainB at h
    split at h
    · rename_i k hu
      obtain ⟨z, rfl, hx, _⟩ := DataW.trod_int hu hd
      injection hx with hx _; subst hx; rfl
    · rename_i hu
      obtain ⟨b, rfl, hx⟩ := DataW.trod_bool hu hd
      injection hx with hx _; subst hx; rfl
    · rename_i hu
      cases fuel with
      | zero => simp [DataW.trod] at hd
      | succ fuel =>
        unfold DataW.trod at hd
        rw [hu] at hd
        split at hd <;> simp_all
        obtain ⟨_, hd, _⟩ := hd
        subst hd
        simp [flatD]
    · rename_i fs hu
      obtain ⟨xs, m, _, hx, hl, hxl, hall⟩ := DataW.trod_struct hu hd
      injection hx with hx _
      subst hx
      have key : ∀ (l : List Field) (j o : Nat), (∀ i f, l[i]? = some f → fs[j + i]? = some f) → l.length + j = fs.size → contig P (plainB P n) o l cs.length = true → cs.drop o = flatL ((xs.map (·.1)).drop j) := by
        intro l
        induction l with
        | nil =>
          intro j o hf hj hc
          simp only [contig, beq_iff_eq] at hc
          have : (xs.map (·.1)).drop j = [] := List.drop_eq_nil_of_le (by simp at hj ⊢; omega)
          rw [this, hc, List.drop_length]; rfl
        | cons f l ihl =>
          intro j o hf hj hc
          simp only [contig, Bool.and_eq_true, beq_iff_eq] at hc
          obtain ⟨⟨h1, h2⟩, h3⟩ := hc
          have hj' : j < xs.length := by simp at hj; omega
          have h4 := hall j f (by have := hf 0 f rfl; simpa using this)
          rw [List.getElem?_eq_getElem hj', h1] at h4
          have h5 := ih _ _ _ _ _ h2 h4
          have h6 := ihl (j + 1) (o + P.cellsOf f.type) (fun i g hg => by have := hf (i + 1) g (by simpa using hg); simpa [Nat.add_assoc, Nat.add_comm 1 i] using this) (by simp at hj ⊢; omega) h3
          rw [take_drop_split cs o (P.cellsOf f.type), h6, h5]
          have e : (xs.map (·.1)).drop j = (xs[j]).1 :: (xs.map (·.1)).drop (j + 1) := by
            rw [List.drop_eq_getElem_cons (by simpa using hj')]; simp
          rw [e]; rfl
      have := key fs.toList 0 0 (fun i f hf => by simpa using hf) (by simp) (by rw [hl]; exact h)
      simpa [flatD] using this
    · rename_i k e hu
      simp only [Bool.and_eq_true, beq_iff_eq] at h
      obtain ⟨h1, h2⟩ := h
      obtain ⟨xs, m, _, hx, hl, hxl, hall⟩ := DataW.trod_array hu hd
      injection hx with hx _
      subst hx
      have key : ∀ (r j : Nat), j + r = k → cs.drop (j * P.cellsOf e) = flatL ((xs.map (·.1)).drop j) := by
        intro r
        induction r with
        | zero =>
          intro j hj
          have e1 : (xs.map (·.1)).drop j = [] := List.drop_eq_nil_of_le (by simp; omega)
          have e2 : j * P.cellsOf e = cs.length := by rw [hl, ← h2]; congr 1
          rw [e1, e2, List.drop_length]; rfl
        | succ r ihr =>
          intro j hj
          have hj' : j < xs.length := by omega
          have h4 := hall j (by omega)
          rw [List.getElem?_eq_getElem hj'] at h4
          have h5 := ih _ _ _ _ _ h1 h4
          have h6 := ihr (j + 1) (by omega)
          rw [Nat.add_mul, Nat.one_mul] at h6
          rw [take_drop_split cs _ (P.cellsOf e), h6, h5]
          have e : (xs.map (·.1)).drop j = (xs[j]).1 :: (xs.map (·.1)).drop (j + 1) := by
            rw [List.drop_eq_getElem_cons (by simpa using hj')]; simp
          rw [e]; rfl
      have := key k 0 (by omega)
      simpa [flatD] using this
    · cases h
/-- A listed variable of plain data holds it, cell for cell. -/
theorem laid_flat {laid : List (String × DataW Unit)} {n : String} {d : DataW Unit} {g t m : Nat} (hp : (laid.all fun x => x.2.handleName?.isNone) = true) (hL : laidMetH P laid w) (hm : (n, d) ∈ laid)
    (hg : P.globalNamed n = some g) (ht : (P.globals[g]?).map (·.type) = some t) (hb : plainB P m t = true) : ∃ cs, w.var? P n = some cs ∧ cs.toList = flatD d := by
  rw [MakeChecks.laidMetH_plain _ _ _ hp] at hL
  obtain ⟨g', t', cs, fuel, p, h1, h2, h3, h4⟩ := Lib.laidMet.reads hL hm
  obtain rfl := Option.some.inj (hg.symm.trans h1)
  obtain rfl := Option.some.inj (ht.symm.trans h2)
  exact ⟨cs, h3, flat_of_trod _ _ _ _ _ _ hb h4⟩
theorem laid_cell {laid : List (String × DataW Unit)} {n : String} {d : DataW Unit} {g t m : Nat} (hp : (laid.all fun x => x.2.handleName?.isNone) = true) (hL : laidMetH P laid w) (hm : (n, d) ∈ laid)
    (hg : P.globalNamed n = some g) (ht : (P.globals[g]?).map (·.type) = some t) (hb : plainB P m t = true) (i : Nat) : w.cell? ⟨g, i, none⟩ = (flatD d)[i]? := by
  obtain ⟨cs, h1, h2⟩ := laid_flat hp hL hm hg ht hb
  rw [World.var?_cell hg h1, ← h2]; simp
/-- A listed sentinel is an interface value. -/
theorem laid_iface {laid : List (String × DataW Unit)} {n : String} {d : DataW Unit} {g t : Nat} {ms : Array (String × TypeId)} (hp : (laid.all fun x => x.2.handleName?.isNone) = true) (hL : laidMetH P laid w) (hm : (n, d) ∈ laid)
    (hg : P.globalNamed n = some g) (ht : (P.globals[g]?).map (·.type) = some t) (hu : P.underlying t = some (.interface ms)) : ∃ v, w.cell? ⟨g, 0, none⟩ = some v ∧ (v = .nilIface ∨ ∃ te pe, v = .iface te pe) := by
  rw [MakeChecks.laidMetH_plain _ _ _ hp] at hL
  obtain ⟨g', t', cs, fuel, p, h1, h2, h3, h4⟩ := Lib.laidMet.reads hL hm
  obtain rfl := Option.some.inj (hg.symm.trans h1)
  obtain rfl := Option.some.inj (ht.symm.trans h2)
  rw [World.var?_cell hg h3]
  cases fuel with
  | zero => simp [DataW.trod] at h4
  | succ fuel =>
    unfold DataW.trod at h4
    rw [hu] at h4
    have e : cs[0]? = cs.toList[0]? := by simp
    rw [e]
    split at h4 <;> simp_all
theorem shaped_row (hS : w.ShapedOpen P) {g : Nat} {zero : Array Value} {t : TypeId} (hg : g < P.globals.size) (hz : ((begin P (fun _ _ => 0) default).world.heap[g]?).bind Obj.row? = some (zero, t)) :
    ∃ cs, w.heap[g]? = some (.cells cs t) ∧ cs.size = zero.size ∧ (P.buildable t = true → Row.ok P w .any 0 t cs) := hS.1 g zero t hg hz
/-- A number that is a package-level variable. -/
theorem shaped_int (hS : w.ShapedOpen P) {g : Nat} {zero : Array Value} {t : TypeId} {k : IntKind} (hg : g < P.globals.size) (hz : ((begin P (fun _ _ => 0) default).world.heap[g]?).bind Obj.row? = some (zero, t)) (h1 : zero.size = 1)
    (hb : P.buildable t = true) (hct : P.cellTypes P.depth t = some [t]) (hu : P.underlying t = some (.int k)) : ∃ m, w.cell? ⟨g, 0, none⟩ = some (.int k m) := by
  obtain ⟨cs, h2, h3, h4⟩ := shaped_row hS hg hz
  obtain ⟨ts, h5, _, h6⟩ := h4 hb
  rw [hct] at h5
  cases h5
  have hlt : 0 < cs.size := by omega
  obtain ⟨u, h7, h8⟩ := h6 0 cs[0] (by simp)
  simp at h7
  subst h7
  simp only [Cell.ok, hu] at h8
  split at h8 <;> simp_all [World.cell?]
theorem shaped_size (hS : w.ShapedOpen P) {g : Nat} {zero : Array Value} {t : TypeId} (hg : g < P.globals.size) (hz : ((begin P (fun _ _ => 0) default).world.heap[g]?).bind Obj.row? = some (zero, t)) : g < w.heap.size := by
  obtain ⟨cs, h2, _⟩ := shaped_row hS hg hz
  exact (Array.getElem?_eq_some_iff.1 h2).1

/-! ### Arguments -/
variable {r : Reach} {b t : Nat} {v : Value}
theorem arg_agg {ts : List TypeId} (hu : (∃ fs, P.underlying t = some (.struct fs)) ∨ ∃ m e, P.underlying t = some (.array m e)) (hct : P.cellTypes P.depth t = some ts) (hsz : P.cellsOf t = ts.length) (h : Value.okWide P w r b t v) :
    ∃ cs : List Value, v = .agg cs.toArray ∧ cs.length = ts.length ∧ ∀ (i : Nat) u x, ts[i]? = some u → cs[i]? = some x → Cell.okWide P w r b u x := by
  have h' : ∃ cs, v = .agg cs ∧ cs.size = P.cellsOf t ∧ Row.okWide P w r b t cs := by
    rcases hu with ⟨fs, hu⟩ | ⟨m, e, hu⟩ <;> simpa [Value.okWide, hu] using h
  obtain ⟨cs, rfl, h1, ts', h2, _, h3⟩ := h'
  rw [hct] at h2
  cases h2
  refine ⟨cs.toList, by simp, by simpa [hsz] using h1, fun i u x hu hx => ?_⟩
  have hi : i < ts.length := (List.getElem?_eq_some_iff.1 hu).1
  obtain ⟨u', h4, h5⟩ := h3 i x (by simpa using hx)
  rw [Nat.mod_eq_of_lt hi, hu] at h4
  cases h4
  exact h5
theorem cell_int {k : IntKind} (hu : P.underlying t = some (.int k)) (h : Cell.okWide P w r b t v) : ∃ n, v = .int k n ∧ k.has n := by
  unfold Cell.okWide Cell.ok at h
  rw [hu] at h
  cases v <;> simp at h
  obtain ⟨rfl, h⟩ := h
  exact ⟨_, rfl, h⟩
theorem cell_bool (hu : P.underlying t = some .bool) (h : Cell.okWide P w r b t v) : ∃ x, v = .bool x := by
  unfold Cell.okWide Cell.ok at h
  rw [hu] at h
  cases v <;> simp at h
  exact ⟨_, rfl⟩
theorem cell_str (hu : P.underlying t = some .string) (h : Cell.okWide P w r b t v) : ∃ s, v = .string s ∧ (s.size : Int) ≤ IntKind.i64.max := by
  unfold Cell.okWide Cell.ok at h
  rw [hu] at h
  cases v <;> simp at h
  exact ⟨_, rfl, by simpa using h⟩
theorem cell_slice {e : TypeId} (hu : P.underlying t = some (.slice e)) (h : Cell.okWide P w r b t v) : ∃ a len cap, v = .slice a len cap ∧ len ≤ cap ∧ (cap : Int) ≤ IntKind.i64.max := by
  unfold Cell.okWide Cell.ok at h
  rw [hu] at h
  cases v <;> simp at h
  rename_i a len cap
  cases a with
  | none =>
    cases len with
    | zero =>
      cases cap with
      | zero => exact ⟨none, 0, 0, rfl, by omega, by decide⟩
      | succ c => simp at h
    | succ c => simp at h
  | some a => simp at h; exact ⟨_, _, _, rfl, h.1, by simpa using h.2.1⟩
theorem arg_cell (hu : ∀ fs, P.underlying t ≠ some (.struct fs)) (hu' : ∀ m e, P.underlying t ≠ some (.array m e)) (h : Value.okWide P w r b t v) : Cell.okWide P w r b t v := by
  unfold Value.okWide at h
  split at h
  · rename_i fs hf; exact absurd hf (hu fs)
  · rename_i m e hf; exact absurd hf (hu' m e)
  · exact h

/-! ### Behind the call -/
theorem Fr.same {S : List Nat} {w' : World} (h : Fr [] w w') {p : MemPlace} (hp : p.block < w.heap.size) : w.sameAt w' p := by
  cases p with
  | cell b off => exact h.cell (a := ⟨b, off, none⟩) hp (by simp)
  | map b => exact h.block b hp (by simp)
theorem trodAll_stays (hl : laidOutB P = true) {w' : World} {sp' : Nat → Bool} : ∀ {ts : List TypeId} {vs : List Value} {ds : List (DataW H)} {ps : List MemPlace}, (∀ t ∈ ts, P.readableRec t = true ∧ t < P.types.size) →
    DataW.TrodAll enc P w base (fun _ => true) true ts vs ds ps → (∀ p ∈ ps, w.sameAt w' p) → (∀ p ∈ ps, sp' p.block = true) → DataW.TrodAll enc P w' base sp' true ts vs ds ps
  | [], vs, ds, ps, _, h, _, _ => by
    obtain ⟨rfl, rfl, rfl⟩ := trodAll_nil h; rfl
  | t :: ts, vs, ds, ps, ht, h, hs, hsp => by
    obtain ⟨v, vs', d, ds', p, q, rfl, rfl, rfl, h1, h2⟩ := trodAll_cons h
    obtain ⟨a1, a2⟩ := ht t (List.mem_cons_self ..)
    exact ⟨p, q, Go.WideElems.Trod_stays hl a1 a2 h1 (fun x hx => hs x (List.mem_append_left _ hx)) (fun x hx => hsp x (List.mem_append_left _ hx)),
      trodAll_stays hl (fun t ht' => ht t (List.mem_cons_of_mem _ ht')) h2 (fun x hx => hs x (List.mem_append_right _ hx)) (fun x hx => hsp x (List.mem_append_right _ hx)), rfl⟩
theorem Fr.kept {w' : World} (h : Fr [] w w') (may : MemPlace → Prop) : w.keptBut w' may := by
  refine ⟨h.os, h.output, fun i hi => ?_⟩
  rw [h.block i hi (by simp)]
  cases hb : w.heap[i]? with
  | none => simp
  | some o => cases o <;> simp
theorem trodVars_mk {l : List String} {sp : Nat → Bool} (h : l = []) : DataW.TrodVars enc P w sp l [] [] := by subst h; rfl
/-- The law is true, and its arguments read as they did. -/
theorem post_true {f : Func} {s : ChangeSpec} {apart fresh handsOn again : Bool} {w' : World} {args : Array Value} {ds gs : List (DataW H)} {before : List MemPlace} {tb : TypeId}
    (hl : laidOutB P = true) (hts : ∀ t ∈ f.params.toList, P.readableRec t = true ∧ t < P.types.size) (hr : f.resultTypes = #[tb]) (hub : P.underlying tb = some .bool)
    (hsv : s.vars = []) (hres : (s.fn H ds).results = [.lit (.bool true)]) (hargs : (s.fn H ds).args = ds) (hvars : (s.fn H ds).vars = [])
    (hW : DataW.Whole enc P f.params.toList s.vars apart w args.toList ds gs before) (hF : Fr [] w w') :
    s.post enc P f apart fresh handsOn again w args (.bool true) w' := by
  have hW' := hW
  obtain ⟨p, q, hA, hV, rfl, hz, hn⟩ := hW'
  rw [hsv] at hV
  obtain ⟨rfl, rfl⟩ := trodVars_none hV
  have hlt := hW.lt
  have hTA : ∀ sp : Nat → Bool, (∀ x ∈ p ++ [], sp x.block = true) → DataW.TrodAll enc P w' 0 sp true f.params.toList args.toList ds p := fun sp hsp =>
    trodAll_stays hl hts hA (fun x hx => hF.same (S := []) (hlt x (by simpa using hx))) (fun x hx => hsp x (by simpa using hx))
  have hrl : ∀ (b0 : Nat) (sp : Nat → Bool) (hd : Bool), DataW.TrodAll enc P w' b0 sp hd f.resultTypes.toList ((Value.bool true).resultList f.resultTypes.size) (s.fn H ds).results [] := by
    intro b0 sp hd
    rw [hr, hres]
    exact trodAll_mk1 (shut_bool hub _)
  have hold : ∀ x ∈ p ++ [], (fun b => decide (b < w.heap.size)) x.block = true := fun x hx => by simpa using hlt x hx
  have e : ds ++ [] = ds := List.append_nil ds
  refine ⟨ds, [], p ++ [], [], p, [], hW, by rw [e]; exact hrl _ _ _, by rw [e, hargs]; exact hTA _ hold, by rw [e, hvars, hsv]; rfl, World.keptBut_mono (fun x hx => ⟨hx, ?_⟩) (hF.kept _), fun _ => ?_⟩
  · exact Or.inr (by simpa using hx)
  · refine ⟨ok_one hr rfl (okWide_bool_mk hub _), _, _, ([] ++ p) ++ [], ⟨[] ++ p, [], trodAll_append (hTA _ (fun _ _ => rfl)) (hrl _ _ _), trodVars_mk hsv, rfl, ?_, ?_⟩, ?_⟩
    · intro b0 off hp
      have hp' : MemPlace.cell b0 off ∈ p ++ [] := by simpa using hp
      have h1 := hlt _ hp'
      have : w'.frozen? ⟨b0, off, none⟩ = w.frozen? ⟨b0, off, none⟩ := by
        unfold World.frozen?
        rw [show w'.heap[b0]? = w.heap[b0]? from hF.block b0 h1 (by simp)]
      rw [this]; exact hz b0 off hp'
    · intro ha; simpa using hn ha
    · intro x hx _; simpa using hx
end
end Go.Proofs.YtelnfdpbcbohdaaDoor
