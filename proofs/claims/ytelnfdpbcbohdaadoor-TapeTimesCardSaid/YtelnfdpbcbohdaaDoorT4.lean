/-
  Lines of a script: Parse. Own work.
-/
import Derived.Test.YtelnfdpbcbohdaaDoorT3
namespace Go.Proofs.YtelnfdpbcbohdaaDoor
open Go Go.RowKit
set_option linter.unusedVariables false
set_option maxRecDepth 100000

theorem splitB_size (sep : ByteArray) : ∀ (k : Nat) (s x : ByteArray), x ∈ Lib.splitB sep 0 k s → x.size ≤ s.size
  | 0, s, x, h => by rw [Lib.splitB_zero] at h; simp at h; subst h; exact Nat.le_refl _
  | k + 1, s, x, h => by
    unfold Lib.splitB at h
    split at h
    · simp at h; subst h; exact Nat.le_refl _
    · rcases List.mem_cons.1 h with h | h
      · subst h; simp; omega
      · have := splitB_size sep k _ x h
        simp at this; omega
theorem pieces_size {s f : ByteArray} (h : f ∈ pieces s) : f.size ≤ s.size := splitB_size _ _ _ _ ((List.mem_filter.1 h).1)
theorem pieces_ne {s f : ByteArray} (h : f ∈ pieces s) : f ≠ noS := by
  have := (List.mem_filter.1 h).2; simpa using this

/-- The kind of a word. -/
def kindS (f : ByteArray) : Option Nat := (List.range 20).find? fun k => f = ⟨(shName k).toArray⟩
theorem kindS_some {f : ByteArray} {k : Nat} (hk : k < 20) (h : f = ⟨(shName k).toArray⟩) (hf : ∀ j, j < k → f ≠ ⟨(shName j).toArray⟩) : kindS f = some k := by
  unfold kindS
  rw [List.find?_range_eq_some]
  exact ⟨by simpa using h, by simpa using hk, fun j hj => by simpa using hf j hj⟩
theorem kindS_none {f : ByteArray} (h : ∀ k, k < 20 → f ≠ ⟨(shName k).toArray⟩) : kindS f = none := by
  unfold kindS
  rw [List.find?_range_eq_none]
  exact fun k hk => by simpa using h k hk
theorem kindS_lt {f : ByteArray} {k : Nat} (h : kindS f = some k) : k < 20 ∧ f = ⟨(shName k).toArray⟩ := by
  unfold kindS at h
  rw [List.find?_range_eq_some] at h
  exact ⟨by simpa using h.2.1, by simpa using h.1⟩
def numsS (l : List ByteArray) : Nat → Option (Int × Int)
  | 0 => some (0, 0)
  | 1 => (numS (l.getD 1 noS)).map fun a => (a, 0)
  | _ => match numS (l.getD 1 noS), numS (l.getD 2 noS) with
    | some a, some b => some (a, b)
    | _, _ => none
def nlS (s : ByteArray) : Bool := decide (0 ≤ Lib.indexByte s.data.toList 10)
def fieldsOf (k : Nat) : Nat := 1 + shNum k + (if shText k then 1 else 0)
/-- What a line comes to. -/
def parseL (l : List ByteArray) (nl : Bool) : Except Int TOp :=
  match l with
  | [] => .error 11
  | f :: _ =>
    if Lib.hasPrefix f.data.toList [35] then .error 11 else
    match kindS f with
    | none => .error 60
    | some k =>
      if l.length ≠ fieldsOf k then .error 61 else
      match numsS l (shNum k) with
      | none => .error 62
      | some (a, b) =>
        let t := if shText k then l.getD (l.length - 1) noS else noS
        if 64 < t.size ∨ nl = true then .error 4 else .ok ⟨k, a, b, t⟩
def parseS (s : ByteArray) : Except Int TOp := parseL (pieces s) (nlS s)
def opOf : Except Int TOp → TOp
  | .ok o => o
  | .error _ => ⟨0, 0, 0, noS⟩
def errOf : Except Int TOp → Int
  | .ok _ => 0
  | .error k => k
def ParseR (r : Except Int TOp) (e : Ending) : Prop := e = .returned (.tuple #[.agg (opOf r).cells.toArray, .int .i64 (errOf r)])
theorem parseR_err {r : Except Int TOp} {k : Int} (h : r = .error k) : ParseR r (.returned (.tuple #[.agg #[.int .i64 0, .int .i64 0, .int .i64 0, .string ⟨#[]⟩], .int .i64 k])) := by subst h; rfl
theorem parseR_ok {r : Except Int TOp} {k : Nat} {a b : Int} {t : ByteArray} (h : r = .ok ⟨k, a, b, t⟩) : ParseR r (.returned (.tuple #[.agg #[.int .i64 k, .int .i64 a, .int .i64 b, .string t], .int .i64 0])) := by subst h; rfl
theorem numR_inv {f : ByteArray} {e : Ending} (h : NumR f e) : ∃ n b, e = .returned (.tuple #[.int .i64 n, .bool b]) ∧ ((b = true ∧ numS f = some n) ∨ (b = false ∧ numS f = none)) := by
  obtain ⟨n, b, he, hm⟩ := h
  refine ⟨n, b, he, ?_⟩
  cases hn : numS f with
  | none => rw [hn] at hm; exact .inr ⟨hm, rfl⟩
  | some v => rw [hn] at hm; obtain ⟨h1, h2⟩ := hm; subst h2; exact .inl ⟨h1, rfl⟩

theorem hash_op (f : ByteArray) (w0 : World) : Calls Tryd.prog 16 #[.string f, .string ⟨#[35]⟩] w0 fun e w' => ∃ b, e = .returned (.bool b) ∧ Lib.hasPrefix f.data.toList [35] = b ∧ Fr [] w0 w' :=
  (Tryd.strings_HasPrefix f ⟨#[35]⟩ w0).mono fun e w' ⟨h1, h2⟩ => ⟨_, h1, rfl, by rw [h2]; exact Fr.refl _ _⟩
theorem nl_op (f : ByteArray) (w0 : World) : Calls Tryd.prog 20 #[.string f, .string ⟨#[10]⟩] w0 fun e w' => ∃ b, e = .returned (.bool b) ∧ nlS f = b ∧ Fr [] w0 w' :=
  (Tryd.strings_Contains_one f 10 w0).mono fun e w' ⟨h1, h2⟩ => ⟨_, h1, rfl, by rw [h2]; exact Fr.refl _ _⟩
set_option maxHeartbeats 4000000 in
theorem parse_op (s : ByteArray) (w0 : World) (hg : GW w0) (hn : s.size < 4294967281) :
    Calls Tryd.prog 9 #[.string s] w0 fun e w' => ParseR (parseS s) e ∧ Fr [] w0 w' := by
  have hF := Fr.refl [] w0
  refine calls_of_D (n := 87) (rs := [.cell 2 27, .tmp 3]) Tryd.func9 rfl rfl rfl rfl ?_
  refine D_seq ?_
  refine D_region ?_
  refine s_alloc ti27 (fun b2 w1 nb2 hb2 fw => ?_)
  have lb2 := hb2.lt; replace nb2 := Nat.le_trans hF.size nb2; replace hF := hF.step0 fw; clear fw
  refine s_assign (v := (.int .i64 _)) rfl ?_
  refine O_nil ?_
  refine D_seq ?_
  refine D_region ?_
  refine s_move (v := (.string _)) rfl ?_
  refine s_call (av := [(.string _)]) rfl ca15 (Calls.mono (fields_op s w1 (hg.fr0 hF) hn) ?_)
  rintro _ w2 ⟨v4, rfl, hs4, fw, hnew⟩
  refine ⟨_, rfl, ?_⟩
  replace hb2 := hb2.fr0 fw
  replace hF := hF.step0 fw; clear fw
  have hpl : (pieces s).length ≤ 4294967296 := by
    have h1 := List.length_filter_le (fun x => decide (x ≠ noS)) (Lib.splitB ⟨#[32]⟩ 0 (Lib.countB s ⟨#[32]⟩) s)
    have h2 := Lib.splitB_all ⟨#[32]⟩ (by simp [ByteArray.size]) 0 _ s rfl
    have h3 := Lib.countB_le ⟨#[32]⟩ (by simp [ByteArray.size]) s.size s (Nat.le_refl _)
    unfold pieces; omega
  obtain ⟨l, hl⟩ : ∃ l, l = pieces s := ⟨_, rfl⟩
  have hls := fun f (h : f ∈ l) => pieces_size (s := s) (f := f) (hl ▸ h)
  have Hp : Hid (parseS s = parseL l (nlS s)) := by unfold parseS; rw [← hl]; rfl
  rw [← hl] at hs4 hpl
  clear hl
  have hG := Fr.refl [b2] w2
  have hap : ∀ k, v4.ownBlock = some k → k ∉ [b2] := fun k hk hm => by have := hnew k hk; simp at hm; omega
  clear hnew
  refine s_assign (v := (v4)) rfl ?_
  refine O_nil ?_
  refine D_seq ?_
  refine D_seq ?_
  refine D_region ?_
  refine s_move (v := (v4)) rfl ?_
  refine s_lenSl (v := v4) (m := l.length) rfl (hs4.fr hG hap) (by simp) und51 ?_
  refine s_cmp2 rfl rfl rfl (fun h1 => ?_) (fun h1 => ?_)
  · simp only [asks] at h1
    have hl0 : l = [] := List.eq_nil_of_length_eq_zero (by omega)
    refine s_move (v := (.bool true)) rfl ?_
    refine O_pass rfl rfl ?_
    refine O_pass rfl rfl ?_
    refine O_pass rfl rfl ?_
    refine O_pass rfl rfl ?_
    refine s_pickT (v := (.bool true)) rfl rfl ?_
    refine O_nil ?_
    refine D_condT rfl ?_
    refine D_seq ?_
    refine D_region ?_
    refine s_build (l := []) (rs := [_, _, _, _]) ti27 pl27 trivial rfl ?_
    refine s_store (vs := [_, _, _, _]) (rs := [_, _, _, _]) rfl rfl rfl (by simp [One, Value.oneCell']) ti27 rfl hb2 (by simp) rfl (fun w3 hb2n fw => ?_)
    replace hF := hF.step fw (by intro i hi; simp at hi; subst hi; first | (right; omega) | (left; simp; done))
    replace hG := hG.step fw (by intro i hi; simp at hi; subst hi; first | (right; omega) | (left; simp; done))
    clear hb2; have hb2 := hb2n; clear hb2n; clear fw
    refine s_assign (v := (.int .i64 _)) rfl ?_
    refine O_nil ?_
    refine D_ret ?_
    refine retC2 (x := (.int .i64 _)) (vs := [_, _, _, _]) rfl ag27 ti27 rfl (hb2.row.sub 0 4 rfl rfl) rfl ?_
    exact ⟨parseR_err (k := 11) (by rw [Hp.out, hl0]; rfl), hF⟩
  · simp only [asks] at h1
    obtain ⟨f, l', hl'⟩ : ∃ f l', l = f :: l' := by
      cases l with
      | nil => simp at h1
      | cons f l' => exact ⟨f, l', rfl⟩
    have hf0 : l[0]? = some f := by rw [hl']; rfl
    have hfs := hls f (by rw [hl']; simp)
    have Hl := Lib.hid hl'; clear hl'
    refine s_move (v := (.bool false)) rfl ?_
    refine O_want rfl ?_
    refine s_move (v := (v4)) rfl ?_
    refine O_want rfl ?_
    refine s_indexSl (v := v4) (els := strEls l) (i := 0) rfl rfl rfl (hs4.fr hG hap) und51 ti9 (by simp; omega) (fun b16 o16 _ hrow => ?_)
    refine O_want rfl ?_
    refine s_load1 (v := .string f) rfl ag9 ((hrow _ (strEls_get hf0)).at .z rfl) ?_
    refine O_want rfl ?_
    refine s_call (av := [(.string _), (.string _)]) rfl ca16 (Calls.mono (hash_op f _) ?_)
    rintro _ w3 ⟨bp, rfl, hpre, fw⟩
    refine ⟨_, rfl, ?_⟩
    replace hb2 := hb2.fr0 fw
    replace hG := hG.step0 fw
    replace hF := hF.step0 fw; clear fw
    cases bp
    · have Hp2 : Hid (parseS s = match kindS f with | none => .error 60 | some k => if l.length ≠ fieldsOf k then .error 61 else match numsS l (shNum k) with | none => .error 62 | some (a, b) => let t := if shText k then l.getD (l.length - 1) noS else noS; if 64 < t.size ∨ nlS s = true then .error 4 else .ok ⟨k, a, b, t⟩) := by
        show parseS s = _
        rw [Hp.out, Hl.out]; simp only [parseL]; rw [if_neg (by rw [hpre]; simp)]
      clear hpre Hp
      refine s_pickF (v := (.bool false)) rfl rfl ?_
      refine O_nil ?_
      refine D_condF rfl ?_
      refine D_skip ?_
      refine D_seq ?_
      refine D_region ?_
      refine s_move (v := (v4)) rfl ?_
      refine s_indexSl (v := v4) (els := strEls l) (i := 0) rfl rfl rfl (hs4.fr hG hap) und51 ti9 (by simp; omega) (fun b23 o23 _ hrow2 => ?_)
      refine s_load1 (v := .string f) rfl ag9 ((hrow2 _ (strEls_get hf0)).at .z rfl) ?_
      refine s_call (av := [(.string _)]) rfl ca17 (Calls.mono (find_op f _ (hg.fr0 hF)) ?_)
      rintro _ w4 ⟨hfind, fw⟩ 
      replace hF := hF.step0 fw
      replace hG := hG.step0 fw
      replace hb2 := hb2.fr0 fw
      clear fw
      rcases hfind with ⟨k, hk, hfk, hfj, rfl⟩ | ⟨hno, rfl⟩
      · have hks := kindS_some hk hfk hfj
        have Hp3 : Hid (parseS s = if l.length ≠ fieldsOf k then .error 61 else match numsS l (shNum k) with | none => .error 62 | some (a, b) => let t := if shText k then l.getD (l.length - 1) noS else noS; if 64 < t.size ∨ nlS s = true then .error 4 else .ok ⟨k, a, b, t⟩) := by
          show parseS s = _
          rw [Hp2.out, hks]
        clear Hp2 hks hfk hfj
        refine ⟨_, rfl, ?_⟩
        refine s_move (v := (.tuple _)) rfl ?_
        refine s_extract rfl .z ?_
        refine s_extract rfl (.s .z) ?_
        refine s_assign (v := (.int .i64 _)) rfl ?_
        refine s_assign (v := (.bool true)) rfl ?_
        refine O_nil ?_
        refine D_seq ?_
        refine D_block ?_
        refine D_seq ?_
        refine D_region ?_
        refine s_move (v := (.bool true)) rfl ?_
        refine s_not (b := true) rfl ?_
        refine s_assign (v := (.bool false)) rfl ?_
        refine O_nil ?_
        refine D_condF rfl ?_
        refine D_seq ?_
        refine D_region ?_
        refine s_move (v := (v4)) rfl ?_
        refine s_lenSl (v := v4) (m := l.length) rfl (hs4.fr hG hap) (by simp) und51 ?_
        refine s_move (v := (.int .i64 _)) rfl ?_
        refine s_indexV (i := k) (r := k * 3) rfl rfl rfl und44 ti43 hk (by omega) ?_
        refine s_loadA (vs := shCells k) rfl ag43 ti43 rfl ((hg.fr0 hF).shapes k hk) ?_
        refine s_call (av := [(.agg _)]) rfl ca18 (Calls.mono (shape_fields k _) ?_)
        rintro _ w5 ⟨rfl, fw⟩
        refine ⟨_, rfl, ?_⟩
        replace hb2 := hb2.fr0 fw
        replace hG := hG.step0 fw
        replace hF := hF.step0 fw; clear fw
        refine s_cmp2 rfl rfl rfl (fun h2 => ?_) (fun h2 => ?_)
        · simp only [asks] at h2
          have hP : parseS s = .error 61 := by
            rw [Hp3.out, if_pos]; intro h; apply h2; rw [h]; unfold fieldsOf; split <;> simp
          refine s_assign (v := (.bool true)) rfl ?_
          refine O_nil ?_
          refine D_condT rfl ?_
          refine D_seq ?_
          refine D_region ?_
          refine s_build (l := []) (rs := [_, _, _, _]) ti27 pl27 trivial rfl ?_
          refine s_store (vs := [_, _, _, _]) (rs := [_, _, _, _]) rfl rfl rfl (by simp [One, Value.oneCell']) ti27 rfl hb2 (by simp) rfl (fun w6 hb2n fw => ?_)
          replace hF := hF.step fw (by intro i hi; simp at hi; subst hi; first | (right; omega) | (left; simp; done))
          replace hG := hG.step fw (by intro i hi; simp at hi; subst hi; first | (right; omega) | (left; simp; done))
          clear hb2; have hb2 := hb2n; clear hb2n; clear fw
          refine s_assign (v := (.int .i64 _)) rfl ?_
          refine O_nil ?_
          refine D_ret ?_
          refine retC2 (x := (.int .i64 _)) (vs := [_, _, _, _]) rfl ag27 ti27 rfl (hb2.row.sub 0 4 rfl rfl) rfl ?_
          exact ⟨parseR_err (k := 61) hP, hF⟩
        · simp only [asks] at h2
          have hlen : l.length = fieldsOf k := by
            have h3 : (l.length : Int) = 1 + shNum k + (if shText k then 1 else 0) := by simpa using h2
            unfold fieldsOf; split at h3 <;> split <;> first | omega | contradiction
          have Hp4 : Hid (parseS s = match numsS l (shNum k) with | none => .error 62 | some (a, b) => let t := if shText k then l.getD (l.length - 1) noS else noS; if 64 < t.size ∨ nlS s = true then .error 4 else .ok ⟨k, a, b, t⟩) := by
            show parseS s = _
            rw [Hp3.out, if_neg (by simpa using hlen)]
          have h2n := shNum_le k
          have hfl : shNum k + 1 ≤ l.length := by rw [hlen]; unfold fieldsOf; omega
          clear Hp3 h2
          refine s_assign (v := (.bool false)) rfl ?_
          refine O_nil ?_
          refine D_condF rfl ?_
          refine D_skip ?_
          refine D_seq ?_
          refine D_region ?_
          refine s_move (v := (.int .i64 _)) rfl ?_
          refine s_build (l := [(0, [(.int .i64 _)])]) (rs := [_, _, _, _]) ti27 pl27 ⟨rfl, rfl, by simp, trivial⟩ rfl ?_
          refine s_alloc ti27 (fun b7 w6 nb7 hb7 fw => ?_)
          have neb2_b7 : b2 ≠ b7 := by have := hb2.lt; omega
          replace hb2 := hb2.fr0 fw
          have nhG_b7 := Nat.le_trans hG.size nb7; replace hG := hG.step0 fw
          have lb7 := hb7.lt; replace nb7 := Nat.le_trans hF.size nb7; replace hF := hF.step0 fw; clear fw
          refine s_store (vs := [_, _, _, _]) (rs := [_, _, _, _]) rfl rfl rfl (by simp [One, Value.oneCell']) ti27 rfl hb7 (by simp) rfl (fun w7 hb7n fw => ?_)
          replace hb2 := hb2.fr1 fw (by omega)
          replace hF := hF.step fw (by intro i hi; simp at hi; subst hi; first | (right; omega) | (left; simp; done))
          replace hG := hG.step fw (by intro i hi; simp at hi; subst hi; first | (right; omega) | (left; simp; done))
          clear hb7; have hb7 := hb7n; clear hb7n; clear fw
          refine O_nil ?_
          refine D_seq ?_
          refine D_seq ?_
          refine D_region ?_
          refine s_move (v := (.int .i64 _)) rfl ?_
          refine s_indexV (i := k) (r := k * 3) rfl rfl rfl und44 ti43 hk (by omega) ?_
          refine s_fieldAddr (off := 1) (r := k * 3 + 1) rfl fo43_1 rfl ?_
          refine s_load1 (v := .int .i64 (shNum k)) rfl ag3 (((hg.fr0 hF).shapes k hk).at (.s .z) rfl) ?_
          refine s_move (v := (.int .i64 _)) rfl ?_
          refine O_nil ?_
          refine D_block ?_
          refine D_loop (S := Nat × Int × Int) [3, 6, 8, 47, 48, 49, 50, 51, 52, 53, 54, 55, 56, 57, 58, 59, 60, 61, 62, 63, 64, 65] (fun s => [(47, .int .i64 s.1)]) (fun s w => s.1 ≤ shNum k ∧ Blk w b2 [.int .i64 0, .int .i64 0, .int .i64 0, .string ⟨#[]⟩] 27 ∧ Blk w b7 [.int .i64 k, .int .i64 s.2.1, .int .i64 s.2.2, .string ⟨#[]⟩] 27 ∧ Fr [] w0 w ∧ Fr [b2] w2 w ∧ (0 < s.1 → numS (l.getD 1 noS) = some s.2.1) ∧ (s.1 = 0 → s.2.1 = 0) ∧ (1 < s.1 → numS (l.getD 2 noS) = some s.2.2) ∧ (s.1 ≤ 1 → s.2.2 = 0)) (fun s => shNum k - s.1) (0, 0, 0) ?_ ?_ ?_
          · exact ⟨rfl, trivial⟩
          · exact ⟨Nat.zero_le _, hb2, hb7, hF, hG, by simp, by simp, by simp, by simp⟩
          clear hF
          rintro ⟨i, a, b⟩ u8 w8 ⟨hi, hb2, hb7, hF, hG, ha1, ha0, hb1, hb0⟩
          (try dsimp only at hi); (try dsimp only at hb2); (try dsimp only at hb7); (try dsimp only at hF); (try dsimp only at hG); (try dsimp only at ha1); (try dsimp only at ha0); (try dsimp only at hb1); (try dsimp only at hb0)
          show D _ _ _ _ (upds _ [(47, .int .i64 i)]) _
          have Ha1 := Lib.hid ha1; have Ha0 := Lib.hid ha0; have Hb1 := Lib.hid hb1; have Hb0 := Lib.hid hb0
          clear ha1 ha0 hb1 hb0
          refine D_seq ?_
          refine D_region ?_
          refine s_cmp2 rfl rfl rfl (fun h3 => ?_) (fun h3 => ?_)
          · simp only [asks] at h3
            have hlt : i < shNum k := by omega
            obtain ⟨x, hx⟩ : ∃ x, l[1 + i]? = some x := ⟨_, List.getElem?_eq_getElem (by omega)⟩
            have hxs : x.size ≤ 4294967296 := by have := hls x (List.mem_of_getElem? hx); omega
            refine O_nil ?_
            refine D_seq ?_
            refine D_condT rfl ?_
            refine D_skip ?_
            refine D_seq ?_
            refine D_block ?_
            refine D_seq ?_
            refine D_region ?_
            refine s_move (v := (.int .i64 _)) rfl ?_
            refine s_assign (v := (.int .i64 _)) rfl ?_
            refine O_nil ?_
            refine D_seq ?_
            refine D_region ?_
            refine s_move (v := (.int .i64 _)) rfl ?_
            refine s_move (v := (v4)) rfl ?_
            refine s_move (v := (.int .i64 _)) rfl ?_
            refine s_addi rfl rfl (by omega) ?_
            refine s_indexSl (v := v4) (els := strEls l) (i := 1 + i) rfl rfl (by omega) (hs4.fr hG hap) und51 ti9 (by simp; omega) (fun b55 o55 _ hrow3 => ?_)
            refine s_load1 (v := .string x) rfl ag9 ((hrow3 _ (strEls_get hx)).at .z rfl) ?_
            refine s_call (av := [(.string _)]) rfl ca19 (Calls.mono (number_op x _ (hg.fr0 hF) hxs) ?_)
            rintro _ w9 ⟨hnum, fw⟩ 
            replace hb2 := hb2.fr0 fw
            replace hb7 := hb7.fr0 fw
            replace hG := hG.step0 fw
            replace hF := hF.step0 fw; clear fw
            obtain ⟨nn, bn, rfl, hnn⟩ := numR_inv hnum
            refine ⟨_, rfl, ?_⟩
            refine s_move (v := (.tuple _)) rfl ?_
            refine s_extract rfl .z ?_
            refine s_extract rfl (.s .z) ?_
            refine s_fieldAddr (off := 1) (r := 1) rfl fo27_1 rfl ?_
            refine s_indexV (i := i) (r := 1 + i) rfl rfl rfl und22 ti3 (by omega) (by omega) ?_
            refine s_store1 (v := .int .i64 nn) (rs := [.int .i64 k, .int .i64 (if i = 0 then nn else a), .int .i64 (if i = 1 then nn else b), .string ⟨#[]⟩]) rfl rfl rfl ti3 hb7 (by simp; omega) (by rcases (by omega : i = 0 ∨ i = 1) with rfl | rfl <;> rfl) (fun w6 hb7n fw => ?_)
            replace hb2 := hb2.fr1 fw (by omega)
            replace hF := hF.step1 fw (by omega)
            replace hG := hG.step fw (by intro i hi; simp at hi; subst hi; right; omega)
            clear hb7 fw
            have hb7 := hb7n
            clear hb7n
            cases bn
            · have hnone : numS x = none := by simpa using hnn
              have hP : parseS s = .error 62 := by
                rw [Hp4.out]
                obtain rfl | rfl : i = 0 ∨ i = 1 := by omega
                · have hg1 : l.getD 1 noS = x := by simp [List.getD, hx]
                  match hnk : shNum k, hlt, h2n with
                  | 1, _, _ => simp only [numsS]; rw [hg1, hnone]; rfl
                  | 2, _, _ => simp only [numsS]; rw [hg1, hnone]
                · have hg1 : l.getD 2 noS = x := by simp [List.getD, hx]
                  match hnk : shNum k, hlt, h2n with
                  | 2, _, _ => simp only [numsS]; rw [hg1, hnone]; cases numS (l.getD 1 noS) <;> rfl
              refine s_assign (v := (.bool false)) rfl ?_
              refine O_nil ?_
              refine D_seq ?_
              refine D_region ?_
              refine s_move (v := (.bool false)) rfl ?_
              refine s_not (b := false) rfl ?_
              refine O_nil ?_
              refine D_condT rfl ?_
              refine D_seq ?_
              refine D_region ?_
              refine s_build (l := []) (rs := [_, _, _, _]) ti27 pl27 trivial rfl ?_
              refine s_store (vs := [_, _, _, _]) (rs := [_, _, _, _]) rfl rfl rfl (by simp [One, Value.oneCell']) ti27 rfl hb2 (by simp) rfl (fun w7 hb2n fw => ?_)
              replace hb7 := hb7.fr1 fw (by omega)
              replace hF := hF.step fw (by intro i hi; simp at hi; subst hi; first | (right; omega) | (left; simp; done))
              replace hG := hG.step fw (by intro i hi; simp at hi; subst hi; first | (right; omega) | (left; simp; done))
              clear hb2; have hb2 := hb2n; clear hb2n; clear fw
              refine s_assign (v := (.int .i64 _)) rfl ?_
              refine O_nil ?_
              refine D_ret ?_
              refine retC2 (x := (.int .i64 _)) (vs := [_, _, _, _]) rfl ag27 ti27 rfl (hb2.row.sub 0 4 rfl rfl) rfl ?_
              exact ⟨parseR_err (k := 62) hP, hF⟩
            · have hsome : numS x = some nn := by simpa using hnn
              refine s_assign (v := (.bool true)) rfl ?_
              refine O_nil ?_
              refine D_seq ?_
              refine D_region ?_
              refine s_move (v := (.bool true)) rfl ?_
              refine s_not (b := true) rfl ?_
              refine O_nil ?_
              refine D_condF rfl ?_
              refine D_skip ?_
              refine D_region ?_
              refine s_addi rfl rfl (by omega) ?_
              refine s_move (v := (.int .i64 _)) rfl ?_
              refine O_nil ?_
              refine ⟨⟨(i + 1, (if i = 0 then nn else a), (if i = 1 then nn else b)), ⟨rfl, trivial⟩, by repeat' (first | exact agree_over | exact agree_refl | refine agree_upd rfl ?_), ?_, ?_⟩⟩
              · refine ⟨hlt, hb2, hb7, hF, hG, fun _ => ?_, by simp, fun h => ?_, fun h => ?_⟩
                · simp only
                  by_cases h0 : i = 0
                  · subst h0; rw [if_pos rfl, ← hsome]; simp [List.getD, hx]
                  · rw [if_neg h0]; exact Ha1.out (by omega)
                · have hi1 : i = 1 := by simp at h; omega
                  subst hi1; simp only [if_true]; rw [← hsome]; simp [List.getD, hx]
                · have hi0 : i = 0 := by simp at h; omega
                  subst hi0; simp only; rw [if_neg (by omega)]; exact Hb0.out (by omega)
              · simp; omega
          · simp only [asks] at h3
            have hie : i = shNum k := by omega
            subst hie
            have hns : numsS l (shNum k) = some (a, b) := by
              have q1 := Ha1.out; have q0 := Ha0.out; have r1 := Hb1.out; have r0 := Hb0.out
              match hnk : shNum k, h2n with
              | 0, _ => rw [hnk] at q0 r0; simp only [numsS]; rw [q0 rfl, r0 (by omega)]
              | 1, _ => rw [hnk] at q1 r0; simp only [numsS]; rw [q1 (by omega), r0 (by omega)]; rfl
              | 2, _ => rw [hnk] at q1 r1; simp only [numsS]; rw [q1 (by omega), r1 (by omega)]
            have Hp5 : Hid (parseS s = let t := if shText k then l.getD (l.length - 1) noS else noS; if 64 < t.size ∨ nlS s = true then .error 4 else .ok ⟨k, a, b, t⟩) := by
              show parseS s = _
              rw [Hp4.out, hns]
            clear Ha1 Ha0 Hb1 Hb0 Hp4 hi h3
            refine O_nil ?_
            refine D_seq ?_
            refine D_condF rfl ?_
            refine D_exit ?_
            refine D_seq ?_
            refine D_seq ?_
            refine D_region ?_
            refine s_move (v := (.int .i64 _)) rfl ?_
            refine s_indexV (i := k) (r := k * 3) rfl rfl rfl und44 ti43 hk (by omega) ?_
            refine s_fieldAddr (off := 2) (r := k * 3 + 2) rfl fo43_2 rfl ?_
            refine s_load1 (v := .bool (shText k)) rfl ag4 (((hg.fr0 hF).shapes k hk).at (.s (.s .z)) rfl) ?_
            refine O_nil ?_
            refine D_cond rfl (fun htx => ?_) (fun htx => ?_)
            · skip
              obtain ⟨x, hx⟩ : ∃ x, l[l.length - 1]? = some x := ⟨_, List.getElem?_eq_getElem (by omega)⟩
              have hxs := hls x (List.mem_of_getElem? hx)
              have hgx : l.getD (l.length - 1) noS = x := by simp [List.getD, hx]
              have Hp6 : Hid (parseS s = if 64 < x.size ∨ nlS s = true then .error 4 else .ok ⟨k, a, b, x⟩) := by
                show parseS s = _
                rw [Hp5.out]; simp only []; rw [if_pos htx, hgx]
              refine D_region ?_
              refine s_move (v := (v4)) rfl ?_
              refine s_move (v := (v4)) rfl ?_
              refine s_lenSl (v := v4) (m := l.length) rfl (hs4.fr hG hap) (by simp) und51 ?_
              refine s_subi rfl rfl (by omega) ?_
              refine s_indexSl (v := v4) (els := strEls l) (i := l.length - 1) rfl rfl (by omega) (hs4.fr hG hap) und51 ti9 (by simp; omega) (fun b74 o74 _ hrow4 => ?_)
              refine s_load1 (v := .string x) rfl ag9 ((hrow4 _ (strEls_get hx)).at .z rfl) ?_
              refine s_fieldAddr (off := 3) (r := 3) rfl fo27_2 rfl ?_
              refine s_store1 (v := (.string _)) (rs := [_, _, _, _]) rfl rfl (by first | rfl | assumption) ti9 hb7 (by simp) rfl (fun w9 hb7n fw => ?_)
              replace hb2 := hb2.fr1 fw (by omega)
              replace hF := hF.step fw (by intro i hi; simp at hi; subst hi; first | (right; omega) | (left; simp; done))
              replace hG := hG.step fw (by intro i hi; simp at hi; subst hi; first | (right; omega) | (left; simp; done))
              clear hb7; have hb7 := hb7n; clear hb7n; clear fw
              refine O_nil ?_
              refine D_seq ?_
              refine D_seq ?_
              refine D_region ?_
              refine s_fieldAddr (off := 3) (r := 3) rfl fo27_2 rfl ?_
              refine s_load1 (v := (.string _)) rfl ag9 (hb7.at (.s (.s (.s .z)))) ?_
              refine s_lenS rfl und9 ?_
              refine s_cmp2 rfl rfl rfl (fun h4 => ?_) (fun h4 => ?_)
              · simp only [asks] at h4
                have hP : parseS s = .error 4 := by rw [Hp6.out, if_pos (.inl (by omega))]
                refine s_move (v := (.bool true)) rfl ?_
                refine O_pass rfl rfl ?_
                refine O_pass rfl rfl ?_
                refine s_pickT (v := (.bool true)) rfl rfl ?_
                refine O_nil ?_
                refine D_condT rfl ?_
                refine D_seq ?_
                refine D_region ?_
                refine s_build (l := []) (rs := [_, _, _, _]) ti27 pl27 trivial rfl ?_
                refine s_store (vs := [_, _, _, _]) (rs := [_, _, _, _]) rfl rfl rfl (by simp [One, Value.oneCell']) ti27 rfl hb2 (by simp) rfl (fun w10 hb2n fw => ?_)
                replace hb7 := hb7.fr1 fw (by omega)
                replace hF := hF.step fw (by intro i hi; simp at hi; subst hi; first | (right; omega) | (left; simp; done))
                replace hG := hG.step fw (by intro i hi; simp at hi; subst hi; first | (right; omega) | (left; simp; done))
                clear hb2; have hb2 := hb2n; clear hb2n; clear fw
                refine s_assign (v := (.int .i64 _)) rfl ?_
                refine O_nil ?_
                refine D_ret ?_
                refine retC2 (x := (.int .i64 _)) (vs := [_, _, _, _]) rfl ag27 ti27 rfl (hb2.row.sub 0 4 rfl rfl) rfl ?_
                exact ⟨parseR_err (k := 4) hP, hF⟩
              · simp only [asks] at h4
                refine s_move (v := (.bool false)) rfl ?_
                refine O_want rfl ?_
                refine s_move (v := (.string _)) rfl ?_
                refine O_want rfl ?_
                refine s_call (av := [(.string _), (.string _)]) rfl ca20 (Calls.mono (nl_op s _) ?_)
                rintro _ w10 ⟨bl, rfl, hnl, fw⟩
                refine ⟨_, rfl, ?_⟩
                replace hb2 := hb2.fr0 fw
                replace hb7 := hb7.fr0 fw
                replace hG := hG.step0 fw
                replace hF := hF.step0 fw; clear fw
                cases bl
                · have hP : parseS s = .ok ⟨k, a, b, x⟩ := by rw [Hp6.out, if_neg]; rintro (h | h); exact h4 (by omega); rw [hnl] at h; cases h
                  refine s_pickF (v := (.bool false)) rfl rfl ?_
                  refine O_nil ?_
                  refine D_condF rfl ?_
                  refine D_skip ?_
                  refine D_seq ?_
                  refine D_region ?_
                  refine s_loadA (vs := [_, _, _, _]) rfl ag27 ti27 rfl (hb7.row.sub 0 4 rfl rfl) ?_
                  refine s_store (vs := [_, _, _, _]) (rs := [_, _, _, _]) rfl rfl rfl (by simp [One, Value.oneCell']) ti27 rfl hb2 (by simp) rfl (fun w11 hb2n fw => ?_)
                  replace hb7 := hb7.fr1 fw (by omega)
                  replace hF := hF.step fw (by intro i hi; simp at hi; subst hi; first | (right; omega) | (left; simp; done))
                  replace hG := hG.step fw (by intro i hi; simp at hi; subst hi; first | (right; omega) | (left; simp; done))
                  clear hb2; have hb2 := hb2n; clear hb2n; clear fw
                  refine s_assign (v := (.int .i64 _)) rfl ?_
                  refine O_nil ?_
                  refine D_ret ?_
                  refine retC2 (x := (.int .i64 _)) (vs := [_, _, _, _]) rfl ag27 ti27 rfl (hb2.row.sub 0 4 rfl rfl) rfl ?_
                  exact ⟨parseR_ok hP, hF⟩
                · have hP : parseS s = .error 4 := by rw [Hp6.out, if_pos (.inr hnl)]
                  refine s_pickF (v := (.bool true)) rfl rfl ?_
                  refine O_nil ?_
                  refine D_condT rfl ?_
                  refine D_seq ?_
                  refine D_region ?_
                  refine s_build (l := []) (rs := [_, _, _, _]) ti27 pl27 trivial rfl ?_
                  refine s_store (vs := [_, _, _, _]) (rs := [_, _, _, _]) rfl rfl rfl (by simp [One, Value.oneCell']) ti27 rfl hb2 (by simp) rfl (fun w11 hb2n fw => ?_)
                  replace hb7 := hb7.fr1 fw (by omega)
                  replace hF := hF.step fw (by intro i hi; simp at hi; subst hi; first | (right; omega) | (left; simp; done))
                  replace hG := hG.step fw (by intro i hi; simp at hi; subst hi; first | (right; omega) | (left; simp; done))
                  clear hb2; have hb2 := hb2n; clear hb2n; clear fw
                  refine s_assign (v := (.int .i64 _)) rfl ?_
                  refine O_nil ?_
                  refine D_ret ?_
                  refine retC2 (x := (.int .i64 _)) (vs := [_, _, _, _]) rfl ag27 ti27 rfl (hb2.row.sub 0 4 rfl rfl) rfl ?_
                  exact ⟨parseR_err (k := 4) hP, hF⟩
            · skip
              have Hp6 : Hid (parseS s = if 64 < noS.size ∨ nlS s = true then .error 4 else .ok ⟨k, a, b, noS⟩) := by
                show parseS s = _
                rw [Hp5.out]; simp only [htx]; rfl
              refine D_skip ?_
              refine D_seq ?_
              refine D_seq ?_
              refine D_region ?_
              refine s_fieldAddr (off := 3) (r := 3) rfl fo27_2 rfl ?_
              refine s_load1 (v := (.string _)) rfl ag9 (hb7.at (.s (.s (.s .z)))) ?_
              refine s_lenS rfl und9 ?_
              refine s_cmpF rfl rfl rfl (by show ¬ ((64 : Int) < ((⟨#[]⟩ : ByteArray).size : Int)); decide) ?_
              have h4 : ¬ (64 < (noS.size : Int)) := by simp [ByteArray.size]
              refine s_move (v := (.bool false)) rfl ?_
              refine O_want rfl ?_
              refine s_move (v := (.string _)) rfl ?_
              refine O_want rfl ?_
              refine s_call (av := [(.string _), (.string _)]) rfl ca20 (Calls.mono (nl_op s _) ?_)
              rintro _ w9 ⟨bl, rfl, hnl, fw⟩
              refine ⟨_, rfl, ?_⟩
              replace hb2 := hb2.fr0 fw
              replace hb7 := hb7.fr0 fw
              replace hG := hG.step0 fw
              replace hF := hF.step0 fw; clear fw
              cases bl
              · have hP : parseS s = .ok ⟨k, a, b, noS⟩ := by rw [Hp6.out, if_neg]; rintro (h | h); exact h4 (by omega); rw [hnl] at h; cases h
                refine s_pickF (v := (.bool false)) rfl rfl ?_
                refine O_nil ?_
                refine D_condF rfl ?_
                refine D_skip ?_
                refine D_seq ?_
                refine D_region ?_
                refine s_loadA (vs := [_, _, _, _]) rfl ag27 ti27 rfl (hb7.row.sub 0 4 rfl rfl) ?_
                refine s_store (vs := [_, _, _, _]) (rs := [_, _, _, _]) rfl rfl rfl (by simp [One, Value.oneCell']) ti27 rfl hb2 (by simp) rfl (fun w10 hb2n fw => ?_)
                replace hb7 := hb7.fr1 fw (by omega)
                replace hF := hF.step fw (by intro i hi; simp at hi; subst hi; first | (right; omega) | (left; simp; done))
                replace hG := hG.step fw (by intro i hi; simp at hi; subst hi; first | (right; omega) | (left; simp; done))
                clear hb2; have hb2 := hb2n; clear hb2n; clear fw
                refine s_assign (v := (.int .i64 _)) rfl ?_
                refine O_nil ?_
                refine D_ret ?_
                refine retC2 (x := (.int .i64 _)) (vs := [_, _, _, _]) rfl ag27 ti27 rfl (hb2.row.sub 0 4 rfl rfl) rfl ?_
                exact ⟨parseR_ok hP, hF⟩
              · have hP : parseS s = .error 4 := by rw [Hp6.out, if_pos (.inr hnl)]
                refine s_pickF (v := (.bool true)) rfl rfl ?_
                refine O_nil ?_
                refine D_condT rfl ?_
                refine D_seq ?_
                refine D_region ?_
                refine s_build (l := []) (rs := [_, _, _, _]) ti27 pl27 trivial rfl ?_
                refine s_store (vs := [_, _, _, _]) (rs := [_, _, _, _]) rfl rfl rfl (by simp [One, Value.oneCell']) ti27 rfl hb2 (by simp) rfl (fun w10 hb2n fw => ?_)
                replace hb7 := hb7.fr1 fw (by omega)
                replace hF := hF.step fw (by intro i hi; simp at hi; subst hi; first | (right; omega) | (left; simp; done))
                replace hG := hG.step fw (by intro i hi; simp at hi; subst hi; first | (right; omega) | (left; simp; done))
                clear hb2; have hb2 := hb2n; clear hb2n; clear fw
                refine s_assign (v := (.int .i64 _)) rfl ?_
                refine O_nil ?_
                refine D_ret ?_
                refine retC2 (x := (.int .i64 _)) (vs := [_, _, _, _]) rfl ag27 ti27 rfl (hb2.row.sub 0 4 rfl rfl) rfl ?_
                exact ⟨parseR_err (k := 4) hP, hF⟩
      · have hP : parseS s = .error 60 := by rw [Hp2.out, kindS_none hno]
        refine ⟨_, rfl, ?_⟩
        refine s_move (v := (.tuple _)) rfl ?_
        refine s_extract rfl .z ?_
        refine s_extract rfl (.s .z) ?_
        refine s_assign (v := (.int .i64 _)) rfl ?_
        refine s_assign (v := (.bool false)) rfl ?_
        refine O_nil ?_
        refine D_seq ?_
        refine D_block ?_
        refine D_seq ?_
        refine D_region ?_
        refine s_move (v := (.bool false)) rfl ?_
        refine s_not (b := false) rfl ?_
        refine s_assign (v := (.bool true)) rfl ?_
        refine O_nil ?_
        refine D_condT rfl ?_
        refine D_seq ?_
        refine D_region ?_
        refine s_build (l := []) (rs := [_, _, _, _]) ti27 pl27 trivial rfl ?_
        refine s_store (vs := [_, _, _, _]) (rs := [_, _, _, _]) rfl rfl rfl (by simp [One, Value.oneCell']) ti27 rfl hb2 (by simp) rfl (fun w5 hb2n fw => ?_)
        replace hF := hF.step fw (by intro i hi; simp at hi; subst hi; first | (right; omega) | (left; simp; done))
        replace hG := hG.step fw (by intro i hi; simp at hi; subst hi; first | (right; omega) | (left; simp; done))
        clear hb2; have hb2 := hb2n; clear hb2n; clear fw
        refine s_assign (v := (.int .i64 _)) rfl ?_
        refine O_nil ?_
        refine D_ret ?_
        refine retC2 (x := (.int .i64 _)) (vs := [_, _, _, _]) rfl ag27 ti27 rfl (hb2.row.sub 0 4 rfl rfl) rfl ?_
        exact ⟨parseR_err (k := 60) hP, hF⟩
    · have hP : parseS s = .error 11 := by rw [Hp.out, Hl.out]; simp only [parseL]; rw [if_pos hpre]
      refine s_pickF (v := (.bool true)) rfl rfl ?_
      refine O_nil ?_
      refine D_condT rfl ?_
      refine D_seq ?_
      refine D_region ?_
      refine s_build (l := []) (rs := [_, _, _, _]) ti27 pl27 trivial rfl ?_
      refine s_store (vs := [_, _, _, _]) (rs := [_, _, _, _]) rfl rfl rfl (by simp [One, Value.oneCell']) ti27 rfl hb2 (by simp) rfl (fun w4 hb2n fw => ?_)
      replace hF := hF.step fw (by intro i hi; simp at hi; subst hi; first | (right; omega) | (left; simp; done))
      replace hG := hG.step fw (by intro i hi; simp at hi; subst hi; first | (right; omega) | (left; simp; done))
      clear hb2; have hb2 := hb2n; clear hb2n; clear fw
      refine s_assign (v := (.int .i64 _)) rfl ?_
      refine O_nil ?_
      refine D_ret ?_
      refine retC2 (x := (.int .i64 _)) (vs := [_, _, _, _]) rfl ag27 ti27 rfl (hb2.row.sub 0 4 rfl rfl) rfl ?_
      exact ⟨parseR_err (k := 11) hP, hF⟩
end Go.Proofs.YtelnfdpbcbohdaaDoor

