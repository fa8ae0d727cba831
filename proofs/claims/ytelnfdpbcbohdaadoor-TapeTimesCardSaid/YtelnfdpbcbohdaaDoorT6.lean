/-
  Lines of a script: Lines, and the reference's Behind and Good. Own work.
-/
import Derived.Test.YtelnfdpbcbohdaaDoorT5
namespace Go.Proofs.YtelnfdpbcbohdaaDoor
open Go Go.RowKit
set_option linter.unusedVariables false
set_option linter.unusedSimpArgs false
set_option maxRecDepth 100000

def cutL (s : ByteArray) : ByteArray := ⟨(Lib.cut s.data.toList [10]).1.toArray⟩
def cutR (s : ByteArray) : ByteArray := ⟨(Lib.cut s.data.toList [10]).2.1.toArray⟩
theorem size_list (s : ByteArray) : s.size = s.data.toList.length := by cases s; simp only [ByteArray.size, Array.length_toList]
theorem cutL_size (s : ByteArray) : (cutL s).size ≤ s.size := by
  rw [cutL, size_mk, size_list s]
  unfold Lib.cut
  split
  · exact List.length_take_le' _ _
  · exact Nat.le_refl _
theorem noS_of_size {s : ByteArray} (h : s.size = 0) : s = noS := by
  cases s with | mk a => simp only [ByteArray.size, Array.size_eq_zero_iff] at h; rw [h]
theorem cutR_size {s : ByteArray} (h : s ≠ noS) : (cutR s).size < s.size := by
  have h0 : 0 < s.size := by
    rcases Nat.eq_zero_or_pos s.size with h0 | h0
    · exact absurd (noS_of_size h0) h
    · exact h0
  rw [cutR, size_mk]
  rw [size_list s] at h0 ⊢
  unfold Lib.cut
  split
  · simp only [List.length_drop, List.length_cons, List.length_nil]; omega
  · exact h0
theorem parseS_err {s : ByteArray} {k : Int} (h : parseS s = .error k) : k ≠ 0 := by
  unfold parseS parseL at h
  repeat' split at h
  all_goals first | (cases h; omega) | cases h | skip
  all_goals simp only at h
  all_goals (split at h <;> first | (cases h; omega) | cases h)
def linesS : Nat → ByteArray → List TOp → Nat → Except (Nat × Int) (List TOp)
  | 0, _, out, _ => .ok out
  | f + 1, s, out, n =>
    if s = noS then .ok out else
    match parseS (cutL s) with
    | .ok o => linesS f (cutR s) (out ++ [o]) (n + 1)
    | .error k => if k = 11 then linesS f (cutR s) out (n + 1) else .error (n, k)
def LinesR (w0 : World) (r : Except (Nat × Int) (List TOp)) (e : Ending) (w' : World) : Prop :=
  match r with
  | .error (n, k) => e = .returned (.tuple #[.slice none 0 0, .int .i64 n, .int .i64 k]) ∧ Fr [] w0 w'
  | .ok l => ∃ v', e = .returned (.tuple #[v', .int .i64 0, .int .i64 0]) ∧ Ow w' w0.heap.size 27 4 v' (l.map TOp.cells) ∧ Fr [] w0 w'
theorem linesR_err {w0 w' : World} {r : Except (Nat × Int) (List TOp)} {n : Nat} {k : Int} (h : r = .error (n, k)) (hf : Fr [] w0 w') : LinesR w0 r (.returned (.tuple #[.slice none 0 0, .int .i64 n, .int .i64 k])) w' := by subst h; exact ⟨rfl, hf⟩
theorem linesR_ok {w0 w' : World} {r : Except (Nat × Int) (List TOp)} {l : List TOp} {v' : Value} (h : r = .ok l) (ho : Ow w' w0.heap.size 27 4 v' (l.map TOp.cells)) (hf : Fr [] w0 w') : LinesR w0 r (.returned (.tuple #[v', .int .i64 0, .int .i64 0])) w' := by subst h; exact ⟨v', rfl, ho, hf⟩
theorem cut_op (s : ByteArray) (w0 : World) (hg : GW w0) (hn : s.size < 4294967281) : Calls Tryd.prog 25 #[.string s, .string ⟨#[10]⟩] w0 fun e w' => (∃ b, e = .returned (.tuple #[.string (cutL s), .string (cutR s), .bool b])) ∧ Fr [] w0 w' := by
  obtain ⟨m, hm⟩ := hg.maxlen
  exact (Tryd.strings_Cut s ⟨#[10]⟩ m w0 hn hm).mono fun e w' ⟨h1, n, h2⟩ => ⟨⟨_, h1⟩, by rw [h2]; exact Fr.drewN _ _⟩
set_option maxHeartbeats 1000000 in
theorem lines_op (s_ : ByteArray) (w0 : World) (hg : GW w0) (hn : s_.size ≤ 65536) :
    Calls Tryd.prog 13 #[.string s_] w0 (LinesR w0 (linesS (s_.size + 1) s_ [] 1)) := by
  have hF := Fr.refl [] w0
  refine calls_of_D (n := 43) (rs := [.tmp 2, .tmp 3, .tmp 4]) Tryd.func13 rfl rfl rfl rfl ?_
  refine D_seq ?_
  refine D_region ?_
  refine s_assign (v := (.slice none 0 0)) rfl ?_
  refine s_assign (v := (.int .i64 _)) rfl ?_
  refine s_assign (v := (.int .i64 _)) rfl ?_
  refine O_nil ?_
  refine D_seq ?_
  refine D_seq ?_
  refine D_region ?_
  refine s_move (v := (.string _)) rfl ?_
  refine s_lenS rfl und9 ?_
  refine s_cmpF rfl rfl rfl (by simp only [asks]; omega) ?_
  refine O_nil ?_
  refine D_condF rfl ?_
  refine D_skip ?_
  refine D_seq ?_
  refine D_region ?_
  refine s_assign (v := (.slice none 0 0)) rfl ?_
  refine O_nil ?_
  refine D_seq ?_
  refine D_seq ?_
  refine D_region ?_
  refine s_assign (v := (.int .i64 _)) rfl ?_
  refine O_nil ?_
  refine D_block ?_
  refine D_loop (S := ByteArray × List TOp × Value × Nat) [0, 2, 3, 4, 5, 6, 7, 8, 9, 10, 11, 15, 16, 17, 18, 19, 20, 21, 22, 23, 24, 25, 26, 27, 28, 29, 30, 31, 32, 33, 34, 35, 36, 37, 38, 39, 40, 41] (fun s => [(0, .string s.1), (5, s.2.2.1), (6, .int .i64 s.2.2.2)]) (fun s w => s.1.size + s.2.2.2 ≤ 65537 ∧ s.2.1.length < s.2.2.2 ∧ Ow w w0.heap.size 27 4 s.2.2.1 (s.2.1.map TOp.cells) ∧ Fr [] w0 w ∧ (∃ f, s.1.size < f ∧ linesS (s_.size + 1) s_ [] 1 = linesS f s.1 s.2.1 s.2.2.2)) (fun s => s.1.size) (s_, [], .slice none 0 0, 1) ?_ ?_ ?_
  · exact ⟨rfl, rfl, rfl, trivial⟩
  · exact ⟨by simp; omega, by simp, Ow.nil _ _ _ _, hF, s_.size + 1, by simp, rfl⟩
  clear hF
  rintro ⟨x, out, v5, m⟩ u1 w1 ⟨hxs, hom, ho5, hF, hex⟩
  (try dsimp only at hxs); (try dsimp only at hom); (try dsimp only at ho5); (try dsimp only at hF); (try dsimp only at hex)
  show D _ _ _ _ (upds _ [(0, .string x), (5, v5), (6, .int .i64 m)]) _
  obtain ⟨f, hf, hex⟩ := hex
  have Hex := Lib.hid hex; clear hex
  refine D_seq ?_
  refine D_seq ?_
  refine D_region ?_
  refine s_move (v := (.string _)) rfl ?_
  refine s_sne2 rfl rfl (fun h1 => ?_) (fun h1 => ?_)
  · skip
    have hrs := cutR_size h1
    have hls := cutL_size x
    obtain ⟨g, rfl⟩ : ∃ g, f = g + 1 := ⟨f - 1, by omega⟩
    have Hst : Hid (linesS (g + 1) x out m = match parseS (cutL x) with | .ok o => linesS g (cutR x) (out ++ [o]) (m + 1) | .error k => if k = 11 then linesS g (cutR x) out (m + 1) else .error (m, k)) := by
      show linesS (g + 1) x out m = _
      simp only [linesS]; rw [if_neg h1]
    refine O_nil ?_
    refine D_condT rfl ?_
    refine D_skip ?_
    refine D_seq ?_
    refine D_block ?_
    refine D_seq ?_
    refine D_region ?_
    refine s_move (v := (.string _)) rfl ?_
    refine s_call (av := [(.string _), (.string _)]) rfl ca25 (Calls.mono (cut_op x _ (hg.fr0 hF) (by omega)) ?_)
    rintro _ w2 ⟨⟨bc, rfl⟩, fw⟩
    refine ⟨_, rfl, ?_⟩
    replace ho5 := ho5.fr0 fw
    replace hF := hF.step0 fw; clear fw
    refine s_move (v := (.tuple _)) rfl ?_
    refine s_extract rfl .z ?_
    refine s_extract rfl (.s .z) ?_
    refine s_extract rfl (.s (.s .z)) ?_
    refine s_assign (v := (.string _)) rfl ?_
    refine s_assign (v := (.string _)) rfl ?_
    refine s_assign (v := (.bool _)) rfl ?_
    refine O_nil ?_
    refine D_seq ?_
    refine D_region ?_
    refine s_move (v := (.string _)) rfl ?_
    refine s_call (av := [(.string _)]) rfl ca9 (Calls.mono (parse_op (cutL x) _ (hg.fr0 hF) (by omega)) ?_)
    rintro _ w3 ⟨hp, fw⟩ 
    replace ho5 := ho5.fr0 fw
    replace hF := hF.step0 fw; clear fw
    obtain ⟨r, hr⟩ : ∃ r, r = parseS (cutL x) := ⟨_, rfl⟩
    rw [← hr] at hp
    have Hr := Lib.hid hr; clear hr
    unfold ParseR at hp
    subst hp
    refine ⟨_, rfl, ?_⟩
    refine s_move (v := (.tuple _)) rfl ?_
    refine s_extract rfl .z ?_
    refine s_extract rfl (.s .z) ?_
    refine s_alloc ti27 (fun b10 w4 nb10 hb10 fw => ?_)
    have apb10_ho5 := ho5.apart nb10
    replace ho5 := ho5.fr0 fw
    have lb10 := hb10.lt; replace nb10 := Nat.le_trans hF.size nb10; replace hF := hF.step0 fw; clear fw
    refine s_store (vs := [_, _, _, _]) (rs := [_, _, _, _]) rfl rfl rfl (by simp [One, Value.oneCell']) ti27 rfl hb10 (by simp) rfl (fun w5 hb10n fw => ?_)
    replace ho5 := ho5.frBox fw apb10_ho5
    replace hF := hF.step fw (by intro i hi; simp at hi; subst hi; first | (right; omega) | (left; simp; done))
    clear hb10; have hb10 := hb10n; clear hb10n; clear fw
    refine s_assign (v := (.int .i64 _)) rfl ?_
    refine O_nil ?_
    refine D_seq ?_
    refine D_seq ?_
    refine D_region ?_
    refine s_move (v := (.int .i64 _)) rfl ?_
    refine O_nil ?_
    refine D_block ?_
    refine D_seq ?_
    refine D_region ?_
    rcases r with k | o
    · have hk0 := parseS_err Hr.out.symm
      refine s_cmpF rfl rfl rfl (show ¬ (errOf (.error k) = 0) from hk0) ?_
      refine s_assign (v := (.bool false)) rfl ?_
      refine O_nil ?_
      refine D_condF rfl ?_
      refine D_seq ?_
      refine D_region ?_
      refine s_cmp2 rfl rfl rfl (fun h2 => ?_) (fun h2 => ?_)
      · simp only [asks] at h2
        have h2' : k = 11 := h2
        refine s_assign (v := (.bool true)) rfl ?_
        refine O_nil ?_
        refine D_condT rfl ?_
        refine D_skip ?_
        refine D_region ?_
        refine s_move (v := (.string _)) rfl ?_
        refine s_assign (v := (.string _)) rfl ?_
        refine O_nil ?_
        refine D_region ?_
        refine s_move (v := (.int .i64 _)) rfl ?_
        refine s_addi rfl rfl (by omega) ?_
        refine s_assign (v := (.int .i64 _)) rfl ?_
        refine O_nil ?_
        refine ⟨⟨(cutR x, out, v5, m + 1), ⟨rfl, rfl, rfl, trivial⟩, by repeat' (first | exact agree_over | exact agree_refl | refine agree_upd rfl ?_), ?_, ?_⟩⟩
        · refine ⟨by simp; omega, by simp; omega, ho5, hF, g, by simp; omega, ?_⟩
          rw [Hex.out, Hst.out, ← Hr.out]; simp only []; rw [if_pos h2']
        · simp; omega
      · simp only [asks] at h2
        have h2' : ¬ k = 11 := h2
        refine s_assign (v := (.bool false)) rfl ?_
        refine O_nil ?_
        refine D_condF rfl ?_
        refine D_seq ?_
        refine D_region ?_
        refine s_move (v := (.int .i64 _)) rfl ?_
        refine s_move (v := (.int .i64 _)) rfl ?_
        refine s_assign (v := (.slice none 0 0)) rfl ?_
        refine s_assign (v := (.int .i64 _)) rfl ?_
        refine s_assign (v := (.int .i64 _)) rfl ?_
        refine O_nil ?_
        refine D_ret ?_
        refine ret3 (v := (.slice none 0 0)) (x := (.int .i64 _)) (y := (.int .i64 _)) rfl rfl rfl ?_
        exact linesR_err (by rw [Hex.out, Hst.out, ← Hr.out]; simp only []; rw [if_neg h2']; rfl) hF
    · skip
      refine s_cmpT rfl rfl rfl (show errOf (.ok o) = 0 from rfl) ?_
      refine s_assign (v := (.bool true)) rfl ?_
      refine O_nil ?_
      refine D_condT rfl ?_
      refine D_region ?_
      refine s_move (v := (v5)) rfl ?_
      refine s_loadA (vs := [_, _, _, _]) rfl ag27 ti27 rfl (hb10.row.sub 0 4 rfl rfl) ?_
      refine s_buildSl (l := [(0, [_, _, _, _])]) (rs := [_, _, _, _]) und38 ti27 (by decide) rfl ⟨rfl, rfl, by simp, trivial⟩ rfl (fun b37 w6 nb37 hb37 fw => ?_)
      have apb37_ho5 := ho5.apart nb37
      replace ho5 := ho5.fr0 fw
      have neb10_b37 : b10 ≠ b37 := by have := hb10.lt; omega
      replace hb10 := hb10.fr0 fw
      have lb37 := hb37.lt; replace nb37 := Nat.le_trans hF.size nb37; replace hF := hF.step0 fw; clear fw
      have hz6 := hF.size
      refine s_append (v := (v5)) (u := (.slice (some ⟨b37, 0, none⟩) 1 1)) (N := 65537) (base := w0.heap.size) rfl rfl und38 ti27 rfl (by decide) ho5 (hb37.sl1 rfl) (by simp [One, Value.oneCell']) (by simp; omega) (by decide) (by decide) hF.size (fun v38 w7 hv38n fw hat => ?_)
      have apb10_hv38 := apart_append hat apb10_ho5 hb10.lt; replace hb10 := hb10.frOw fw apb10_ho5
      have apb37_hv38 := apart_append hat apb37_ho5 hb37.lt; replace hb37 := hb37.frOw fw apb37_ho5
      replace hF := hF.stepOw fw (fun k hk => .inl (ho5.lt k hk).1)
      have hv38 := hv38n; clear hv38n; have hatv38 := hat; clear hat; have fwv38 := fw; clear fw
      refine s_assign (v := (v38)) rfl ?_
      refine O_nil ?_
      refine D_region ?_
      refine s_move (v := (.string _)) rfl ?_
      refine s_assign (v := (.string _)) rfl ?_
      refine O_nil ?_
      refine D_region ?_
      refine s_move (v := (.int .i64 _)) rfl ?_
      refine s_addi rfl rfl (by omega) ?_
      refine s_assign (v := (.int .i64 _)) rfl ?_
      refine O_nil ?_
      refine ⟨⟨(cutR x, out ++ [o], v38, m + 1), ⟨rfl, rfl, rfl, trivial⟩, by repeat' (first | exact agree_over | exact agree_refl | refine agree_upd rfl ?_), ?_, ?_⟩⟩
      · refine ⟨by simp; omega, by simp; omega, by simpa [opOf, TOp.cells] using hv38, hF, g, by simp; omega, ?_⟩
        rw [Hex.out, Hst.out, ← Hr.out]
      · simp; omega
  · skip
    refine O_nil ?_
    refine D_condF rfl ?_
    refine D_exit ?_
    refine D_seq ?_
    refine D_region ?_
    refine s_move (v := (v5)) rfl ?_
    refine s_assign (v := (v5)) rfl ?_
    refine s_assign (v := (.int .i64 _)) rfl ?_
    refine s_assign (v := (.int .i64 _)) rfl ?_
    refine O_nil ?_
    refine D_ret ?_
    refine ret3 (v := (v5)) (x := (.int .i64 _)) (y := (.int .i64 _)) rfl rfl rfl ?_
    refine linesR_ok ?_ ho5 hF
    rw [Hex.out]
    cases f with
    | zero => rfl
    | succ f => simp only [linesS]; rw [if_pos h1]

/-- The law's op as the program's. -/
theorem op_op (o : TOp) (w0 : World) : Calls Tryd.prog 5 #[.agg o.cells.toArray] w0 fun e w' => e = .returned (.agg o.cells.toArray) ∧ Fr [] w0 w' := by
  have hF := Fr.refl [] w0
  refine calls_of_D (n := 10) (rs := [.cell 2 27]) Tryd.func5 rfl rfl rfl rfl ?_
  refine D_seq ?_
  refine D_region ?_
  refine s_box (cs := [_, _, _, _]) rfl rfl (fun b1 w1 nb1 hb1 fw => ?_)
  have lb1 := hb1.lt; replace nb1 := Nat.le_trans hF.size nb1; replace hF := hF.step0 fw; clear fw
  refine s_alloc ti27 (fun b2 w2 nb2 hb2 fw => ?_)
  have neb1_b2 : b1 ≠ b2 := by have := hb1.lt; omega
  replace hb1 := hb1.fr0 fw
  have lb2 := hb2.lt; replace nb2 := Nat.le_trans hF.size nb2; replace hF := hF.step0 fw; clear fw
  refine O_nil ?_
  refine D_seq ?_
  refine D_region ?_
  refine s_fieldAddr (off := 0) (r := 0) rfl fo24_0 rfl ?_
  refine s_load1 (v := (.int .i64 _)) rfl ag3 (hb1.at .z) ?_
  refine s_fieldAddr (off := 1) (r := 1) rfl fo24_1 rfl ?_
  refine s_loadA (vs := [_, _]) rfl ag22 ti22 rfl (hb1.row.sub 1 2 rfl rfl) ?_
  refine s_fieldAddr (off := 3) (r := 3) rfl fo24_2 rfl ?_
  refine s_load1 (v := (.string _)) rfl ag9 (hb1.at (.s (.s (.s .z)))) ?_
  refine s_build (l := [(0, [(.int .i64 _)]), (1, [_, _]), (3, [(.string _)])]) (rs := [_, _, _, _]) ti27 pl27 ⟨rfl, rfl, by simp, rfl, rfl, by simp, rfl, rfl, by simp, trivial⟩ rfl ?_
  refine s_store (vs := [_, _, _, _]) (rs := [_, _, _, _]) rfl rfl rfl (by simp [One, Value.oneCell']) ti27 rfl hb2 (by simp) rfl (fun w3 hb2n fw => ?_)
  replace hb1 := hb1.fr1 fw (by omega)
  replace hF := hF.step fw (by intro i hi; simp at hi; subst hi; first | (right; omega) | (left; simp; done))
  clear hb2; have hb2 := hb2n; clear hb2n; clear fw
  refine O_nil ?_
  refine D_ret ?_
  refine retC1 (vs := [_, _, _, _]) rfl ag27 ti27 rfl (hb2.row.sub 0 4 rfl rfl) ?_
  exact ⟨rfl, hF⟩
theorem behind_op (k : Nat) (hk : k < 20) (w0 : World) : Calls Tryd.prog 14 #[.int .i64 k] w0 fun e w' => e = .returned (.tuple #[.int .i64 (shNum k), .bool (shText k)]) ∧ Fr [] w0 w' := by
  have hF := Fr.refl [] w0
  have key : ∀ k : Fin 20, shNum k.val = (if k.val = 0 ∨ k.val = 12 ∨ k.val = 19 ∨ k.val = 14 then 2 else if k.val = 18 ∨ k.val = 1 ∨ k.val = 4 ∨ k.val = 5 ∨ k.val = 6 ∨ k.val = 13 ∨ k.val = 17 then 0 else 1) ∧ shText k.val = decide (k.val = 2 ∨ k.val = 14 ∨ k.val = 18) := by decide
  obtain ⟨k1, k2⟩ := key ⟨k, hk⟩
  simp only at k1 k2
  rw [k1, k2]
  clear k1 k2 key
  refine calls_of_D (n := 22) (rs := [.tmp 2, .tmp 3]) Tryd.func14 rfl rfl rfl rfl ?_
  refine D_seq ?_
  refine D_region ?_
  refine s_assign (v := (.int .i64 _)) rfl ?_
  refine s_assign (v := (.bool false)) rfl ?_
  refine O_nil ?_
  refine D_seq ?_
  refine D_seq ?_
  refine D_region ?_
  refine s_move (v := (.int .i64 _)) rfl ?_
  refine O_nil ?_
  refine D_block ?_
  refine D_seq ?_
  refine D_seq ?_
  refine D_region ?_
  refine s_cmp2 rfl rfl rfl (fun q1 => ?_) (fun q1 => ?_)
  · simp only [asks] at q1
    refine s_assign (v := (.bool true)) rfl ?_
    refine O_nil ?_
    refine D_condT rfl ?_
    refine D_skip ?_
    refine D_condT rfl ?_
    refine D_seq ?_
    refine D_region ?_
    refine s_assign (v := (.int .i64 _)) rfl ?_
    refine s_assign (v := (.bool false)) rfl ?_
    refine O_nil ?_
    refine D_ret ?_
    refine ret2 (v := (.int .i64 _)) (x := (.bool false)) rfl rfl ?_
    refine ⟨?_, hF⟩
    congr 2
    simp (disch := omega) only [if_pos, if_neg]
    first | rfl | (congr 3; simp; omega)
  · simp only [asks] at q1
    refine s_assign (v := (.bool false)) rfl ?_
    refine O_nil ?_
    refine D_condF rfl ?_
    refine D_seq ?_
    refine D_region ?_
    refine s_cmp2 rfl rfl rfl (fun q2 => ?_) (fun q2 => ?_)
    · simp only [asks] at q2
      refine s_assign (v := (.bool true)) rfl ?_
      refine O_nil ?_
      refine D_condT rfl ?_
      refine D_skip ?_
      refine D_condT rfl ?_
      refine D_seq ?_
      refine D_region ?_
      refine s_assign (v := (.int .i64 _)) rfl ?_
      refine s_assign (v := (.bool false)) rfl ?_
      refine O_nil ?_
      refine D_ret ?_
      refine ret2 (v := (.int .i64 _)) (x := (.bool false)) rfl rfl ?_
      refine ⟨?_, hF⟩
      congr 2
      simp (disch := omega) only [if_pos, if_neg]
      first | rfl | (congr 3; simp; omega)
    · simp only [asks] at q2
      refine s_assign (v := (.bool false)) rfl ?_
      refine O_nil ?_
      refine D_condF rfl ?_
      refine D_region ?_
      refine s_cmp2 rfl rfl rfl (fun q3 => ?_) (fun q3 => ?_)
      · simp only [asks] at q3
        refine s_assign (v := (.bool true)) rfl ?_
        refine O_nil ?_
        refine D_condT rfl ?_
        refine D_seq ?_
        refine D_region ?_
        refine s_assign (v := (.int .i64 _)) rfl ?_
        refine s_assign (v := (.bool false)) rfl ?_
        refine O_nil ?_
        refine D_ret ?_
        refine ret2 (v := (.int .i64 _)) (x := (.bool false)) rfl rfl ?_
        refine ⟨?_, hF⟩
        congr 2
        simp (disch := omega) only [if_pos, if_neg]
        first | rfl | (congr 3; simp; omega)
      · simp only [asks] at q3
        refine s_assign (v := (.bool false)) rfl ?_
        refine O_nil ?_
        refine D_condF rfl ?_
        refine D_seq ?_
        refine D_region ?_
        refine s_cmp2 rfl rfl rfl (fun q4 => ?_) (fun q4 => ?_)
        · simp only [asks] at q4
          refine s_assign (v := (.bool true)) rfl ?_
          refine O_nil ?_
          refine D_condT rfl ?_
          refine D_seq ?_
          refine D_region ?_
          refine s_assign (v := (.int .i64 _)) rfl ?_
          refine s_assign (v := (.bool true)) rfl ?_
          refine O_nil ?_
          refine D_ret ?_
          refine ret2 (v := (.int .i64 _)) (x := (.bool true)) rfl rfl ?_
          refine ⟨?_, hF⟩
          congr 2
          simp (disch := omega) only [if_pos, if_neg]
          first | rfl | (congr 3; simp; omega)
        · simp only [asks] at q4
          refine s_assign (v := (.bool false)) rfl ?_
          refine O_nil ?_
          refine D_condF rfl ?_
          refine D_seq ?_
          refine D_region ?_
          refine s_cmp2 rfl rfl rfl (fun q5 => ?_) (fun q5 => ?_)
          · simp only [asks] at q5
            refine s_assign (v := (.bool true)) rfl ?_
            refine O_nil ?_
            refine D_condT rfl ?_
            refine D_seq ?_
            refine D_region ?_
            refine s_assign (v := (.int .i64 _)) rfl ?_
            refine s_assign (v := (.bool true)) rfl ?_
            refine O_nil ?_
            refine D_ret ?_
            refine ret2 (v := (.int .i64 _)) (x := (.bool true)) rfl rfl ?_
            refine ⟨?_, hF⟩
            congr 2
            simp (disch := omega) only [if_pos, if_neg]
            first | rfl | (congr 3; simp; omega)
          · simp only [asks] at q5
            refine s_assign (v := (.bool false)) rfl ?_
            refine O_nil ?_
            refine D_condF rfl ?_
            refine D_seq ?_
            refine D_region ?_
            refine s_cmp2 rfl rfl rfl (fun q6 => ?_) (fun q6 => ?_)
            · simp only [asks] at q6
              refine s_assign (v := (.bool true)) rfl ?_
              refine O_nil ?_
              refine D_condT rfl ?_
              refine D_seq ?_
              refine D_region ?_
              refine s_assign (v := (.int .i64 _)) rfl ?_
              refine s_assign (v := (.bool true)) rfl ?_
              refine O_nil ?_
              refine D_ret ?_
              refine ret2 (v := (.int .i64 _)) (x := (.bool true)) rfl rfl ?_
              refine ⟨?_, hF⟩
              congr 2
              simp (disch := omega) only [if_pos, if_neg]
              first | rfl | (congr 3; simp; omega)
            · simp only [asks] at q6
              refine s_assign (v := (.bool false)) rfl ?_
              refine O_nil ?_
              refine D_condF rfl ?_
              refine D_seq ?_
              refine D_seq ?_
              refine D_region ?_
              refine s_cmp2 rfl rfl rfl (fun q7 => ?_) (fun q7 => ?_)
              · simp only [asks] at q7
                refine s_assign (v := (.bool true)) rfl ?_
                refine O_nil ?_
                refine D_condT rfl ?_
                refine D_skip ?_
                refine D_condT rfl ?_
                refine D_seq ?_
                refine D_region ?_
                refine s_assign (v := (.int .i64 _)) rfl ?_
                refine s_assign (v := (.bool false)) rfl ?_
                refine O_nil ?_
                refine D_ret ?_
                refine ret2 (v := (.int .i64 _)) (x := (.bool false)) rfl rfl ?_
                refine ⟨?_, hF⟩
                congr 2
                simp (disch := omega) only [if_pos, if_neg]
                first | rfl | (congr 3; simp; omega)
              · simp only [asks] at q7
                refine s_assign (v := (.bool false)) rfl ?_
                refine O_nil ?_
                refine D_condF rfl ?_
                refine D_seq ?_
                refine D_region ?_
                refine s_cmp2 rfl rfl rfl (fun q8 => ?_) (fun q8 => ?_)
                · simp only [asks] at q8
                  refine s_assign (v := (.bool true)) rfl ?_
                  refine O_nil ?_
                  refine D_condT rfl ?_
                  refine D_skip ?_
                  refine D_condT rfl ?_
                  refine D_seq ?_
                  refine D_region ?_
                  refine s_assign (v := (.int .i64 _)) rfl ?_
                  refine s_assign (v := (.bool false)) rfl ?_
                  refine O_nil ?_
                  refine D_ret ?_
                  refine ret2 (v := (.int .i64 _)) (x := (.bool false)) rfl rfl ?_
                  refine ⟨?_, hF⟩
                  congr 2
                  simp (disch := omega) only [if_pos, if_neg]
                  first | rfl | (congr 3; simp; omega)
                · simp only [asks] at q8
                  refine s_assign (v := (.bool false)) rfl ?_
                  refine O_nil ?_
                  refine D_condF rfl ?_
                  refine D_seq ?_
                  refine D_region ?_
                  refine s_cmp2 rfl rfl rfl (fun q9 => ?_) (fun q9 => ?_)
                  · simp only [asks] at q9
                    refine s_assign (v := (.bool true)) rfl ?_
                    refine O_nil ?_
                    refine D_condT rfl ?_
                    refine D_skip ?_
                    refine D_condT rfl ?_
                    refine D_seq ?_
                    refine D_region ?_
                    refine s_assign (v := (.int .i64 _)) rfl ?_
                    refine s_assign (v := (.bool false)) rfl ?_
                    refine O_nil ?_
                    refine D_ret ?_
                    refine ret2 (v := (.int .i64 _)) (x := (.bool false)) rfl rfl ?_
                    refine ⟨?_, hF⟩
                    congr 2
                    simp (disch := omega) only [if_pos, if_neg]
                    first | rfl | (congr 3; simp; omega)
                  · simp only [asks] at q9
                    refine s_assign (v := (.bool false)) rfl ?_
                    refine O_nil ?_
                    refine D_condF rfl ?_
                    refine D_seq ?_
                    refine D_region ?_
                    refine s_cmp2 rfl rfl rfl (fun q10 => ?_) (fun q10 => ?_)
                    · simp only [asks] at q10
                      refine s_assign (v := (.bool true)) rfl ?_
                      refine O_nil ?_
                      refine D_condT rfl ?_
                      refine D_skip ?_
                      refine D_condT rfl ?_
                      refine D_seq ?_
                      refine D_region ?_
                      refine s_assign (v := (.int .i64 _)) rfl ?_
                      refine s_assign (v := (.bool false)) rfl ?_
                      refine O_nil ?_
                      refine D_ret ?_
                      refine ret2 (v := (.int .i64 _)) (x := (.bool false)) rfl rfl ?_
                      refine ⟨?_, hF⟩
                      congr 2
                      simp (disch := omega) only [if_pos, if_neg]
                      first | rfl | (congr 3; simp; omega)
                    · simp only [asks] at q10
                      refine s_assign (v := (.bool false)) rfl ?_
                      refine O_nil ?_
                      refine D_condF rfl ?_
                      refine D_seq ?_
                      refine D_region ?_
                      refine s_cmp2 rfl rfl rfl (fun q11 => ?_) (fun q11 => ?_)
                      · simp only [asks] at q11
                        refine s_assign (v := (.bool true)) rfl ?_
                        refine O_nil ?_
                        refine D_condT rfl ?_
                        refine D_skip ?_
                        refine D_condT rfl ?_
                        refine D_seq ?_
                        refine D_region ?_
                        refine s_assign (v := (.int .i64 _)) rfl ?_
                        refine s_assign (v := (.bool false)) rfl ?_
                        refine O_nil ?_
                        refine D_ret ?_
                        refine ret2 (v := (.int .i64 _)) (x := (.bool false)) rfl rfl ?_
                        refine ⟨?_, hF⟩
                        congr 2
                        simp (disch := omega) only [if_pos, if_neg]
                        first | rfl | (congr 3; simp; omega)
                      · simp only [asks] at q11
                        refine s_assign (v := (.bool false)) rfl ?_
                        refine O_nil ?_
                        refine D_condF rfl ?_
                        refine D_region ?_
                        refine s_cmp2 rfl rfl rfl (fun q12 => ?_) (fun q12 => ?_)
                        · simp only [asks] at q12
                          refine s_assign (v := (.bool true)) rfl ?_
                          refine O_nil ?_
                          refine D_condT rfl ?_
                          refine D_seq ?_
                          refine D_region ?_
                          refine s_assign (v := (.int .i64 _)) rfl ?_
                          refine s_assign (v := (.bool false)) rfl ?_
                          refine O_nil ?_
                          refine D_ret ?_
                          refine ret2 (v := (.int .i64 _)) (x := (.bool false)) rfl rfl ?_
                          refine ⟨?_, hF⟩
                          congr 2
                          simp (disch := omega) only [if_pos, if_neg]
                          first | rfl | (congr 3; simp; omega)
                        · simp only [asks] at q12
                          refine s_assign (v := (.bool false)) rfl ?_
                          refine O_nil ?_
                          refine D_condF rfl ?_
                          refine D_skip ?_
                          refine D_seq ?_
                          refine D_region ?_
                          refine s_assign (v := (.int .i64 _)) rfl ?_
                          refine s_assign (v := (.bool false)) rfl ?_
                          refine O_nil ?_
                          refine D_ret ?_
                          refine ret2 (v := (.int .i64 _)) (x := (.bool false)) rfl rfl ?_
                          refine ⟨?_, hF⟩
                          congr 2
                          simp (disch := omega) only [if_pos, if_neg]
                          first | rfl | (congr 3; simp; omega)
end Go.Proofs.YtelnfdpbcbohdaaDoor

