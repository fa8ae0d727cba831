/-
  The signs of life of the laws of scripts: a line, a script, an expansion that are known. Own work.
-/
import Derived.Test.YtelnfdpbcbohdaaDoorL1
namespace Go.Proofs.YtelnfdpbcbohdaaDoor
open Go Go.RowKit
set_option linter.unusedVariables false
set_option linter.unusedSimpArgs false
set_option maxRecDepth 100000
theorem beqB (a b : ByteArray) : (a == b) = true ↔ a = b := by
  constructor
  · intro h
    cases a with | mk a => cases b with | mk b =>
    have h' : (a == b) = true := h
    rw [eq_of_beq h']
  · rintro rfl
    cases a with | mk a =>
    show (a == a) = true
    simp
/-- == of two ops. -/
theorem eqT (o p : TOp) : ∃ b, EqAs Tryd.prog 10000 27 (.agg o.cells.toArray) (.agg p.cells.toArray) b ∧ (b = true ↔ o = p) := by
  obtain ⟨a0, a1, a2, a3⟩ := o
  obtain ⟨b0, b1, b2, b3⟩ := p
  refine ⟨(a0 == b0) && (((a1 == b1) && ((a2 == b2) && true)) && ((a3 == b3) && true)), ?_, by simp [and_assoc, beqB]⟩
  refine eqAs_struct (d := 9999) undS27 (by kernel_rfl) flds27 ?_
  refine ⟨by decide, _, _, _, _, run_part1 ag25 .z, run_part1 ag25 .z, eqAs_int (d := 9998) (k := .i64) und25, ?_, rfl⟩
  refine ⟨by decide, _, _, _, _, run_partA (vs := [.int .i64 a1, .int .i64 a2]) ag22 ti22 rfl, run_partA (vs := [.int .i64 b1, .int .i64 b2]) ag22 ti22 rfl, eqAs_array (d := 9998) und22 ti3 ?_, ?_, rfl⟩
  · refine ⟨_, _, _, _, run_part1 ag3 .z, run_part1 ag3 .z, eqAs_int (d := 9997) (k := .i64) und3, ?_, rfl⟩
    exact ⟨_, _, _, _, run_part1 ag3 (.s .z), run_part1 ag3 (.s .z), eqAs_int (d := 9997) (k := .i64) und3, rfl, rfl⟩
  · exact ⟨by decide, _, _, _, _, run_part1 ag9 (.s (.s (.s .z))), run_part1 ag9 (.s (.s (.s .z))), eqAs_str (d := 9998) und9, rfl, rfl⟩
theorem eqT_same (o : TOp) : EqAs Tryd.prog 10000 27 (.agg o.cells.toArray) (.agg o.cells.toArray) true := by
  obtain ⟨b, h, hb⟩ := eqT o o
  rw [hb.2 rfl] at h; exact h
theorem guardT : Tryd.prog.eqGuardType Tryd.prog.depth 27 = false := by kernel_rfl

/-! ### What is known -/
def wkLine : ByteArray := ⟨#[119, 114, 105, 116, 101, 32, 51, 32, 32, 97, 98, 99]⟩
def wkScript : ByteArray := ⟨#[114, 101, 97, 100, 32, 48, 10, 114, 101, 112, 101, 97, 116, 32, 50, 32, 49]⟩
def wkOp : TOp := ⟨2, 3, 0, ⟨#[97, 98, 99]⟩⟩
def wkRead : TOp := ⟨3, 0, 0, noS⟩
def wkRepeat : TOp := ⟨19, 2, 1, noS⟩
theorem itoa_digit {u : Nat} (h : u < 10) : Lib.itoa (u : Int) = [UInt8.ofNat (48 + u)] := by rw [Lib.itoa_nonneg, Lib.decDigits_one h]
instance (n : Int) : Decidable (InN n) := by unfold InN; infer_instance
theorem wkOp_good : GoodP wkOp 2 := ⟨rfl, by omega, by decide, by decide, by decide, by intro _; rfl, by intro h; revert h; decide, fun _ => ⟨by decide, by decide, by decide, by decide⟩⟩
theorem wkRead_good : GoodP wkRead 3 := ⟨rfl, by omega, by decide, by decide, by decide, by intro _; rfl, by intro _; rfl, by intro h; revert h; decide⟩
theorem wkRepeat_good : GoodP wkRepeat 19 := ⟨rfl, by omega, by decide, by decide, by decide, by intro h; revert h; decide, by intro _; rfl, by intro h; revert h; decide⟩
theorem wkLine_parse : parseS wkLine = .ok wkOp := by
  refine parse_words wkOp_good ?_ ?_
  · have h := itoa_digit (u := 3) (by omega)
    simp only [opWords, wkOp]
    rw [show Lib.itoa (3 : Int) = [51] from h]
    decide
  · decide
theorem wkLine_line : lineB wkOp 2 = ⟨#[119, 114, 105, 116, 101, 32, 51, 32, 97, 98, 99]⟩ := by
  have h := lineB_list wkOp 2
  rw [show (wkOp).n0 = (3 : Nat) from rfl, itoa_digit (by omega)] at h
  rw [← mkB (lineB wkOp 2), h]
  rfl
theorem wkScript_lines : linesS (wkScript.size + 1) wkScript [] 1 = .ok [wkRead, wkRepeat] := by
  have h1 : parseS ⟨#[114, 101, 97, 100, 32, 48]⟩ = .ok wkRead := by
    refine parse_words wkRead_good ?_ (by decide)
    simp only [opWords, wkRead]
    rw [show Lib.itoa (0 : Int) = [48] from itoa_digit (u := 0) (by omega)]
    decide
  have h2 : parseS ⟨#[114, 101, 112, 101, 97, 116, 32, 50, 32, 49]⟩ = .ok wkRepeat := by
    refine parse_words wkRepeat_good ?_ (by decide)
    simp only [opWords, wkRepeat]
    rw [show Lib.itoa (2 : Int) = [50] from itoa_digit (u := 2) (by omega), show Lib.itoa (1 : Int) = [49] from itoa_digit (u := 1) (by omega)]
    decide
  have c1 : cutL wkScript = ⟨#[114, 101, 97, 100, 32, 48]⟩ := by decide
  have c2 : cutR wkScript = ⟨#[114, 101, 112, 101, 97, 116, 32, 50, 32, 49]⟩ := by decide
  have c3 : cutL ⟨#[114, 101, 112, 101, 97, 116, 32, 50, 32, 49]⟩ = ⟨#[114, 101, 112, 101, 97, 116, 32, 50, 32, 49]⟩ := by decide
  have c4 : cutR ⟨#[114, 101, 112, 101, 97, 116, 32, 50, 32, 49]⟩ = noS := by decide
  rw [show wkScript.size + 1 = 15 + 1 + 1 + 1 from rfl]
  rw [linesS, if_neg (by decide), c1, h1, c2]
  simp only []
  rw [linesS, if_neg (by decide), c3, h2, c4]
  simp only []
  rw [linesS, if_pos rfl]
  rfl
theorem wk_expand : expandS [] [wkRead, wkRepeat] = .ok [wkRead, wkRead, wkRead] := by rfl
theorem wk_parse (w : World) (hg : GW w) : Calls Tryd.prog 9 #[.string wkLine] w fun e w' => e = .returned (.tuple #[.agg wkOp.cells.toArray, .int .i64 0]) ∧ Fr [] w w' :=
  (parse_op wkLine w hg (by decide)).mono fun e w' ⟨h1, h2⟩ => by
    rw [wkLine_parse] at h1; exact ⟨h1, h2⟩
theorem wk_lines (w : World) (hg : GW w) : Calls Tryd.prog 13 #[.string wkScript] w fun e w' => ∃ v', e = .returned (.tuple #[v', .int .i64 0, .int .i64 0]) ∧ Sl w' v' 4 ([wkRead, wkRepeat].map TOp.cells) ∧ Fr [] w w' :=
  (lines_op wkScript w hg (by decide)).mono fun e w' h => by
    rw [wkScript_lines] at h
    obtain ⟨v', h1, h2, h3⟩ := h
    exact ⟨v', h1, h2.sl, h3⟩
theorem wk_exp (v : Value) (w : World) (hs : Sl w v 4 ([wkRead, wkRepeat].map TOp.cells)) : Calls Tryd.prog 10 #[v] w fun e w' => ∃ v', e = .returned (.tuple #[v', .int .i64 0]) ∧ Sl w' v' 4 ([wkRead, wkRead, wkRead].map TOp.cells) ∧ Fr [] w w' :=
  (expand_op v _ w hs).mono fun e w' h => by
    rw [wk_expand] at h
    obtain ⟨v', h1, h2, h3⟩ := h
    exact ⟨v', h1, h2.sl, h3⟩
set_option maxHeartbeats 1000000 in
theorem wakes_op (w0 : World) (hg : GW w0) : Calls Tryd.prog 7 #[] w0 fun e w' => e = .returned (.bool true) ∧ Fr [] w0 w' := by
  have hF := Fr.refl [] w0
  refine calls_of_D (n := 64) (rs := [.tmp 0]) Tryd.func7 rfl rfl rfl rfl ?_
  refine D_seq ?_
  refine D_region ?_
  refine s_assign (v := (.bool false)) rfl ?_
  refine O_nil ?_
  refine D_seq ?_
  refine D_region ?_
  refine s_call (av := [(.string _)]) rfl ca9 (Calls.mono (wk_parse _ (hg.fr0 hF)) ?_)
  rintro _ w1 ⟨rfl, fw⟩
  refine ⟨_, rfl, ?_⟩
  replace hF := hF.step0 fw; clear fw
  refine s_move (v := (.tuple _)) rfl ?_
  refine s_extract rfl .z ?_
  refine s_extract rfl (.s .z) ?_
  refine s_alloc ti27 (fun b1 w2 nb1 hb1 fw => ?_)
  have lb1 := hb1.lt; replace nb1 := Nat.le_trans hF.size nb1; replace hF := hF.step0 fw; clear fw
  refine s_store (vs := [_, _, _, _]) (rs := [_, _, _, _]) rfl rfl rfl (by simp [One, Value.oneCell']) ti27 rfl hb1 (by simp) rfl (fun w3 hb1n fw => ?_)
  replace hF := hF.step fw (by intro i hi; simp at hi; subst hi; first | (right; omega) | (left; simp; done))
  clear hb1; have hb1 := hb1n; clear hb1n; clear fw
  refine s_assign (v := (.int .i64 _)) rfl ?_
  refine O_nil ?_
  refine D_seq ?_
  refine D_region ?_
  refine s_call (av := [(.string _)]) rfl ca13 (Calls.mono (wk_lines _ (hg.fr0 hF)) ?_)
  rintro _ w4 ⟨v3, rfl, hs3, fw⟩
  refine ⟨_, rfl, ?_⟩
  replace hb1 := hb1.fr0 fw
  replace hF := hF.step0 fw; clear fw
  have g3 := Fr.refl [] w4
  refine s_move (v := (.tuple _)) rfl ?_
  refine s_extract rfl .z ?_
  refine s_extract rfl (.s .z) ?_
  refine s_extract rfl (.s (.s .z)) ?_
  refine s_assign (v := (v3)) rfl ?_
  refine s_assign (v := (.int .i64 _)) rfl ?_
  refine s_assign (v := (.int .i64 _)) rfl ?_
  refine O_nil ?_
  refine D_seq ?_
  refine D_region ?_
  refine s_move (v := (v3)) rfl ?_
  refine s_call (av := [(v3)]) rfl ca10 (Calls.mono (wk_exp v3 _ (hs3.fr0 g3)) ?_)
  rintro _ w5 ⟨v6, rfl, hs6, fw⟩
  refine ⟨_, rfl, ?_⟩
  replace hb1 := hb1.fr0 fw
  replace g3 := g3.step0 fw
  replace hF := hF.step0 fw; clear fw
  have g6 := Fr.refl [] w5
  refine s_move (v := (.tuple _)) rfl ?_
  refine s_extract rfl .z ?_
  refine s_extract rfl (.s .z) ?_
  refine s_assign (v := (v6)) rfl ?_
  refine s_assign (v := (.int .i64 _)) rfl ?_
  refine O_nil ?_
  refine D_seq ?_
  refine D_region ?_
  refine s_move (v := (.int .i64 _)) rfl ?_
  refine s_cmpT rfl rfl rfl rfl ?_
  refine s_move (v := (.bool true)) rfl ?_
  refine O_want rfl ?_
  refine s_move (v := (.int .i64 _)) rfl ?_
  refine O_want rfl ?_
  refine s_cmpT rfl rfl rfl rfl ?_
  refine s_pickT (v := (.bool true)) rfl rfl ?_
  refine s_move (v := (.bool true)) rfl ?_
  refine O_want rfl ?_
  refine s_move (v := (.int .i64 _)) rfl ?_
  refine O_want rfl ?_
  refine s_cmpT rfl rfl rfl rfl ?_
  refine s_pickT (v := (.bool true)) rfl rfl ?_
  refine s_move (v := (.bool true)) rfl ?_
  refine O_want rfl ?_
  refine s_loadA (vs := [_, _, _, _]) rfl ag27 ti27 rfl (hb1.row.sub 0 4 rfl rfl) ?_
  refine O_want rfl ?_
  refine s_buildArr (l := [(0, [(.int .i64 _)]), (1, [(.int .i64 _)])]) (rs := [_, _]) ti22 und22 ti3 ⟨rfl, rfl, by simp, rfl, rfl, by simp, trivial⟩ rfl ?_
  refine O_want rfl ?_
  refine s_build (l := [(0, [(.int .i64 _)]), (1, [_, _]), (3, [(.string _)])]) (rs := [_, _, _, _]) ti27 pl27 ⟨rfl, rfl, by simp, rfl, rfl, by simp, rfl, rfl, by simp, trivial⟩ rfl ?_
  refine O_want rfl ?_
  refine s_eqA (xs := wkOp.cells.toArray) (ys := wkOp.cells.toArray) rfl rfl guardT (eqT_same wkOp) ?_
  refine s_pickT (v := (.bool true)) rfl rfl ?_
  refine s_move (v := (.bool true)) rfl ?_
  refine O_want rfl ?_
  refine s_move (v := (.int .i64 _)) rfl ?_
  refine O_want rfl ?_
  refine s_cmpT rfl rfl rfl rfl ?_
  refine s_pickT (v := (.bool true)) rfl rfl ?_
  refine s_move (v := (.bool true)) rfl ?_
  refine O_want rfl ?_
  refine s_move (v := (v3)) rfl ?_
  refine O_want rfl ?_
  refine s_lenSl (v := v3) (m := 2) rfl (hs3.fr0 g3) (by simp) und38 ?_
  refine O_want rfl ?_
  refine s_cmpT rfl rfl rfl rfl ?_
  refine s_pickT (v := (.bool true)) rfl rfl ?_
  refine s_move (v := (.bool true)) rfl ?_
  refine O_want rfl ?_
  refine s_move (v := (v6)) rfl ?_
  refine O_want rfl ?_
  refine s_lenSl (v := v6) (m := 3) rfl (hs6.fr0 g6) (by simp) und38 ?_
  refine O_want rfl ?_
  refine s_cmpT rfl rfl rfl rfl ?_
  refine s_pickT (v := (.bool true)) rfl rfl ?_
  refine s_move (v := (.bool true)) rfl ?_
  refine O_want rfl ?_
  refine s_move (v := (v6)) rfl ?_
  refine O_want rfl ?_
  refine s_indexSl (v := v6) (els := [wkRead, wkRead, wkRead].map TOp.cells) (i := 2) rfl rfl rfl hs6 und38 ti27 (by decide) (fun b54 o54 hbl hrow => ?_)
  refine O_want rfl ?_
  refine s_fieldAddr (off := 0) (r := o54) rfl fo27_0 (by omega) ?_
  refine O_want rfl ?_
  refine s_load1 (v := (.int .i64 _)) rfl ag25 (Row.at (hrow wkRead.cells rfl) .z (by omega)) ?_
  refine O_want rfl ?_
  refine s_cmpT rfl rfl rfl rfl ?_
  refine s_pickT (v := (.bool true)) rfl rfl ?_
  refine s_move (v := (.bool true)) rfl ?_
  refine O_want rfl ?_
  refine s_loadA (vs := [_, _, _, _]) rfl ag27 ti27 rfl (hb1.row.sub 0 4 rfl rfl) ?_
  refine O_want rfl ?_
  refine s_call (av := [(.agg _)]) rfl ca6 (Calls.mono (line_good wkOp 2 _ (hg.fr0 hF) wkOp_good) ?_)
  rintro _ w6 ⟨rfl, fw⟩
  refine ⟨_, rfl, ?_⟩
  replace hb1 := hb1.fr0 fw
  replace g3 := g3.step0 fw
  replace g6 := g6.step0 fw
  replace hF := hF.step0 fw; clear fw
  refine O_want rfl ?_
  refine s_seqT rfl rfl wkLine_line ?_
  refine s_pickT (v := (.bool true)) rfl rfl ?_
  refine s_assign (v := (.bool true)) rfl ?_
  refine O_nil ?_
  refine D_ret ?_
  refine ret1 (v := (.bool true)) rfl ?_
  exact ⟨rfl, hF⟩
end Go.Proofs.YtelnfdpbcbohdaaDoor

