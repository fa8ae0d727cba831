/-
  Lines of a script: good ops and their lines. Own work.
-/
import Derived.Test.YtelnfdpbcbohdaaDoorT4
import Derived.Lib.ItoaLen
namespace Go.Proofs.YtelnfdpbcbohdaaDoor
open Go Go.RowKit
set_option linter.unusedVariables false
set_option maxRecDepth 100000

def blS (s : ByteArray) : Bool := decide (0 ≤ Lib.indexByte s.data.toList 32)
def InN (n : Int) : Prop := -9007199254740992 ≤ n ∧ n ≤ 9007199254740992
/-- May the op be? -/
structure GoodP (o : TOp) (k : Nat) : Prop where
  kind : o.kind = k
  lt : k < 20
  in0 : InN o.n0
  in1 : InN o.n1
  z0 : shNum k = 0 → o.n0 = 0
  z1 : shNum k ≤ 1 → o.n1 = 0
  notext : shText k = false → o.text = noS
  text : shText k = true → o.text ≠ noS ∧ o.text.size ≤ 64 ∧ blS o.text = false ∧ nlS o.text = false
theorem bl_op (f : ByteArray) (w0 : World) : Calls Tryd.prog 20 #[.string f, .string ⟨#[32]⟩] w0 fun e w' => ∃ b, e = .returned (.bool b) ∧ blS f = b ∧ Fr [] w0 w' :=
  (Tryd.strings_Contains_one f 32 w0).mono fun e w' ⟨h1, h2⟩ => ⟨_, h1, rfl, by rw [h2]; exact Fr.refl _ _⟩

set_option maxHeartbeats 1000000 in
theorem good_op (o : TOp) (w0 : World) (hg : GW w0) :
    Calls Tryd.prog 11 #[.agg o.cells.toArray] w0 fun e w' => ∃ b, e = .returned (.bool b) ∧ (b = true ↔ ∃ k, GoodP o k) ∧ Fr [] w0 w' := by
  have hF := Fr.refl [] w0
  refine calls_of_D (n := 61) (rs := [.tmp 2]) Tryd.func11 rfl rfl rfl rfl ?_
  refine D_seq ?_
  refine D_region ?_
  refine s_box (cs := [_, _, _, _]) rfl rfl (fun b1 w1 nb1 hb1 fw => ?_)
  have lb1 := hb1.lt; replace nb1 := Nat.le_trans hF.size nb1; replace hF := hF.step0 fw; clear fw
  refine s_assign (v := (.bool false)) rfl ?_
  refine O_nil ?_
  refine D_seq ?_
  refine D_seq ?_
  refine D_region ?_
  refine s_fieldAddr (off := 0) (r := 0) rfl fo27_0 rfl ?_
  refine s_load1 (v := (.int .i64 _)) rfl ag25 (hb1.at .z) ?_
  refine s_call (av := [(.int .i64 _)]) rfl ca22 (Calls.mono (kind_is o.kind _) ?_)
  rintro _ w2 ⟨bk, rfl, hbk, fw⟩
  refine ⟨_, rfl, ?_⟩
  replace hb1 := hb1.fr0 fw
  replace hF := hF.step0 fw; clear fw
  cases bk
  · have hk : ¬ (0 ≤ o.kind ∧ o.kind < 20) := by simpa using hbk
    refine s_not (b := false) rfl ?_
    refine O_nil ?_
    refine D_condT rfl ?_
    refine D_seq ?_
    refine D_region ?_
    refine s_assign (v := (.bool false)) rfl ?_
    refine O_nil ?_
    refine D_ret ?_
    refine ret1 (v := (.bool false)) rfl ?_
    refine ⟨false, rfl, ?_, hF⟩
    simp only [Bool.false_eq_true, false_iff]
    rintro ⟨k, h⟩
    exact hk ⟨by rw [h.kind]; omega, by rw [h.kind]; have := h.lt; omega⟩
  · have hk : 0 ≤ o.kind ∧ o.kind < 20 := by simpa using hbk
    obtain ⟨k, hkk⟩ : ∃ k : Nat, o.kind = k := ⟨o.kind.toNat, by omega⟩
    have hlt : k < 20 := by omega
    have h2n := shNum_le k
    have Hkk := Lib.hid hkk
    clear hbk
    refine s_not (b := true) rfl ?_
    refine O_nil ?_
    refine D_condF rfl ?_
    refine D_skip ?_
    refine D_seq ?_
    refine D_region ?_
    refine s_fieldAddr (off := 0) (r := 0) rfl fo27_0 rfl ?_
    refine s_load1 (v := (.int .i64 _)) rfl ag25 (hb1.at .z) ?_
    refine s_indexV (i := k) (r := k * 3) rfl rfl hkk und44 ti43 hlt (by omega) ?_
    refine s_loadA (vs := shCells k) rfl ag43 ti43 rfl ((hg.fr0 hF).shapes k hlt) ?_
    clear hkk hk
    refine s_alloc ti43 (fun b3 w3 nb3 hb3 fw => ?_)
    have neb1_b3 : b1 ≠ b3 := by have := hb1.lt; omega
    replace hb1 := hb1.fr0 fw
    have lb3 := hb3.lt; replace nb3 := Nat.le_trans hF.size nb3; replace hF := hF.step0 fw; clear fw
    refine s_store (vs := [_, _, _]) (rs := [_, _, _]) rfl rfl rfl (by simp [One, Value.oneCell']) ti43 rfl hb3 (by simp) rfl (fun w4 hb3n fw => ?_)
    replace hb1 := hb1.fr1 fw (by omega)
    replace hF := hF.step fw (by intro i hi; simp at hi; subst hi; first | (right; omega) | (left; simp; done))
    clear hb3; have hb3 := hb3n; clear hb3n; clear fw
    refine O_nil ?_
    refine D_seq ?_
    refine D_seq ?_
    refine D_region ?_
    refine s_fieldAddr (off := 1) (r := 1) rfl fo27_1 rfl ?_
    refine s_loadA (vs := [_, _]) rfl ag22 ti22 rfl (hb1.row.sub 1 2 rfl rfl) ?_
    refine s_move (v := (.int .i64 _)) rfl ?_
    refine O_nil ?_
    refine D_block ?_
    refine D_loop (S := Nat) [2, 4, 5, 16, 17, 18, 19, 20, 21, 22, 23, 24, 25, 26, 27, 28, 29, 30, 31, 32, 33] (fun s => [(16, .int .i64 s)]) (fun s w => s ≤ 2 ∧ Blk w b1 [.int .i64 o.kind, .int .i64 o.n0, .int .i64 o.n1, .string o.text] 27 ∧ Blk w b3 [.string ⟨(shName k).toArray⟩, .int .i64 (shNum k), .bool (shText k)] 43 ∧ Fr [] w0 w ∧ (0 < s → InN o.n0 ∧ (shNum k = 0 → o.n0 = 0)) ∧ (1 < s → InN o.n1 ∧ (shNum k ≤ 1 → o.n1 = 0))) (fun s => 2 - s) 0 ?_ ?_ ?_
    · exact ⟨rfl, trivial⟩
    · exact ⟨by omega, hb1, hb3, hF, by simp, by simp⟩
    clear hF
    rintro i u5 w5 ⟨hi, hb1, hb3, hF, ha, hb⟩
    (try dsimp only at hi); (try dsimp only at hb1); (try dsimp only at hb3); (try dsimp only at hF); (try dsimp only at ha); (try dsimp only at hb)
    show D _ _ _ _ (upds _ [(16, .int .i64 i)]) _
    have Ha := Lib.hid ha; have Hb := Lib.hid hb
    clear ha hb
    refine D_seq ?_
    refine D_region ?_
    refine s_cmp2 rfl rfl rfl (fun h1 => ?_) (fun h1 => ?_)
    · simp only [asks] at h1
      have hi2 : i < 2 := by omega
      obtain ⟨nn, hnn⟩ : ∃ nn, nn = (if i = 0 then o.n0 else o.n1) := ⟨_, rfl⟩
      have hget : [Value.int .i64 o.n0, Value.int .i64 o.n1][i]? = some (.int .i64 nn) := by
        rcases (by omega : i = 0 ∨ i = 1) with rfl | rfl <;> simp [hnn]
      have hn0 : i = 0 → nn = o.n0 := fun h => by rw [hnn, if_pos h]
      have hn1 : i = 1 → nn = o.n1 := fun h => by rw [hnn, if_neg (by omega)]
      clear hnn
      refine O_nil ?_
      refine D_seq ?_
      refine D_condT rfl ?_
      refine D_skip ?_
      refine D_seq ?_
      refine D_block ?_
      refine D_seq ?_
      refine D_region ?_
      refine s_move (v := (.int .i64 _)) rfl ?_
      refine s_indexAg (i := i) (cs := [.int .i64 o.n0, .int .i64 o.n1]) (v := .int .i64 nn) rfl rfl rfl und22 ti3 ag3 hi2 hget ?_
      refine s_assign (v := (.int .i64 _)) rfl ?_
      refine s_assign (v := (.int .i64 _)) rfl ?_
      refine O_nil ?_
      refine D_seq ?_
      refine D_region ?_
      refine s_move (v := (.int .i64 _)) rfl ?_
      refine s_call (av := [(.int .i64 _)]) rfl ca23 (Calls.mono (may_op nn _) ?_)
      rintro _ w6 ⟨bm, rfl, hbm, fw⟩
      refine ⟨_, rfl, ?_⟩
      replace hb1 := hb1.fr0 fw
      replace hb3 := hb3.fr0 fw
      replace hF := hF.step0 fw; clear fw
      cases bm
      · have hm : ¬ InN nn := by simpa [InN] using hbm
        refine s_not (b := false) rfl ?_
        refine s_move (v := (.bool true)) rfl ?_
        refine O_pass rfl rfl ?_
        refine O_pass rfl rfl ?_
        refine O_pass rfl rfl ?_
        refine O_pass rfl rfl ?_
        refine O_pass rfl rfl ?_
        refine O_passU rfl ?_
        refine O_passU rfl ?_
        refine O_pass rfl rfl ?_
        refine s_pickT (v := (.bool true)) rfl rfl ?_
        refine O_nil ?_
        refine D_condT rfl ?_
        refine D_seq ?_
        refine D_region ?_
        refine s_assign (v := (.bool false)) rfl ?_
        refine O_nil ?_
        refine D_ret ?_
        refine ret1 (v := (.bool false)) rfl ?_
        refine ⟨false, rfl, ?_, hF⟩
        simp only [Bool.false_eq_true, false_iff]
        rintro ⟨k', h⟩
        have hkk' : k' = k := by have h1 := h.kind; have h2 := Hkk.out; omega
        subst hkk'
        rcases (by omega : i = 0 ∨ i = 1) with h0 | h0; exact hm ((hn0 h0) ▸ h.in0); exact hm ((hn1 h0) ▸ h.in1)
      · have hm : InN nn := by simpa [InN] using hbm
        refine s_not (b := true) rfl ?_
        refine s_move (v := (.bool false)) rfl ?_
        refine O_want rfl ?_
        refine s_move (v := (.int .i64 _)) rfl ?_
        refine O_want rfl ?_
        refine s_fieldAddr (off := 1) (r := 1) rfl fo43_1 rfl ?_
        refine O_want rfl ?_
        refine s_load1 (v := (.int .i64 _)) rfl ag3 (hb3.at (.s .z)) ?_
        refine O_want rfl ?_
        refine s_cmp2 rfl rfl rfl (fun h2 => ?_) (fun h2 => ?_)
        · simp only [asks] at h2
          have h2' : shNum k ≤ i := by omega
          refine O_want rfl ?_
          refine s_move (v := (.bool true)) rfl ?_
          refine O_want rfl ?_
          refine s_move (v := (.int .i64 _)) rfl ?_
          refine O_want rfl ?_
          refine s_cmp2 rfl rfl rfl (fun h3 => ?_) (fun h3 => ?_)
          · simp only [asks] at h3
            refine O_want rfl ?_
            refine s_pickT (v := (.bool true)) rfl rfl ?_
            refine s_pickF (v := (.bool true)) rfl rfl ?_
            refine O_nil ?_
            refine D_condT rfl ?_
            refine D_seq ?_
            refine D_region ?_
            refine s_assign (v := (.bool false)) rfl ?_
            refine O_nil ?_
            refine D_ret ?_
            refine ret1 (v := (.bool false)) rfl ?_
            refine ⟨false, rfl, ?_, hF⟩
            simp only [Bool.false_eq_true, false_iff]
            rintro ⟨k', h⟩
            have hkk' : k' = k := by have h1 := h.kind; have h2 := Hkk.out; omega
            subst hkk'
            rcases (by omega : i = 0 ∨ i = 1) with h0 | h0; exact h3 ((hn0 h0).trans (h.z0 (by omega))); exact h3 ((hn1 h0).trans (h.z1 (by omega)))
          · simp only [asks] at h3
            have h3' : nn = 0 := by omega
            refine O_want rfl ?_
            refine s_pickT (v := (.bool false)) rfl rfl ?_
            refine s_pickF (v := (.bool false)) rfl rfl ?_
            refine O_nil ?_
            refine D_condF rfl ?_
            refine D_skip ?_
            refine D_region ?_
            refine s_addi rfl rfl (by omega) ?_
            refine s_move (v := (.int .i64 _)) rfl ?_
            refine O_nil ?_
            refine ⟨⟨i + 1, ⟨rfl, trivial⟩, by repeat' (first | exact agree_over | exact agree_refl | refine agree_upd rfl ?_), ?_, ?_⟩⟩
            · refine ⟨hi2, hb1, hb3, hF, fun _ => ?_, fun h => ?_⟩
              · by_cases h0 : i = 0
                · rw [← hn0 h0]; exact ⟨hm, fun _ => h3'⟩
                · exact Ha.out (by omega)
              · have hi1 : i = 1 := by omega
                rw [← hn1 hi1]; exact ⟨hm, fun _ => h3'⟩
            · omega
        · simp only [asks] at h2
          refine O_want rfl ?_
          refine s_move (v := (.bool false)) rfl ?_
          refine O_pass rfl rfl ?_
          refine O_pass rfl rfl ?_
          refine O_want rfl ?_
          refine s_pickF (v := (.bool false)) rfl rfl ?_
          refine s_pickF (v := (.bool false)) rfl rfl ?_
          refine O_nil ?_
          refine D_condF rfl ?_
          refine D_skip ?_
          refine D_region ?_
          refine s_addi rfl rfl (by omega) ?_
          refine s_move (v := (.int .i64 _)) rfl ?_
          refine O_nil ?_
          refine ⟨⟨i + 1, ⟨rfl, trivial⟩, by repeat' (first | exact agree_over | exact agree_refl | refine agree_upd rfl ?_), ?_, ?_⟩⟩
          · refine ⟨hi2, hb1, hb3, hF, fun _ => ?_, fun h => ?_⟩
            · by_cases h0 : i = 0
              · rw [← hn0 h0]; exact ⟨hm, fun hz => by omega⟩
              · exact Ha.out (by omega)
            · have hi1 : i = 1 := by omega
              rw [← hn1 hi1]; exact ⟨hm, fun hz => by omega⟩
          · omega
    · simp only [asks] at h1
      have hi2 : i = 2 := by omega
      subst hi2
      obtain ⟨hA, hA0⟩ := Ha.out (by omega)
      obtain ⟨hB, hB0⟩ := Hb.out (by omega)
      clear Ha Hb
      refine O_nil ?_
      refine D_seq ?_
      refine D_condF rfl ?_
      refine D_exit ?_
      refine D_seq ?_
      refine D_seq ?_
      refine D_region ?_
      refine s_fieldAddr (off := 2) (r := 2) rfl fo43_2 rfl ?_
      refine s_load1 (v := (.bool _)) rfl ag4 (hb3.at (.s (.s .z))) ?_
      cases htx : shText k
      · rw [htx] at hb3
        refine s_not (b := false) rfl ?_
        refine O_nil ?_
        refine D_condT rfl ?_
        refine D_seq ?_
        refine D_region ?_
        refine s_fieldAddr (off := 3) (r := 3) rfl fo27_2 rfl ?_
        refine s_load1 (v := (.string _)) rfl ag9 (hb1.at (.s (.s (.s .z)))) ?_
        refine s_seq2 rfl rfl (fun h4 => ?_) (fun h4 => ?_)
        · skip
          refine s_assign (v := (.bool true)) rfl ?_
          refine O_nil ?_
          refine D_ret ?_
          refine ret1 (v := (.bool true)) rfl ?_
          refine ⟨true, rfl, ?_, hF⟩
          simp only [true_iff]
          exact ⟨k, Hkk.out, hlt, hA, hB, hA0, hB0, fun _ => h4, fun h => by rw [htx] at h; cases h⟩
        · skip
          refine s_assign (v := (.bool false)) rfl ?_
          refine O_nil ?_
          refine D_ret ?_
          refine ret1 (v := (.bool false)) rfl ?_
          refine ⟨false, rfl, ?_, hF⟩
          simp only [Bool.false_eq_true, false_iff]
          rintro ⟨k', h⟩
          have hkk' : k' = k := by have h1 := h.kind; have h2 := Hkk.out; omega
          subst hkk'
          exact h4 (h.notext htx)
      · rw [htx] at hb3
        refine s_not (b := true) rfl ?_
        refine O_nil ?_
        refine D_condF rfl ?_
        refine D_skip ?_
        refine D_seq ?_
        refine D_region ?_
        refine s_fieldAddr (off := 3) (r := 3) rfl fo27_2 rfl ?_
        refine s_load1 (v := (.string _)) rfl ag9 (hb1.at (.s (.s (.s .z)))) ?_
        refine s_sne2 rfl rfl (fun h4 => ?_) (fun h4 => ?_)
        · skip
          refine s_move (v := (.bool true)) rfl ?_
          refine O_want rfl ?_
          refine s_fieldAddr (off := 3) (r := 3) rfl fo27_2 rfl ?_
          refine O_want rfl ?_
          refine s_load1 (v := (.string _)) rfl ag9 (hb1.at (.s (.s (.s .z)))) ?_
          refine O_want rfl ?_
          refine s_lenS rfl und9 ?_
          refine O_want rfl ?_
          refine s_cmp2 rfl rfl rfl (fun h5 => ?_) (fun h5 => ?_)
          · simp only [asks] at h5
            refine s_pickT (v := (.bool true)) rfl rfl ?_
            refine s_move (v := (.bool true)) rfl ?_
            refine O_want rfl ?_
            refine s_fieldAddr (off := 3) (r := 3) rfl fo27_2 rfl ?_
            refine O_want rfl ?_
            refine s_load1 (v := (.string _)) rfl ag9 (hb1.at (.s (.s (.s .z)))) ?_
            refine O_want rfl ?_
            refine s_call (av := [(.string _), (.string _)]) rfl ca20 (Calls.mono (bl_op o.text _) ?_)
            rintro _ w6 ⟨b5, rfl, hb5, fw⟩
            refine ⟨_, rfl, ?_⟩
            replace hb1 := hb1.fr0 fw
            replace hb3 := hb3.fr0 fw
            replace hF := hF.step0 fw; clear fw
            cases b5
            · skip
              refine O_want rfl ?_
              refine s_not (b := false) rfl ?_
              refine s_pickT (v := (.bool true)) rfl rfl ?_
              refine s_move (v := (.bool true)) rfl ?_
              refine O_want rfl ?_
              refine s_fieldAddr (off := 3) (r := 3) rfl fo27_2 rfl ?_
              refine O_want rfl ?_
              refine s_load1 (v := (.string _)) rfl ag9 (hb1.at (.s (.s (.s .z)))) ?_
              refine O_want rfl ?_
              refine s_call (av := [(.string _), (.string _)]) rfl ca20 (Calls.mono (nl_op o.text _) ?_)
              rintro _ w7 ⟨b6, rfl, hb6, fw⟩
              refine ⟨_, rfl, ?_⟩
              replace hb1 := hb1.fr0 fw
              replace hb3 := hb3.fr0 fw
              replace hF := hF.step0 fw; clear fw
              cases b6
              · skip
                refine O_want rfl ?_
                refine s_not (b := false) rfl ?_
                refine s_pickT (v := (.bool true)) rfl rfl ?_
                refine s_assign (v := (.bool true)) rfl ?_
                refine O_nil ?_
                refine D_ret ?_
                refine ret1 (v := (.bool true)) rfl ?_
                refine ⟨true, rfl, ?_, hF⟩
                simp only [true_iff]
                exact ⟨k, Hkk.out, hlt, hA, hB, hA0, hB0, (fun h => by rw [htx] at h; cases h), fun _ => ⟨h4, by omega, hb5, hb6⟩⟩
              · skip
                refine O_want rfl ?_
                refine s_not (b := true) rfl ?_
                refine s_pickT (v := (.bool false)) rfl rfl ?_
                refine s_assign (v := (.bool false)) rfl ?_
                refine O_nil ?_
                refine D_ret ?_
                refine ret1 (v := (.bool false)) rfl ?_
                refine ⟨false, rfl, ?_, hF⟩
                simp only [Bool.false_eq_true, false_iff]
                rintro ⟨k', h⟩
                have hkk' : k' = k := by have h1 := h.kind; have h2 := Hkk.out; omega
                subst hkk'
                have := (h.text htx).2.2.2; rw [hb6] at this; cases this
            · skip
              refine O_want rfl ?_
              refine s_not (b := true) rfl ?_
              refine s_pickT (v := (.bool false)) rfl rfl ?_
              refine s_move (v := (.bool false)) rfl ?_
              refine O_pass rfl rfl ?_
              refine O_pass rfl rfl ?_
              refine O_pass rfl rfl ?_
              refine O_pass rfl rfl ?_
              refine s_pickF (v := (.bool false)) rfl rfl ?_
              refine s_assign (v := (.bool false)) rfl ?_
              refine O_nil ?_
              refine D_ret ?_
              refine ret1 (v := (.bool false)) rfl ?_
              refine ⟨false, rfl, ?_, hF⟩
              simp only [Bool.false_eq_true, false_iff]
              rintro ⟨k', h⟩
              have hkk' : k' = k := by have h1 := h.kind; have h2 := Hkk.out; omega
              subst hkk'
              have := (h.text htx).2.2.1; rw [hb5] at this; cases this
          · simp only [asks] at h5
            refine s_pickT (v := (.bool false)) rfl rfl ?_
            refine s_move (v := (.bool false)) rfl ?_
            refine O_pass rfl rfl ?_
            refine O_pass rfl rfl ?_
            refine O_pass rfl rfl ?_
            refine O_pass rfl rfl ?_
            refine s_pickF (v := (.bool false)) rfl rfl ?_
            refine s_move (v := (.bool false)) rfl ?_
            refine O_pass rfl rfl ?_
            refine O_pass rfl rfl ?_
            refine O_pass rfl rfl ?_
            refine O_pass rfl rfl ?_
            refine s_pickF (v := (.bool false)) rfl rfl ?_
            refine s_assign (v := (.bool false)) rfl ?_
            refine O_nil ?_
            refine D_ret ?_
            refine ret1 (v := (.bool false)) rfl ?_
            refine ⟨false, rfl, ?_, hF⟩
            simp only [Bool.false_eq_true, false_iff]
            rintro ⟨k', h⟩
            have hkk' : k' = k := by have h1 := h.kind; have h2 := Hkk.out; omega
            subst hkk'
            have := (h.text htx).2.1; omega
        · skip
          refine s_move (v := (.bool false)) rfl ?_
          refine O_pass rfl rfl ?_
          refine O_pass rfl rfl ?_
          refine O_pass rfl rfl ?_
          refine O_pass rfl rfl ?_
          refine s_pickF (v := (.bool false)) rfl rfl ?_
          refine s_move (v := (.bool false)) rfl ?_
          refine O_pass rfl rfl ?_
          refine O_pass rfl rfl ?_
          refine O_pass rfl rfl ?_
          refine O_pass rfl rfl ?_
          refine s_pickF (v := (.bool false)) rfl rfl ?_
          refine s_move (v := (.bool false)) rfl ?_
          refine O_pass rfl rfl ?_
          refine O_pass rfl rfl ?_
          refine O_pass rfl rfl ?_
          refine O_pass rfl rfl ?_
          refine s_pickF (v := (.bool false)) rfl rfl ?_
          refine s_assign (v := (.bool false)) rfl ?_
          refine O_nil ?_
          refine D_ret ?_
          refine ret1 (v := (.bool false)) rfl ?_
          refine ⟨false, rfl, ?_, hF⟩
          simp only [Bool.false_eq_true, false_iff]
          rintro ⟨k', h⟩
          have hkk' : k' = k := by have h1 := h.kind; have h2 := Hkk.out; omega
          subst hkk'
          exact (h.text htx).1 h4

def numOf (o : TOp) (i : Nat) : Int := if i = 0 then o.n0 else o.n1
def itoaB (n : Int) : ByteArray := ⟨(Lib.itoa n).toArray⟩
def numsB (b : ByteArray) (o : TOp) : Nat → ByteArray
  | 0 => b
  | i + 1 => numsB b o i ++ (⟨#[32]⟩ ++ itoaB (numOf o i))
/-- A good op's line. -/
def lineB (o : TOp) (k : Nat) : ByteArray :=
  let s := numsB ⟨(shName k).toArray⟩ o (shNum k)
  if shText k then s ++ (⟨#[32]⟩ ++ o.text) else s
theorem itoaB_size {n : Int} (h : InN n) : (itoaB n).size ≤ 21 := by
  unfold InN at h
  have := Lib.itoa_length_le n (by omega) (by omega)
  simpa [itoaB, ByteArray.size] using this
theorem numsB_size {o : TOp} {b : ByteArray} (h0 : InN o.n0) (h1 : InN o.n1) : ∀ i, (numsB b o i).size ≤ b.size + 22 * i
  | 0 => by simp [numsB]
  | i + 1 => by
    have ih := numsB_size (b := b) h0 h1 i
    have hi : InN (numOf o i) := by unfold numOf; split <;> assumption
    have := itoaB_size hi
    have e : (⟨#[32]⟩ : ByteArray).size = 1 := rfl
    simp only [numsB, ByteArray.size_append, e]
    omega
set_option maxHeartbeats 1000000 in
theorem line_good (o : TOp) (k : Nat) (w0 : World) (hg : GW w0) (hok : GoodP o k) :
    Calls Tryd.prog 6 #[.agg o.cells.toArray] w0 fun e w' => e = .returned (.string (lineB o k)) ∧ Fr [] w0 w' := by
  have hF := Fr.refl [] w0
  have hlt := hok.lt
  have h2n := shNum_le k
  have hnl := shName_len hlt
  refine calls_of_D (n := 39) (rs := [.tmp 2]) Tryd.func6 rfl rfl rfl rfl ?_
  refine D_seq ?_
  refine D_region ?_
  refine s_box (cs := [_, _, _, _]) rfl rfl (fun b1 w1 nb1 hb1 fw => ?_)
  have lb1 := hb1.lt; replace nb1 := Nat.le_trans hF.size nb1; replace hF := hF.step0 fw; clear fw
  refine s_assign (v := (.string _)) rfl ?_
  refine O_nil ?_
  refine D_seq ?_
  refine D_seq ?_
  refine D_region ?_
  refine s_loadA (vs := [_, _, _, _]) rfl ag27 ti27 rfl (hb1.row.sub 0 4 rfl rfl) ?_
  refine s_call (av := [.agg o.cells.toArray]) rfl ca11 (Calls.mono (good_op o _ (hg.fr0 hF)) ?_)
  rintro _ w2 ⟨bg, rfl, hbg, fw⟩
  have hbt : bg = true := hbg.2 ⟨k, hok⟩
  subst hbt
  refine ⟨_, rfl, ?_⟩
  replace hb1 := hb1.fr0 fw
  replace hF := hF.step0 fw
  clear hbg fw
  refine s_not (b := true) rfl ?_
  refine O_nil ?_
  refine D_condF rfl ?_
  refine D_skip ?_
  refine D_seq ?_
  refine D_region ?_
  refine s_fieldAddr (off := 0) (r := 0) rfl fo27_0 rfl ?_
  refine s_load1 (v := (.int .i64 _)) rfl ag25 (hb1.at .z) ?_
  refine s_indexV (i := k) (r := k * 3) rfl rfl hok.kind und44 ti43 hlt (by omega) ?_
  refine s_loadA (vs := shCells k) rfl ag43 ti43 rfl ((hg.fr0 hF).shapes k hlt) ?_
  refine s_alloc ti43 (fun b3 w3 nb3 hb3 fw => ?_)
  have neb1_b3 : b1 ≠ b3 := by have := hb1.lt; omega
  replace hb1 := hb1.fr0 fw
  have lb3 := hb3.lt; replace nb3 := Nat.le_trans hF.size nb3; replace hF := hF.step0 fw; clear fw
  refine s_store (vs := [_, _, _]) (rs := [_, _, _]) rfl rfl rfl (by simp [One, Value.oneCell']) ti43 rfl hb3 (by simp) rfl (fun w4 hb3n fw => ?_)
  replace hb1 := hb1.fr1 fw (by omega)
  replace hF := hF.step fw (by intro i hi; simp at hi; subst hi; first | (right; omega) | (left; simp; done))
  clear hb3; have hb3 := hb3n; clear hb3n; clear fw
  refine O_nil ?_
  refine D_seq ?_
  refine D_region ?_
  refine s_fieldAddr (off := 0) (r := 0) rfl fo43_0 rfl ?_
  refine s_load1 (v := (.string _)) rfl ag9 (hb3.at .z) ?_
  refine s_assign (v := (.string _)) rfl ?_
  refine O_nil ?_
  refine D_seq ?_
  refine D_seq ?_
  refine D_region ?_
  refine s_fieldAddr (off := 1) (r := 1) rfl fo27_1 rfl ?_
  refine s_fieldAddr (off := 1) (r := 1) rfl fo43_1 rfl ?_
  refine s_load1 (v := (.int .i64 _)) rfl ag3 (hb3.at (.s .z)) ?_
  refine s_sliceArr (h := shNum k) rfl rfl und22 ti3 h2n ?_
  refine s_lenL rfl und45 ?_
  refine s_move (v := (.int .i64 _)) rfl ?_
  refine O_nil ?_
  refine D_block ?_
  refine D_loop (S := Nat) [4, 6, 21, 22, 23, 24, 25, 26, 27, 28, 29, 30] (fun s => [(4, .string (numsB ⟨(shName k).toArray⟩ o s)), (21, .int .i64 s)]) (fun s w => s ≤ shNum k ∧ Blk w b1 [.int .i64 o.kind, .int .i64 o.n0, .int .i64 o.n1, .string o.text] 27 ∧ Blk w b3 [.string ⟨(shName k).toArray⟩, .int .i64 (shNum k), .bool (shText k)] 43 ∧ Fr [] w0 w) (fun s => shNum k - s) 0 ?_ ?_ ?_
  · exact ⟨rfl, rfl, trivial⟩
  · exact ⟨Nat.zero_le _, hb1, hb3, hF⟩
  clear hF
  rintro i u5 w5 ⟨hi, hb1, hb3, hF⟩
  (try dsimp only at hi); (try dsimp only at hb1); (try dsimp only at hb3); (try dsimp only at hF)
  show D _ _ _ _ (upds _ [(4, .string (numsB ⟨(shName k).toArray⟩ o i)), (21, .int .i64 i)]) _
  have hsz := numsB_size (b := ⟨(shName k).toArray⟩) hok.in0 hok.in1 i
  have e0 : (⟨(shName k).toArray⟩ : ByteArray).size = (shName k).length := by simp [ByteArray.size]
  rw [e0] at hsz
  clear e0
  refine D_seq ?_
  refine D_region ?_
  refine s_cmp2 rfl rfl rfl (fun h1 => ?_) (fun h1 => ?_)
  · simp only [asks] at h1
    have hlti : i < shNum k := by omega
    have hin : InN (numOf o i) := by unfold numOf; split; exact hok.in0; exact hok.in1
    have hget : ([.int .i64 o.kind, .int .i64 o.n0, .int .i64 o.n1, .string o.text] : List Value)[1 + i]? = some (.int .i64 (numOf o i)) := by
      rcases (by omega : i = 0 ∨ i = 1) with rfl | rfl <;> rfl
    refine O_nil ?_
    refine D_seq ?_
    refine D_condT rfl ?_
    refine D_skip ?_
    refine D_seq ?_
    refine D_block ?_
    refine D_seq ?_
    refine D_region ?_
    refine s_indexC (i := i) (r := 1 + i) rfl rfl rfl und45 ti3 hlti (by omega) ?_
    refine s_load1 (v := .int .i64 (numOf o i)) rfl ag3 (by rw [hb1.cell]; exact hget) ?_
    refine s_assign (v := (.int .i64 _)) rfl ?_
    refine O_nil ?_
    refine D_region ?_
    refine s_move (v := (.string _)) rfl ?_
    refine s_move (v := (.int .i64 _)) rfl ?_
    refine s_call (av := [(.int .i64 _)]) rfl ca12 (Calls.mono (Tryd.strconv_Itoa (numOf o i) (by unfold InN at hin; omega) (by unfold InN at hin; omega) _ (hg.fr0 hF).pow) ?_)
    rintro _ w6 ⟨rfl, hw⟩
    refine ⟨_, rfl, ?_⟩
    have fw := Fr.itoa hw
    clear hw
    replace hb1 := hb1.fr0 fw
    replace hb3 := hb3.fr0 fw
    replace hF := hF.step0 fw
    have his := itoaB_size hin
    have e1 : (⟨#[32]⟩ : ByteArray).size = 1 := rfl
    have e2 : (⟨(Lib.itoa (numOf o i)).toArray⟩ : ByteArray).size ≤ 21 := his
    refine s_scat rfl rfl (by rw [e1]; omega) ?_
    refine s_scat rfl rfl (by rw [ByteArray.size_append, e1]; omega) ?_
    refine s_assign (v := (.string _)) rfl ?_
    refine O_nil ?_
    refine D_region ?_
    refine s_addi rfl rfl (by omega) ?_
    refine s_move (v := (.int .i64 _)) rfl ?_
    refine O_nil ?_
    refine ⟨⟨i + 1, ⟨rfl, rfl, trivial⟩, by repeat' (first | exact agree_over | exact agree_refl | refine agree_upd rfl ?_), ?_, ?_⟩⟩
    · exact ⟨hlti, hb1, hb3, hF⟩
    · omega
  · simp only [asks] at h1
    have hie : i = shNum k := by omega
    subst hie
    refine O_nil ?_
    refine D_seq ?_
    refine D_condF rfl ?_
    refine D_exit ?_
    refine D_seq ?_
    refine D_seq ?_
    refine D_region ?_
    refine s_fieldAddr (off := 2) (r := 2) rfl fo43_2 rfl ?_
    refine s_load1 (v := (.bool _)) rfl ag4 (hb3.at (.s (.s .z))) ?_
    refine O_nil ?_
    cases htx : shText k
    · skip
      refine D_condF rfl ?_
      refine D_skip ?_
      refine D_seq ?_
      refine D_region ?_
      refine s_move (v := (.string _)) rfl ?_
      refine s_assign (v := (.string _)) rfl ?_
      refine O_nil ?_
      refine D_ret ?_
      refine ret1 (v := (.string _)) rfl ?_
      refine ⟨?_, hF⟩
      unfold lineB; simp only []; rw [htx]; rfl
    · have ht := hok.text htx
      refine D_condT rfl ?_
      refine D_region ?_
      refine s_move (v := (.string _)) rfl ?_
      refine s_fieldAddr (off := 3) (r := 3) rfl fo27_2 rfl ?_
      refine s_load1 (v := (.string _)) rfl ag9 (hb1.at (.s (.s (.s .z)))) ?_
      refine s_scat rfl rfl (by first | omega | (simp only [ByteArray.size_append, size_mk, List.length_cons, List.length_nil]; omega)) ?_
      refine s_scat rfl rfl (by first | omega | (simp only [ByteArray.size_append, size_mk, List.length_cons, List.length_nil]; omega)) ?_
      refine s_assign (v := (.string _)) rfl ?_
      refine O_nil ?_
      refine D_seq ?_
      refine D_region ?_
      refine s_move (v := (.string _)) rfl ?_
      refine s_assign (v := (.string _)) rfl ?_
      refine O_nil ?_
      refine D_ret ?_
      refine ret1 (v := (.string _)) rfl ?_
      refine ⟨?_, hF⟩
      unfold lineB; simp only []; rw [htx]; rfl
theorem line_bad (o : TOp) (w0 : World) (hg : GW w0) (hno : ¬ ∃ k, GoodP o k) :
    Calls Tryd.prog 6 #[.agg o.cells.toArray] w0 fun e w' => e = .returned (.string noS) ∧ Fr [] w0 w' := by
  have hF := Fr.refl [] w0
  refine calls_of_D (n := 39) (rs := [.tmp 2]) Tryd.func6 rfl rfl rfl rfl ?_
  refine D_seq ?_
  refine D_region ?_
  refine s_box (cs := [_, _, _, _]) rfl rfl (fun b1 w1 nb1 hb1 fw => ?_)
  have lb1 := hb1.lt; replace nb1 := Nat.le_trans hF.size nb1; replace hF := hF.step0 fw; clear fw
  refine s_assign (v := (.string _)) rfl ?_
  refine O_nil ?_
  refine D_seq ?_
  refine D_seq ?_
  refine D_region ?_
  refine s_loadA (vs := [_, _, _, _]) rfl ag27 ti27 rfl (hb1.row.sub 0 4 rfl rfl) ?_
  refine s_call (av := [.agg o.cells.toArray]) rfl ca11 (Calls.mono (good_op o _ (hg.fr0 hF)) ?_)
  rintro _ w2 ⟨bg, rfl, hbg, fw⟩
  have hbt : bg = false := by
    cases bg
    · rfl
    · exact absurd (hbg.1 rfl) hno
  subst hbt
  refine ⟨_, rfl, ?_⟩
  replace hb1 := hb1.fr0 fw
  replace hF := hF.step0 fw
  refine s_not (b := false) rfl ?_
  refine O_nil ?_
  refine D_condT rfl ?_
  refine D_seq ?_
  refine D_region ?_
  refine s_assign (v := (.string _)) rfl ?_
  refine O_nil ?_
  refine D_ret ?_
  refine ret1 (v := (.string _)) rfl ?_
  exact ⟨rfl, hF⟩
end Go.Proofs.YtelnfdpbcbohdaaDoor

