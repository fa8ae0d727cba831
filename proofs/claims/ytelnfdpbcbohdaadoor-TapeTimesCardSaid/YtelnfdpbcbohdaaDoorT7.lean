/-
  Lines of a script: the reference's Good. Own work.
-/
import Derived.Test.YtelnfdpbcbohdaaDoorT6
import Derived.Lib.IndexLaws
namespace Go.Proofs.YtelnfdpbcbohdaaDoor
open Go Go.RowKit
set_option linter.unusedVariables false
set_option linter.unusedSimpArgs false
set_option maxRecDepth 100000
theorem idx_iff (l : List UInt8) (c : UInt8) : decide (0 ≤ Lib.indexByte l c) = false ↔ ∀ (k : Nat), l[k]? ≠ some c := by
  constructor
  · intro h
    have h1 := of_decide_eq_false h
    have h2 := Lib.indexByte_ge l c
    exact Lib.indexByte_none (by omega)
  · intro h
    rw [decide_eq_false_iff_not]
    intro h0
    obtain ⟨o, ho⟩ : ∃ o : Nat, Lib.indexByte l c = o := ⟨_, (Int.toNat_of_nonneg h0).symm⟩
    exact h o (Lib.indexByte_some ho).1
theorem get_list (s : ByteArray) (i : Nat) : s[i]? = s.data.toList[i]? := by
  cases s with | mk a =>
  simp [getElem?_def, ByteArray.getElem_eq_getElem_data]
  rfl
theorem two_iff (s : ByteArray) : (blS s = false ∧ nlS s = false) ↔ ∀ (k : Nat) (c : UInt8), s[k]? = some c → c ≠ 32 ∧ c ≠ 10 := by
  unfold blS nlS
  rw [idx_iff, idx_iff]
  constructor
  · rintro ⟨h1, h2⟩ k c hc
    rw [get_list] at hc
    exact ⟨fun e => h1 k (e ▸ hc), fun e => h2 k (e ▸ hc)⟩
  · intro h
    exact ⟨fun k hk => (h k 32 (by rw [get_list]; exact hk)).1 rfl, fun k hk => (h k 10 (by rw [get_list]; exact hk)).2 rfl⟩
set_option maxHeartbeats 2000000 in
theorem refgood_op (o : TOp) (w0 : World) :
    Calls Tryd.prog 8 #[.agg o.cells.toArray] w0 fun e w' => ∃ b, e = .returned (.bool b) ∧ (b = true ↔ ∃ k, GoodP o k) ∧ Fr [] w0 w' := by
  have hF := Fr.refl [] w0
  refine calls_of_D (n := 82) (rs := [.tmp 2]) Tryd.func8 rfl rfl rfl rfl ?_
  refine D_seq ?_
  refine D_region ?_
  refine s_box (cs := [_, _, _, _]) rfl rfl (fun b1 w1 nb1 hb1 fw => ?_)
  have lb1 := hb1.lt; replace nb1 := Nat.le_trans hF.size nb1; replace hF := hF.step0 fw; clear fw
  refine s_assign (v := (.bool false)) rfl ?_
  refine O_nil ?_
  refine D_seq ?_
  refine D_seq ?_
  refine D_region ?_
  refine s_fieldAddr (off := 0) (r := 0) rfl fo32_0 rfl ?_
  refine s_load1 (v := (.int .i64 _)) rfl ag3 (hb1.at .z) ?_
  refine s_cmp2 rfl rfl rfl (fun h1 => ?_) (fun h1 => ?_)
  · simp only [asks] at h1
    refine s_move (v := (.bool true)) rfl ?_
    refine O_pass rfl rfl ?_
    refine O_pass rfl rfl ?_
    refine O_pass rfl rfl ?_
    refine s_pickT (v := (.bool true)) rfl rfl ?_
    refine O_nil ?_
    refine D_condT rfl ?_
    refine D_seq ?_
    refine D_region ?_
    refine s_assign (v := (.bool false)) rfl ?_
    refine O_nil ?_
    refine D_ret ?_
    refine ret1 (v := (.bool false)) rfl ?_
    refine ⟨false, rfl, ?_, hF⟩
    simp only [Bool.false_eq_true, false_iff]
    rintro ⟨k', h⟩
    have hkk := h.kind
    have hkl := h.lt
    omega
  · simp only [asks] at h1
    refine s_move (v := (.bool false)) rfl ?_
    refine O_want rfl ?_
    refine s_fieldAddr (off := 0) (r := 0) rfl fo32_0 rfl ?_
    refine O_want rfl ?_
    refine s_load1 (v := (.int .i64 _)) rfl ag3 (hb1.at .z) ?_
    refine O_want rfl ?_
    refine s_cmp2 rfl rfl rfl (fun h2 => ?_) (fun h2 => ?_)
    · simp only [asks] at h2
      refine s_pickF (v := (.bool true)) rfl rfl ?_
      refine O_nil ?_
      refine D_condT rfl ?_
      refine D_seq ?_
      refine D_region ?_
      refine s_assign (v := (.bool false)) rfl ?_
      refine O_nil ?_
      refine D_ret ?_
      refine ret1 (v := (.bool false)) rfl ?_
      refine ⟨false, rfl, ?_, hF⟩
      simp only [Bool.false_eq_true, false_iff]
      rintro ⟨k', h⟩
      have hkk := h.kind
      have hkl := h.lt
      omega
    · simp only [asks] at h2
      obtain ⟨k, hk⟩ : ∃ k : Nat, o.kind = k := ⟨o.kind.toNat, by omega⟩
      have hlt : k < 20 := by omega
      have h2n := shNum_le k
      have Hk := Lib.hid hk
      refine s_pickF (v := (.bool false)) rfl rfl ?_
      refine O_nil ?_
      refine D_condF rfl ?_
      refine D_skip ?_
      refine D_seq ?_
      refine D_region ?_
      refine s_fieldAddr (off := 0) (r := 0) rfl fo32_0 rfl ?_
      refine s_load1 (v := (.int .i64 _)) rfl ag3 (hb1.at .z) ?_
      refine s_call (av := [.int .i64 k]) (by show [Value.int .i64 o.kind] = _; rw [hk]) ca14 (Calls.mono (behind_op k hlt _) ?_)
      rintro _ w2 ⟨rfl, fw⟩
      refine ⟨_, rfl, ?_⟩
      replace hb1 := hb1.fr0 fw
      replace hF := hF.step0 fw
      clear fw hk
      refine s_move (v := (.tuple _)) rfl ?_
      refine s_extract rfl .z ?_
      refine s_extract rfl (.s .z) ?_
      refine s_assign (v := (.int .i64 _)) rfl ?_
      refine s_assign (v := (.bool _)) rfl ?_
      refine O_nil ?_
      refine D_seq ?_
      refine D_seq ?_
      refine D_region ?_
      refine s_assign (v := (.int .i64 _)) rfl ?_
      refine O_nil ?_
      refine D_block ?_
      refine D_loop (S := Nat) [2, 5, 21, 22, 23, 24, 25, 26, 27, 28, 29, 30, 31, 32, 33, 34, 35, 36, 37, 38, 39, 40, 41, 42, 43, 44, 45, 46, 47, 48] (fun s => [(5, .int .i64 s)]) (fun s w => s ≤ 2 ∧ Blk w b1 [.int .i64 o.kind, .int .i64 o.n0, .int .i64 o.n1, .string o.text] 32 ∧ Fr [] w0 w ∧ (0 < s → InN o.n0 ∧ (shNum k = 0 → o.n0 = 0)) ∧ (1 < s → InN o.n1 ∧ (shNum k ≤ 1 → o.n1 = 0))) (fun s => 2 - s) 0 ?_ ?_ ?_
      · exact ⟨rfl, trivial⟩
      · exact ⟨by omega, hb1, hF, by simp, by simp⟩
      clear hF
      rintro i u3 w3 ⟨hi, hb1, hF, ha, hb⟩
      (try dsimp only at hi); (try dsimp only at hb1); (try dsimp only at hF); (try dsimp only at ha); (try dsimp only at hb)
      show D _ _ _ _ (upds _ [(5, .int .i64 i)]) _
      have Ha := Lib.hid ha; have Hb := Lib.hid hb
      clear ha hb
      refine D_seq ?_
      refine D_seq ?_
      refine D_region ?_
      refine s_move (v := (.int .i64 _)) rfl ?_
      refine s_cmp2 rfl rfl rfl (fun h3 => ?_) (fun h3 => ?_)
      · simp only [asks] at h3
        have hi2 : i < 2 := by omega
        obtain ⟨nn, hnn⟩ : ∃ nn, nn = (if i = 0 then o.n0 else o.n1) := ⟨_, rfl⟩
        have hget : ([.int .i64 o.kind, .int .i64 o.n0, .int .i64 o.n1, .string o.text] : List Value)[1 + i]? = some (.int .i64 nn) := by
          rcases (by omega : i = 0 ∨ i = 1) with rfl | rfl <;> simp [hnn]
        have hn0 : i = 0 → nn = o.n0 := fun h => by rw [hnn, if_pos h]
        have hn1 : i = 1 → nn = o.n1 := fun h => by rw [hnn, if_neg (by omega)]
        clear hnn
        refine O_nil ?_
        refine D_condT rfl ?_
        refine D_skip ?_
        refine D_seq ?_
        refine D_block ?_
        refine D_seq ?_
        refine D_region ?_
        refine s_move (v := (.int .i64 _)) rfl ?_
        refine s_fieldAddr (off := 1) (r := 1) rfl fo32_1 rfl ?_
        refine s_indexV (i := i) (r := 1 + i) rfl rfl rfl und22 ti3 hi2 (by omega) ?_
        refine s_load1 (v := .int .i64 nn) rfl ag3 (by rw [hb1.cell]; exact hget) ?_
        refine s_cmp2 rfl rfl rfl (fun h4 => ?_) (fun h4 => ?_)
        · simp only [asks] at h4
          refine s_move (v := (.bool true)) rfl ?_
          refine O_pass rfl rfl ?_
          refine O_pass rfl rfl ?_
          refine O_pass rfl rfl ?_
          refine O_pass rfl rfl ?_
          refine O_pass rfl rfl ?_
          refine s_pickT (v := (.bool true)) rfl rfl ?_
          refine s_move (v := (.bool true)) rfl ?_
          refine O_pass rfl rfl ?_
          refine O_pass rfl rfl ?_
          refine O_pass rfl rfl ?_
          refine O_pass rfl rfl ?_
          refine O_passU rfl ?_
          refine O_passU rfl ?_
          refine O_passU rfl ?_
          refine O_passU rfl ?_
          refine O_passU rfl ?_
          refine O_pass rfl rfl ?_
          refine s_pickT (v := (.bool true)) rfl rfl ?_
          refine O_nil ?_
          refine D_condT rfl ?_
          refine D_seq ?_
          refine D_region ?_
          refine s_assign (v := (.bool false)) rfl ?_
          refine O_nil ?_
          refine D_ret ?_
          refine ret1 (v := (.bool false)) rfl ?_
          refine ⟨false, rfl, ?_, hF⟩
          simp only [Bool.false_eq_true, false_iff]
          rintro ⟨k', h⟩
          have hkk := h.kind
          have hkl := h.lt
          rcases (by omega : i = 0 ∨ i = 1) with h0 | h0; (have q := h.in0; rw [← hn0 h0] at q; unfold InN at q; omega); (have q := h.in1; rw [← hn1 h0] at q; unfold InN at q; omega)
        · simp only [asks] at h4
          refine s_move (v := (.bool false)) rfl ?_
          refine O_want rfl ?_
          refine s_move (v := (.int .i64 _)) rfl ?_
          refine O_want rfl ?_
          refine s_fieldAddr (off := 1) (r := 1) rfl fo32_1 rfl ?_
          refine O_want rfl ?_
          refine s_indexV (i := i) (r := 1 + i) rfl rfl rfl und22 ti3 hi2 (by omega) ?_
          refine O_want rfl ?_
          refine s_load1 (v := .int .i64 nn) rfl ag3 (by rw [hb1.cell]; exact hget) ?_
          refine O_want rfl ?_
          refine s_cmp2 rfl rfl rfl (fun h5 => ?_) (fun h5 => ?_)
          · simp only [asks] at h5
            refine s_pickF (v := (.bool true)) rfl rfl ?_
            refine s_move (v := (.bool true)) rfl ?_
            refine O_pass rfl rfl ?_
            refine O_pass rfl rfl ?_
            refine O_pass rfl rfl ?_
            refine O_pass rfl rfl ?_
            refine O_passU rfl ?_
            refine O_passU rfl ?_
            refine O_passU rfl ?_
            refine O_passU rfl ?_
            refine O_passU rfl ?_
            refine O_pass rfl rfl ?_
            refine s_pickT (v := (.bool true)) rfl rfl ?_
            refine O_nil ?_
            refine D_condT rfl ?_
            refine D_seq ?_
            refine D_region ?_
            refine s_assign (v := (.bool false)) rfl ?_
            refine O_nil ?_
            refine D_ret ?_
            refine ret1 (v := (.bool false)) rfl ?_
            refine ⟨false, rfl, ?_, hF⟩
            simp only [Bool.false_eq_true, false_iff]
            rintro ⟨k', h⟩
            have hkk := h.kind
            have hkl := h.lt
            rcases (by omega : i = 0 ∨ i = 1) with h0 | h0; (have q := h.in0; rw [← hn0 h0] at q; unfold InN at q; omega); (have q := h.in1; rw [← hn1 h0] at q; unfold InN at q; omega)
          · simp only [asks] at h5
            have hm : InN nn := by unfold InN; omega
            refine s_pickF (v := (.bool false)) rfl rfl ?_
            refine s_move (v := (.bool false)) rfl ?_
            refine O_want rfl ?_
            refine s_move (v := (.int .i64 _)) rfl ?_
            refine O_want rfl ?_
            refine s_move (v := (.int .i64 _)) rfl ?_
            refine O_want rfl ?_
            refine s_cmp2 rfl rfl rfl (fun h6 => ?_) (fun h6 => ?_)
            · simp only [asks] at h6
              refine O_want rfl ?_
              refine s_move (v := (.bool true)) rfl ?_
              refine O_want rfl ?_
              refine s_move (v := (.int .i64 _)) rfl ?_
              refine O_want rfl ?_
              refine s_fieldAddr (off := 1) (r := 1) rfl fo32_1 rfl ?_
              refine O_want rfl ?_
              refine s_indexV (i := i) (r := 1 + i) rfl rfl rfl und22 ti3 hi2 (by omega) ?_
              refine O_want rfl ?_
              refine s_load1 (v := .int .i64 nn) rfl ag3 (by rw [hb1.cell]; exact hget) ?_
              refine O_want rfl ?_
              refine s_cmp2 rfl rfl rfl (fun h7 => ?_) (fun h7 => ?_)
              · simp only [asks] at h7
                refine O_want rfl ?_
                refine s_pickT (v := (.bool true)) rfl rfl ?_
                refine s_pickF (v := (.bool true)) rfl rfl ?_
                refine O_nil ?_
                refine D_condT rfl ?_
                refine D_seq ?_
                refine D_region ?_
                refine s_assign (v := (.bool false)) rfl ?_
                refine O_nil ?_
                refine D_ret ?_
                refine ret1 (v := (.bool false)) rfl ?_
                refine ⟨false, rfl, ?_, hF⟩
                simp only [Bool.false_eq_true, false_iff]
                rintro ⟨k', h⟩
                have hkk := h.kind
                have hkl := h.lt
                have hkk' : k' = k := (by have := Hk.out; omega); subst hkk'; rcases (by omega : i = 0 ∨ i = 1) with h0 | h0; exact h7 ((hn0 h0).trans (h.z0 (by omega))); exact h7 ((hn1 h0).trans (h.z1 (by omega)))
              · simp only [asks] at h7
                have h7' : nn = 0 := by omega
                refine O_want rfl ?_
                refine s_pickT (v := (.bool false)) rfl rfl ?_
                refine s_pickF (v := (.bool false)) rfl rfl ?_
                refine O_nil ?_
                refine D_condF rfl ?_
                refine D_skip ?_
                refine D_region ?_
                refine s_move (v := (.int .i64 _)) rfl ?_
                refine s_addi rfl rfl (by omega) ?_
                refine s_assign (v := (.int .i64 _)) rfl ?_
                refine O_nil ?_
                refine ⟨⟨i + 1, ⟨rfl, trivial⟩, by repeat' (first | exact agree_over | exact agree_refl | refine agree_upd rfl ?_), ?_, ?_⟩⟩
                · refine ⟨hi2, hb1, hF, fun _ => ?_, fun h => ?_⟩
                  · by_cases h0 : i = 0
                    · rw [← hn0 h0]; exact ⟨hm, fun _ => h7'⟩
                    · exact Ha.out (by omega)
                  · have hi1 : i = 1 := by omega
                    rw [← hn1 hi1]; exact ⟨hm, fun _ => h7'⟩
                · omega
            · simp only [asks] at h6
              refine O_want rfl ?_
              refine s_move (v := (.bool false)) rfl ?_
              refine O_pass rfl rfl ?_
              refine O_pass rfl rfl ?_
              refine O_pass rfl rfl ?_
              refine O_pass rfl rfl ?_
              refine O_pass rfl rfl ?_
              refine O_want rfl ?_
              refine s_pickF (v := (.bool false)) rfl rfl ?_
              refine s_pickF (v := (.bool false)) rfl rfl ?_
              refine O_nil ?_
              refine D_condF rfl ?_
              refine D_skip ?_
              refine D_region ?_
              refine s_move (v := (.int .i64 _)) rfl ?_
              refine s_addi rfl rfl (by omega) ?_
              refine s_assign (v := (.int .i64 _)) rfl ?_
              refine O_nil ?_
              refine ⟨⟨i + 1, ⟨rfl, trivial⟩, by repeat' (first | exact agree_over | exact agree_refl | refine agree_upd rfl ?_), ?_, ?_⟩⟩
              · refine ⟨hi2, hb1, hF, fun _ => ?_, fun h => ?_⟩
                · by_cases h0 : i = 0
                  · rw [← hn0 h0]; exact ⟨hm, fun hz => by omega⟩
                  · exact Ha.out (by omega)
                · have hi1 : i = 1 := by omega
                  rw [← hn1 hi1]; exact ⟨hm, fun hz => by omega⟩
              · omega
      · simp only [asks] at h3
        have hi2 : i = 2 := by omega
        subst hi2
        obtain ⟨hA, hA0⟩ := Ha.out (by omega)
        obtain ⟨hB, hB0⟩ := Hb.out (by omega)
        clear Ha Hb
        refine O_nil ?_
        refine D_condF rfl ?_
        refine D_exit ?_
        refine D_seq ?_
        refine D_seq ?_
        refine D_region ?_
        refine s_move (v := (.bool _)) rfl ?_
        cases htx : shText k
        · skip
          refine s_not (b := false) rfl ?_
          refine O_nil ?_
          refine D_condT rfl ?_
          refine D_seq ?_
          refine D_region ?_
          refine s_fieldAddr (off := 3) (r := 3) rfl fo32_2 rfl ?_
          refine s_load1 (v := (.string _)) rfl ag9 (hb1.at (.s (.s (.s .z)))) ?_
          refine s_seq2 rfl rfl (fun h4 => ?_) (fun h4 => ?_)
          · skip
            refine s_assign (v := (.bool true)) rfl ?_
            refine O_nil ?_
            refine D_ret ?_
            refine ret1 (v := (.bool true)) rfl ?_
            refine ⟨true, rfl, ?_, hF⟩
            simp only [true_iff]
            exact ⟨k, Hk.out, hlt, hA, hB, hA0, hB0, fun _ => h4, fun h => by rw [htx] at h; cases h⟩
          · skip
            refine s_assign (v := (.bool false)) rfl ?_
            refine O_nil ?_
            refine D_ret ?_
            refine ret1 (v := (.bool false)) rfl ?_
            refine ⟨false, rfl, ?_, hF⟩
            simp only [Bool.false_eq_true, false_iff]
            rintro ⟨k', h⟩
            have hkk := h.kind
            have hkl := h.lt
            have hkk' : k' = k := (by have := Hk.out; omega); subst hkk'; exact h4 (h.notext htx)
        · skip
          refine s_not (b := true) rfl ?_
          refine O_nil ?_
          refine D_condF rfl ?_
          refine D_skip ?_
          refine D_seq ?_
          refine D_seq ?_
          refine D_region ?_
          refine s_fieldAddr (off := 3) (r := 3) rfl fo32_2 rfl ?_
          refine s_load1 (v := (.string _)) rfl ag9 (hb1.at (.s (.s (.s .z)))) ?_
          refine s_seq2 rfl rfl (fun h4 => ?_) (fun h4 => ?_)
          · skip
            refine s_move (v := (.bool true)) rfl ?_
            refine O_pass rfl rfl ?_
            refine O_pass rfl rfl ?_
            refine O_pass rfl rfl ?_
            refine O_pass rfl rfl ?_
            refine s_pickT (v := (.bool true)) rfl rfl ?_
            refine O_nil ?_
            refine D_condT rfl ?_
            refine D_seq ?_
            refine D_region ?_
            refine s_assign (v := (.bool false)) rfl ?_
            refine O_nil ?_
            refine D_ret ?_
            refine ret1 (v := (.bool false)) rfl ?_
            refine ⟨false, rfl, ?_, hF⟩
            simp only [Bool.false_eq_true, false_iff]
            rintro ⟨k', h⟩
            have hkk := h.kind
            have hkl := h.lt
            have hkk' : k' = k := (by have := Hk.out; omega); subst hkk'; exact (h.text htx).1 h4
          · skip
            refine s_move (v := (.bool false)) rfl ?_
            refine O_want rfl ?_
            refine s_fieldAddr (off := 3) (r := 3) rfl fo32_2 rfl ?_
            refine O_want rfl ?_
            refine s_load1 (v := (.string _)) rfl ag9 (hb1.at (.s (.s (.s .z)))) ?_
            refine O_want rfl ?_
            refine s_lenS rfl und9 ?_
            refine O_want rfl ?_
            refine s_cmp2 rfl rfl rfl (fun h5 => ?_) (fun h5 => ?_)
            · simp only [asks] at h5
              refine s_pickF (v := (.bool true)) rfl rfl ?_
              refine O_nil ?_
              refine D_condT rfl ?_
              refine D_seq ?_
              refine D_region ?_
              refine s_assign (v := (.bool false)) rfl ?_
              refine O_nil ?_
              refine D_ret ?_
              refine ret1 (v := (.bool false)) rfl ?_
              refine ⟨false, rfl, ?_, hF⟩
              simp only [Bool.false_eq_true, false_iff]
              rintro ⟨k', h⟩
              have hkk := h.kind
              have hkl := h.lt
              have hkk' : k' = k := (by have := Hk.out; omega); subst hkk'; have := (h.text htx).2.1; omega
            · simp only [asks] at h5
              refine s_pickF (v := (.bool false)) rfl rfl ?_
              refine O_nil ?_
              refine D_condF rfl ?_
              refine D_skip ?_
              refine D_seq ?_
              refine D_seq ?_
              refine D_region ?_
              refine s_assign (v := (.int .i64 _)) rfl ?_
              refine O_nil ?_
              refine D_block ?_
              refine D_loop (S := Nat) [2, 6, 63, 64, 65, 66, 67, 68, 69, 70, 71, 72, 73, 74, 75, 76, 77, 78, 79, 80, 81] (fun s => [(6, .int .i64 s)]) (fun s w => s ≤ o.text.size ∧ Blk w b1 [.int .i64 o.kind, .int .i64 o.n0, .int .i64 o.n1, .string o.text] 32 ∧ Fr [] w0 w ∧ (∀ (j : Nat) (c : UInt8), j < s → o.text[j]? = some c → c ≠ 32 ∧ c ≠ 10)) (fun s => o.text.size - s) 0 ?_ ?_ ?_
              · exact ⟨rfl, trivial⟩
              · exact ⟨by omega, hb1, hF, by intro j c h; omega⟩
              clear hF
              rintro i u4 w4 ⟨hi, hb1, hF, hne⟩
              (try dsimp only at hi); (try dsimp only at hb1); (try dsimp only at hF); (try dsimp only at hne)
              show D _ _ _ _ (upds _ [(6, .int .i64 i)]) _
              have Hne := Lib.hid hne
              clear hne
              refine D_seq ?_
              refine D_seq ?_
              refine D_region ?_
              refine s_move (v := (.int .i64 _)) rfl ?_
              refine s_fieldAddr (off := 3) (r := 3) rfl fo32_2 rfl ?_
              refine s_load1 (v := (.string _)) rfl ag9 (hb1.at (.s (.s (.s .z)))) ?_
              refine s_lenS rfl und9 ?_
              refine s_cmp2 rfl rfl rfl (fun h6 => ?_) (fun h6 => ?_)
              · simp only [asks] at h6
                have hlti : i < o.text.size := by omega
                obtain ⟨c, hc⟩ : ∃ c, o.text[i]? = some c := ⟨_, getElem?_pos o.text i hlti⟩
                have hc256 := c.toNat_lt
                refine O_nil ?_
                refine D_condT rfl ?_
                refine D_skip ?_
                refine D_seq ?_
                refine D_block ?_
                refine D_seq ?_
                refine D_region ?_
                refine s_fieldAddr (off := 3) (r := 3) rfl fo32_2 rfl ?_
                refine s_load1 (v := (.string _)) rfl ag9 (hb1.at (.s (.s (.s .z)))) ?_
                refine s_move (v := (.int .i64 _)) rfl ?_
                refine s_indexS (c := c) rfl rfl und9 rfl hc ?_
                refine s_cmp2 rfl rfl rfl (fun h7 => ?_) (fun h7 => ?_)
                · simp only [asks] at h7
                  have hc32 : c = 32 := by have e : c.toNat = 32 := (by omega); exact UInt8.toNat_inj.1 e
                  refine s_move (v := (.bool true)) rfl ?_
                  refine O_pass rfl rfl ?_
                  refine O_pass rfl rfl ?_
                  refine O_pass rfl rfl ?_
                  refine O_pass rfl rfl ?_
                  refine O_pass rfl rfl ?_
                  refine s_pickT (v := (.bool true)) rfl rfl ?_
                  refine O_nil ?_
                  refine D_condT rfl ?_
                  refine D_seq ?_
                  refine D_region ?_
                  refine s_assign (v := (.bool false)) rfl ?_
                  refine O_nil ?_
                  refine D_ret ?_
                  refine ret1 (v := (.bool false)) rfl ?_
                  refine ⟨false, rfl, ?_, hF⟩
                  simp only [Bool.false_eq_true, false_iff]
                  rintro ⟨k', h⟩
                  have hkk := h.kind
                  have hkl := h.lt
                  have hkk' : k' = k := (by have := Hk.out; omega); subst hkk'; have q := (h.text htx).2.2; rw [two_iff] at q; exact (q i c hc).1 hc32
                · simp only [asks] at h7
                  refine s_move (v := (.bool false)) rfl ?_
                  refine O_want rfl ?_
                  refine s_fieldAddr (off := 3) (r := 3) rfl fo32_2 rfl ?_
                  refine O_want rfl ?_
                  refine s_load1 (v := (.string _)) rfl ag9 (hb1.at (.s (.s (.s .z)))) ?_
                  refine O_want rfl ?_
                  refine s_move (v := (.int .i64 _)) rfl ?_
                  refine O_want rfl ?_
                  refine s_indexS (c := c) rfl rfl und9 rfl hc ?_
                  refine O_want rfl ?_
                  refine s_cmp2 rfl rfl rfl (fun h8 => ?_) (fun h8 => ?_)
                  · simp only [asks] at h8
                    have hc10 : c = 10 := by have e : c.toNat = 10 := (by omega); exact UInt8.toNat_inj.1 e
                    refine s_pickF (v := (.bool true)) rfl rfl ?_
                    refine O_nil ?_
                    refine D_condT rfl ?_
                    refine D_seq ?_
                    refine D_region ?_
                    refine s_assign (v := (.bool false)) rfl ?_
                    refine O_nil ?_
                    refine D_ret ?_
                    refine ret1 (v := (.bool false)) rfl ?_
                    refine ⟨false, rfl, ?_, hF⟩
                    simp only [Bool.false_eq_true, false_iff]
                    rintro ⟨k', h⟩
                    have hkk := h.kind
                    have hkl := h.lt
                    have hkk' : k' = k := (by have := Hk.out; omega); subst hkk'; have q := (h.text htx).2.2; rw [two_iff] at q; exact (q i c hc).2 hc10
                  · simp only [asks] at h8
                    refine s_pickF (v := (.bool false)) rfl rfl ?_
                    refine O_nil ?_
                    refine D_condF rfl ?_
                    refine D_skip ?_
                    refine D_region ?_
                    refine s_move (v := (.int .i64 _)) rfl ?_
                    refine s_addi rfl rfl (by omega) ?_
                    refine s_assign (v := (.int .i64 _)) rfl ?_
                    refine O_nil ?_
                    refine ⟨⟨i + 1, ⟨rfl, trivial⟩, by repeat' (first | exact agree_over | exact agree_refl | refine agree_upd rfl ?_), ?_, ?_⟩⟩
                    · refine ⟨hlti, hb1, hF, fun j c' hj hc' => ?_⟩
                      by_cases hji : j = i
                      · subst hji; rw [hc] at hc'; cases hc'
                        exact ⟨fun e => h7 (by rw [e]; rfl), fun e => h8 (by rw [e]; rfl)⟩
                      · exact Hne.out j c' (by omega) hc'
                    · omega
              · simp only [asks] at h6
                refine O_nil ?_
                refine D_condF rfl ?_
                refine D_exit ?_
                refine D_seq ?_
                refine D_region ?_
                refine s_assign (v := (.bool true)) rfl ?_
                refine O_nil ?_
                refine D_ret ?_
                refine ret1 (v := (.bool true)) rfl ?_
                refine ⟨true, rfl, ?_, hF⟩
                simp only [true_iff]
                have hall : ∀ (j : Nat) (c : UInt8), o.text[j]? = some c → c ≠ 32 ∧ c ≠ 10 := fun j c hc => Hne.out j c (by have := (getElem?_eq_some_iff.1 hc).1; omega) hc
                have hbn := (two_iff o.text).2 hall
                exact ⟨k, Hk.out, hlt, hA, hB, hA0, hB0, (fun h => by rw [htx] at h; cases h), fun _ => ⟨h4, by omega, hbn.1, hbn.2⟩⟩
end Go.Proofs.YtelnfdpbcbohdaaDoor

