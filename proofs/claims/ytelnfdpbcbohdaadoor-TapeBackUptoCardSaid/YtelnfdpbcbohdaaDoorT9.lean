/-
  TapeBack: a good op is parsed of its own line, also with blanks around; what is parsed has a line of which it is parsed. Own work.
-/
import Derived.Test.YtelnfdpbcbohdaaDoorT8
namespace Go.Proofs.YtelnfdpbcbohdaaDoor
open Go Go.RowKit
set_option linter.unusedVariables false
set_option linter.unusedSimpArgs false
set_option maxRecDepth 100000
theorem lineB_size {o : TOp} {k : Nat} (ok : GoodP o k) : (lineB o k).size ≤ 200 ∧ lineB o k ≠ noS := by
  have h2 := shNum_le k
  have hn := shName_len ok.lt
  have h := numsB_size (b := ⟨(shName k).toArray⟩) ok.in0 ok.in1 (shNum k)
  rw [show (⟨(shName k).toArray⟩ : ByteArray).size = (shName k).length from size_mk _] at h
  constructor
  · unfold lineB
    cases hx : shText k
    · simp only [Bool.false_eq_true, if_false]; omega
    · simp only [if_true, ByteArray.size_append]
      have := (ok.text hx).2.1
      have e : (⟨#[32]⟩ : ByteArray).size = 1 := rfl
      omega
  · intro e
    have h1 := lineB_list o k
    rw [e] at h1
    have h3 : shName k = [] := (List.append_eq_nil_iff.1 h1.symm).1
    rw [h3] at hn
    simp at hn
set_option maxHeartbeats 2000000 in
theorem back_op (o : TOp) (line : ByteArray) (w0 : World) (hg : GW w0) (hn : line.size < 4294967281) :
    Calls Tryd.prog 3 #[.agg o.cells.toArray, .string line] w0 fun e w' => e = .returned (.bool true) ∧ Fr [] w0 w' := by
  have hF := Fr.refl [] w0
  obtain ⟨m, hm, hm1⟩ : ∃ m : Nat, (if (100 : Int) < (o.text.size : Int) then (100 : Int) else (o.text.size : Int)) = (m : Int) ∧ m ≤ o.text.size := by
    by_cases h : (100 : Int) < (o.text.size : Int)
    · exact ⟨100, by rw [if_pos h]; rfl, by omega⟩
    · exact ⟨o.text.size, by rw [if_neg h], Nat.le_refl _⟩
  obtain ⟨o', ho'⟩ : ∃ o' : TOp, o' = ⟨o.kind, o.n0, o.n1, o.text.extract 0 m⟩ := ⟨_, rfl⟩
  refine calls_of_D (n := 90) (rs := [.tmp 4]) Tryd.func3 rfl rfl rfl rfl ?_
  refine D_seq ?_
  refine D_region ?_
  refine s_box (cs := [_, _, _, _]) rfl rfl (fun b2 w1 nb2 hb2 fw => ?_)
  have lb2 := hb2.lt; replace nb2 := Nat.le_trans hF.size nb2; replace hF := hF.step0 fw; clear fw
  refine s_assign (v := (.bool false)) rfl ?_
  refine O_nil ?_
  refine D_seq ?_
  refine D_region ?_
  refine s_fieldAddr (off := 3) (r := 3) rfl fo24_2 rfl ?_
  refine s_load1 (v := (.string _)) rfl ag9 (hb2.at (.s (.s (.s .z)))) ?_
  refine s_fieldAddr (off := 3) (r := 3) rfl fo24_2 rfl ?_
  refine s_load1 (v := (.string _)) rfl ag9 (hb2.at (.s (.s (.s .z)))) ?_
  refine s_lenS rfl und9 ?_
  refine s_min rfl rfl ?_
  refine s_sliceS (l := 0) (h := m) rfl und9 rfl (congrArg (Value.int .i64) hm) (Nat.zero_le _) hm1 ?_
  refine s_fieldAddr (off := 3) (r := 3) rfl fo24_2 rfl ?_
  refine s_store1 (v := (.string _)) (rs := [_, _, _, _]) rfl rfl (by first | rfl | assumption) ti9 hb2 (by simp) rfl (fun w2 hb2n fw => ?_)
  replace hF := hF.step fw (by intro i hi; simp at hi; subst hi; first | (right; omega) | (left; simp; done))
  clear hb2; have hb2 := hb2n; clear hb2n; clear fw
  refine O_nil ?_
  refine D_seq ?_
  refine D_region ?_
  refine s_loadA (vs := [_, _, _, _]) rfl ag24 ti24 rfl (hb2.row.sub 0 4 rfl rfl) ?_
  have hob : (TOp.cells o') = [.int .i64 o.kind, .int .i64 o.n0, .int .i64 o.n1, .string (o.text.extract 0 m)] := by rw [ho']; rfl
  refine s_call (av := [.agg o'.cells.toArray]) (by rw [hob]; rfl) ca5 (Calls.mono (op_op o' _) ?_)
  rintro _ w3 ⟨rfl, fw⟩
  refine ⟨_, rfl, ?_⟩
  replace hb2 := hb2.fr0 fw
  replace hF := hF.step0 fw
  clear fw
  refine s_alloc ti27 (fun b5 w4 nb5 hb5 fw => ?_)
  have neb2_b5 : b2 ≠ b5 := by have := hb2.lt; omega
  replace hb2 := hb2.fr0 fw
  have lb5 := hb5.lt; replace nb5 := Nat.le_trans hF.size nb5; replace hF := hF.step0 fw; clear fw
  refine s_store (vs := [_, _, _, _]) (rs := [_, _, _, _]) rfl rfl rfl (by simp [One, Value.oneCell']) ti27 rfl hb5 (by simp) rfl (fun w5 hb5n fw => ?_)
  replace hb2 := hb2.fr1 fw (by omega)
  replace hF := hF.step fw (by intro i hi; simp at hi; subst hi; first | (right; omega) | (left; simp; done))
  clear hb5; have hb5 := hb5n; clear hb5n; clear fw
  refine O_nil ?_
  refine D_seq ?_
  refine D_region ?_
  refine s_loadA (vs := [_, _, _, _]) rfl ag27 ti27 rfl (hb5.row.sub 0 4 rfl rfl) ?_
  by_cases hgood : ∃ k, GoodP o' k
  · obtain ⟨k, ok⟩ := hgood
    obtain ⟨hls, hlne⟩ := lineB_size ok
    have hpl := parse_line ok
    have hpb := parse_blanks ok
    have hlg := fun (w : World) (hg : GW w) => line_good o' k w hg ok
    generalize lineB o' k = s at hls hlne hpl hpb hlg
    refine s_call (av := [(.agg _)]) rfl ca6 (Calls.mono (hlg _ (hg.fr0 hF)) ?_)
    rintro _ w6 ⟨rfl, fw⟩
    refine ⟨_, rfl, ?_⟩
    replace hb2 := hb2.fr0 fw
    replace hb5 := hb5.fr0 fw
    replace hF := hF.step0 fw; clear fw
    refine s_assign (v := (.string _)) rfl ?_
    refine O_nil ?_
    refine D_seq ?_
    refine D_seq ?_
    refine D_region ?_
    refine s_call (av := []) rfl ca7 (Calls.mono (wakes_op _ (hg.fr0 hF)) ?_)
    rintro _ w7 ⟨rfl, fw⟩
    refine ⟨_, rfl, ?_⟩
    replace hb2 := hb2.fr0 fw
    replace hb5 := hb5.fr0 fw
    replace hF := hF.step0 fw; clear fw
    refine s_not (b := true) rfl ?_
    refine s_move (v := (.bool false)) rfl ?_
    refine O_want rfl ?_
    refine s_move (v := (.string _)) rfl ?_
    refine O_want rfl ?_
    refine s_seqF rfl rfl hlne ?_
    refine O_want rfl ?_
    refine s_move (v := (.bool false)) rfl ?_
    refine O_pass rfl rfl ?_
    refine O_pass rfl rfl ?_
    refine O_want rfl ?_
    refine s_pickF (v := (.bool false)) rfl rfl ?_
    refine s_pickF (v := (.bool false)) rfl rfl ?_
    refine O_nil ?_
    refine D_condF rfl ?_
    refine D_skip ?_
    refine D_seq ?_
    refine D_seq ?_
    refine D_region ?_
    refine s_move (v := (.string _)) rfl ?_
    refine s_sneT rfl rfl hlne ?_
    refine O_nil ?_
    refine D_condT rfl ?_
    refine D_seq ?_
    refine D_region ?_
    refine s_move (v := (.string _)) rfl ?_
    refine s_call (av := [(.string _)]) rfl ca9 (Calls.mono (parse_op s _ (hg.fr0 hF) (by omega)) ?_)
    rintro _ w8 ⟨hp, fw⟩ 
    replace hb2 := hb2.fr0 fw
    replace hb5 := hb5.fr0 fw
    replace hF := hF.step0 fw; clear fw
    rw [hpl] at hp
    unfold ParseR at hp
    subst hp
    refine ⟨_, rfl, ?_⟩
    refine s_move (v := (.tuple _)) rfl ?_
    refine s_extract rfl .z ?_
    refine s_extract rfl (.s .z) ?_
    refine s_alloc ti27 (fun b7 w9 nb7 hb7 fw => ?_)
    have neb2_b7 : b2 ≠ b7 := by have := hb2.lt; omega
    replace hb2 := hb2.fr0 fw
    have neb5_b7 : b5 ≠ b7 := by have := hb5.lt; omega
    replace hb5 := hb5.fr0 fw
    have lb7 := hb7.lt; replace nb7 := Nat.le_trans hF.size nb7; replace hF := hF.step0 fw; clear fw
    refine s_store (vs := [_, _, _, _]) (rs := [_, _, _, _]) rfl rfl rfl (by simp [One, Value.oneCell']) ti27 rfl hb7 (by simp) rfl (fun w10 hb7n fw => ?_)
    replace hb2 := hb2.fr1 fw (by omega)
    replace hb5 := hb5.fr1 fw (by omega)
    replace hF := hF.step fw (by intro i hi; simp at hi; subst hi; first | (right; omega) | (left; simp; done))
    clear hb7; have hb7 := hb7n; clear hb7n; clear fw
    refine s_assign (v := (.int .i64 _)) rfl ?_
    refine O_nil ?_
    refine D_seq ?_
    refine D_region ?_
    refine s_move (v := (.string _)) rfl ?_
    refine s_scat rfl rfl (by first | omega | (simp only [ByteArray.size_append, size_mk, List.length_cons, List.length_nil]; omega)) ?_
    refine s_scat rfl rfl (by first | omega | (simp only [ByteArray.size_append, size_mk, List.length_cons, List.length_nil]; omega)) ?_
    refine s_call (av := [(.string _)]) rfl ca9 (Calls.mono (parse_op _ _ (hg.fr0 hF) (by simp only [ByteArray.size_append]; have e1 : (⟨#[32]⟩ : ByteArray).size = 1 := rfl; have e2 : (⟨#[32, 32]⟩ : ByteArray).size = 2 := rfl; omega)) ?_)
    rintro _ w11 ⟨hp, fw⟩ 
    replace hb2 := hb2.fr0 fw
    replace hb5 := hb5.fr0 fw
    replace hb7 := hb7.fr0 fw
    replace hF := hF.step0 fw; clear fw
    rw [hpb] at hp
    unfold ParseR at hp
    subst hp
    refine ⟨_, rfl, ?_⟩
    refine s_move (v := (.tuple _)) rfl ?_
    refine s_extract rfl .z ?_
    refine s_extract rfl (.s .z) ?_
    refine s_alloc ti27 (fun b9 w12 nb9 hb9 fw => ?_)
    have neb2_b9 : b2 ≠ b9 := by have := hb2.lt; omega
    replace hb2 := hb2.fr0 fw
    have neb5_b9 : b5 ≠ b9 := by have := hb5.lt; omega
    replace hb5 := hb5.fr0 fw
    have neb7_b9 : b7 ≠ b9 := by have := hb7.lt; omega
    replace hb7 := hb7.fr0 fw
    have lb9 := hb9.lt; replace nb9 := Nat.le_trans hF.size nb9; replace hF := hF.step0 fw; clear fw
    refine s_store (vs := [_, _, _, _]) (rs := [_, _, _, _]) rfl rfl rfl (by simp [One, Value.oneCell']) ti27 rfl hb9 (by simp) rfl (fun w13 hb9n fw => ?_)
    replace hb2 := hb2.fr1 fw (by omega)
    replace hb5 := hb5.fr1 fw (by omega)
    replace hb7 := hb7.fr1 fw (by omega)
    replace hF := hF.step fw (by intro i hi; simp at hi; subst hi; first | (right; omega) | (left; simp; done))
    clear hb9; have hb9 := hb9n; clear hb9n; clear fw
    refine s_assign (v := (.int .i64 _)) rfl ?_
    refine O_nil ?_
    refine D_seq ?_
    refine D_region ?_
    refine s_move (v := (.int .i64 _)) rfl ?_
    refine s_cmpF rfl rfl rfl (show ¬ ((0 : Int) ≠ 0) from fun h => h rfl) ?_
    refine s_move (v := (.bool false)) rfl ?_
    refine O_want rfl ?_
    refine s_move (v := (.int .i64 _)) rfl ?_
    refine O_want rfl ?_
    refine s_cmpF rfl rfl rfl (show ¬ ((0 : Int) ≠ 0) from fun h => h rfl) ?_
    refine s_pickF (v := (.bool false)) rfl rfl ?_
    refine s_move (v := (.bool false)) rfl ?_
    refine O_want rfl ?_
    refine s_loadA (vs := [_, _, _, _]) rfl ag27 ti27 rfl (hb7.row.sub 0 4 rfl rfl) ?_
    refine O_want rfl ?_
    refine s_loadA (vs := [_, _, _, _]) rfl ag27 ti27 rfl (hb5.row.sub 0 4 rfl rfl) ?_
    refine O_want rfl ?_
    refine s_neA (xs := o'.cells.toArray) (ys := o'.cells.toArray) rfl rfl guardT (eqT_same _) ?_
    refine s_pickF (v := (.bool false)) rfl rfl ?_
    refine s_move (v := (.bool false)) rfl ?_
    refine O_want rfl ?_
    refine s_loadA (vs := [_, _, _, _]) rfl ag27 ti27 rfl (hb9.row.sub 0 4 rfl rfl) ?_
    refine O_want rfl ?_
    refine s_loadA (vs := [_, _, _, _]) rfl ag27 ti27 rfl (hb5.row.sub 0 4 rfl rfl) ?_
    refine O_want rfl ?_
    refine s_neA (xs := o'.cells.toArray) (ys := o'.cells.toArray) rfl rfl guardT (eqT_same _) ?_
    refine s_pickF (v := (.bool false)) rfl rfl ?_
    refine O_nil ?_
    refine D_condF rfl ?_
    refine D_skip ?_
    refine D_seq ?_
    refine D_region ?_
    refine s_move (v := (.string _)) rfl ?_
    refine s_call (av := [(.string _)]) rfl ca9 (Calls.mono (parse_op line _ (hg.fr0 hF) hn) ?_)
    rintro _ w14 ⟨hp, fw⟩ 
    replace hb2 := hb2.fr0 fw
    replace hb5 := hb5.fr0 fw
    replace hb7 := hb7.fr0 fw
    replace hb9 := hb9.fr0 fw
    replace hF := hF.step0 fw; clear fw
    obtain ⟨r, hr⟩ : ∃ r, r = parseS line := ⟨_, rfl⟩
    rw [← hr] at hp
    unfold ParseR at hp
    subst hp
    refine ⟨_, rfl, ?_⟩
    refine s_move (v := (.tuple _)) rfl ?_
    refine s_extract rfl .z ?_
    refine s_extract rfl (.s .z) ?_
    refine s_alloc ti27 (fun b11 w15 nb11 hb11 fw => ?_)
    have neb2_b11 : b2 ≠ b11 := by have := hb2.lt; omega
    replace hb2 := hb2.fr0 fw
    have neb5_b11 : b5 ≠ b11 := by have := hb5.lt; omega
    replace hb5 := hb5.fr0 fw
    have neb7_b11 : b7 ≠ b11 := by have := hb7.lt; omega
    replace hb7 := hb7.fr0 fw
    have neb9_b11 : b9 ≠ b11 := by have := hb9.lt; omega
    replace hb9 := hb9.fr0 fw
    have lb11 := hb11.lt; replace nb11 := Nat.le_trans hF.size nb11; replace hF := hF.step0 fw; clear fw
    refine s_store (vs := [_, _, _, _]) (rs := [_, _, _, _]) rfl rfl rfl (by simp [One, Value.oneCell']) ti27 rfl hb11 (by simp) rfl (fun w16 hb11n fw => ?_)
    replace hb2 := hb2.fr1 fw (by omega)
    replace hb5 := hb5.fr1 fw (by omega)
    replace hb7 := hb7.fr1 fw (by omega)
    replace hb9 := hb9.fr1 fw (by omega)
    replace hF := hF.step fw (by intro i hi; simp at hi; subst hi; first | (right; omega) | (left; simp; done))
    clear hb11; have hb11 := hb11n; clear hb11n; clear fw
    refine s_assign (v := (.int .i64 _)) rfl ?_
    refine O_nil ?_
    refine D_seq ?_
    refine D_seq ?_
    refine D_region ?_
    refine s_move (v := (.int .i64 _)) rfl ?_
    rcases r with kk | p
    · have hk0 := parseS_err hr.symm
      refine s_cmpT rfl rfl rfl (show errOf (.error kk) ≠ 0 from hk0) ?_
      refine O_nil ?_
      refine D_condT rfl ?_
      refine D_seq ?_
      refine D_region ?_
      refine s_loadA (vs := [_, _, _, _]) rfl ag27 ti27 rfl (hb11.row.sub 0 4 rfl rfl) ?_
      refine s_build (l := []) (rs := [_, _, _, _]) ti27 pl27 trivial rfl ?_
      refine s_eqA (xs := (TOp.cells ⟨0, 0, 0, noS⟩).toArray) (ys := (TOp.cells ⟨0, 0, 0, noS⟩).toArray) rfl rfl guardT (eqT_same _) ?_
      refine s_assign (v := (.bool true)) rfl ?_
      refine O_nil ?_
      refine D_ret ?_
      refine ret1 (v := (.bool true)) rfl ?_
      exact ⟨rfl, hF⟩
    · obtain ⟨kp, hgp⟩ := parse_good hr.symm
      have hpp := parse_line hgp
      have hls2 := (lineB_size hgp).1
      have hlg2 := fun (w : World) (hg : GW w) => line_good p kp w hg hgp
      generalize lineB p kp = s2 at hpp hls2 hlg2
      refine s_cmpF rfl rfl rfl (show ¬ ((0 : Int) ≠ 0) from fun h => h rfl) ?_
      refine O_nil ?_
      refine D_condF rfl ?_
      refine D_skip ?_
      refine D_seq ?_
      refine D_region ?_
      refine s_loadA (vs := [_, _, _, _]) rfl ag27 ti27 rfl (hb11.row.sub 0 4 rfl rfl) ?_
      refine s_call (av := [(.agg _)]) rfl ca6 (Calls.mono (hlg2 _ (hg.fr0 hF)) ?_)
      rintro _ w17 ⟨rfl, fw⟩
      refine ⟨_, rfl, ?_⟩
      replace hb2 := hb2.fr0 fw
      replace hb5 := hb5.fr0 fw
      replace hb7 := hb7.fr0 fw
      replace hb9 := hb9.fr0 fw
      replace hb11 := hb11.fr0 fw
      replace hF := hF.step0 fw; clear fw
      refine s_call (av := [(.string _)]) rfl ca9 (Calls.mono (parse_op s2 _ (hg.fr0 hF) (by omega)) ?_)
      rintro _ w18 ⟨hp2, fw⟩ 
      replace hb2 := hb2.fr0 fw
      replace hb5 := hb5.fr0 fw
      replace hb7 := hb7.fr0 fw
      replace hb9 := hb9.fr0 fw
      replace hb11 := hb11.fr0 fw
      replace hF := hF.step0 fw; clear fw
      rw [hpp] at hp2
      unfold ParseR at hp2
      subst hp2
      refine ⟨_, rfl, ?_⟩
      refine s_move (v := (.tuple _)) rfl ?_
      refine s_extract rfl .z ?_
      refine s_extract rfl (.s .z) ?_
      refine s_alloc ti27 (fun b13 w19 nb13 hb13 fw => ?_)
      have neb2_b13 : b2 ≠ b13 := by have := hb2.lt; omega
      replace hb2 := hb2.fr0 fw
      have neb5_b13 : b5 ≠ b13 := by have := hb5.lt; omega
      replace hb5 := hb5.fr0 fw
      have neb7_b13 : b7 ≠ b13 := by have := hb7.lt; omega
      replace hb7 := hb7.fr0 fw
      have neb9_b13 : b9 ≠ b13 := by have := hb9.lt; omega
      replace hb9 := hb9.fr0 fw
      have neb11_b13 : b11 ≠ b13 := by have := hb11.lt; omega
      replace hb11 := hb11.fr0 fw
      have lb13 := hb13.lt; replace nb13 := Nat.le_trans hF.size nb13; replace hF := hF.step0 fw; clear fw
      refine s_store (vs := [_, _, _, _]) (rs := [_, _, _, _]) rfl rfl rfl (by simp [One, Value.oneCell']) ti27 rfl hb13 (by simp) rfl (fun w20 hb13n fw => ?_)
      replace hb2 := hb2.fr1 fw (by omega)
      replace hb5 := hb5.fr1 fw (by omega)
      replace hb7 := hb7.fr1 fw (by omega)
      replace hb9 := hb9.fr1 fw (by omega)
      replace hb11 := hb11.fr1 fw (by omega)
      replace hF := hF.step fw (by intro i hi; simp at hi; subst hi; first | (right; omega) | (left; simp; done))
      clear hb13; have hb13 := hb13n; clear hb13n; clear fw
      refine s_assign (v := (.int .i64 _)) rfl ?_
      refine O_nil ?_
      refine D_seq ?_
      refine D_region ?_
      refine s_move (v := (.int .i64 _)) rfl ?_
      refine s_cmpT rfl rfl rfl (show (0 : Int) = 0 from rfl) ?_
      refine s_move (v := (.bool true)) rfl ?_
      refine O_want rfl ?_
      refine s_loadA (vs := [_, _, _, _]) rfl ag27 ti27 rfl (hb11.row.sub 0 4 rfl rfl) ?_
      refine O_want rfl ?_
      refine s_loadA (vs := [_, _, _, _]) rfl ag27 ti27 rfl (hb13.row.sub 0 4 rfl rfl) ?_
      refine O_want rfl ?_
      refine s_eqA (xs := p.cells.toArray) (ys := p.cells.toArray) rfl rfl guardT (eqT_same _) ?_
      refine s_pickT (v := (.bool true)) rfl rfl ?_
      refine s_assign (v := (.bool true)) rfl ?_
      refine O_nil ?_
      refine D_ret ?_
      refine ret1 (v := (.bool true)) rfl ?_
      exact ⟨rfl, hF⟩
  · skip
    refine s_call (av := [(.agg _)]) rfl ca6 (Calls.mono (line_bad o' _ (hg.fr0 hF) hgood) ?_)
    rintro _ w6 ⟨rfl, fw⟩
    refine ⟨_, rfl, ?_⟩
    replace hb2 := hb2.fr0 fw
    replace hb5 := hb5.fr0 fw
    replace hF := hF.step0 fw; clear fw
    refine s_assign (v := (.string _)) rfl ?_
    refine O_nil ?_
    refine D_seq ?_
    refine D_seq ?_
    refine D_region ?_
    refine s_call (av := []) rfl ca7 (Calls.mono (wakes_op _ (hg.fr0 hF)) ?_)
    rintro _ w7 ⟨rfl, fw⟩
    refine ⟨_, rfl, ?_⟩
    replace hb2 := hb2.fr0 fw
    replace hb5 := hb5.fr0 fw
    replace hF := hF.step0 fw; clear fw
    refine s_not (b := true) rfl ?_
    refine s_move (v := (.bool false)) rfl ?_
    refine O_want rfl ?_
    refine s_move (v := (.string _)) rfl ?_
    refine O_want rfl ?_
    refine s_seqT rfl rfl rfl ?_
    refine O_want rfl ?_
    refine s_move (v := (.bool true)) rfl ?_
    refine O_want rfl ?_
    refine s_loadA (vs := [_, _, _, _]) rfl ag24 ti24 rfl (hb2.row.sub 0 4 rfl rfl) ?_
    refine O_want rfl ?_
    refine s_call (av := [.agg o'.cells.toArray]) (by rw [hob]; rfl) ca8 (Calls.mono (refgood_op o' _) ?_)
    rintro _ w7 ⟨b, rfl, hb, fw⟩
    have hbf : b = false := by cases b with | false => rfl | true => exact absurd (hb.1 rfl) hgood
    subst hbf
    refine ⟨_, rfl, ?_⟩
    replace hb2 := hb2.fr0 fw
    replace hb5 := hb5.fr0 fw
    replace hF := hF.step0 fw
    clear fw
    refine O_want rfl ?_
    refine s_pickT (v := (.bool false)) rfl rfl ?_
    refine s_pickF (v := (.bool false)) rfl rfl ?_
    refine O_nil ?_
    refine D_condF rfl ?_
    refine D_skip ?_
    refine D_seq ?_
    refine D_seq ?_
    refine D_region ?_
    refine s_move (v := (.string _)) rfl ?_
    refine s_sneF rfl rfl rfl ?_
    refine O_nil ?_
    refine D_condF rfl ?_
    refine D_skip ?_
    refine D_seq ?_
    refine D_region ?_
    refine s_move (v := (.string _)) rfl ?_
    refine s_call (av := [(.string _)]) rfl ca9 (Calls.mono (parse_op line _ (hg.fr0 hF) hn) ?_)
    rintro _ w8 ⟨hp, fw⟩ 
    replace hb2 := hb2.fr0 fw
    replace hb5 := hb5.fr0 fw
    replace hF := hF.step0 fw; clear fw
    obtain ⟨r, hr⟩ : ∃ r, r = parseS line := ⟨_, rfl⟩
    rw [← hr] at hp
    unfold ParseR at hp
    subst hp
    refine ⟨_, rfl, ?_⟩
    refine s_move (v := (.tuple _)) rfl ?_
    refine s_extract rfl .z ?_
    refine s_extract rfl (.s .z) ?_
    refine s_alloc ti27 (fun b11 w9 nb11 hb11 fw => ?_)
    have neb2_b11 : b2 ≠ b11 := by have := hb2.lt; omega
    replace hb2 := hb2.fr0 fw
    have neb5_b11 : b5 ≠ b11 := by have := hb5.lt; omega
    replace hb5 := hb5.fr0 fw
    have lb11 := hb11.lt; replace nb11 := Nat.le_trans hF.size nb11; replace hF := hF.step0 fw; clear fw
    refine s_store (vs := [_, _, _, _]) (rs := [_, _, _, _]) rfl rfl rfl (by simp [One, Value.oneCell']) ti27 rfl hb11 (by simp) rfl (fun w10 hb11n fw => ?_)
    replace hb2 := hb2.fr1 fw (by omega)
    replace hb5 := hb5.fr1 fw (by omega)
    replace hF := hF.step fw (by intro i hi; simp at hi; subst hi; first | (right; omega) | (left; simp; done))
    clear hb11; have hb11 := hb11n; clear hb11n; clear fw
    refine s_assign (v := (.int .i64 _)) rfl ?_
    refine O_nil ?_
    refine D_seq ?_
    refine D_seq ?_
    refine D_region ?_
    refine s_move (v := (.int .i64 _)) rfl ?_
    rcases r with kk | p
    · have hk0 := parseS_err hr.symm
      refine s_cmpT rfl rfl rfl (show errOf (.error kk) ≠ 0 from hk0) ?_
      refine O_nil ?_
      refine D_condT rfl ?_
      refine D_seq ?_
      refine D_region ?_
      refine s_loadA (vs := [_, _, _, _]) rfl ag27 ti27 rfl (hb11.row.sub 0 4 rfl rfl) ?_
      refine s_build (l := []) (rs := [_, _, _, _]) ti27 pl27 trivial rfl ?_
      refine s_eqA (xs := (TOp.cells ⟨0, 0, 0, noS⟩).toArray) (ys := (TOp.cells ⟨0, 0, 0, noS⟩).toArray) rfl rfl guardT (eqT_same _) ?_
      refine s_assign (v := (.bool true)) rfl ?_
      refine O_nil ?_
      refine D_ret ?_
      refine ret1 (v := (.bool true)) rfl ?_
      exact ⟨rfl, hF⟩
    · obtain ⟨kp, hgp⟩ := parse_good hr.symm
      have hpp := parse_line hgp
      have hls2 := (lineB_size hgp).1
      have hlg2 := fun (w : World) (hg : GW w) => line_good p kp w hg hgp
      generalize lineB p kp = s2 at hpp hls2 hlg2
      refine s_cmpF rfl rfl rfl (show ¬ ((0 : Int) ≠ 0) from fun h => h rfl) ?_
      refine O_nil ?_
      refine D_condF rfl ?_
      refine D_skip ?_
      refine D_seq ?_
      refine D_region ?_
      refine s_loadA (vs := [_, _, _, _]) rfl ag27 ti27 rfl (hb11.row.sub 0 4 rfl rfl) ?_
      refine s_call (av := [(.agg _)]) rfl ca6 (Calls.mono (hlg2 _ (hg.fr0 hF)) ?_)
      rintro _ w11 ⟨rfl, fw⟩
      refine ⟨_, rfl, ?_⟩
      replace hb2 := hb2.fr0 fw
      replace hb5 := hb5.fr0 fw
      replace hb11 := hb11.fr0 fw
      replace hF := hF.step0 fw; clear fw
      refine s_call (av := [(.string _)]) rfl ca9 (Calls.mono (parse_op s2 _ (hg.fr0 hF) (by omega)) ?_)
      rintro _ w12 ⟨hp2, fw⟩ 
      replace hb2 := hb2.fr0 fw
      replace hb5 := hb5.fr0 fw
      replace hb11 := hb11.fr0 fw
      replace hF := hF.step0 fw; clear fw
      rw [hpp] at hp2
      unfold ParseR at hp2
      subst hp2
      refine ⟨_, rfl, ?_⟩
      refine s_move (v := (.tuple _)) rfl ?_
      refine s_extract rfl .z ?_
      refine s_extract rfl (.s .z) ?_
      refine s_alloc ti27 (fun b13 w13 nb13 hb13 fw => ?_)
      have neb2_b13 : b2 ≠ b13 := by have := hb2.lt; omega
      replace hb2 := hb2.fr0 fw
      have neb5_b13 : b5 ≠ b13 := by have := hb5.lt; omega
      replace hb5 := hb5.fr0 fw
      have neb11_b13 : b11 ≠ b13 := by have := hb11.lt; omega
      replace hb11 := hb11.fr0 fw
      have lb13 := hb13.lt; replace nb13 := Nat.le_trans hF.size nb13; replace hF := hF.step0 fw; clear fw
      refine s_store (vs := [_, _, _, _]) (rs := [_, _, _, _]) rfl rfl rfl (by simp [One, Value.oneCell']) ti27 rfl hb13 (by simp) rfl (fun w14 hb13n fw => ?_)
      replace hb2 := hb2.fr1 fw (by omega)
      replace hb5 := hb5.fr1 fw (by omega)
      replace hb11 := hb11.fr1 fw (by omega)
      replace hF := hF.step fw (by intro i hi; simp at hi; subst hi; first | (right; omega) | (left; simp; done))
      clear hb13; have hb13 := hb13n; clear hb13n; clear fw
      refine s_assign (v := (.int .i64 _)) rfl ?_
      refine O_nil ?_
      refine D_seq ?_
      refine D_region ?_
      refine s_move (v := (.int .i64 _)) rfl ?_
      refine s_cmpT rfl rfl rfl (show (0 : Int) = 0 from rfl) ?_
      refine s_move (v := (.bool true)) rfl ?_
      refine O_want rfl ?_
      refine s_loadA (vs := [_, _, _, _]) rfl ag27 ti27 rfl (hb11.row.sub 0 4 rfl rfl) ?_
      refine O_want rfl ?_
      refine s_loadA (vs := [_, _, _, _]) rfl ag27 ti27 rfl (hb13.row.sub 0 4 rfl rfl) ?_
      refine O_want rfl ?_
      refine s_eqA (xs := p.cells.toArray) (ys := p.cells.toArray) rfl rfl guardT (eqT_same _) ?_
      refine s_pickT (v := (.bool true)) rfl rfl ?_
      refine s_assign (v := (.bool true)) rfl ?_
      refine O_nil ?_
      refine D_ret ?_
      refine ret1 (v := (.bool true)) rfl ?_
      exact ⟨rfl, hF⟩
end Go.Proofs.YtelnfdpbcbohdaaDoor

