/-
  TapeTimes: so many times the last ops are so many pieces behind one another. Own work.
-/
import Derived.Test.YtelnfdpbcbohdaaDoorT8
namespace Go.Proofs.YtelnfdpbcbohdaaDoor
open Go Go.RowKit
set_option linter.unusedVariables false
set_option linter.unusedSimpArgs false
set_option maxRecDepth 100000
def rd (i : Nat) : TOp := ⟨3, i, 0, noS⟩
def reads (m : Nat) : List TOp := (List.range m).map rd
def rep (n k : Nat) : TOp := ⟨19, n, k, noS⟩
@[simp] theorem reads_len (m : Nat) : (reads m).length = m := by simp [reads]
theorem reads_succ (m : Nat) : reads (m + 1) = reads m ++ [rd m] := by simp [reads, List.range_succ]
theorem reads_get {m i : Nat} (h : i < m) : (reads m)[i]? = some (rd i) := by simp [reads, h]
/-- What the law wants at place i. -/
def wantN (m k i : Nat) : Nat := if m ≤ i then m - k + (i - m) % k else i
theorem expand_reads (l : List TOp) : ∀ (m j : Nat), j + m ≤ 4096 → expandS (reads j) ((List.range' j m).map rd ++ l) = expandS (reads (j + m)) l := by
  intro m
  induction m with
  | zero => intro j _; simp
  | succ m ih =>
    intro j hj
    rw [List.range'_succ, List.map_cons, List.cons_append, expandS]
    have hs : stepS (reads j) (rd j) = .ok (reads (j + 1)) := by
      unfold stepS
      rw [if_neg (by simp [rd])]
      simp only [← reads_succ]
      rw [if_neg (by rw [reads_len]; omega)]
    rw [hs]
    simp only []
    rw [ih (j + 1) (by omega)]
    congr 2; omega
theorem expand_times (m n k : Nat) (hm : m ≤ 20) (hn : n < 50) (hk : k ≤ m) : expandS [] (reads m ++ [rep n k]) = .ok (reads m ++ (List.replicate n ((reads m).drop (m - k))).flatten) := by
  have h0 := expand_reads [rep n k] m 0 (by omega)
  have e1 : (List.range' 0 m).map rd = reads m := by rw [reads, List.range_eq_range']
  have e2 : reads 0 = [] := rfl
  rw [e1, e2, Nat.zero_add] at h0
  rw [h0]
  have ha : againS (reads m) n k = .ok (reads m ++ (List.replicate n ((reads m).drop (m - k))).flatten) := by
    unfold againS
    rw [reads_len, if_neg (by omega)]
    by_cases hk0 : k = 0
    · subst hk0
      rw [if_pos (by rfl : ((0 : Nat) : Int) = 0)]
      have : (reads m).drop (m - 0) = [] := List.drop_eq_nil_of_le (by rw [reads_len]; omega)
      rw [this]; simp
    · rw [if_neg (by omega), if_neg]
      · simp
      · have hk1 : (0 : Int) < k := by omega
        have : (n : Int) ≤ (4096 - (m : Int)) / k := by
          rw [Int.le_ediv_iff_mul_le hk1]
          have h1 : n * k ≤ 49 * 20 := Nat.mul_le_mul (by omega) (by omega)
          have h2 : (n : Int) * k ≤ 980 := by exact_mod_cast h1
          omega
        omega
  have hl : (reads m ++ (List.replicate n ((reads m).drop (m - k))).flatten).length ≤ 4096 := by
    have h1 : n * k ≤ 49 * 20 := Nat.mul_le_mul (by omega) (by omega)
    simp [reads_len]
    have : m - (m - k) = k := by omega
    rw [this]; omega
  unfold expandS
  have hs : stepS (reads m) (rep n k) = .ok (reads m ++ (List.replicate n ((reads m).drop (m - k))).flatten) := by
    unfold stepS
    rw [if_pos (by simp [rep])]
    show (match againS (reads m) n k with | .error k => _ | .ok out' => _) = _
    rw [ha]
    simp only []
    rw [if_neg (by omega)]
  rw [hs]
  rfl
theorem flatten_at {α : Type} (l : List α) : ∀ (n i : Nat), l ≠ [] → i < n * l.length → (List.replicate n l).flatten[i]? = l[i % l.length]?
  | 0, i, _, h => by omega
  | n + 1, i, hl, h => by
    have hp : 0 < l.length := List.length_pos_iff.2 hl
    rw [List.replicate_succ, List.flatten_cons]
    by_cases hi : i < l.length
    · rw [List.getElem?_append_left hi, Nat.mod_eq_of_lt hi]
    · rw [List.getElem?_append_right (by omega), flatten_at l n (i - l.length) hl (by rw [Nat.add_mul] at h; omega), ← Nat.mod_eq_sub_mod (by omega)]
theorem times_get {m n k i : Nat} (hk : k ≤ m) (hi : i < m + n * k) : (reads m ++ (List.replicate n ((reads m).drop (m - k))).flatten)[i]? = some (rd (wantN m k i)) := by
  unfold wantN
  by_cases h : m ≤ i
  · rw [if_pos h, List.getElem?_append_right (by rw [reads_len]; exact h), reads_len]
    have hl : ((reads m).drop (m - k)).length = k := by rw [List.length_drop, reads_len]; omega
    have hk0 : 0 < k := by
      rcases Nat.eq_zero_or_pos k with h0 | h0
      · subst h0; omega
      · exact h0
    rw [flatten_at _ n _ (by intro e; rw [e] at hl; simp at hl; omega) (by rw [hl]; omega), hl, List.getElem?_drop]
    have := Nat.mod_lt (i - m) hk0
    exact reads_get (by omega)
  · rw [if_neg h, List.getElem?_append_left (by rw [reads_len]; omega)]
    exact reads_get (by omega)
theorem times_len {m n k : Nat} (hk : k ≤ m) : (reads m ++ (List.replicate n ((reads m).drop (m - k))).flatten).length = m + n * k := by
  simp [reads_len]
  have : m - (m - k) = k := by omega
  rw [this]
theorem Ow.shape {w : World} {base : Nat} {e : TypeId} {sz m : Nat} {v : Value} {els : List (List Value)} (h : Ow w base e sz v els) (hm : els.length = m) : ∃ a c, v = .slice a m c := by
  subst hm; exact h.sl.len
theorem exp_op (v : Value) (m n k : Nat) (hm : m ≤ 20) (hn : n < 50) (hk : k ≤ m) (w : World) (hs : Sl w v 4 ((reads m ++ [rep n k]).map TOp.cells)) :
    Calls Tryd.prog 10 #[v] w fun e w' => ∃ v', e = .returned (.tuple #[v', .int .i64 0]) ∧ Sl w' v' 4 ((reads m ++ (List.replicate n ((reads m).drop (m - k))).flatten).map TOp.cells) ∧ Fr [] w w' :=
  (expand_op v _ w hs).mono fun e w' h => by
    rw [expand_times m n k hm hn hk] at h
    obtain ⟨v', h1, h2, h3⟩ := h
    exact ⟨v', h1, h2.sl, h3⟩
set_option maxHeartbeats 2000000 in
theorem times_op (a : Option Addr) (len cap : Nat) (x0 x1 : Int) (hlc : len ≤ cap) (w0 : World) (hg : GW w0) :
    Calls Tryd.prog 4 #[.slice a len cap, .agg #[.int .i64 x0, .int .i64 x1]] w0 fun e w' => e = .returned (.bool true) ∧ Fr [] w0 w' := by
  have hF := Fr.refl [] w0
  obtain ⟨m, hm, hm1, hm20⟩ : ∃ m : Nat, (if (20 : Int) < (len : Int) then (20 : Int) else (len : Int)) = (m : Int) ∧ m ≤ len ∧ m ≤ 20 := by
    by_cases h : (20 : Int) < (len : Int)
    · exact ⟨20, by rw [if_pos h]; rfl, by omega, by omega⟩
    · exact ⟨len, by rw [if_neg h], Nat.le_refl _, by omega⟩
  refine calls_of_D (n := 104) (rs := [.tmp 4]) Tryd.func4 rfl rfl rfl rfl ?_
  refine D_seq ?_
  refine D_region ?_
  refine s_box (cs := [_, _]) rfl rfl (fun b3 w1 nb3 hb3 fw => ?_)
  have lb3 := hb3.lt; replace nb3 := Nat.le_trans hF.size nb3; replace hF := hF.step0 fw; clear fw
  refine s_assign (v := (.bool false)) rfl ?_
  refine O_nil ?_
  refine D_seq ?_
  refine D_region ?_
  refine s_assign (v := (.slice none 0 0)) rfl ?_
  refine O_nil ?_
  refine D_seq ?_
  refine D_seq ?_
  refine D_region ?_
  refine s_move (v := (.slice a len cap)) rfl ?_
  refine s_move (v := (.slice a len cap)) rfl ?_
  refine s_lenL rfl und37 ?_
  refine s_min rfl rfl ?_
  refine s_sliceRaw (h := m) rfl und37 ti24 (congrArg (Value.int .i64) hm) (by omega) (fun a18 => ?_)
  refine s_lenL rfl und37 ?_
  refine s_move (v := (.int .i64 _)) rfl ?_
  refine O_nil ?_
  refine D_block ?_
  refine D_loop (S := Nat × Value) [5, 6, 20, 21, 22, 23, 24, 25, 26, 27, 28, 29] (fun s => [(5, s.2), (20, .int .i64 s.1)]) (fun s w => s.1 ≤ m ∧ Ow w w0.heap.size 27 4 s.2 ((reads s.1).map TOp.cells) ∧ Fr [] w0 w ∧ Blk w b3 [.int .i64 x0, .int .i64 x1] 22 ∧ (∀ k, s.2.ownBlock = some k → b3 ≠ k)) (fun s => m - s.1) (0, .slice none 0 0) ?_ ?_ ?_
  · exact ⟨rfl, rfl, trivial⟩
  · exact ⟨by omega, Ow.nil _ _ _ _, hF, hb3, by simp [Value.ownBlock]⟩
  clear hF
  rintro ⟨i, v5⟩ u2 w2 ⟨hi, ho5, hF, hb3, apb3_ho5⟩
  (try dsimp only at hi); (try dsimp only at ho5); (try dsimp only at hF); (try dsimp only at hb3); (try dsimp only at apb3_ho5)
  show D _ _ _ _ (upds _ [(5, v5), (20, .int .i64 i)]) _
  simp only [reads_len, List.length_map] at *
  refine D_seq ?_
  refine D_region ?_
  refine s_cmp2 rfl rfl rfl (fun h1 => ?_) (fun h1 => ?_)
  · simp only [asks] at h1
    refine O_nil ?_
    refine D_seq ?_
    refine D_condT rfl ?_
    refine D_skip ?_
    refine D_seq ?_
    refine D_block ?_
    refine D_seq ?_
    refine D_region ?_
    refine s_move (v := (.int .i64 _)) rfl ?_
    refine s_assign (v := (.int .i64 _)) rfl ?_
    refine O_nil ?_
    refine D_region ?_
    refine s_move (v := (v5)) rfl ?_
    refine s_move (v := (.int .i64 _)) rfl ?_
    refine s_buildArr (l := [(0, [(.int .i64 _)]), (1, [(.int .i64 _)])]) (rs := [_, _]) ti22 und22 ti3 ⟨rfl, rfl, by simp, rfl, rfl, by simp, trivial⟩ rfl ?_
    refine s_build (l := [(0, [(.int .i64 _)]), (1, [_, _])]) (rs := [_, _, _, _]) ti27 pl27 ⟨rfl, rfl, by simp, rfl, rfl, by simp, trivial⟩ rfl ?_
    refine s_buildSl (l := [(0, [_, _, _, _])]) (rs := [_, _, _, _]) und38 ti27 (by decide) rfl ⟨rfl, rfl, by simp, trivial⟩ rfl (fun b27 w3 nb27 hb27 fw => ?_)
    have apb27_ho5 := ho5.apart nb27
    replace ho5 := ho5.fr0 fw
    have neb3_b27 : b3 ≠ b27 := by have := hb3.lt; omega
    replace hb3 := hb3.fr0 fw
    have lb27 := hb27.lt; replace nb27 := Nat.le_trans hF.size nb27; replace hF := hF.step0 fw; clear fw
    have hz3 := hF.size
    refine s_append (v := (v5)) (u := (.slice (some ⟨b27, 0, none⟩) 1 1)) (N := 20) (base := w0.heap.size) rfl rfl und38 ti27 rfl (by decide) ho5 (hb27.sl1 rfl) (by simp [One, Value.oneCell']) (by simp [reads_len]; omega) (by decide) (by decide) hF.size (fun v28 w4 hv28n fw hat => ?_)
    have apb3_hv28 := apart_append hat apb3_ho5 hb3.lt; replace hb3 := hb3.frOw fw apb3_ho5
    have apb27_hv28 := apart_append hat apb27_ho5 hb27.lt; replace hb27 := hb27.frOw fw apb27_ho5
    replace hF := hF.stepOw fw (fun k hk => .inl (ho5.lt k hk).1)
    have hv28 := hv28n; clear hv28n; have hatv28 := hat; clear hat; have fwv28 := fw; clear fw
    refine s_assign (v := (v28)) rfl ?_
    refine O_nil ?_
    refine D_region ?_
    refine s_addi rfl rfl (by omega) ?_
    refine s_move (v := (.int .i64 _)) rfl ?_
    refine O_nil ?_
    refine ⟨⟨(i + 1, v28), ⟨rfl, rfl, trivial⟩, by repeat' (first | exact agree_over | exact agree_refl | refine agree_upd rfl ?_), ?_, ?_⟩⟩
    · refine ⟨by omega, ?_, hF, hb3, apb3_hv28⟩
      rw [reads_succ]; simpa [TOp.cells, rd] using hv28
    · omega
  · simp only [asks] at h1
    have him : i = m := by omega
    subst him
    obtain ⟨n, hn, hn50⟩ : ∃ n : Nat, (if (0 : Int) < x0 then x0 else 0) % 50 = (n : Int) ∧ n < 50 := by
      refine ⟨((if (0 : Int) < x0 then x0 else 0) % 50).toNat, ?_, ?_⟩ <;> split <;> omega
    obtain ⟨k, hk, hki⟩ : ∃ k : Nat, (if (0 : Int) < x1 then x1 else 0) % ((i : Int) + 1) = (k : Int) ∧ k ≤ i := by
      have h1 : 0 ≤ (if (0 : Int) < x1 then x1 else 0) := by split <;> omega
      have h2 := Int.emod_nonneg (if (0 : Int) < x1 then x1 else 0) (show ((i : Int) + 1) ≠ 0 by omega)
      have h3 := Int.emod_lt_of_pos (if (0 : Int) < x1 then x1 else 0) (show 0 < ((i : Int) + 1) by omega)
      exact ⟨((if (0 : Int) < x1 then x1 else 0) % ((i : Int) + 1)).toNat, by omega, by omega⟩
    obtain ⟨a5, c5, rfl⟩ := ho5.shape (m := i) (by simp)
    have hx0 : 0 ≤ (if (0 : Int) < x0 then x0 else 0) := by split <;> omega
    have hx1 : 0 ≤ (if (0 : Int) < x1 then x1 else 0) := by split <;> omega
    refine O_nil ?_
    refine D_seq ?_
    refine D_condF rfl ?_
    refine D_exit ?_
    refine D_seq ?_
    refine D_quiet mixed (by kernel_rfl) ?_
    apply QO_val (d := 30) (hd := rfl) (hlt := rfl) (hc := rfl) (hw := ⟨_, Fr.refl _ _⟩)
    · intro wq fq
      have hb3 := hb3.fr0 fq
      have ho5 := ho5.fr0 fq
      refine s_indexA (i := 0) (r := 0) rfl rfl und22 ti3 (by omega) rfl ?_
      exact O_nil AtQ_done
    apply QO_val (d := 31) (hd := rfl) (hlt := rfl) (hc := rfl) (hw := ⟨_, Fr.refl _ _⟩)
    · intro wq fq
      have hb3 := hb3.fr0 fq
      have ho5 := ho5.fr0 fq
      refine s_load1 (v := (.int .i64 _)) rfl ag3 (hb3.at .z) ?_
      exact O_nil AtQ_done
    apply QO_val (d := 32) (hd := rfl) (hlt := rfl) (hc := rfl) (hw := ⟨_, Fr.refl _ _⟩)
    · intro wq fq
      have hb3 := hb3.fr0 fq
      have ho5 := ho5.fr0 fq
      refine s_max rfl rfl ?_
      exact O_nil AtQ_done
    apply QO_val (d := 33) (hd := rfl) (hlt := rfl) (hc := rfl) (hw := ⟨_, Fr.refl _ _⟩)
    · intro wq fq
      have hb3 := hb3.fr0 fq
      have ho5 := ho5.fr0 fq
      refine s_remv (r := n) rfl rfl (by omega) hx0 hn ?_
      exact O_nil AtQ_done
    apply QO_val (d := 34) (hd := rfl) (hlt := rfl) (hc := rfl) (hw := ⟨_, Fr.refl _ _⟩)
    · intro wq fq
      have hb3 := hb3.fr0 fq
      have ho5 := ho5.fr0 fq
      refine s_indexA (i := 1) (r := 1) rfl rfl und22 ti3 (by omega) rfl ?_
      exact O_nil AtQ_done
    apply QO_val (d := 35) (hd := rfl) (hlt := rfl) (hc := rfl) (hw := ⟨_, Fr.refl _ _⟩)
    · intro wq fq
      have hb3 := hb3.fr0 fq
      have ho5 := ho5.fr0 fq
      refine s_load1 (v := (.int .i64 _)) rfl ag3 (hb3.at (.s .z)) ?_
      exact O_nil AtQ_done
    apply QO_val (d := 36) (hd := rfl) (hlt := rfl) (hc := rfl) (hw := ⟨_, Fr.refl _ _⟩)
    · intro wq fq
      have hb3 := hb3.fr0 fq
      have ho5 := ho5.fr0 fq
      refine s_max rfl rfl ?_
      exact O_nil AtQ_done
    apply QO_val (d := 37) (hd := rfl) (hlt := rfl) (hc := rfl) (hw := ⟨_, Fr.refl _ _⟩)
    · intro wq fq
      have hb3 := hb3.fr0 fq
      have ho5 := ho5.fr0 fq
      refine s_move (v := (.slice a5 i c5)) rfl ?_
      exact O_nil AtQ_done
    apply QO_val (d := 38) (hd := rfl) (hlt := rfl) (hc := rfl) (hw := ⟨_, Fr.refl _ _⟩)
    · intro wq fq
      have hb3 := hb3.fr0 fq
      have ho5 := ho5.fr0 fq
      refine s_lenSl (v := .slice a5 i c5) (m := i) rfl ho5.sl (by simp) und38 ?_
      exact O_nil AtQ_done
    apply QO_val (d := 39) (hd := rfl) (hlt := rfl) (hc := rfl) (hw := ⟨_, Fr.refl _ _⟩)
    · intro wq fq
      have hb3 := hb3.fr0 fq
      have ho5 := ho5.fr0 fq
      refine s_addi rfl rfl (by omega) ?_
      exact O_nil AtQ_done
    apply QO_val (d := 40) (hd := rfl) (hlt := rfl) (hc := rfl) (hw := ⟨_, Fr.refl _ _⟩)
    · intro wq fq
      have hb3 := hb3.fr0 fq
      have ho5 := ho5.fr0 fq
      refine s_remv (r := k) rfl rfl (by omega) hx1 hk ?_
      exact O_nil AtQ_done
    apply QO_val (d := 7) (hd := rfl) (hlt := rfl) (hc := rfl) (hw := ⟨_, Fr.refl _ _⟩)
    · intro wq fq
      have hb3 := hb3.fr0 fq
      have ho5 := ho5.fr0 fq
      refine s_assign (v := (.int .i64 _)) rfl ?_
      exact O_nil AtQ_done
    apply QO_val (d := 8) (hd := rfl) (hlt := rfl) (hc := rfl) (hw := ⟨_, Fr.refl _ _⟩)
    · intro wq fq
      have hb3 := hb3.fr0 fq
      have ho5 := ho5.fr0 fq
      refine s_assign (v := (.int .i64 _)) rfl ?_
      exact O_nil AtQ_done
    refine QO_nil (fun w3 fw => ?_)
    replace hb3 := hb3.fr0 fw
    replace ho5 := ho5.fr0 fw
    replace hF := hF.step0 fw
    clear fw
    refine D_seq ?_
    refine D_region ?_
    refine s_move (v := (.slice a5 i c5)) rfl ?_
    have hz3 := hF.size
    refine s_append (v := (.slice none 0 0)) (u := (.slice a5 i c5)) (N := 20) (base := w0.heap.size) rfl rfl und38 ti27 rfl (by decide) (Ow.nil _ _ _ _) ho5.sl (ops_one (reads i)) (by simp [reads_len]; omega) (by decide) (by decide) hF.size (fun v43 w4 hv43n fw hat => ?_)
    have apb3_hv43 : ∀ k, v43.ownBlock = some k → b3 ≠ k := apart_append hat (by simp [Value.ownBlock]) hb3.lt; replace hb3 := hb3.frOw fw (by simp [Value.ownBlock])
    replace ho5 := ho5.fr0 fw
    replace hF := hF.stepOw fw (by simp [Value.ownBlock])
    have hv43 := hv43n; clear hv43n; have hatv43 := hat; clear hat; have fwv43 := fw; clear fw
    refine s_move (v := (.int .i64 _)) rfl ?_
    refine s_move (v := (.int .i64 _)) rfl ?_
    refine s_buildArr (l := [(0, [(.int .i64 _)]), (1, [(.int .i64 _)])]) (rs := [_, _]) ti22 und22 ti3 ⟨rfl, rfl, by simp, rfl, rfl, by simp, trivial⟩ rfl ?_
    refine s_build (l := [(0, [(.int .i64 _)]), (1, [_, _])]) (rs := [_, _, _, _]) ti27 pl27 ⟨rfl, rfl, by simp, rfl, rfl, by simp, trivial⟩ rfl ?_
    refine s_buildSl (l := [(0, [_, _, _, _])]) (rs := [_, _, _, _]) und38 ti27 (by decide) rfl ⟨rfl, rfl, by simp, trivial⟩ rfl (fun b48 w5 nb48 hb48 fw => ?_)
    have apb48_ho5 := ho5.apart nb48
    replace ho5 := ho5.fr0 fw
    have apb48_hv43 := hv43.apart nb48
    replace hv43 := hv43.fr0 fw
    have neb3_b48 : b3 ≠ b48 := by have := hb3.lt; omega
    replace hb3 := hb3.fr0 fw
    have lb48 := hb48.lt; replace nb48 := Nat.le_trans hF.size nb48; replace hF := hF.step0 fw; clear fw
    have hz5 := hF.size
    refine s_append (v := (v43)) (u := (.slice (some ⟨b48, 0, none⟩) 1 1)) (N := 21) (base := w0.heap.size) rfl rfl und38 ti27 rfl (by decide) hv43 (hb48.sl1 rfl) (by simp [One, Value.oneCell']) (by simp [reads_len]; omega) (by decide) (by decide) hF.size (fun v49 w6 hv49n fw hat => ?_)
    have apb3_hv49 := apart_append hat apb3_hv43 hb3.lt; replace hb3 := hb3.frOw fw apb3_hv43
    have apb48_hv49 := apart_append hat apb48_hv43 hb48.lt; replace hb48 := hb48.frOw fw apb48_hv43
    replace hF := hF.stepOw fw (fun k hk => .inl (hv43.lt k hk).1)
    have hv49 := hv49n; clear hv49n; have hatv49 := hat; clear hat; have fwv49 := fw; clear fw
    have hs49 : Sl w6 v49 4 ((reads i ++ [rep n k]).map TOp.cells) := by
      have := hv49.sl
      simpa [TOp.cells, rep] using this
    have hR := times_len (m := i) (n := n) (k := k) hki
    have hget : ∀ j, j < i + n * k → _ := fun j hj => times_get (m := i) (n := n) (k := k) (i := j) hki hj
    refine s_call (av := [(v49)]) rfl ca10 (Calls.mono (exp_op v49 i n k (by omega) hn50 hki w6 hs49) ?_)
    rintro _ w7 ⟨v9, rfl, hs9, fw⟩
    refine ⟨_, rfl, ?_⟩
    replace hb3 := hb3.fr0 fw
    replace hb48 := hb48.fr0 fw
    replace hv49 := hv49.fr0 fw
    replace hF := hF.step0 fw; clear fw
    obtain ⟨R, hRe⟩ : ∃ R, R = reads i ++ (List.replicate n ((reads i).drop (i - k))).flatten := ⟨_, rfl⟩
    rw [← hRe] at hs9 hR
    simp only [← hRe] at hget
    clear hRe hs49
    have g9 := Fr.refl [] w7
    refine s_move (v := (.tuple _)) rfl ?_
    refine s_extract rfl .z ?_
    refine s_extract rfl (.s .z) ?_
    refine s_assign (v := (v9)) rfl ?_
    refine s_assign (v := (.int .i64 _)) rfl ?_
    refine O_nil ?_
    refine D_seq ?_
    refine D_seq ?_
    refine D_region ?_
    refine s_call (av := []) rfl ca7 (Calls.mono (wakes_op _ (hg.fr0 hF)) ?_)
    rintro _ w8 ⟨rfl, fw⟩
    refine ⟨_, rfl, ?_⟩
    replace hb3 := hb3.fr0 fw
    replace hb48 := hb48.fr0 fw
    replace hv49 := hv49.fr0 fw
    replace g9 := g9.step0 fw
    replace hF := hF.step0 fw; clear fw
    refine s_not (b := true) rfl ?_
    refine s_move (v := (.bool false)) rfl ?_
    refine O_want rfl ?_
    refine s_move (v := (.int .i64 _)) rfl ?_
    refine O_want rfl ?_
    refine s_cmpF rfl rfl rfl (show ¬ ((0 : Int) ≠ 0) from fun h => h rfl) ?_
    have hnk : 0 ≤ ((n : Int) * (k : Int)) ∧ ((n : Int) * (k : Int)) ≤ 980 ∧ ((n : Int) * (k : Int)) = ((n * k : Nat) : Int) := by
      have h1 : n * k ≤ 49 * 20 := Nat.mul_le_mul (by omega) (by omega)
      rw [← Int.natCast_mul]
      omega
    refine s_pickF (v := (.bool false)) rfl rfl ?_
    refine s_move (v := (.bool false)) rfl ?_
    refine O_want rfl ?_
    refine s_move (v := (v9)) rfl ?_
    refine O_want rfl ?_
    refine s_lenSl (v := v9) (m := R.length) rfl (hs9.fr0 g9) (by simp) und38 ?_
    refine O_want rfl ?_
    refine s_move (v := (.slice a5 i c5)) rfl ?_
    refine O_want rfl ?_
    refine s_lenL rfl und38 ?_
    refine O_want rfl ?_
    refine s_move (v := (.int .i64 _)) rfl ?_
    refine O_want rfl ?_
    refine s_move (v := (.int .i64 _)) rfl ?_
    refine O_want rfl ?_
    refine s_muli rfl rfl (by omega) ?_
    refine O_want rfl ?_
    refine s_addi rfl rfl (by omega) ?_
    refine O_want rfl ?_
    refine s_cmpF rfl rfl rfl (show ¬ (((R.length : Nat) : Int) ≠ ((i : Nat) : Int) + (n : Int) * (k : Int)) by omega) ?_
    refine s_pickF (v := (.bool false)) rfl rfl ?_
    refine O_nil ?_
    refine D_condF rfl ?_
    refine D_skip ?_
    refine D_seq ?_
    refine D_seq ?_
    refine D_region ?_
    refine s_move (v := (v9)) rfl ?_
    refine s_lenSl (v := v9) (m := R.length) rfl (hs9.fr0 g9) (by simp) und38 ?_
    refine s_move (v := (.int .i64 _)) rfl ?_
    refine O_nil ?_
    refine D_block ?_
    refine D_loop (S := Nat) [4, 11, 12, 13, 72, 73, 74, 75, 76, 77, 78, 79, 80, 81, 82, 83, 84, 85, 86, 87, 88, 89, 90, 91, 92, 93, 94, 95, 96, 97, 98, 99, 100, 101, 102, 103] (fun s => [(72, .int .i64 s)]) (fun s w => s ≤ R.length ∧ Fr [] w0 w ∧ Sl w v9 4 (R.map TOp.cells)) (fun s => R.length - s) 0 ?_ ?_ ?_
    · exact ⟨rfl, trivial⟩
    · exact ⟨by omega, hF, hs9.fr0 g9⟩
    clear hF
    rintro j u9 w9 ⟨hj, hF, hs9⟩
    (try dsimp only at hj); (try dsimp only at hF); (try dsimp only at hs9)
    show D _ _ _ _ (upds _ [(72, .int .i64 j)]) _
    have g10 := Fr.refl [] w9
    refine D_seq ?_
    refine D_region ?_
    refine s_cmp2 rfl rfl rfl (fun h2 => ?_) (fun h2 => ?_)
    · simp only [asks] at h2
      have hjl : j < R.length := by omega
      refine O_nil ?_
      refine D_seq ?_
      refine D_condT rfl ?_
      refine D_skip ?_
      refine D_seq ?_
      refine D_block ?_
      refine D_seq ?_
      refine D_region ?_
      refine s_move (v := (.int .i64 _)) rfl ?_
      refine s_indexSl (v := v9) (els := R.map TOp.cells) (i := j) rfl rfl rfl hs9 und38 ti27 (by simpa using hjl) (fun b75 o75 hbl hrow => ?_)
      refine s_loadA (vs := [_, _, _, _]) rfl ag27 ti27 rfl (Row.sub (hrow (rd (wantN i k j)).cells (by simp [hget j (by omega)])) 0 4 rfl (by omega)) ?_
      refine s_alloc ti27 (fun b12 w10 nb12 hb12 fw => ?_)
      have ng10_b12 := Nat.le_trans g10.size nb12; replace g10 := g10.step0 fw
      have lb12 := hb12.lt; replace nb12 := Nat.le_trans hF.size nb12; replace hF := hF.step0 fw; clear fw
      refine s_assign (v := (.int .i64 _)) rfl ?_
      refine s_store (vs := [_, _, _, _]) (rs := [_, _, _, _]) rfl rfl rfl (by simp [One, Value.oneCell']) ti27 rfl hb12 (by simp) rfl (fun w11 hb12n fw => ?_)
      replace hF := hF.step fw (by intro i hi; simp at hi; subst hi; first | (right; omega) | (left; simp; done))
      replace g10 := g10.step fw (by intro i hi; simp at hi; subst hi; first | (right; omega) | (left; simp; done))
      clear hb12; have hb12 := hb12n; clear hb12n; clear fw
      refine O_nil ?_
      refine D_seq ?_
      refine D_region ?_
      refine s_move (v := (.int .i64 _)) rfl ?_
      refine s_assign (v := (.int .i64 _)) rfl ?_
      refine O_nil ?_
      refine D_seq ?_
      refine D_seq ?_
      refine D_region ?_
      refine s_move (v := (.int .i64 _)) rfl ?_
      refine s_move (v := (.slice a5 i c5)) rfl ?_
      refine s_lenL rfl und38 ?_
      refine s_cmp2 rfl rfl rfl (fun h3 => ?_) (fun h3 => ?_)
      · simp only [asks] at h3
        have hk0 : 0 < k := by
          rcases Nat.eq_zero_or_pos k with h0 | h0
          · subst h0; simp at hR; omega
          · exact h0
        refine O_nil ?_
        refine D_condT rfl ?_
        refine D_region ?_
        refine s_move (v := (.slice a5 i c5)) rfl ?_
        refine s_lenL rfl und38 ?_
        refine s_move (v := (.int .i64 _)) rfl ?_
        refine s_subi rfl rfl (by omega) ?_
        refine s_move (v := (.int .i64 _)) rfl ?_
        refine s_move (v := (.slice a5 i c5)) rfl ?_
        refine s_lenL rfl und38 ?_
        refine s_subi rfl rfl (by omega) ?_
        refine s_move (v := (.int .i64 _)) rfl ?_
        refine s_remi rfl rfl (by omega) (by omega) ?_
        have hw : ((wantN i k j : Nat) : Int) = ((i : Int) - (k : Int)) + ((j : Int) - (i : Int)) % (k : Int) := by
          unfold wantN
          rw [if_pos (by omega)]
          have e1 : ((i - k : Nat) : Int) = (i : Int) - (k : Int) := by omega
          have e2 : ((j - i : Nat) : Int) = (j : Int) - (i : Int) := by omega
          rw [Int.natCast_add, Int.natCast_emod, e1, e2]
        have hmod := Int.emod_lt_of_pos ((j : Int) - (i : Int)) (show (0 : Int) < (k : Int) by omega)
        have hmod0 := Int.emod_nonneg ((j : Int) - (i : Int)) (show (k : Int) ≠ 0 by omega)
        refine s_addi rfl rfl (by omega) ?_
        refine s_assign (v := (.int .i64 _)) rfl ?_
        refine O_nil ?_
        refine D_seq ?_
        refine D_region ?_
        refine s_fieldAddr (off := 0) (r := 0) rfl fo27_0 rfl ?_
        refine s_load1 (v := (.int .i64 _)) rfl ag25 (hb12.at .z) ?_
        refine s_cmpF rfl rfl rfl (show ¬ ((3 : Int) ≠ 3) from fun h => h rfl) ?_
        refine s_move (v := (.bool false)) rfl ?_
        refine O_want rfl ?_
        refine s_fieldAddr (off := 1) (r := 1) rfl fo27_1 rfl ?_
        refine O_want rfl ?_
        refine s_indexA (i := 0) (r := 1) rfl rfl und22 ti3 (by omega) rfl ?_
        refine O_want rfl ?_
        refine s_load1 (v := (.int .i64 _)) rfl ag3 (hb12.at (.s .z)) ?_
        refine O_want rfl ?_
        refine s_move (v := (.int .i64 _)) rfl ?_
        refine O_want rfl ?_
        refine s_cmpF rfl rfl rfl (show ¬ (((wantN i k j : Nat) : Int) ≠ _) from fun h => h hw) ?_
        refine s_pickF (v := (.bool false)) rfl rfl ?_
        refine O_nil ?_
        refine D_condF rfl ?_
        refine D_skip ?_
        refine D_region ?_
        refine s_addi rfl rfl (by omega) ?_
        refine s_move (v := (.int .i64 _)) rfl ?_
        refine O_nil ?_
        refine ⟨⟨j + 1, ⟨rfl, trivial⟩, by repeat' (first | exact agree_over | exact agree_refl | refine agree_upd rfl ?_), ?_, ?_⟩⟩
        · exact ⟨hjl, hF, hs9.fr0 g10⟩
        · omega
      · simp only [asks] at h3
        have hw : ((wantN i k j : Nat) : Int) = (j : Int) := by
          unfold wantN
          rw [if_neg (by omega)]
        refine O_nil ?_
        refine D_condF rfl ?_
        refine D_skip ?_
        refine D_seq ?_
        refine D_region ?_
        refine s_fieldAddr (off := 0) (r := 0) rfl fo27_0 rfl ?_
        refine s_load1 (v := (.int .i64 _)) rfl ag25 (hb12.at .z) ?_
        refine s_cmpF rfl rfl rfl (show ¬ ((3 : Int) ≠ 3) from fun h => h rfl) ?_
        refine s_move (v := (.bool false)) rfl ?_
        refine O_want rfl ?_
        refine s_fieldAddr (off := 1) (r := 1) rfl fo27_1 rfl ?_
        refine O_want rfl ?_
        refine s_indexA (i := 0) (r := 1) rfl rfl und22 ti3 (by omega) rfl ?_
        refine O_want rfl ?_
        refine s_load1 (v := (.int .i64 _)) rfl ag3 (hb12.at (.s .z)) ?_
        refine O_want rfl ?_
        refine s_move (v := (.int .i64 _)) rfl ?_
        refine O_want rfl ?_
        refine s_cmpF rfl rfl rfl (show ¬ (((wantN i k j : Nat) : Int) ≠ _) from fun h => h hw) ?_
        refine s_pickF (v := (.bool false)) rfl rfl ?_
        refine O_nil ?_
        refine D_condF rfl ?_
        refine D_skip ?_
        refine D_region ?_
        refine s_addi rfl rfl (by omega) ?_
        refine s_move (v := (.int .i64 _)) rfl ?_
        refine O_nil ?_
        refine ⟨⟨j + 1, ⟨rfl, trivial⟩, by repeat' (first | exact agree_over | exact agree_refl | refine agree_upd rfl ?_), ?_, ?_⟩⟩
        · exact ⟨hjl, hF, hs9.fr0 g10⟩
        · omega
    · simp only [asks] at h2
      refine O_nil ?_
      refine D_seq ?_
      refine D_condF rfl ?_
      refine D_exit ?_
      refine D_seq ?_
      refine D_region ?_
      refine s_assign (v := (.bool true)) rfl ?_
      refine O_nil ?_
      refine D_ret ?_
      refine ret1 (v := (.bool true)) rfl ?_
      exact ⟨rfl, hF⟩
end Go.Proofs.YtelnfdpbcbohdaaDoor

