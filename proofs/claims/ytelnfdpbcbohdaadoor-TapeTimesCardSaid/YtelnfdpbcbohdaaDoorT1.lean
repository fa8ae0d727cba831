/-
  The ops of a script, expanded: walks. Own work.
-/
import Derived.Test.YtelnfdpbcbohdaaDoorFx
import Derived.Test.YtelnfdpbcbohdaaDoorProg
import Derived.KernelRfl
import Derived.Lib.Hide
namespace Go.Proofs.YtelnfdpbcbohdaaDoor
open Go Go.RowKit
set_option linter.unusedVariables false
set_option maxRecDepth 100000

/-- An op as it lies in memory. -/
structure TOp where
  kind : Int
  n0 : Int
  n1 : Int
  text : ByteArray
def TOp.cells (o : TOp) : List Value := [.int .i64 o.kind, .int .i64 o.n0, .int .i64 o.n1, .string o.text]

theorem ops_one (l : List TOp) : ∀ e ∈ l.map TOp.cells, ∀ c ∈ e, One c := by
  intro e he c hc
  obtain ⟨o, _, rfl⟩ := List.mem_map.1 he
  simp [TOp.cells] at hc
  rcases hc with rfl | rfl | rfl | rfl <;> rfl

theorem clone_op (v : Value) (l : List TOp) (w0 : World) (hl : l.length ≤ 4096) (hs : Sl w0 v 4 (l.map TOp.cells)) (hne : l ≠ []) :
    Calls Tryd.prog 32 #[v] w0 fun e w' => ∃ v', e = .returned v' ∧ Ow w' w0.heap.size 27 4 v' (l.map TOp.cells) ∧ Fr [] w0 w' := by
  have hF := Fr.refl [] w0
  obtain ⟨ad, c, rfl⟩ := hs.nonnil (by simpa using hne)
  refine calls_of_D (n := 8) (rs := [.tmp 2]) Tryd.func32 rfl rfl rfl rfl ?_
  refine D_seq ?_
  refine D_region ?_
  refine s_assign (v := (.slice none 0 0)) rfl ?_
  refine O_nil ?_
  refine D_seq ?_
  refine D_seq ?_
  refine D_region ?_
  refine s_move (v := (.slice (some ad) (l.map TOp.cells).length c)) rfl ?_
  refine s_nilSl rfl rfl und38 (b := false) rfl ?_
  refine O_nil ?_
  refine D_condF rfl ?_
  refine D_skip ?_
  refine D_seq ?_
  refine D_region ?_
  refine s_buildSl (l := []) (rs := []) und38 ti27 (by decide) rfl trivial rfl (fun b5 w1 nb5 hb5 fw => ?_)
  have lb5 := hb5.lt; replace nb5 := Nat.le_trans hF.size nb5; replace hF := hF.step0 fw; clear fw
  refine s_move (v := (.slice (some ad) (l.map TOp.cells).length c)) rfl ?_
  have ho : Ow w1 w0.heap.size 27 4 (.slice (some ⟨b5, 0, none⟩) 0 0) [] := hb5.ow nb5 (by simp) rfl (by simp [maxLen]) rfl
  have hz1 := hF.size
  refine s_append (v := (.slice (some ⟨b5, 0, none⟩) 0 0)) (u := (.slice (some ad) (l.map TOp.cells).length c)) (N := 4096) (base := w0.heap.size) rfl rfl und38 ti27 rfl (by decide) ho (hs.fr0 hF) (ops_one l) (by simpa using hl) (by decide) (by decide) hF.size (fun v1 w2 hv1n fw hat => ?_)
  replace hF := hF.stepOw fw (fun k hk => .inl (ho.lt k hk).1)
  have hv1 := hv1n; clear hv1n; have hatv1 := hat; clear hat; have fwv1 := fw; clear fw
  refine s_assign (v := (v1)) rfl ?_
  refine O_nil ?_
  refine D_ret ?_
  refine ret1 (v := (v1)) rfl ?_
  exact ⟨_, rfl, by simpa using hv1, hF⟩

/-- What the last ones of a list come to, behind it so many times; or the error's number. -/
def againS (l : List TOp) (times last : Int) : Except Int (List TOp) :=
  if times < 0 ∨ last < 0 ∨ (l.length : Int) < last then .error 2
  else if last = 0 then .ok l
  else if (4096 - (l.length : Int)) / last < times then .error 10
  else .ok (l ++ (List.replicate times.toNat (l.drop (l.length - last.toNat))).flatten)
def againR (w : World) (base : Nat) (v : Value) (r : Except Int (List TOp)) (e : Ending) (w' : World) : Prop :=
  match r with
  | .error k => e = .returned (.tuple #[.slice none 0 0, .int .i64 k]) ∧ Fr [] w w'
  | .ok l => ∃ v', e = .returned (.tuple #[v', .int .i64 0]) ∧ Ow w' base 27 4 v' (l.map TOp.cells) ∧ Fr v.ownBlock.toList w w' ∧ (v'.ownBlock = v.ownBlock ∨ ∀ k, v'.ownBlock = some k → w.heap.size ≤ k)

theorem again_op (base : Nat) (v : Value) (l : List TOp) (times last : Int) (w0 : World) (hl : l.length ≤ 4096) (hb : base ≤ w0.heap.size) (ho : Ow w0 base 27 4 v (l.map TOp.cells)) :
    Calls Tryd.prog 21 #[v, .int .i64 times, .int .i64 last] w0 (againR w0 base v (againS l times last)) := by
  have hF := Fr.refl [] w0
  have hs := ho.sl
  refine calls_of_D (n := 46) (rs := [.tmp 6, .tmp 7]) Tryd.func21 rfl rfl rfl rfl ?_
  refine D_seq ?_
  refine D_region ?_
  refine s_assign (v := (.slice none 0 0)) rfl ?_
  refine s_assign (v := (.int .i64 _)) rfl ?_
  refine O_nil ?_
  refine D_seq ?_
  refine D_seq ?_
  refine D_region ?_
  refine s_move (v := (.int .i64 _)) rfl ?_
  refine s_cmp2 rfl rfl rfl (fun h1 => ?_) (fun h1 => ?_)
  · simp only [asks] at h1
    refine s_move (v := (.bool true)) rfl ?_
    refine O_pass rfl rfl ?_
    refine O_pass rfl rfl ?_
    refine s_pickT (v := (.bool true)) rfl rfl ?_
    refine s_move (v := (.bool true)) rfl ?_
    refine O_pass rfl rfl ?_
    refine O_pass rfl rfl ?_
    refine O_pass rfl rfl ?_
    refine O_pass rfl rfl ?_
    refine s_pickT (v := (.bool true)) rfl rfl ?_
    refine O_nil ?_
    refine D_condT rfl ?_
    refine D_seq ?_
    refine D_region ?_
    refine s_assign (v := (.slice none 0 0)) rfl ?_
    refine s_assign (v := (.int .i64 _)) rfl ?_
    refine O_nil ?_
    refine D_ret ?_
    refine ret2 (v := (.slice none 0 0)) (x := (.int .i64 _)) rfl rfl ?_
    unfold againS; rw [if_pos (.inl h1)]; exact ⟨rfl, hF⟩
  · simp only [asks] at h1
    refine s_move (v := (.bool false)) rfl ?_
    refine O_want rfl ?_
    refine s_move (v := (.int .i64 _)) rfl ?_
    refine O_want rfl ?_
    refine s_cmp2 rfl rfl rfl (fun h2 => ?_) (fun h2 => ?_)
    · simp only [asks] at h2
      refine s_pickF (v := (.bool true)) rfl rfl ?_
      refine s_move (v := (.bool true)) rfl ?_
      refine O_pass rfl rfl ?_
      refine O_pass rfl rfl ?_
      refine O_pass rfl rfl ?_
      refine O_pass rfl rfl ?_
      refine s_pickT (v := (.bool true)) rfl rfl ?_
      refine O_nil ?_
      refine D_condT rfl ?_
      refine D_seq ?_
      refine D_region ?_
      refine s_assign (v := (.slice none 0 0)) rfl ?_
      refine s_assign (v := (.int .i64 _)) rfl ?_
      refine O_nil ?_
      refine D_ret ?_
      refine ret2 (v := (.slice none 0 0)) (x := (.int .i64 _)) rfl rfl ?_
      unfold againS; rw [if_pos (.inr (.inl h2))]; exact ⟨rfl, hF⟩
    · simp only [asks] at h2
      refine s_pickF (v := (.bool false)) rfl rfl ?_
      refine s_move (v := (.bool false)) rfl ?_
      refine O_want rfl ?_
      refine s_move (v := (.int .i64 _)) rfl ?_
      refine O_want rfl ?_
      refine s_move (v := (v)) rfl ?_
      refine O_want rfl ?_
      refine s_lenSl (v := v) (m := l.length) rfl (hs.fr0 hF) (by simp) und38 ?_
      refine O_want rfl ?_
      refine s_cmp2 rfl rfl rfl (fun h3 => ?_) (fun h3 => ?_)
      · simp only [asks] at h3
        refine s_pickF (v := (.bool true)) rfl rfl ?_
        refine O_nil ?_
        refine D_condT rfl ?_
        refine D_seq ?_
        refine D_region ?_
        refine s_assign (v := (.slice none 0 0)) rfl ?_
        refine s_assign (v := (.int .i64 _)) rfl ?_
        refine O_nil ?_
        refine D_ret ?_
        refine ret2 (v := (.slice none 0 0)) (x := (.int .i64 _)) rfl rfl ?_
        unfold againS; rw [if_pos (.inr (.inr h3))]; exact ⟨rfl, hF⟩
      · simp only [asks] at h3
        refine s_pickF (v := (.bool false)) rfl rfl ?_
        refine O_nil ?_
        refine D_condF rfl ?_
        refine D_skip ?_
        refine D_seq ?_
        refine D_seq ?_
        refine D_region ?_
        refine s_move (v := (.int .i64 _)) rfl ?_
        refine s_cmp2 rfl rfl rfl (fun h4 => ?_) (fun h4 => ?_)
        · simp only [asks] at h4
          refine O_nil ?_
          refine D_condT rfl ?_
          refine D_seq ?_
          refine D_region ?_
          refine s_move (v := (v)) rfl ?_
          refine s_assign (v := (v)) rfl ?_
          refine s_assign (v := (.int .i64 _)) rfl ?_
          refine O_nil ?_
          refine D_ret ?_
          refine ret2 (v := (v)) (x := (.int .i64 _)) rfl rfl ?_
          unfold againS
          rw [if_neg (by omega), if_pos h4]
          exact ⟨v, rfl, ho.fr0 hF, hF.mono (by simp), .inl rfl⟩
        · simp only [asks] at h4
          refine O_nil ?_
          refine D_condF rfl ?_
          refine D_skip ?_
          refine D_seq ?_
          refine D_seq ?_
          refine D_region ?_
          refine s_move (v := (.int .i64 _)) rfl ?_
          refine s_move (v := (v)) rfl ?_
          refine s_lenSl (v := v) (m := l.length) rfl (hs.fr0 hF) (by simp) und38 ?_
          refine s_subi rfl rfl (by omega) ?_
          refine s_move (v := (.int .i64 _)) rfl ?_
          refine s_quoi rfl rfl (by omega) (by omega) (by omega) ?_
          refine s_cmp2 rfl rfl rfl (fun h5 => ?_) (fun h5 => ?_)
          · simp only [asks] at h5
            refine O_nil ?_
            refine D_condT rfl ?_
            refine D_seq ?_
            refine D_region ?_
            refine s_assign (v := (.slice none 0 0)) rfl ?_
            refine s_assign (v := (.int .i64 _)) rfl ?_
            refine O_nil ?_
            refine D_ret ?_
            refine ret2 (v := (.slice none 0 0)) (x := (.int .i64 _)) rfl rfl ?_
            unfold againS
            rw [if_neg (by omega), if_neg h4, if_pos h5]
            exact ⟨rfl, hF⟩
          · simp only [asks] at h5
            refine O_nil ?_
            refine D_condF rfl ?_
            refine D_skip ?_
            refine D_seq ?_
            refine D_region ?_
            refine s_move (v := (v)) rfl ?_
            refine s_move (v := (v)) rfl ?_
            refine s_lenSl (v := v) (m := l.length) rfl (hs.fr0 hF) (by simp) und38 ?_
            refine s_move (v := (.int .i64 _)) rfl ?_
            refine s_subi rfl rfl (by omega) ?_
            have e1 : (l.length : Int) - last = ((l.length - last.toNat : Nat) : Int) := by omega
            refine s_sliceSl (v := v) (l := l.length - last.toNat) (h := (l.map TOp.cells).length) rfl (hs.fr0 hF) und38 ti27 (congrArg (Value.int .i64) e1) rfl (by simp) (Nat.le_refl _) (fun v6 hs6 _ => ?_)
            have hs6' : Sl w0 v6 4 ((l.drop (l.length - last.toNat)).map TOp.cells) := by
              have h := hs6
              rw [List.take_length] at h
              rw [List.map_drop]; exact h
            refine s_call (av := [(v6)]) rfl ca32 (Calls.mono (clone_op v6 (l.drop (l.length - last.toNat)) _ (by simp; omega) hs6' (by intro h; have := congrArg List.length h; simp at this; omega)) ?_)
            rintro _ w1 ⟨v7, rfl, ho7, fw⟩
            refine ⟨_, rfl, ?_⟩
            replace hF := hF.step0 fw; clear fw
            refine s_assign (v := (v7)) rfl ?_
            refine O_nil ?_
            refine D_seq ?_
            refine D_seq ?_
            refine D_region ?_
            refine s_move (v := (.int .i64 _)) rfl ?_
            refine s_move (v := (.int .i64 _)) rfl ?_
            refine O_nil ?_
            refine D_block ?_
            have ht : times ≤ 4096 := by
              have := Int.ediv_le_self (a := 4096 - (l.length : Int)) last (by omega)
              omega
            refine D_loop (S := Nat × Value) [0, 39, 40, 41, 42, 43, 44] (fun s => [(0, s.2), (39, .int .i64 s.1)]) (fun s w => (s.1 : Int) ≤ times ∧ Ow w base 27 4 s.2 ((l ++ (List.replicate s.1 (l.drop (l.length - last.toNat))).flatten).map TOp.cells) ∧ Fr v.ownBlock.toList w0 w ∧ Ow w w0.heap.size 27 4 v7 ((l.drop (l.length - last.toNat)).map TOp.cells) ∧ Apart v7 s.2 ∧ (s.2.ownBlock = v.ownBlock ∨ ∀ k, s.2.ownBlock = some k → w0.heap.size ≤ k)) (fun s => times.toNat - s.1) (0, v) ?_ ?_ ?_
            · exact ⟨rfl, rfl, trivial⟩
            · exact ⟨by omega, by simpa using ho.fr0 hF, hF.mono (by simp), ho7, ho7.apartOf (fun k hk => (ho.lt k hk).2), .inl rfl⟩
            clear hF
            rintro ⟨k, v8⟩ u2 w2 ⟨hk, ho8, hF, ho7, ha8, hat8⟩
            (try dsimp only at hk); (try dsimp only at ho8); (try dsimp only at hF); (try dsimp only at ho7); (try dsimp only at ha8); (try dsimp only at hat8)
            show D _ _ _ _ (upds _ [(0, v8), (39, .int .i64 k)]) _
            refine D_seq ?_
            refine D_region ?_
            refine s_cmp2 rfl rfl rfl (fun h6 => ?_) (fun h6 => ?_)
            · simp only [asks] at h6
              have hdl : ((l.drop (l.length - last.toNat)).length : Int) = last := by simp; omega
              have hbnd : (l ++ (List.replicate k (l.drop (l.length - last.toNat))).flatten).length + (l.drop (l.length - last.toNat)).length ≤ 4096 := by
                have hflen : (List.replicate k (l.drop (l.length - last.toNat))).flatten.length = k * (l.drop (l.length - last.toNat)).length := by simp
                rw [List.length_append, hflen]
                have h6' : (k : Int) + 1 ≤ (4096 - (l.length : Int)) / last := by omega
                have := Int.mul_le_of_le_ediv (by omega : 0 < last) h6'
                generalize (l.drop (l.length - last.toNat)).length = m at hdl ⊢
                subst hdl
                have e : ((k : Int) + 1) * (m : Int) = ((k * m + m : Nat) : Int) := by push_cast; rw [Int.add_mul]; omega
                rw [e] at this
                omega
              refine O_nil ?_
              refine D_seq ?_
              refine D_condT rfl ?_
              refine D_skip ?_
              refine D_seq ?_
              refine D_block ?_
              refine D_region ?_
              refine s_move (v := (v8)) rfl ?_
              refine s_move (v := (v7)) rfl ?_
              have hz2 := hF.size
              refine s_append (v := (v8)) (u := (v7)) (N := 4096) (base := base) rfl rfl und38 ti27 rfl (by decide) ho8 ho7.sl (ops_one _) (by simpa using hbnd) (by decide) (by decide) (Nat.le_trans hb hF.size) (fun v9 w3 hv9n fw hat => ?_)
              replace hF := hF.stepOw fw (fun k hk => by rcases hat8 with h | h; exact .inr (by rw [← h, hk]; simp); exact .inl (h k hk))
              have hv9 := hv9n; clear hv9n; have hatv9 := hat; clear hat; have fwv9 := fw; clear fw
              refine s_assign (v := (v9)) rfl ?_
              refine O_nil ?_
              refine D_region ?_
              refine s_addi rfl rfl (by omega) ?_
              refine s_move (v := (.int .i64 _)) rfl ?_
              refine O_nil ?_
              refine ⟨⟨(k + 1, v9), ⟨rfl, rfl, trivial⟩, by repeat' (first | exact agree_over | exact agree_refl | refine agree_upd rfl ?_), ?_, ?_⟩⟩
              · refine ⟨by simp; omega, ?_, hF, ha8.ow ho7 fwv9, ha8.append ho7 hatv9, ?_⟩
                · have e : ((l ++ (List.replicate k (l.drop (l.length - last.toNat))).flatten).map TOp.cells ++ (l.drop (l.length - last.toNat)).map TOp.cells) = (l ++ (List.replicate (k + 1) (l.drop (l.length - last.toNat))).flatten).map TOp.cells := by
                    rw [← List.map_append, List.append_assoc, List.replicate_succ', List.flatten_append]; simp
                  rw [← e]; exact hv9
                · rcases hatv9 with h | h
                  · rcases hat8 with h' | h'
                    · exact .inl (h.trans h')
                    · exact .inr (fun k hk => h' k (h ▸ hk))
                  · right; intro k hk; rw [h] at hk; cases hk; omega
              · simp; omega
            · simp only [asks] at h6
              refine O_nil ?_
              refine D_seq ?_
              refine D_condF rfl ?_
              refine D_exit ?_
              refine D_seq ?_
              refine D_region ?_
              refine s_move (v := (v8)) rfl ?_
              refine s_assign (v := (v8)) rfl ?_
              refine s_assign (v := (.int .i64 _)) rfl ?_
              refine O_nil ?_
              refine D_ret ?_
              refine ret2 (v := (v8)) (x := (.int .i64 _)) rfl rfl ?_
              have hk2 : k = times.toNat := by omega
              subst hk2
              unfold againS
              rw [if_neg (by omega), if_neg h4, if_neg h5]
              exact ⟨v8, rfl, ho8, hF, hat8⟩

theorem again_err (base : Nat) (v : Value) (l : List TOp) (times last : Int) (k : Int) (w0 : World) (hl : l.length ≤ 4096) (hb : base ≤ w0.heap.size) (ho : Ow w0 base 27 4 v (l.map TOp.cells)) (h : againS l times last = .error k) :
    Calls Tryd.prog 21 #[v, .int .i64 times, .int .i64 last] w0 fun e w' => e = .returned (.tuple #[.slice none 0 0, .int .i64 k]) ∧ Fr [] w0 w' := by
  have := again_op base v l times last w0 hl hb ho
  rw [h] at this; exact this
theorem again_ok (base : Nat) (v : Value) (l : List TOp) (times last : Int) (l' : List TOp) (w0 : World) (hl : l.length ≤ 4096) (hb : base ≤ w0.heap.size) (ho : Ow w0 base 27 4 v (l.map TOp.cells)) (h : againS l times last = .ok l') :
    Calls Tryd.prog 21 #[v, .int .i64 times, .int .i64 last] w0 fun e w' => ∃ v', e = .returned (.tuple #[v', .int .i64 0]) ∧ Ow w' base 27 4 v' (l'.map TOp.cells) ∧ Fr v.ownBlock.toList w0 w' := by
  have := again_op base v l times last w0 hl hb ho
  rw [h] at this
  exact this.mono fun e w' ⟨v', h1, h2, h3, _⟩ => ⟨v', h1, h2, h3⟩

def stepS (out : List TOp) (o : TOp) : Except Int (List TOp) :=
  match (if o.kind = 19 then againS out o.n0 o.n1 else .ok (out ++ [o])) with
  | .error k => .error k
  | .ok out' => if 4096 < out'.length then .error 10 else .ok out'
def expandS : List TOp → List TOp → Except Int (List TOp)
  | out, [] => .ok out
  | out, o :: l => match stepS out o with
    | .error k => .error k
    | .ok out' => expandS out' l
theorem againS_err {l : List TOp} {t m k : Int} (h : againS l t m = .error k) : k ≠ 0 := by
  unfold againS at h
  repeat' split at h
  all_goals (first | (cases h; omega) | cases h)
theorem expandS_step {l : List TOp} {i : Nat} {o : TOp} (hi : l[i]? = some o) (out : List TOp) : expandS out (l.drop i) = (match stepS out o with | .error k => .error k | .ok out' => expandS out' (l.drop (i + 1))) := by
  have hlt := (List.getElem?_eq_some_iff.1 hi).1
  rw [List.drop_eq_getElem_cons hlt, (List.getElem?_eq_some_iff.1 hi).2]
  rfl
def expandR (w0 : World) (r : Except Int (List TOp)) (e : Ending) (w' : World) : Prop :=
  match r with
  | .error k => e = .returned (.tuple #[.slice none 0 0, .int .i64 k]) ∧ Fr [] w0 w'
  | .ok l => ∃ v', e = .returned (.tuple #[v', .int .i64 0]) ∧ Ow w' w0.heap.size 27 4 v' (l.map TOp.cells) ∧ Fr [] w0 w'
theorem expandR_err {w0 w' : World} {r : Except Int (List TOp)} {k : Int} (h : r = .error k) (hf : Fr [] w0 w') : expandR w0 r (.returned (.tuple #[.slice none 0 0, .int .i64 k])) w' := by subst h; exact ⟨rfl, hf⟩
theorem expandR_ok {w0 w' : World} {r : Except Int (List TOp)} {l : List TOp} {v' : Value} (h : r = .ok l) (ho : Ow w' w0.heap.size 27 4 v' (l.map TOp.cells)) (hf : Fr [] w0 w') : expandR w0 r (.returned (.tuple #[v', .int .i64 0])) w' := by subst h; exact ⟨v', rfl, ho, hf⟩

theorem expand_op (v : Value) (l : List TOp) (w0 : World) (hs : Sl w0 v 4 (l.map TOp.cells)) :
    Calls Tryd.prog 10 #[v] w0 (expandR w0 (expandS [] l)) := by
  have hF := Fr.refl [] w0
  have hmx : l.length ≤ maxLen := by have := hs.max; simpa using this
  simp only [maxLen] at hmx
  refine calls_of_D (n := 42) (rs := [.tmp 2, .tmp 3]) Tryd.func10 rfl rfl rfl rfl ?_
  refine D_seq ?_
  refine D_region ?_
  refine s_assign (v := (.slice none 0 0)) rfl ?_
  refine s_assign (v := (.int .i64 _)) rfl ?_
  refine O_nil ?_
  refine D_seq ?_
  refine D_region ?_
  refine s_assign (v := (.slice none 0 0)) rfl ?_
  refine O_nil ?_
  refine D_seq ?_
  refine D_seq ?_
  refine D_region ?_
  refine s_move (v := (v)) rfl ?_
  refine s_lenSl (v := v) (m := l.length) rfl (hs.fr0 hF) (by simp) und38 ?_
  refine s_move (v := (.int .i64 _)) rfl ?_
  refine O_nil ?_
  refine D_block ?_
  refine D_loop (S := Nat × Value × List TOp) [2, 3, 4, 6, 7, 10, 11, 12, 13, 14, 15, 16, 17, 18, 19, 20, 21, 22, 23, 24, 25, 26, 27, 28, 29, 30, 31, 32, 33, 34, 35, 36, 37, 38, 39, 40] (fun s => [(4, s.2.1), (10, .int .i64 s.1)]) (fun s w => s.1 ≤ l.length ∧ Ow w w0.heap.size 27 4 s.2.1 (s.2.2.map TOp.cells) ∧ s.2.2.length ≤ 4096 ∧ Fr [] w0 w ∧ expandS [] l = expandS s.2.2 (l.drop s.1)) (fun s => l.length - s.1) (0, .slice none 0 0, []) ?_ ?_ ?_
  · exact ⟨rfl, rfl, trivial⟩
  · exact ⟨Nat.zero_le _, Ow.nil _ _ _ _, by simp, hF, by simp⟩
  clear hF
  rintro ⟨i, v4, out⟩ u1 w1 ⟨hi, ho4, hol, hF, hex⟩
  (try dsimp only at hi); (try dsimp only at ho4); (try dsimp only at hol); (try dsimp only at hF); (try dsimp only at hex)
  show D _ _ _ _ (upds _ [(4, v4), (10, .int .i64 i)]) _
  have hex' := Lib.hid hex; clear hex
  refine D_seq ?_
  refine D_region ?_
  refine s_cmp2 rfl rfl rfl (fun h1 => ?_) (fun h1 => ?_)
  · simp only [asks] at h1
    have hlt : i < l.length := by omega
    obtain ⟨o, ho⟩ : ∃ o, l[i]? = some o := ⟨_, List.getElem?_eq_getElem hlt⟩
    refine O_nil ?_
    refine D_seq ?_
    refine D_condT rfl ?_
    refine D_skip ?_
    refine D_seq ?_
    refine D_block ?_
    refine D_seq ?_
    refine D_region ?_
    refine s_indexSl (v := v) (els := l.map TOp.cells) rfl rfl rfl (hs.fr0 hF) und38 ti27 (by simpa using hlt) (fun b12 o12 hbl hrow => ?_)
    have hrow' := hrow o.cells (by simp [ho])
    refine s_loadA (vs := o.cells) rfl ag27 ti27 rfl hrow' ?_
    refine s_alloc ti27 (fun b6 w2 nb6 hb6 fw => ?_)
    have apb6_ho4 := ho4.apart nb6
    replace ho4 := ho4.fr0 fw
    have lb6 := hb6.lt; replace nb6 := Nat.le_trans hF.size nb6; replace hF := hF.step0 fw; clear fw
    refine s_store (vs := [_, _, _, _]) (rs := [_, _, _, _]) rfl rfl rfl (by simp [One, Value.oneCell']) ti27 rfl hb6 (by simp) rfl (fun w3 hb6n fw => ?_)
    replace ho4 := ho4.frBox fw apb6_ho4
    replace hF := hF.step fw (by intro i hi; simp at hi; subst hi; first | (right; omega) | (left; simp; done))
    clear hb6; have hb6 := hb6n; clear hb6n; clear fw
    refine O_nil ?_
    refine D_seq ?_
    refine D_region ?_
    refine s_assign (v := (.int .i64 _)) rfl ?_
    refine O_nil ?_
    refine D_seq ?_
    refine D_seq ?_
    refine D_region ?_
    refine s_fieldAddr (off := 0) (r := 0) rfl fo27_0 rfl ?_
    refine s_load1 (v := (.int .i64 _)) rfl ag25 (hb6.at .z) ?_
    refine s_cmp2 rfl rfl rfl (fun h2 => ?_) (fun h2 => ?_)
    · simp only [asks] at h2
      refine O_nil ?_
      refine D_condT rfl ?_
      refine D_region ?_
      refine s_move (v := (v4)) rfl ?_
      refine s_fieldAddr (off := 1) (r := 1) rfl fo27_1 rfl ?_
      refine s_indexA (i := 0) (r := 1) rfl rfl und22 ti3 (by omega) rfl ?_
      refine s_load1 (v := (.int .i64 _)) rfl ag3 (hb6.at (.s .z)) ?_
      refine s_fieldAddr (off := 1) (r := 1) rfl fo27_1 rfl ?_
      refine s_indexA (i := 1) (r := 2) rfl rfl und22 ti3 (by omega) rfl ?_
      refine s_load1 (v := (.int .i64 _)) rfl ag3 (hb6.at (.s (.s .z))) ?_
      rcases hag : againS out o.n0 o.n1 with k | out'
      · have hk0 := againS_err hag
        have hst : stepS out o = .error k := by unfold stepS; rw [if_pos h2, hag]
        have hag' := Lib.hid hag; clear hag
        refine s_call (av := [(v4), (.int .i64 _), (.int .i64 _)]) rfl ca21 (Calls.mono (again_err w0.heap.size v4 out o.n0 o.n1 k w3 hol hF.size ho4 hag'.out) ?_)
        rintro _ w4 ⟨rfl, fw⟩
        refine ⟨_, rfl, ?_⟩
        replace hF := hF.step0 fw
        refine s_move (v := (.tuple _)) rfl ?_
        refine s_extract rfl .z ?_
        refine s_extract rfl (.s .z) ?_
        refine s_assign (v := (.slice none 0 0)) rfl ?_
        refine s_assign (v := (.int .i64 _)) rfl ?_
        refine O_nil ?_
        refine D_block ?_
        refine D_seq ?_
        refine D_region ?_
        refine s_move (v := (.int .i64 _)) rfl ?_
        refine s_cmpT rfl rfl rfl (by simp only [asks]; exact hk0) ?_
        refine s_assign (v := (.bool true)) rfl ?_
        refine O_nil ?_
        refine D_condT rfl ?_
        refine D_seq ?_
        refine D_region ?_
        refine s_move (v := (.int .i64 _)) rfl ?_
        refine s_assign (v := (.slice none 0 0)) rfl ?_
        refine s_assign (v := (.int .i64 _)) rfl ?_
        refine O_nil ?_
        refine D_ret ?_
        refine ret2 (v := (.slice none 0 0)) (x := (.int .i64 _)) rfl rfl ?_
        exact expandR_err (by rw [hex'.out, expandS_step ho, hst]) hF
      · have hag' := Lib.hid hag; clear hag
        refine s_call (av := [(v4), (.int .i64 _), (.int .i64 _)]) rfl ca21 (Calls.mono (again_ok w0.heap.size v4 out o.n0 o.n1 out' w3 hol hF.size ho4 hag'.out) ?_)
        rintro _ w4 ⟨v17, rfl, ho17, fw⟩
        refine ⟨_, rfl, ?_⟩
        replace hF := hF.stepOw fw (fun k hk => .inl (ho4.lt k hk).1)
        refine s_move (v := (.tuple _)) rfl ?_
        refine s_extract rfl .z ?_
        refine s_extract rfl (.s .z) ?_
        refine s_assign (v := (v17)) rfl ?_
        refine s_assign (v := (.int .i64 _)) rfl ?_
        refine O_nil ?_
        refine D_block ?_
        refine D_seq ?_
        refine D_region ?_
        refine s_move (v := (.int .i64 _)) rfl ?_
        refine s_cmpF rfl rfl rfl (by simp only [asks]; omega) ?_
        refine s_assign (v := (.bool false)) rfl ?_
        refine O_nil ?_
        refine D_condF rfl ?_
        refine D_seq ?_
        refine D_region ?_
        refine s_move (v := (v17)) rfl ?_
        refine s_lenSl (v := v17) (m := out'.length) rfl ho17.sl (by simp) und38 ?_
        refine s_cmp2 rfl rfl rfl (fun h3 => ?_) (fun h3 => ?_)
        · simp only [asks] at h3
          have hst : stepS out o = .error 10 := by unfold stepS; rw [if_pos h2, hag'.out]; simp only []; rw [if_pos (by omega)]
          refine s_assign (v := (.bool true)) rfl ?_
          refine O_nil ?_
          refine D_condT rfl ?_
          refine D_seq ?_
          refine D_region ?_
          refine s_assign (v := (.slice none 0 0)) rfl ?_
          refine s_assign (v := (.int .i64 _)) rfl ?_
          refine O_nil ?_
          refine D_ret ?_
          refine ret2 (v := (.slice none 0 0)) (x := (.int .i64 _)) rfl rfl ?_
          exact expandR_err (by rw [hex'.out, expandS_step ho, hst]) hF
        · simp only [asks] at h3
          have hst : stepS out o = .ok out' := by unfold stepS; rw [if_pos h2, hag'.out]; simp only []; rw [if_neg (by omega)]
          refine s_assign (v := (.bool false)) rfl ?_
          refine O_nil ?_
          refine D_condF rfl ?_
          refine D_skip ?_
          refine D_region ?_
          refine s_addi rfl rfl (by omega) ?_
          refine s_move (v := (.int .i64 _)) rfl ?_
          refine O_nil ?_
          refine ⟨⟨(i + 1, v17, out'), ⟨rfl, rfl, trivial⟩, by repeat' (first | exact agree_over | exact agree_refl | refine agree_upd rfl ?_), ?_, ?_⟩⟩
          · exact ⟨hlt, ho17, by simp at h3 ⊢; omega, hF, by rw [hex'.out, expandS_step ho, hst]⟩
          · simp; omega
    · simp only [asks] at h2
      refine O_nil ?_
      refine D_condF rfl ?_
      refine D_region ?_
      refine s_move (v := (v4)) rfl ?_
      refine s_loadA (vs := [_, _, _, _]) rfl ag27 ti27 rfl (hb6.row.sub 0 4 rfl rfl) ?_
      refine s_buildSl (l := [(0, [_, _, _, _])]) (rs := [_, _, _, _]) und38 ti27 (by decide) rfl ⟨rfl, rfl, by simp, trivial⟩ rfl (fun b30 w4 nb30 hb30 fw => ?_)
      have apb30_ho4 := ho4.apart nb30
      replace ho4 := ho4.fr0 fw
      have neb6_b30 : b6 ≠ b30 := by have := hb6.lt; omega
      replace hb6 := hb6.fr0 fw
      have lb30 := hb30.lt; replace nb30 := Nat.le_trans hF.size nb30; replace hF := hF.step0 fw; clear fw
      have hz4 := hF.size
      refine s_append (v := (v4)) (u := (.slice (some ⟨b30, 0, none⟩) 1 1)) (N := 4097) (base := w0.heap.size) rfl rfl und38 ti27 rfl (by decide) ho4 (hb30.sl1 rfl) (by simp [One, Value.oneCell']) (by simp; omega) (by decide) (by decide) hF.size (fun v31 w5 hv31n fw hat => ?_)
      have apb6_hv31 := apart_append hat apb6_ho4 hb6.lt; replace hb6 := hb6.frOw fw apb6_ho4
      have apb30_hv31 := apart_append hat apb30_ho4 hb30.lt; replace hb30 := hb30.frOw fw apb30_ho4
      replace hF := hF.stepOw fw (fun k hk => .inl (ho4.lt k hk).1)
      have hv31 := hv31n; clear hv31n; have hatv31 := hat; clear hat; have fwv31 := fw; clear fw
      refine s_assign (v := (v31)) rfl ?_
      refine O_nil ?_
      refine D_block ?_
      refine D_seq ?_
      refine D_region ?_
      refine s_move (v := (.int .i64 _)) rfl ?_
      refine s_cmpF rfl rfl rfl (by simp only [asks]; omega) ?_
      refine s_assign (v := (.bool false)) rfl ?_
      refine O_nil ?_
      refine D_condF rfl ?_
      refine D_seq ?_
      refine D_region ?_
      refine s_move (v := (v31)) rfl ?_
      refine s_lenSl (v := v31) rfl hv31.sl rfl und38 ?_
      refine s_cmp2 rfl rfl rfl (fun h3 => ?_) (fun h3 => ?_)
      · simp only [asks] at h3
        have hst : stepS out o = .error 10 := by unfold stepS; rw [if_neg h2]; simp only []; rw [if_pos (by simp at h3 ⊢; omega)]
        refine s_assign (v := (.bool true)) rfl ?_
        refine O_nil ?_
        refine D_condT rfl ?_
        refine D_seq ?_
        refine D_region ?_
        refine s_assign (v := (.slice none 0 0)) rfl ?_
        refine s_assign (v := (.int .i64 _)) rfl ?_
        refine O_nil ?_
        refine D_ret ?_
        refine ret2 (v := (.slice none 0 0)) (x := (.int .i64 _)) rfl rfl ?_
        exact expandR_err (by rw [hex'.out, expandS_step ho, hst]) hF
      · simp only [asks] at h3
        have hst : stepS out o = .ok (out ++ [o]) := by unfold stepS; rw [if_neg h2]; simp only []; rw [if_neg (by simp at h3 ⊢; omega)]
        refine s_assign (v := (.bool false)) rfl ?_
        refine O_nil ?_
        refine D_condF rfl ?_
        refine D_skip ?_
        refine D_region ?_
        refine s_addi rfl rfl (by omega) ?_
        refine s_move (v := (.int .i64 _)) rfl ?_
        refine O_nil ?_
        refine ⟨⟨(i + 1, v31, out ++ [o]), ⟨rfl, rfl, trivial⟩, by repeat' (first | exact agree_over | exact agree_refl | refine agree_upd rfl ?_), ?_, ?_⟩⟩
        · exact ⟨hlt, by simpa [TOp.cells] using hv31, by simp at h3 ⊢; omega, hF, by rw [hex'.out, expandS_step ho, hst]⟩
        · simp; omega
  · simp only [asks] at h1
    have hil : i = l.length := by omega
    refine O_nil ?_
    refine D_seq ?_
    refine D_condF rfl ?_
    refine D_exit ?_
    refine D_seq ?_
    refine D_region ?_
    refine s_move (v := (v4)) rfl ?_
    refine s_assign (v := (v4)) rfl ?_
    refine s_assign (v := (.int .i64 _)) rfl ?_
    refine O_nil ?_
    refine D_ret ?_
    refine ret2 (v := (v4)) (x := (.int .i64 _)) rfl rfl ?_
    exact expandR_ok (by rw [hex'.out, hil]; simp [expandS]) ho4 hF
end Go.Proofs.YtelnfdpbcbohdaaDoor

