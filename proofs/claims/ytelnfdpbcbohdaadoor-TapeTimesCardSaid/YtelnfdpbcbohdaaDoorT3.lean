/-
  Lines of a script: the pieces of a line, kinds by their words, numbers. Own work.
-/
import Derived.Test.YtelnfdpbcbohdaaDoorT2
namespace Go.Proofs.YtelnfdpbcbohdaaDoor
open Go Go.RowKit
set_option linter.unusedVariables false
set_option maxRecDepth 100000

def strCells (l : List ByteArray) : List Value := l.map .string
theorem sl_of_cells {w : World} {b : Nat} {cs : List Value} {l : List ByteArray} {c : Nat} (h : Blk w b cs 9) (hc : cs.take l.length = strCells l) (hl : l.length ≤ c) (hm : c ≤ maxLen) (hle : l.length ≤ cs.length) : Sl w (.slice (some ⟨b, 0, none⟩) l.length c) 1 (strEls l) := by
  refine ⟨some ⟨b, 0, none⟩, c, by simp, by simpa using hl, hm, ?_, by simp, fun ad ha => ?_⟩
  · intro e he; simp [strEls] at he; obtain ⟨s, _, rfl⟩ := he; rfl
  · simp at ha; subst ha
    refine ⟨rfl, h.lt, fun i e hi j v hj => ?_⟩
    simp only [strEls, List.getElem?_map, Option.map_eq_some_iff] at hi
    obtain ⟨s, hs, rfl⟩ := hi
    have hj0 : j = 0 := by have := (List.getElem?_eq_some_iff.1 hj).1; simp at this; omega
    subst hj0
    simp at hj; subst hj
    simp only [Nat.mul_one, Nat.add_zero, Nat.zero_add]
    rw [h.cell]
    have hil := (List.getElem?_eq_some_iff.1 hs).1
    have : (cs.take l.length)[i]? = some (.string s) := by rw [hc]; simp [strCells, hs]
    rw [List.getElem?_take, if_pos hil] at this
    exact this

theorem take_succ_filter {l : List ByteArray} {j : Nat} {x : ByteArray} (hx : l[j]? = some x) : (l.take (j + 1)).filter (· ≠ noS) = (l.take j).filter (· ≠ noS) ++ (if x = noS then [] else [x]) := by
  have hlt := (List.getElem?_eq_some_iff.1 hx).1
  have hx' := (List.getElem?_eq_some_iff.1 hx).2
  rw [List.take_succ_eq_append_getElem hlt, List.filter_append, hx']
  congr 1
  by_cases h : x = noS <;> simp [h]

set_option maxHeartbeats 1000000 in
theorem deleteFunc_op (b : Nat) (l : List ByteArray) (w0 : World) (hb : Blk w0 b (strCells l) 9) (hl : l.length ≤ 4294967296) :
    Calls Tryd.prog 26 #[.slice (some ⟨b, 0, none⟩) l.length l.length, .func (.func 28) #[] #[]] w0 fun e w' => ∃ v', e = .returned v' ∧ Sl w' v' 1 (strEls (l.filter (· ≠ noS))) ∧ Fr [b] w0 w' ∧ (∀ k, v'.ownBlock = some k → k = b) := by
  have hF := Fr.refl [b] w0
  have hs0 : Sl w0 (.slice (some ⟨b, 0, none⟩) l.length l.length) 1 (strEls l) := sl_of_cells hb (List.take_of_length_le (by simp [strCells])) (Nat.le_refl _) (by simp only [maxLen]; omega) (by simp [strCells])
  refine calls_of_D (n := 42) (rs := [.tmp 4]) Tryd.func26 rfl rfl rfl rfl ?_
  refine D_seq ?_
  refine D_region ?_
  refine s_assign (v := (.slice none 0 0)) rfl ?_
  refine O_nil ?_
  refine D_seq ?_
  refine D_region ?_
  refine s_move (v := (.slice (some ⟨b, 0, none⟩) l.length l.length)) rfl ?_
  refine s_move (v := (.func (.func 28) #[] #[])) rfl ?_
  refine s_call (av := [(.slice (some ⟨b, 0, none⟩) l.length l.length), (.func (.func 28) #[] #[])]) rfl ca35 (Calls.mono (indexFunc_op _ l w0 hs0 (by omega)) ?_)
  rintro _ w1 ⟨r, rfl, hr, fw⟩
  refine ⟨_, rfl, ?_⟩
  replace hF := hF.step0 fw
  replace hb := hb.fr0 fw
  replace hs0 := hs0.fr0 fw
  refine s_assign (v := (.int .i64 _)) rfl ?_
  refine O_nil ?_
  refine D_seq ?_
  refine D_seq ?_
  refine D_region ?_
  refine s_move (v := (.int .i64 _)) rfl ?_
  refine s_cmp2 rfl rfl rfl (fun h1 => ?_) (fun h1 => ?_)
  · simp only [asks] at h1
    refine O_nil ?_
    refine D_condT rfl ?_
    refine D_seq ?_
    refine D_region ?_
    refine s_move (v := (.slice (some ⟨b, 0, none⟩) l.length l.length)) rfl ?_
    refine s_assign (v := (.slice (some ⟨b, 0, none⟩) l.length l.length)) rfl ?_
    refine O_nil ?_
    refine D_ret ?_
    refine ret1 (v := (.slice (some ⟨b, 0, none⟩) l.length l.length)) rfl ?_
    refine ⟨_, rfl, ?_, hF, by intro k hk; simpa [Value.ownBlock] using hk.symm⟩
    rcases hr with ⟨_, hall⟩ | ⟨i, hi, _⟩
    · rw [List.filter_eq_self.2 (by intro s hs; simpa using hall s hs)]; exact hs0
    · omega
  · simp only [asks] at h1
    obtain ⟨i0, rfl, hi0, hne⟩ : ∃ i : Nat, r = i ∧ l[i]? = some noS ∧ ∀ j s, j < i → l[j]? = some s → s ≠ noS := by
      rcases hr with ⟨h, _⟩ | h
      · exact absurd h h1
      · exact h
    have hil := (List.getElem?_eq_some_iff.1 hi0).1
    clear hr h1
    have hst : (l.take (i0 + 1)).filter (· ≠ noS) = l.take i0 := by
      rw [take_succ_filter hi0, if_pos rfl, List.append_nil]
      rw [List.filter_eq_self]
      intro s hs
      obtain ⟨j, hj⟩ := List.getElem?_of_mem hs
      rw [List.getElem?_take] at hj
      split at hj
      · rename_i hji; simpa using hne j s hji hj
      · cases hj
    refine O_nil ?_
    refine D_condF rfl ?_
    refine D_skip ?_
    refine D_seq ?_
    refine D_seq ?_
    refine D_region ?_
    refine s_move (v := (.int .i64 _)) rfl ?_
    refine s_addi rfl rfl (by omega) ?_
    refine s_assign (v := (.int .i64 _)) rfl ?_
    refine O_nil ?_
    refine D_block ?_
    refine D_loop (S := Nat × Nat × List Value) [5, 6, 7, 16, 17, 18, 19, 20, 21, 22, 23, 24, 25, 26, 27, 28, 29, 30, 31, 32, 33, 34, 35] (fun s => [(5, .int .i64 s.1), (6, .int .i64 s.2.1)]) (fun s w => Blk w b s.2.2 9 ∧ s.2.2.length = l.length ∧ s.1 < s.2.1 ∧ s.2.1 ≤ l.length ∧ (∀ k, s.2.1 ≤ k → s.2.2[k]? = (strCells l)[k]?) ∧ s.2.2.take s.1 = strCells ((l.take s.2.1).filter (· ≠ noS)) ∧ s.1 = ((l.take s.2.1).filter (· ≠ noS)).length ∧ Fr [b] w0 w) (fun s => l.length - s.2.1) (i0, i0 + 1, strCells l) ?_ ?_ ?_
    · exact ⟨rfl, rfl, trivial⟩
    · exact ⟨hb, by simp [strCells], by simp, by simp; omega, fun k _ => rfl, by rw [hst]; simp [strCells, List.map_take], by rw [hst]; simp; omega, hF⟩
    clear hF
    rintro ⟨i, j, cs⟩ u2 w2 ⟨hb2, hcl, hij, hjl, hrest, htake, hilen, hF⟩
    (try dsimp only at hb2); (try dsimp only at hcl); (try dsimp only at hij); (try dsimp only at hjl); (try dsimp only at hrest); (try dsimp only at htake); (try dsimp only at hilen); (try dsimp only at hF)
    show D _ _ _ _ (upds _ [(5, .int .i64 i), (6, .int .i64 j)]) _
    have Hrest := Lib.hid hrest; clear hrest
    have Htake := Lib.hid htake; clear htake
    have Hilen := Lib.hid hilen; clear hilen
    refine D_seq ?_
    refine D_seq ?_
    refine D_region ?_
    refine s_move (v := (.int .i64 _)) rfl ?_
    refine s_move (v := (.slice (some ⟨b, 0, none⟩) l.length l.length)) rfl ?_
    refine s_lenL rfl und51 ?_
    refine s_cmp2 rfl rfl rfl (fun h1 => ?_) (fun h1 => ?_)
    · simp only [asks] at h1
      have hlt : j < l.length := by omega
      obtain ⟨x, hx⟩ : ∃ x, l[j]? = some x := ⟨_, List.getElem?_eq_getElem hlt⟩
      have hxc : cs[j]? = some (.string x) := by rw [Hrest.out j (Nat.le_refl _)]; simp [strCells, hx]
      refine O_nil ?_
      refine D_condT rfl ?_
      refine D_skip ?_
      refine D_seq ?_
      refine D_block ?_
      refine D_seq ?_
      refine D_region ?_
      refine s_move (v := (.slice (some ⟨b, 0, none⟩) l.length l.length)) rfl ?_
      refine s_move (v := (.int .i64 _)) rfl ?_
      refine s_indexC (i := j) (r := j) rfl rfl rfl und51 ti9 hlt (by omega) ?_
      refine s_load1 (v := .string x) rfl ag9 (by rw [hb2.cell]; exact hxc) ?_
      refine s_assign (v := (.string _)) rfl ?_
      refine O_nil ?_
      refine D_seq ?_
      refine D_region ?_
      refine s_move (v := (.func (.func 28) #[] #[])) rfl ?_
      refine s_move (v := (.string _)) rfl ?_
      refine s_callv (first := []) (cap := []) (av := [.string x]) rfl rfl ca28 (Calls.mono (empty_fn x w2) ?_)
      rintro _ w3 ⟨bo, rfl, hbo, fw⟩
      refine ⟨_, rfl, ?_⟩
      replace hF := hF.step0 fw
      replace hb2 := hb2.fr0 fw
      cases bo
      · have hxe : x ≠ noS := by simpa using hbo
        refine s_not (b := false) rfl ?_
        refine O_nil ?_
        refine D_condT rfl ?_
        refine D_seq ?_
        refine D_region ?_
        refine s_move (v := (.slice (some ⟨b, 0, none⟩) l.length l.length)) rfl ?_
        refine s_move (v := (.int .i64 _)) rfl ?_
        refine s_move (v := (.string _)) rfl ?_
        refine s_indexC (i := i) (r := i) rfl rfl rfl und51 ti9 (by omega) (by omega) ?_
        refine s_store1 (v := .string x) (rs := cs.set i (.string x)) rfl rfl rfl ti9 hb2 (by omega) rfl (fun w4 hb4 fw4 => ?_)
        refine O_nil ?_
        refine D_region ?_
        refine s_move (v := (.int .i64 _)) rfl ?_
        refine s_addi rfl rfl (by omega) ?_
        refine s_assign (v := (.int .i64 _)) rfl ?_
        refine O_nil ?_
        refine D_region ?_
        refine s_move (v := (.int .i64 _)) rfl ?_
        refine s_addi rfl rfl (by omega) ?_
        refine s_assign (v := (.int .i64 _)) rfl ?_
        refine O_nil ?_
        refine ⟨⟨(i + 1, j + 1, cs.set i (.string x)), ⟨rfl, rfl, trivial⟩, by repeat' (first | exact agree_over | exact agree_refl | refine agree_upd rfl ?_), ?_, ?_⟩⟩
        · refine ⟨hb4, by simpa using hcl, by simp; omega, hlt, fun k hk => ?_, ?_, ?_, hF.stepS fw4 (by simp)⟩
          · rw [List.getElem?_set_ne (by simp at hk; omega)]; exact Hrest.out k (by simp at hk; omega)
          · simp only
            rw [take_succ_filter hx, if_neg hxe, List.take_set, List.take_succ_eq_append_getElem (by omega)]
            have e0 : (List.take i cs ++ [cs[i]]).set i (Value.string x) = List.take i cs ++ [Value.string x] := by
              rw [List.set_append_right _ _ (by simp; omega)]
              simp [show i - min i cs.length = 0 by omega]
            rw [e0, Htake.out]; simp [strCells]
          · simp only
            rw [take_succ_filter hx, if_neg hxe]; have := Hilen.out; simp only [List.length_append, List.length_singleton]; omega
        · simp; omega
      · have hxe : x = noS := by simpa using hbo
        refine s_not (b := true) rfl ?_
        refine O_nil ?_
        refine D_condF rfl ?_
        refine D_skip ?_
        refine D_region ?_
        refine s_move (v := (.int .i64 _)) rfl ?_
        refine s_addi rfl rfl (by omega) ?_
        refine s_assign (v := (.int .i64 _)) rfl ?_
        refine O_nil ?_
        refine ⟨⟨(i, j + 1, cs), ⟨rfl, rfl, trivial⟩, by repeat' (first | exact agree_over | exact agree_refl | refine agree_upd rfl ?_), ?_, ?_⟩⟩
        · refine ⟨hb2, hcl, by simp; omega, hlt, fun k hk => Hrest.out k (by simp at hk; omega), ?_, ?_, hF⟩
          · simp only; rw [take_succ_filter hx, if_pos hxe, List.append_nil]; exact Htake.out
          · simp only; rw [take_succ_filter hx, if_pos hxe, List.append_nil]; exact Hilen.out
        · simp; omega
    · simp only [asks] at h1
      have hje : j = l.length := by omega
      subst hje
      have hil2 : i ≤ l.length := by omega
      refine O_nil ?_
      refine D_condF rfl ?_
      refine D_exit ?_
      refine D_seq ?_
      refine D_region ?_
      refine s_move (v := (.slice (some ⟨b, 0, none⟩) l.length l.length)) rfl ?_
      refine s_move (v := (.int .i64 _)) rfl ?_
      refine s_sliceC (l := i) (h := l.length) rfl und51 ti9 rfl rfl hil2 (Nat.le_refl _) (Nat.le_refl _) ?_
      rw [if_neg (by omega : ¬ l.length = i)]
      refine s_clear1 (z := .string ⟨#[]⟩) rfl und51 ti9 rfl hb2 (by omega) (fun w3 hb3 fw3 => ?_)
      refine O_nil ?_
      refine D_seq ?_
      refine D_region ?_
      refine s_move (v := (.slice (some ⟨b, 0, none⟩) l.length l.length)) rfl ?_
      refine s_move (v := (.int .i64 _)) rfl ?_
      refine s_sliceC0 (h := i) rfl und51 ti9 rfl hil2 (Nat.le_refl _) ?_
      refine s_assign (v := (.slice (some ⟨b, 0, none⟩) i l.length)) rfl ?_
      refine O_nil ?_
      refine D_ret ?_
      refine ret1 (v := (.slice (some ⟨b, 0, none⟩) i l.length)) rfl ?_
      refine ⟨_, rfl, ?_, hF.stepS fw3 (by simp), by intro k hk; simpa [Value.ownBlock] using hk.symm⟩
      have hfil := Hilen.out
      have htk := Htake.out
      simp only [List.take_length] at hfil htk
      rw [hfil]
      refine sl_of_cells hb3 ?_ (by rw [← hfil]; omega) (by simp only [maxLen]; omega) (by rw [setAll_length, ← hfil]; omega)
      rw [← hfil, ← htk]
      apply List.ext_getElem?
      intro k
      rw [List.getElem?_take, List.getElem?_take]
      split
      · rw [setAll_get_lt _ _ _ _ (by omega)]
      · rfl

/-- The pieces of a text between blanks that aren't empty. -/
def pieces (s : ByteArray) : List ByteArray := (Lib.splitB ⟨#[32]⟩ 0 (Lib.countB s ⟨#[32]⟩) s).filter (· ≠ noS)
theorem fields_op (s : ByteArray) (w0 : World) (hg : GW w0) (hn : s.size < 4294967281) :
    Calls Tryd.prog 15 #[.string s] w0 fun e w' => ∃ v', e = .returned v' ∧ Sl w' v' 1 (strEls (pieces s)) ∧ Fr [] w0 w' ∧ (∀ k, v'.ownBlock = some k → w0.heap.size ≤ k) := by
  have hF := Fr.refl [] w0
  obtain ⟨m, hm⟩ := hg.maxlen
  refine calls_of_D (n := 6) (rs := [.tmp 2]) Tryd.func15 rfl rfl rfl rfl ?_
  refine D_seq ?_
  refine D_region ?_
  refine s_assign (v := (.slice none 0 0)) rfl ?_
  refine O_nil ?_
  refine D_seq ?_
  refine D_region ?_
  refine s_move (v := (.string _)) rfl ?_
  refine s_call (av := [(.string _), (.string _)]) rfl ca27 (Calls.mono (Tryd.strings_Split s ⟨#[32]⟩ m w0 hn hm (by simp [ByteArray.size])) ?_)
  rintro _ w1 ⟨rfl, rfl⟩
  refine ⟨_, rfl, ?_⟩
  have hlen : (Lib.splitB ⟨#[32]⟩ 0 (Lib.countB s ⟨#[32]⟩) s).length = Lib.countB s ⟨#[32]⟩ + 1 := Lib.splitB_all _ (by simp [ByteArray.size]) 0 _ _ rfl
  have hcnt := Lib.countB_le ⟨#[32]⟩ (by simp [ByteArray.size]) s.size s (Nat.le_refl _)
  have hb := Blk.new w0 (List.map Value.string (Lib.splitB ⟨#[32]⟩ 0 (Lib.countB s ⟨#[32]⟩) s)).toArray 9
  simp only at hb
  replace hF := hF.step0 (Fr.alloc w0 (Obj.cells (List.map Value.string (Lib.splitB ⟨#[32]⟩ 0 (Lib.countB s ⟨#[32]⟩) s)).toArray 9))
  rw [← hlen]
  refine s_call (av := [.slice (some ⟨w0.heap.size, 0, none⟩) _ _, .func (.func 28) #[] #[]]) rfl ca26 (Calls.mono (deleteFunc_op w0.heap.size _ _ hb (by omega)) ?_)
  rintro _ w2 ⟨v', rfl, hs, fw, hnew⟩
  refine ⟨_, rfl, ?_⟩
  refine s_assign (by conv => lhs; whnf) ?_
  refine O_nil ?_
  refine D_ret ?_
  refine ret1  rfl ?_
  exact ⟨v', rfl, hs, hF.step1 fw (Nat.le_refl _), fun k hk => Nat.le_of_eq (hnew k hk).symm⟩

theorem find_op (s_ : ByteArray) (w0 : World) (hg : GW w0) :
    Calls Tryd.prog 17 #[.string s_] w0 fun e w' => ((∃ k : Nat, k < 20 ∧ s_ = ⟨(shName k).toArray⟩ ∧ (∀ j, j < k → s_ ≠ ⟨(shName j).toArray⟩) ∧ e = .returned (.tuple #[.int .i64 k, .bool true])) ∨ ((∀ k, k < 20 → s_ ≠ ⟨(shName k).toArray⟩) ∧ e = .returned (.tuple #[.int .i64 0, .bool false]))) ∧ Fr [] w0 w' := by
  have hF := Fr.refl [] w0
  refine calls_of_D (n := 16) (rs := [.tmp 2, .tmp 3]) Tryd.func17 rfl rfl rfl rfl ?_
  refine D_seq ?_
  refine D_region ?_
  refine s_assign (v := (.int .i64 _)) rfl ?_
  refine s_assign (v := (.bool false)) rfl ?_
  refine O_nil ?_
  refine D_seq ?_
  refine D_seq ?_
  refine D_region ?_
  refine s_assign (v := (.int .i64 _)) rfl ?_
  refine O_nil ?_
  refine D_block ?_
  refine D_loop (S := Nat) [2, 3, 4, 5, 6, 7, 8, 9, 10, 11, 12, 13, 14, 15] (fun s => [(4, .int .i64 s)]) (fun s w => s ≤ 20 ∧ (∀ k, k < s → s_ ≠ ⟨(shName k).toArray⟩) ∧ Fr [] w0 w) (fun s => 20 - s) 0 ?_ ?_ ?_
  · exact ⟨rfl, trivial⟩
  · exact ⟨by omega, by intro k h; omega, hF⟩
  clear hF
  rintro i u1 w1 ⟨hi, hne, hF⟩
  (try dsimp only at hi); (try dsimp only at hne); (try dsimp only at hF)
  show D _ _ _ _ (upds _ [(4, .int .i64 i)]) _
  refine D_seq ?_
  refine D_seq ?_
  refine D_region ?_
  refine s_move (v := (.int .i64 _)) rfl ?_
  refine s_cmp2 rfl rfl rfl (fun h1 => ?_) (fun h1 => ?_)
  · simp only [asks] at h1
    have hlt : i < 20 := by omega
    have hrow := (hg.fr0 hF).shapes i hlt
    refine O_nil ?_
    refine D_condT rfl ?_
    refine D_skip ?_
    refine D_seq ?_
    refine D_block ?_
    refine D_seq ?_
    refine D_region ?_
    refine s_move (v := (.int .i64 _)) rfl ?_
    refine s_indexV (i := i) (r := i * 3) rfl rfl rfl und44 ti43 hlt (by omega) ?_
    refine s_fieldAddr (off := 0) (r := i * 3) rfl fo43_0 rfl ?_
    refine s_load1 (v := .string ⟨(shName i).toArray⟩) rfl ag9 (hrow.at .z rfl) ?_
    refine s_move (v := (.string _)) rfl ?_
    refine s_seq2 rfl rfl (fun h2 => ?_) (fun h2 => ?_)
    · skip
      refine O_nil ?_
      refine D_condT rfl ?_
      refine D_seq ?_
      refine D_region ?_
      refine s_move (v := (.int .i64 _)) rfl ?_
      refine s_assign (v := (.int .i64 _)) rfl ?_
      refine s_assign (v := (.bool true)) rfl ?_
      refine O_nil ?_
      refine D_ret ?_
      refine ret2 (v := (.int .i64 _)) (x := (.bool true)) rfl rfl ?_
      exact ⟨.inl ⟨i, hlt, h2.symm, fun j hj => hne j hj, rfl⟩, hF⟩
    · skip
      refine O_nil ?_
      refine D_condF rfl ?_
      refine D_skip ?_
      refine D_region ?_
      refine s_move (v := (.int .i64 _)) rfl ?_
      refine s_addi rfl rfl (by omega) ?_
      refine s_assign (v := (.int .i64 _)) rfl ?_
      refine O_nil ?_
      refine ⟨⟨i + 1, ⟨rfl, trivial⟩, by repeat' (first | exact agree_over | exact agree_refl | refine agree_upd rfl ?_), ?_, ?_⟩⟩
      · refine ⟨hlt, fun k hk => ?_, hF⟩
        by_cases hki : k = i
        · subst hki; exact fun h => h2 h.symm
        · exact hne k (by omega)
      · omega
  · simp only [asks] at h1
    refine O_nil ?_
    refine D_condF rfl ?_
    refine D_exit ?_
    refine D_seq ?_
    refine D_region ?_
    refine s_assign (v := (.int .i64 _)) rfl ?_
    refine s_assign (v := (.bool false)) rfl ?_
    refine O_nil ?_
    refine D_ret ?_
    refine ret2 (v := (.int .i64 _)) (x := (.bool false)) rfl rfl ?_
    exact ⟨.inr ⟨fun k hk => hne k (by omega), rfl⟩, hF⟩

/-- The number that a field writes. -/
def numS (f : ByteArray) : Option Int :=
  match Lib.atoiAll f.data.toList with
  | .ok v => if -9007199254740992 ≤ v ∧ v ≤ 9007199254740992 ∧ Lib.itoa v = f.data.toList then some v else none
  | _ => none
theorem bytes_eq {f : ByteArray} {l : List UInt8} : (⟨l.toArray⟩ : ByteArray) = f ↔ l = f.data.toList := by
  constructor
  · intro h; rw [← h]
  · intro h; rw [h]
theorem numS_ok {f : ByteArray} {v : Int} (h : Lib.atoiAll f.data.toList = .ok v) (h1 : -9007199254740992 ≤ v ∧ v ≤ 9007199254740992) (h2 : (⟨(Lib.itoa v).toArray⟩ : ByteArray) = f) : numS f = some v := by
  unfold numS; rw [h]; simp only []; rw [if_pos ⟨h1.1, h1.2, bytes_eq.1 h2⟩]
theorem numS_no {f : ByteArray} {v : Int} (h : Lib.atoiAll f.data.toList = .ok v) (h1 : ¬ (-9007199254740992 ≤ v ∧ v ≤ 9007199254740992) ∨ (⟨(Lib.itoa v).toArray⟩ : ByteArray) ≠ f) : numS f = none := by
  unfold numS; rw [h]; simp only []; rw [if_neg]
  rintro ⟨a, b, c⟩
  rcases h1 with h1 | h1
  · exact h1 ⟨a, b⟩
  · exact h1 (bytes_eq.2 c)
/-- What 'number' answers. -/
def NumR (f : ByteArray) (e : Ending) : Prop := ∃ n b, e = .returned (.tuple #[.int .i64 n, .bool b]) ∧ (match numS f with | some v => b = true ∧ n = v | none => b = false)
theorem numR_some {f : ByteArray} {v : Int} (h : numS f = some v) : NumR f (.returned (.tuple #[.int .i64 v, .bool true])) := ⟨v, true, rfl, by rw [h]; exact ⟨rfl, rfl⟩⟩
theorem numR_none {f : ByteArray} {n : Int} (h : numS f = none) : NumR f (.returned (.tuple #[.int .i64 n, .bool false])) := ⟨n, false, rfl, by rw [h]⟩
theorem number_op (f : ByteArray) (w0 : World) (hg : GW w0) (hn : f.size ≤ 4294967296) :
    Calls Tryd.prog 19 #[.string f] w0 fun e w' => NumR f e ∧ Fr [] w0 w' := by
  have hF := Fr.refl [] w0
  refine calls_of_D (n := 24) (rs := [.tmp 2, .tmp 3]) Tryd.func19 rfl rfl rfl rfl ?_
  refine D_seq ?_
  refine D_region ?_
  refine s_assign (v := (.int .i64 _)) rfl ?_
  refine s_assign (v := (.bool false)) rfl ?_
  refine O_nil ?_
  refine D_seq ?_
  refine D_region ?_
  refine s_move (v := (.string _)) rfl ?_
  rcases ha : Lib.atoiAll f.data.toList with v | _ | _
  · have hv := Lib.atoiAll_bounds ha
    have Ha := Lib.hid ha; clear ha
    refine s_call (av := [(.string _)]) rfl ca30 (Calls.mono (Tryd.strconv_Atoi_ok f (by omega) v Ha.out w0) ?_)
    rintro _ w1 ⟨rfl, hw⟩
    refine ⟨_, rfl, ?_⟩
    have fw : Fr [] w0 w1 := by
      rcases hw with rfl | ⟨t, rfl⟩
      · exact Fr.refl _ _
      · exact Fr.bytesWorld _ _ _
    replace hF := hF.step0 fw
    clear hw fw
    refine s_move (v := (.tuple _)) rfl ?_
    refine s_extract rfl .z ?_
    refine s_extract rfl (.s .z) ?_
    refine s_assign (v := (.int .i64 _)) rfl ?_
    refine s_assign (by conv => lhs; whnf) ?_
    refine O_nil ?_
    refine D_seq ?_
    refine D_region ?_
    refine s_move (v := (.int .i64 _)) rfl ?_
    refine s_move (by conv => lhs; whnf) ?_
    refine s_nilIfT rfl ⟨_, rfl⟩ rfl undI66 ?_
    refine s_move (v := (.bool true)) rfl ?_
    refine O_want rfl ?_
    refine s_move (v := (.int .i64 _)) rfl ?_
    refine O_want rfl ?_
    refine s_call (av := [(.int .i64 _)]) rfl ca23 (Calls.mono (may_op v w1) ?_)
    rintro _ w2 ⟨b, rfl, hb, fw⟩
    refine ⟨_, rfl, ?_⟩
    replace hF := hF.step0 fw; clear fw
    cases b
    · have hmay : ¬ (-9007199254740992 ≤ v ∧ v ≤ 9007199254740992) := by simpa using hb
      refine s_pickT (v := (.bool false)) rfl rfl ?_
      refine s_move (v := (.bool false)) rfl ?_
      refine O_pass rfl rfl ?_
      refine O_pass rfl rfl ?_
      refine O_pass rfl rfl ?_
      refine O_pass rfl rfl ?_
      refine s_pickF (v := (.bool false)) rfl rfl ?_
      refine s_assign (v := (.int .i64 _)) rfl ?_
      refine s_assign (v := (.bool false)) rfl ?_
      refine O_nil ?_
      refine D_ret ?_
      refine ret2 (v := (.int .i64 _)) (x := (.bool false)) rfl rfl ?_
      exact ⟨numR_none (numS_no Ha.out (.inl hmay)), hF⟩
    · have hmay : -9007199254740992 ≤ v ∧ v ≤ 9007199254740992 := by simpa using hb
      refine s_pickT (v := (.bool true)) rfl rfl ?_
      refine s_move (v := (.bool true)) rfl ?_
      refine O_want rfl ?_
      refine s_move (v := (.int .i64 _)) rfl ?_
      refine O_want rfl ?_
      refine s_call (av := [(.int .i64 _)]) rfl ca12 (Calls.mono (Tryd.strconv_Itoa v hv.1 hv.2 w2 (hg.fr0 hF).pow) ?_)
      rintro _ w3 ⟨rfl, hw⟩
      refine ⟨_, rfl, ?_⟩
      replace hF := hF.step0 (Fr.itoa hw)
      clear hw
      refine O_want rfl ?_
      refine s_move (v := (.string _)) rfl ?_
      refine O_want rfl ?_
      refine s_seq2 rfl rfl (fun h2 => ?_) (fun h2 => ?_)
      · skip
        refine s_pickT (v := (.bool true)) rfl rfl ?_
        refine s_assign (v := (.int .i64 _)) rfl ?_
        refine s_assign (v := (.bool true)) rfl ?_
        refine O_nil ?_
        refine D_ret ?_
        refine ret2 (v := (.int .i64 _)) (x := (.bool true)) rfl rfl ?_
        exact ⟨numR_some (numS_ok Ha.out hmay h2), hF⟩
      · skip
        refine s_pickT (v := (.bool false)) rfl rfl ?_
        refine s_assign (v := (.int .i64 _)) rfl ?_
        refine s_assign (v := (.bool false)) rfl ?_
        refine O_nil ?_
        refine D_ret ?_
        refine ret2 (v := (.int .i64 _)) (x := (.bool false)) rfl rfl ?_
        exact ⟨numR_none (numS_no Ha.out (.inr h2)), hF⟩
  · obtain ⟨ev, he1, he2⟩ := hg.syn
    have hno : numS f = none := by unfold numS; rw [ha]
    refine s_call (av := [(.string _)]) rfl ca30 (Calls.mono (Tryd.strconv_Atoi_syntax f (by omega) (by simp) (by simp) ha ev w0 he1 he2) ?_)
    rintro _ w1 ⟨N, rfl, _, _, hbel⟩
    refine ⟨_, rfl, ?_⟩
    replace hF := hF.step0 (Fr.of_below hbel)
    clear hbel
    refine s_move (v := (.tuple _)) rfl ?_
    refine s_extract rfl .z ?_
    refine s_extract rfl (.s .z) ?_
    refine s_assign (v := (.int .i64 _)) rfl ?_
    refine s_assign (by conv => lhs; whnf) ?_
    refine O_nil ?_
    refine D_seq ?_
    refine D_region ?_
    refine s_move (v := (.int .i64 _)) rfl ?_
    refine s_move (by conv => lhs; whnf) ?_
    refine s_nilIfF rfl rfl undI66 ?_
    refine s_move (v := (.bool false)) rfl ?_
    refine O_pass rfl rfl ?_
    refine O_pass rfl rfl ?_
    refine s_pickF (v := (.bool false)) rfl rfl ?_
    refine s_move (v := (.bool false)) rfl ?_
    refine O_pass rfl rfl ?_
    refine O_pass rfl rfl ?_
    refine O_pass rfl rfl ?_
    refine O_pass rfl rfl ?_
    refine s_pickF (v := (.bool false)) rfl rfl ?_
    refine s_assign (v := (.int .i64 _)) rfl ?_
    refine s_assign (v := (.bool false)) rfl ?_
    refine O_nil ?_
    refine D_ret ?_
    refine ret2 (v := (.int .i64 _)) (x := (.bool false)) rfl rfl ?_
    exact ⟨numR_none hno, hF⟩
  · obtain ⟨ev, he1, he2⟩ := hg.rng
    have hno : numS f = none := by unfold numS; rw [ha]
    refine s_call (av := [(.string _)]) rfl ca30 (Calls.mono (Tryd.strconv_Atoi_range f (by omega) ha ev w0 he1 he2) ?_)
    rintro _ w1 ⟨N, rfl, _, _, hbel⟩
    refine ⟨_, rfl, ?_⟩
    replace hF := hF.step0 (Fr.of_below hbel)
    clear hbel
    refine s_move (v := (.tuple _)) rfl ?_
    refine s_extract rfl .z ?_
    refine s_extract rfl (.s .z) ?_
    refine s_assign (v := (.int .i64 _)) rfl ?_
    refine s_assign (by conv => lhs; whnf) ?_
    refine O_nil ?_
    refine D_seq ?_
    refine D_region ?_
    refine s_move (v := (.int .i64 _)) rfl ?_
    refine s_move (by conv => lhs; whnf) ?_
    refine s_nilIfF rfl rfl undI66 ?_
    refine s_move (v := (.bool false)) rfl ?_
    refine O_pass rfl rfl ?_
    refine O_pass rfl rfl ?_
    refine s_pickF (v := (.bool false)) rfl rfl ?_
    refine s_move (v := (.bool false)) rfl ?_
    refine O_pass rfl rfl ?_
    refine O_pass rfl rfl ?_
    refine O_pass rfl rfl ?_
    refine O_pass rfl rfl ?_
    refine s_pickF (v := (.bool false)) rfl rfl ?_
    refine s_assign (v := (.int .i64 _)) rfl ?_
    refine s_assign (v := (.bool false)) rfl ?_
    refine O_nil ?_
    refine D_ret ?_
    refine ret2 (v := (.int .i64 _)) (x := (.bool false)) rfl rfl ?_
    exact ⟨numR_none hno, hF⟩
end Go.Proofs.YtelnfdpbcbohdaaDoor

