/-
  The plain law of lines: a good op's line is parsed to that op, with blanks around as well; what is parsed is good. Own work.
-/
import Derived.Test.YtelnfdpbcbohdaaDoorT7
import Derived.Lib.ItoaNum
import Derived.Lib.ItoaMem
import Derived.Lib.AtoiAllCases
import Derived.Lib.SplitLaws
namespace Go.Proofs.YtelnfdpbcbohdaaDoor
open Go Go.RowKit
set_option linter.unusedVariables false
set_option linter.unusedSimpArgs false
set_option maxRecDepth 100000

def consHead (c : UInt8) : List (List UInt8) → List (List UInt8)
  | [] => [[c]]
  | h :: t => (c :: h) :: t
def spl : List UInt8 → List (List UInt8)
  | [] => [[]]
  | c :: l => if c = 32 then [] :: spl l else consHead c (spl l)
theorem spl_ne (l : List UInt8) : spl l ≠ [] := by
  cases l with
  | nil => simp [spl]
  | cons c l =>
    unfold spl
    split
    · simp
    · cases spl l <;> simp [consHead]
theorem splitK_one : ∀ l : List UInt8, Lib.splitK [32] 0 (Lib.count l [32]) l = spl l
  | [] => by rfl
  | c :: l => by
    have ih := splitK_one l
    by_cases hc : c = 32
    · subst hc
      have hi : Lib.index (32 :: l) [32] = 0 := by unfold Lib.index; rw [if_pos (by simp)]
      rw [Lib.count_cons_eq, Nat.add_comm, Lib.splitK, if_neg (by rw [hi]; decide), hi]
      simp only [spl, if_true, Int.toNat_zero, List.take_zero, Nat.zero_add, List.length_cons, List.length_nil, List.drop_succ_cons, List.drop_zero]
      rw [ih]
    · have hi : Lib.index (c :: l) [32] = if Lib.index l [32] == -1 then -1 else Lib.index l [32] + 1 := by
        conv => lhs; unfold Lib.index
        rw [if_neg (by simp; exact fun e => hc e.symm)]
      rw [Lib.count_cons_ne c 32 l hc]
      simp only [spl, if_neg hc]
      rw [← ih]
      cases hn : Lib.count l [32] with
      | zero => simp [Lib.splitK, consHead]
      | succ n =>
        unfold Lib.splitK
        rw [hi]
        by_cases hm : (Lib.index l [32] == -1) = true
        · rw [if_pos hm, if_pos (by decide), if_pos hm]; rfl
        · have hge := Lib.index_ge l [32]
          have hne : Lib.index l [32] ≠ -1 := by simpa using hm
          rw [if_neg hm, if_neg (by simp; omega), if_neg hm]
          have e : (Lib.index l [32] + 1).toNat = (Lib.index l [32]).toNat + 1 := by omega
          rw [e]
          simp [consHead]
def words (l : List UInt8) : List (List UInt8) := (spl l).filter (· ≠ [])
theorem words_blank (r : List UInt8) : words (32 :: r) = words r := by simp [words, spl]
theorem spl_word : ∀ (w : List UInt8), (32 : UInt8) ∉ w → spl w = [w]
  | [], _ => rfl
  | c :: w, h => by
    have h1 : c ≠ 32 := fun e => h (by simp [e])
    have h2 : (32 : UInt8) ∉ w := fun e => h (by simp [e])
    rw [spl, if_neg h1, spl_word w h2, consHead]
theorem spl_app : ∀ (w r : List UInt8), (32 : UInt8) ∉ w → spl (w ++ 32 :: r) = w :: spl r
  | [], r, _ => by simp [spl]
  | c :: w, r, h => by
    have h1 : c ≠ 32 := fun e => h (by simp [e])
    have h2 : (32 : UInt8) ∉ w := fun e => h (by simp [e])
    rw [List.cons_append, spl, if_neg h1, spl_app w r h2, consHead]
theorem words_word {w : List UInt8} (h : (32 : UInt8) ∉ w) (hn : w ≠ []) : words w = [w] := by simp [words, spl_word w h, hn]
theorem words_app {w : List UInt8} (r : List UInt8) (h : (32 : UInt8) ∉ w) (hn : w ≠ []) : words (w ++ 32 :: r) = w :: words r := by
  simp [words, spl_app w r h, hn]
theorem spl_end : ∀ l : List UInt8, spl (l ++ [32]) = spl l ++ [[]]
  | [] => rfl
  | c :: l => by
    rw [List.cons_append, spl, spl, spl_end l]
    split
    · rfl
    · have := spl_ne l
      cases h : spl l with
      | nil => exact absurd h this
      | cons a b => rfl
theorem words_end (l : List UInt8) : words (l ++ [32]) = words l := by simp [words, spl_end]
theorem spl_mem : ∀ (l w : List UInt8), w ∈ spl l → ∀ c ∈ w, c ∈ l ∧ c ≠ 32
  | [], w, h, c, hc => by simp [spl] at h; subst h; simp at hc
  | d :: l, w, h, c, hc => by
    rw [spl] at h
    split at h
    · rcases List.mem_cons.1 h with h | h
      · subst h; simp at hc
      · have := spl_mem l w h c hc; exact ⟨by simp [this.1], this.2⟩
    · rename_i hd
      have hne := spl_ne l
      cases hs : spl l with
      | nil => exact absurd hs hne
      | cons a b =>
        rw [hs, consHead] at h
        rcases List.mem_cons.1 h with h | h
        · subst h
          rcases List.mem_cons.1 hc with hc | hc
          · subst hc; exact ⟨by simp, hd⟩
          · have := spl_mem l a (by rw [hs]; simp) c hc; exact ⟨by simp [this.1], this.2⟩
        · have := spl_mem l w (by rw [hs]; simp [h]) c hc; exact ⟨by simp [this.1], this.2⟩
theorem words_mem {l w : List UInt8} (h : w ∈ words l) : w ≠ [] ∧ ∀ c ∈ w, c ∈ l ∧ c ≠ 32 := by
  unfold words at h
  have := List.mem_filter.1 h
  exact ⟨by simpa using this.2, spl_mem l w this.1⟩
theorem mkB (s : ByteArray) : (⟨s.data.toList.toArray⟩ : ByteArray) = s := by simp
theorem pieces_eq (s : ByteArray) : pieces s = (words s.data.toList).map fun l => ⟨l.toArray⟩ := by
  have h := Lib.splitB_data ⟨#[32]⟩ 0 (Lib.countB s ⟨#[32]⟩) s
  have hc : Lib.countB s ⟨#[32]⟩ = Lib.count s.data.toList [32] := rfl
  have hs : (Lib.splitB ⟨#[32]⟩ 0 (Lib.countB s ⟨#[32]⟩) s).map (·.data.toList) = spl s.data.toList := by
    rw [h, hc]; exact splitK_one _
  have hinv : Lib.splitB ⟨#[32]⟩ 0 (Lib.countB s ⟨#[32]⟩) s = (spl s.data.toList).map fun l => ⟨l.toArray⟩ := by
    rw [← hs, List.map_map]
    rw [List.map_congr_left (g := id) (fun a _ => by simp [Function.comp])]
    simp
  unfold pieces words
  rw [hinv, List.filter_map]
  congr 1
  apply List.filter_congr
  intro l _
  simp [Function.comp, noS]

/-! ### numbers -/
theorem parse_app : ∀ (l r : List UInt8) (acc v : Nat), Lib.parseUint10 acc l = .ok v → Lib.parseUint10 acc (l ++ r) = Lib.parseUint10 v r
  | [], r, acc, v, h => by simp only [Lib.parseUint10] at h; injection h with h; subst h; rfl
  | c :: l, r, acc, v, h => by
    simp only [List.cons_append, Lib.parseUint10] at h ⊢
    split at h
    · rename_i h1
      rw [if_pos h1]
      split at h
      · cases h
      · rename_i h2
        rw [if_neg h2]
        split at h
        · cases h
        · rename_i h3; rw [if_neg h3]; exact parse_app l r _ v h
    · cases h
theorem digit_nat {d : Nat} (h : d < 10) : (UInt8.ofNat (48 + d)).toNat = 48 + d := by
  simp [UInt8.toNat_ofNat']; omega
theorem digits_ok : ∀ (f u : Nat), u ≤ f → u < 1000000000000000000 → Lib.parseUint10 0 (Lib.decDigits u) = .ok u ∧ Lib.decDigits u ≠ [] ∧ ∀ c ∈ Lib.decDigits u, 48 ≤ c.toNat ∧ c.toNat ≤ 57 := by
  intro f
  induction f with
  | zero =>
    intro u hu hb
    have : u = 0 := by omega
    subst this
    rw [Lib.decDigits_one (by omega)]
    refine ⟨rfl, by simp, ?_⟩
    intro c hc; simp at hc; subst hc; decide
  | succ f ih =>
    intro u hu hb
    by_cases h : u < 10
    · rw [Lib.decDigits_one h]
      have hd := digit_nat h
      refine ⟨?_, by simp, ?_⟩
      · simp only [Lib.parseUint10, hd]
        rw [if_pos (by omega), if_neg (by omega), if_neg (by omega)]
        congr 1; omega
      · intro c hc; rw [List.mem_singleton] at hc; subst hc; rw [hd]; omega
    · obtain ⟨h1, h2, h3⟩ := ih (u / 10) (by omega) (by omega)
      have hd := digit_nat (d := u % 10) (by omega)
      rw [Lib.decDigits, dif_neg h]
      refine ⟨?_, by simp, ?_⟩
      · rw [parse_app _ _ _ _ h1]
        simp only [Lib.parseUint10, hd]
        rw [if_pos (by omega), if_neg (by omega), if_neg (by omega)]
        congr 1; omega
      · intro c hc
        rcases List.mem_append.1 hc with hc | hc
        · exact h3 c hc
        · rw [List.mem_singleton] at hc; subst hc; rw [hd]; omega
theorem itoa_spec {n : Int} (h : InN n) : Lib.atoiAll (Lib.itoa n) = .ok n ∧ Lib.itoa n ≠ [] ∧ ∀ c ∈ Lib.itoa n, c.toNat = 45 ∨ (48 ≤ c.toNat ∧ c.toNat ≤ 57) := by
  unfold InN at h
  by_cases hn : n < 0
  · obtain ⟨u, rfl⟩ : ∃ u : Nat, n = -(u : Int) := ⟨n.natAbs, by omega⟩
    obtain ⟨h1, h2, h3⟩ := digits_ok u u (Nat.le_refl _) (by omega)
    rw [Lib.itoa_neg u (by omega)]
    refine ⟨?_, by simp, ?_⟩
    · rw [Lib.atoiAll_minus, Lib.parseMag, if_neg h2, h1]
      simp only [Lib.signed]
      rw [if_neg (by omega)]
    · intro c hc
      rcases List.mem_cons.1 hc with hc | hc
      · subst hc; exact .inl rfl
      · exact .inr (h3 c hc)
  · obtain ⟨u, rfl⟩ : ∃ u : Nat, n = (u : Int) := ⟨n.toNat, by omega⟩
    obtain ⟨h1, h2, h3⟩ := digits_ok u u (Nat.le_refl _) (by omega)
    rw [Lib.itoa_nonneg u]
    refine ⟨?_, h2, fun c hc => .inr (h3 c hc)⟩
    cases hd : Lib.decDigits u with
    | nil => exact absurd hd h2
    | cons c r =>
      have hc := h3 c (by rw [hd]; simp)
      rw [Lib.atoiAll_plain c r (by omega) (by omega), ← hd, Lib.parseMag, if_neg h2, h1]
      simp only [Lib.signless]
      rw [if_neg (by omega)]
theorem numS_itoa {n : Int} (h : InN n) : numS (itoaB n) = some n :=
  numS_ok (itoa_spec h).1 h rfl
theorem numS_in {f : ByteArray} {v : Int} (h : numS f = some v) : InN v := by
  unfold numS at h
  split at h
  · split at h
    · rename_i hh; injection h with h; subst h; exact ⟨hh.1, hh.2.1⟩
    · cases h
  · cases h

/-! ### lines -/
def NoB (l : List UInt8) : Prop := ∀ c ∈ l, c ≠ 32 ∧ c ≠ 10
theorem name_nob {k : Nat} (h : k < 20) : NoB (shName k) ∧ shName k ≠ [] ∧ Lib.hasPrefix (shName k) [35] = false := by
  have key : ∀ k : Fin 20, (∀ c ∈ shName k.val, c ≠ 32 ∧ c ≠ 10) ∧ shName k.val ≠ [] ∧ Lib.hasPrefix (shName k.val) [35] = false := by decide
  exact key ⟨k, h⟩
theorem itoa_nob {n : Int} (h : InN n) : NoB (Lib.itoa n) := by
  intro c hc
  have := (itoa_spec h).2.2 c hc
  constructor <;> (rintro rfl; revert this; decide)
theorem kindS_name {k : Nat} (h : k < 20) : kindS ⟨(shName k).toArray⟩ = some k := by
  have key : ∀ k : Fin 20, ∀ j : Fin 20, j.val < k.val → shName k.val ≠ shName j.val := by decide
  refine kindS_some h rfl fun j hj e => ?_
  have e' := congrArg (fun b : ByteArray => b.data.toList) e
  exact key ⟨k, h⟩ ⟨j, by omega⟩ hj (by simpa using e')
/-- The words of a good op's line. -/
def opWords (o : TOp) (k : Nat) : List (List UInt8) :=
  shName k :: ((if shNum k = 0 then [] else if shNum k = 1 then [Lib.itoa o.n0] else [Lib.itoa o.n0, Lib.itoa o.n1]) ++ (if shText k then [o.text.data.toList] else []))
theorem nlS_iff (s : ByteArray) : nlS s = false ↔ (10 : UInt8) ∉ s.data.toList := by
  unfold nlS
  rw [idx_iff]
  constructor
  · intro h hm
    obtain ⟨i, hi, he⟩ := List.getElem_of_mem hm
    exact h i (by rw [List.getElem?_eq_getElem hi, he])
  · intro h i hi
    exact h (List.mem_of_getElem? hi)
theorem blS_iff (s : ByteArray) : blS s = false ↔ (32 : UInt8) ∉ s.data.toList := by
  unfold blS
  rw [idx_iff]
  constructor
  · intro h hm
    obtain ⟨i, hi, he⟩ := List.getElem_of_mem hm
    exact h i (by rw [List.getElem?_eq_getElem hi, he])
  · intro h i hi
    exact h (List.mem_of_getElem? hi)
theorem noS_size : noS.size = 0 := rfl
theorem parse_words {o : TOp} {k : Nat} {s : ByteArray} (ok : GoodP o k) (hw : words s.data.toList = opWords o k) (hn : nlS s = false) : parseS s = .ok o := by
  obtain ⟨kd, n0, n1, tx⟩ := o
  have e0 : kd = k := ok.kind
  subst e0
  have hlt := ok.lt
  have h2 := shNum_le k
  obtain ⟨-, -, hp⟩ := name_nob hlt
  have hi0 := numS_itoa ok.in0
  have hi1 := numS_itoa ok.in1
  have hz0 := ok.z0
  have hz1 := ok.z1
  have hnt := ok.notext
  have htx := ok.text
  simp only at hi0 hi1 hz0 hz1 hnt htx
  unfold itoaB at hi0 hi1
  unfold parseS
  rw [pieces_eq, hw, hn]
  unfold opWords
  have hk := kindS_name hlt
  rcases (by omega : shNum k = 0 ∨ shNum k = 1 ∨ shNum k = 2) with hm | hm | hm <;> cases hx : shText k <;> rw [hx] at hnt htx <;> rw [hm] at hz0 hz1 <;>
    simp_all [parseL, fieldsOf, numsS, noS_size]
theorem parse_words' {o : TOp} {k : Nat} (ok : GoodP o k) {l : List UInt8} (hw : words l = opWords o k) (hn : (10 : UInt8) ∉ l) : parseS ⟨l.toArray⟩ = .ok o :=
  parse_words ok (by simpa using hw) ((nlS_iff _).2 (by simpa using hn))
theorem lineB_list (o : TOp) (k : Nat) : (lineB o k).data.toList = shName k ++ ((if shNum k = 0 then [] else if shNum k = 1 then 32 :: Lib.itoa o.n0 else 32 :: Lib.itoa o.n0 ++ 32 :: Lib.itoa o.n1) ++ (if shText k then 32 :: o.text.data.toList else [])) := by
  have h2 := shNum_le k
  unfold lineB
  rcases (by omega : shNum k = 0 ∨ shNum k = 1 ∨ shNum k = 2) with hm | hm | hm <;> rw [hm] <;> cases shText k <;> simp [numsB, numOf, itoaB, ByteArray.data_append]
theorem line_words {o : TOp} {k : Nat} (ok : GoodP o k) : words (lineB o k).data.toList = opWords o k ∧ (10 : UInt8) ∉ (lineB o k).data.toList := by
  have h2 := shNum_le k
  obtain ⟨hb, hne, -⟩ := name_nob ok.lt
  have hn0 := itoa_nob ok.in0
  have hn1 := itoa_nob ok.in1
  have he0 := (itoa_spec ok.in0).2.1
  have he1 := (itoa_spec ok.in1).2.1
  have w1 : (32 : UInt8) ∉ shName k := fun h => (hb _ h).1 rfl
  have w2 : (32 : UInt8) ∉ Lib.itoa o.n0 := fun h => (hn0 _ h).1 rfl
  have w3 : (32 : UInt8) ∉ Lib.itoa o.n1 := fun h => (hn1 _ h).1 rfl
  have v1 : (10 : UInt8) ∉ shName k := fun h => (hb _ h).2 rfl
  have v2 : (10 : UInt8) ∉ Lib.itoa o.n0 := fun h => (hn0 _ h).2 rfl
  have v3 : (10 : UInt8) ∉ Lib.itoa o.n1 := fun h => (hn1 _ h).2 rfl
  rw [lineB_list]
  unfold opWords
  cases hx : shText k
  · rcases (by omega : shNum k = 0 ∨ shNum k = 1 ∨ shNum k = 2) with hm | hm | hm <;> rw [hm] <;>
      simp [words_app, words_word, w1, w2, w3, v1, v2, v3, he0, he1, hne]
  · obtain ⟨t1, t2, t3, t4⟩ := ok.text hx
    have w4 := (blS_iff _).1 t3
    have v4 := (nlS_iff _).1 t4
    have he4 : o.text.data.toList ≠ [] := fun h => t1 (noS_of_size (by rw [size_list, h]; rfl))
    generalize o.text.data.toList = tl at w4 v4 he4 ⊢
    rcases (by omega : shNum k = 0 ∨ shNum k = 1 ∨ shNum k = 2) with hm | hm | hm <;> rw [hm] <;>
      simp [words_app, words_word, w1, w2, w3, w4, v1, v2, v3, v4, he0, he1, he4, hne]
theorem parse_line {o : TOp} {k : Nat} (ok : GoodP o k) : parseS (lineB o k) = .ok o :=
  parse_words ok (line_words ok).1 ((nlS_iff _).2 (line_words ok).2)
theorem parse_blanks {o : TOp} {k : Nat} (ok : GoodP o k) : parseS ((⟨#[32, 32]⟩ ++ lineB o k) ++ ⟨#[32]⟩) = .ok o := by
  have e : ((⟨#[32, 32]⟩ ++ lineB o k) ++ ⟨#[32]⟩ : ByteArray).data.toList = 32 :: 32 :: ((lineB o k).data.toList ++ [32]) := by simp [ByteArray.data_append]
  obtain ⟨h1, h2⟩ := line_words ok
  refine parse_words ok ?_ ((nlS_iff _).2 ?_)
  · rw [e, words_blank, words_blank, words_end, h1]
  · rw [e]; simp [h2]
theorem parse_good {s : ByteArray} {p : TOp} (h : parseS s = .ok p) : ∃ k, GoodP p k := by
  unfold parseS parseL at h
  have hpm : ∀ f ∈ pieces s, f ≠ noS ∧ blS f = false ∧ (nlS s = false → nlS f = false) := by
    intro f hf
    rw [pieces_eq] at hf
    obtain ⟨w, hw, rfl⟩ := List.mem_map.1 hf
    obtain ⟨h1, h2⟩ := words_mem hw
    refine ⟨fun e => h1 ?_, (blS_iff _).2 ?_, fun hn => (nlS_iff _).2 ?_⟩
    · have := congrArg (fun b : ByteArray => b.data.toList) e; simpa using this
    · simp; exact fun hm => (h2 _ hm).2 rfl
    · simp; exact fun hm => (nlS_iff _).1 hn (h2 _ hm).1
  split at h
  · cases h
  · rename_i f r hl
    rw [hl] at hpm
    split at h
    · cases h
    · split at h
      · cases h
      · rename_i k hk
        obtain ⟨hlt, hf⟩ := kindS_lt hk
        split at h
        · cases h
        · rename_i hlen
          split at h
          · cases h
          · rename_i a b hnm
            simp only at h
            have hbad : ¬ (64 < (if shText k = true then (f :: r).getD ((f :: r).length - 1) noS else noS).size ∨ nlS s = true) := by
              intro q; rw [hl] at h; rw [if_pos q] at h; cases h
            rw [hl] at h
            rw [if_neg hbad] at h
            · injection h with h
              subst h
              have h2 := shNum_le k
              have hsz : ¬ 64 < (if shText k = true then (f :: r).getD ((f :: r).length - 1) noS else noS).size := fun q => hbad (.inl q)
              have hnl : nlS s = false := by cases hq : nlS s with | false => rfl | true => exact absurd (.inr hq) hbad
              have hz : InN 0 := by unfold InN; omega
              have hab : InN a ∧ InN b ∧ (shNum k = 0 → a = 0) ∧ (shNum k ≤ 1 → b = 0) := by
                rcases (by omega : shNum k = 0 ∨ shNum k = 1 ∨ shNum k = 2) with hm | hm | hm <;> rw [hm] at hnm ⊢
                · simp only [numsS] at hnm; injection hnm with hnm; injection hnm with e1 e2; subst e1; subst e2
                  exact ⟨hz, hz, fun _ => rfl, fun _ => rfl⟩
                · simp only [numsS, Option.map_eq_some_iff] at hnm
                  obtain ⟨a', ha', hnm⟩ := hnm
                  injection hnm with e1 e2; subst e1; subst e2
                  exact ⟨numS_in ha', hz, fun q => by omega, fun _ => rfl⟩
                · simp only [numsS] at hnm
                  split at hnm
                  · rename_i a' b' ha' hb'
                    injection hnm with hnm; injection hnm with e1 e2; subst e1; subst e2
                    exact ⟨numS_in ha', numS_in hb', fun q => by omega, fun q => by omega⟩
                  · cases hnm
              refine ⟨k, rfl, hlt, hab.1, hab.2.1, hab.2.2.1, hab.2.2.2, ?_, ?_⟩
              · intro hx; simp [hx]
              · intro hx
                simp only [hx, if_true] at hsz ⊢
                have hmem : (f :: r).getD ((f :: r).length - 1) noS ∈ f :: r := by
                  rw [List.getD_eq_getElem?_getD, List.getElem?_eq_getElem (by simp)]
                  exact List.getElem_mem _
                obtain ⟨q1, q2, q3⟩ := hpm _ hmem
                exact ⟨q1, by omega, q2, q3 hnl⟩
end Go.Proofs.YtelnfdpbcbohdaaDoor

