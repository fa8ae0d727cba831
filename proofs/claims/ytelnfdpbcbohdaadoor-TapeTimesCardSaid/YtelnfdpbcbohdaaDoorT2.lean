/-
  Lines of a script: walks of the small functions. Own work.
-/
import Derived.Test.YtelnfdpbcbohdaaDoorFx
import Derived.Test.YtelnfdpbcbohdaaDoorShelf
import Derived.Test.YtelnfdpbcbohdaaDoorT1
import Derived.KernelRfl
import Derived.Lib.Hide
namespace Go.Proofs.YtelnfdpbcbohdaaDoor
open Go Go.RowKit
set_option linter.unusedVariables false
set_option maxRecDepth 100000

/-! ### What the package-level variables hold -/
def shapesL : List (String × Nat × Bool) := [("format", 2, false), ("open", 0, false), ("write", 1, true), ("read", 1, false), ("dispatch", 0, false), ("settle", 0, false), ("flush", 0, false), ("fail", 1, false), ("kill", 1, false), ("replace", 1, false), ("rebuild", 1, false), ("left", 1, false), ("scrub", 2, false), ("check", 0, false), ("rot", 2, true), ("cut", 1, false), ("crash", 1, false), ("status", 0, false), ("count", 0, true), ("repeat", 2, false)]
/-- The name, how many numbers, a text? of a kind. -/
def shNames : List (List UInt8) := [[102, 111, 114, 109, 97, 116], [111, 112, 101, 110], [119, 114, 105, 116, 101], [114, 101, 97, 100], [100, 105, 115, 112, 97, 116, 99, 104], [115, 101, 116, 116, 108, 101], [102, 108, 117, 115, 104], [102, 97, 105, 108], [107, 105, 108, 108], [114, 101, 112, 108, 97, 99, 101], [114, 101, 98, 117, 105, 108, 100], [108, 101, 102, 116], [115, 99, 114, 117, 98], [99, 104, 101, 99, 107], [114, 111, 116], [99, 117, 116], [99, 114, 97, 115, 104], [115, 116, 97, 116, 117, 115], [99, 111, 117, 110, 116], [114, 101, 112, 101, 97, 116]]
def shNums : List Nat := [2, 0, 1, 1, 0, 0, 0, 1, 1, 1, 1, 1, 2, 0, 2, 1, 1, 0, 0, 2]
def shTexts : List Bool := [false, false, true, false, false, false, false, false, false, false, false, false, false, false, true, false, false, false, true, false]
def shName (k : Nat) : List UInt8 := shNames.getD k []
def shNum (k : Nat) : Nat := shNums.getD k 0
def shText (k : Nat) : Bool := shTexts.getD k false
def shCells (k : Nat) : List Value := [.string ⟨(shName k).toArray⟩, .int .i64 (shNum k), .bool (shText k)]
theorem shName_len {k : Nat} (h : k < 20) : 3 ≤ (shName k).length ∧ (shName k).length ≤ 8 := by
  have : ∀ k : Fin 20, 3 ≤ (shName k.val).length ∧ (shName k.val).length ≤ 8 := by decide
  exact this ⟨k, h⟩
theorem shNum_le (k : Nat) : shNum k ≤ 2 := by
  by_cases h : k < 20
  · have : ∀ k : Fin 20, shNum k.val ≤ 2 := by decide
    exact this ⟨k, h⟩
  · unfold shNum; simp [List.getD, List.getElem?_eq_none (show shNums.length ≤ k by simp [shNums]; omega)]

structure GW (w : World) : Prop where
  shapes : ∀ k, k < 20 → Row w 0 (k * 3) (shCells k)
  maxlen : ∃ m, w.cell? ⟨1, 0, none⟩ = some (.int .i64 m)
  pow : Lib.TabIs Tryd.prog w "internal/strconv.uint64pow10" .u64 Lib.pow10Tab
  syn : ∃ v, w.cell? ⟨3, 0, none⟩ = some v ∧ (v = .nilIface ∨ ∃ te pe, v = .iface te pe)
  rng : ∃ v, w.cell? ⟨4, 0, none⟩ = some v ∧ (v = .nilIface ∨ ∃ te pe, v = .iface te pe)
  big : 9 ≤ w.heap.size
theorem GW.fr {w w' : World} {S : List Nat} (h : GW w) (f : Fr S w w') (hs : ∀ i ∈ S, 9 ≤ i) : GW w' := by
  have hb := h.big
  have hn : ∀ g, g < 9 → g ∉ S := fun g hg hm => by have := hs g hm; omega
  have hc : ∀ g o, g < 9 → w'.cell? ⟨g, o, none⟩ = w.cell? ⟨g, o, none⟩ := fun g o hg => f.cell (a := ⟨g, o, none⟩) (by simp; omega) (hn g hg)
  refine ⟨fun k hk j v hj => ?_, ?_, ?_, ?_, ?_, Nat.le_trans hb f.size⟩
  · rw [hc _ _ (by omega)]; exact h.shapes k hk j v hj
  · obtain ⟨m, hm⟩ := h.maxlen; exact ⟨m, by rw [hc _ _ (by omega)]; exact hm⟩
  · have hp := h.pow
    unfold Lib.TabIs World.var? at hp ⊢
    have hg : Tryd.prog.globalNamed "internal/strconv.uint64pow10" = some 2 := by kernel_rfl
    rw [hg] at hp ⊢
    simp only [Option.bind_some] at hp ⊢
    rw [f.block 2 (by omega) (hn _ (by omega))]; exact hp
  · obtain ⟨v, hv, hh⟩ := h.syn; exact ⟨v, by rw [hc _ _ (by omega)]; exact hv, hh⟩
  · obtain ⟨v, hv, hh⟩ := h.rng; exact ⟨v, by rw [hc _ _ (by omega)]; exact hv, hh⟩
theorem GW.fr0 {w w' : World} (h : GW w) (f : Fr [] w w') : GW w' := h.fr f (by simp)

theorem kind_is (k : Int) (w0 : World) : Calls Tryd.prog 22 #[.int .i64 k] w0 fun e w' => ∃ b, e = .returned (.bool b) ∧ (b = true ↔ 0 ≤ k ∧ k < 20) ∧ Fr [] w0 w' := by
  have hF := Fr.refl [] w0
  refine calls_of_D (n := 9) (rs := [.tmp 2]) Tryd.func22 rfl rfl rfl rfl ?_
  refine D_seq ?_
  refine D_region ?_
  refine s_assign (v := (.bool false)) rfl ?_
  refine O_nil ?_
  refine D_seq ?_
  refine D_region ?_
  refine s_move (v := (.int .i64 _)) rfl ?_
  refine s_cmp2 rfl rfl rfl (fun h1 => ?_) (fun h1 => ?_)
  · simp only [asks] at h1
    refine s_move (v := (.bool true)) rfl ?_
    refine O_want rfl ?_
    refine s_move (v := (.int .i64 _)) rfl ?_
    refine O_want rfl ?_
    refine s_cmp2 rfl rfl rfl (fun h2 => ?_) (fun h2 => ?_)
    · simp only [asks] at h2
      refine s_pickT (v := (.bool true)) rfl rfl ?_
      refine s_assign (v := (.bool true)) rfl ?_
      refine O_nil ?_
      refine D_ret ?_
      refine ret1 (v := (.bool true)) rfl ?_
      exact ⟨true, rfl, by simp; omega, hF⟩
    · simp only [asks] at h2
      refine s_pickT (v := (.bool false)) rfl rfl ?_
      refine s_assign (v := (.bool false)) rfl ?_
      refine O_nil ?_
      refine D_ret ?_
      refine ret1 (v := (.bool false)) rfl ?_
      exact ⟨false, rfl, by simp; omega, hF⟩
  · simp only [asks] at h1
    refine s_move (v := (.bool false)) rfl ?_
    refine O_pass rfl rfl ?_
    refine O_pass rfl rfl ?_
    refine s_pickF (v := (.bool false)) rfl rfl ?_
    refine s_assign (v := (.bool false)) rfl ?_
    refine O_nil ?_
    refine D_ret ?_
    refine ret1 (v := (.bool false)) rfl ?_
    exact ⟨false, rfl, by simp; omega, hF⟩

theorem may_op (k : Int) (w0 : World) : Calls Tryd.prog 23 #[.int .i64 k] w0 fun e w' => ∃ b, e = .returned (.bool b) ∧ (b = true ↔ -9007199254740992 ≤ k ∧ k ≤ 9007199254740992) ∧ Fr [] w0 w' := by
  have hF := Fr.refl [] w0
  refine calls_of_D (n := 9) (rs := [.tmp 2]) Tryd.func23 rfl rfl rfl rfl ?_
  refine D_seq ?_
  refine D_region ?_
  refine s_assign (v := (.bool false)) rfl ?_
  refine O_nil ?_
  refine D_seq ?_
  refine D_region ?_
  refine s_move (v := (.int .i64 _)) rfl ?_
  refine s_cmp2 rfl rfl rfl (fun h1 => ?_) (fun h1 => ?_)
  · simp only [asks] at h1
    refine s_move (v := (.bool true)) rfl ?_
    refine O_want rfl ?_
    refine s_move (v := (.int .i64 _)) rfl ?_
    refine O_want rfl ?_
    refine s_cmp2 rfl rfl rfl (fun h2 => ?_) (fun h2 => ?_)
    · simp only [asks] at h2
      refine s_pickT (v := (.bool true)) rfl rfl ?_
      refine s_assign (v := (.bool true)) rfl ?_
      refine O_nil ?_
      refine D_ret ?_
      refine ret1 (v := (.bool true)) rfl ?_
      exact ⟨true, rfl, by simp; omega, hF⟩
    · simp only [asks] at h2
      refine s_pickT (v := (.bool false)) rfl rfl ?_
      refine s_assign (v := (.bool false)) rfl ?_
      refine O_nil ?_
      refine D_ret ?_
      refine ret1 (v := (.bool false)) rfl ?_
      exact ⟨false, rfl, by simp; omega, hF⟩
  · simp only [asks] at h1
    refine s_move (v := (.bool false)) rfl ?_
    refine O_pass rfl rfl ?_
    refine O_pass rfl rfl ?_
    refine s_pickF (v := (.bool false)) rfl rfl ?_
    refine s_assign (v := (.bool false)) rfl ?_
    refine O_nil ?_
    refine D_ret ?_
    refine ret1 (v := (.bool false)) rfl ?_
    exact ⟨false, rfl, by simp; omega, hF⟩

/-- how many fields a kind's line has -/
theorem shape_fields (k : Nat) (w0 : World) : Calls Tryd.prog 18 #[.agg (shCells k).toArray] w0 fun e w' => e = .returned (.int .i64 (1 + shNum k + (if shText k then 1 else 0))) ∧ Fr [] w0 w' := by
  have hF := Fr.refl [] w0
  have h2 := shNum_le k
  generalize hn : shNum k = m at h2 ⊢
  generalize hx : shText k = tx
  have hc : shCells k = [.string ⟨(shName k).toArray⟩, .int .i64 m, .bool tx] := by rw [← hn, ← hx]; rfl
  rw [hc]
  clear hn hx hc
  refine calls_of_D (n := 12) (rs := [.tmp 2]) Tryd.func18 rfl rfl rfl rfl ?_
  refine D_seq ?_
  refine D_region ?_
  refine s_box (cs := [_, _, _]) rfl rfl (fun b1 w1 nb1 hb1 fw => ?_)
  have lb1 := hb1.lt; replace nb1 := Nat.le_trans hF.size nb1; replace hF := hF.step0 fw; clear fw
  refine s_assign (v := (.int .i64 _)) rfl ?_
  refine O_nil ?_
  refine D_seq ?_
  refine D_region ?_
  refine s_fieldAddr (off := 1) (r := 1) rfl fo43_1 rfl ?_
  refine s_load1 (v := (.int .i64 _)) rfl ag3 (hb1.at (.s .z)) ?_
  refine s_addi rfl rfl (by omega) ?_
  refine s_assign (v := (.int .i64 _)) rfl ?_
  refine O_nil ?_
  refine D_seq ?_
  refine D_seq ?_
  refine D_region ?_
  refine s_fieldAddr (off := 2) (r := 2) rfl fo43_2 rfl ?_
  refine s_load1 (v := (.bool _)) rfl ag4 (hb1.at (.s (.s .z))) ?_
  refine O_nil ?_
  refine D_cond rfl (fun h3 => ?_) (fun h3 => ?_)
  · skip
    subst h3
    refine D_region ?_
    refine s_move (v := (.int .i64 _)) rfl ?_
    refine s_addi rfl rfl (by omega) ?_
    refine s_assign (v := (.int .i64 _)) rfl ?_
    refine O_nil ?_
    refine D_seq ?_
    refine D_region ?_
    refine s_move (v := (.int .i64 _)) rfl ?_
    refine s_assign (v := (.int .i64 _)) rfl ?_
    refine O_nil ?_
    refine D_ret ?_
    refine ret1 (v := (.int .i64 _)) rfl ?_
    refine ⟨?_, hF⟩
    simp
  · skip
    subst h3
    refine D_skip ?_
    refine D_seq ?_
    refine D_region ?_
    refine s_move (v := (.int .i64 _)) rfl ?_
    refine s_assign (v := (.int .i64 _)) rfl ?_
    refine O_nil ?_
    refine D_ret ?_
    refine ret1 (v := (.int .i64 _)) rfl ?_
    refine ⟨?_, hF⟩
    simp

/-! ### The pieces of a line -/
abbrev noS : ByteArray := ⟨#[]⟩
def strEls (l : List ByteArray) : List (List Value) := l.map fun s => [.string s]
@[simp] theorem strEls_len (l : List ByteArray) : (strEls l).length = l.length := by simp [strEls]
theorem strEls_get {l : List ByteArray} {i : Nat} {s : ByteArray} (h : l[i]? = some s) : (strEls l)[i]? = some [.string s] := by simp [strEls, h]
theorem empty_fn (s : ByteArray) (w0 : World) : Calls Tryd.prog 28 #[.string s] w0 fun e w' => ∃ b, e = .returned (.bool b) ∧ (b = true ↔ s = noS) ∧ Fr [] w0 w' := by
  have hF := Fr.refl [] w0
  refine calls_of_D (n := 5) (rs := [.tmp 2]) Tryd.func28 rfl rfl rfl rfl ?_
  refine D_seq ?_
  refine D_region ?_
  refine s_assign (v := (.bool false)) rfl ?_
  refine O_nil ?_
  refine D_seq ?_
  refine D_region ?_
  refine s_move (v := (.string _)) rfl ?_
  refine s_seq2 rfl rfl (fun h1 => ?_) (fun h1 => ?_)
  · skip
    refine s_assign (v := (.bool true)) rfl ?_
    refine O_nil ?_
    refine D_ret ?_
    refine ret1 (v := (.bool true)) rfl ?_
    exact ⟨true, rfl, by simp [h1], hF⟩
  · skip
    refine s_assign (v := (.bool false)) rfl ?_
    refine O_nil ?_
    refine D_ret ?_
    refine ret1 (v := (.bool false)) rfl ?_
    exact ⟨false, rfl, by simp [h1], hF⟩

def FirstEmpty (l : List ByteArray) (r : Int) : Prop :=
  (r = -1 ∧ ∀ s ∈ l, s ≠ noS) ∨ ∃ i : Nat, r = i ∧ l[i]? = some noS ∧ ∀ j s, j < i → l[j]? = some s → s ≠ noS
theorem indexFunc_op (v : Value) (l : List ByteArray) (w0 : World) (hs : Sl w0 v 1 (strEls l)) (hl : l.length ≤ 9223372036854775806) :
    Calls Tryd.prog 35 #[v, .func (.func 28) #[] #[]] w0 fun e w' => ∃ r, e = .returned (.int .i64 r) ∧ FirstEmpty l r ∧ Fr [] w0 w' := by
  have hF := Fr.refl [] w0
  refine calls_of_D (n := 19) (rs := [.tmp 4]) Tryd.func35 rfl rfl rfl rfl ?_
  have hlen := strEls_len l
  refine D_seq ?_
  refine D_region ?_
  refine s_assign (v := (.int .i64 _)) rfl ?_
  refine O_nil ?_
  refine D_seq ?_
  refine D_seq ?_
  refine D_region ?_
  refine s_move (v := (v)) rfl ?_
  refine s_lenSl (v := v) (m := l.length) rfl (hs.fr0 hF) (by simp) und51 ?_
  refine s_move (v := (.int .i64 _)) rfl ?_
  refine O_nil ?_
  refine D_block ?_
  refine D_loop (S := Nat) [4, 5, 8, 9, 10, 11, 12, 13, 14, 15, 16, 17, 18] (fun s => [(8, .int .i64 s)]) (fun s w => s ≤ l.length ∧ (∀ j x, j < s → l[j]? = some x → x ≠ noS) ∧ Fr [] w0 w) (fun s => l.length - s) 0 ?_ ?_ ?_
  · exact ⟨rfl, trivial⟩
  · exact ⟨Nat.zero_le _, by intro j x h; omega, hF⟩
  clear hF
  rintro i u1 w1 ⟨hi, hne, hF⟩
  (try dsimp only at hi); (try dsimp only at hne); (try dsimp only at hF)
  show D _ _ _ _ (upds _ [(8, .int .i64 i)]) _
  refine D_seq ?_
  refine D_region ?_
  refine s_cmp2 rfl rfl rfl (fun h1 => ?_) (fun h1 => ?_)
  · simp only [asks] at h1
    have hlt : i < l.length := by omega
    obtain ⟨x, hx⟩ : ∃ x, l[i]? = some x := ⟨_, List.getElem?_eq_getElem hlt⟩
    refine O_nil ?_
    refine D_seq ?_
    refine D_condT rfl ?_
    refine D_skip ?_
    refine D_seq ?_
    refine D_block ?_
    refine D_seq ?_
    refine D_region ?_
    refine s_move (v := (.int .i64 _)) rfl ?_
    refine s_assign (v := (.int .i64 _)) rfl ?_
    refine O_nil ?_
    refine D_seq ?_
    refine D_region ?_
    refine s_move (v := (.func (.func 28) #[] #[])) rfl ?_
    refine s_move (v := (v)) rfl ?_
    refine s_move (v := (.int .i64 _)) rfl ?_
    refine s_indexSl (v := v) (els := strEls l) rfl rfl rfl (hs.fr0 hF) und51 ti9 (by rw [hlen]; exact hlt) (fun b14 o14 _ hrow => ?_)
    refine s_load1 (v := .string x) rfl ag9 ((hrow _ (strEls_get hx)).at .z rfl) ?_
    refine s_callv (first := []) (cap := []) (av := [.string x]) rfl rfl ca28 (Calls.mono (empty_fn x w1) ?_)
    rintro _ w2 ⟨b, rfl, hb, fw⟩
    refine ⟨_, rfl, ?_⟩
    replace hF := hF.step0 fw
    cases b
    · have hxe : x ≠ noS := by simpa using hb
      refine O_nil ?_
      refine D_condF rfl ?_
      refine D_skip ?_
      refine D_region ?_
      refine s_addi rfl rfl (by omega) ?_
      refine s_move (v := (.int .i64 _)) rfl ?_
      refine O_nil ?_
      refine ⟨⟨i + 1, ⟨rfl, trivial⟩, by repeat' (first | exact agree_over | exact agree_refl | refine agree_upd rfl ?_), ?_, ?_⟩⟩
      · refine ⟨hlt, fun j y hj hy => ?_, hF⟩
        by_cases hji : j = i
        · subst hji; rw [hx] at hy; cases hy; exact hxe
        · exact hne j y (by omega) hy
      · omega
    · have hxe : x = noS := by simpa using hb
      refine O_nil ?_
      refine D_condT rfl ?_
      refine D_seq ?_
      refine D_region ?_
      refine s_move (v := (.int .i64 _)) rfl ?_
      refine s_assign (v := (.int .i64 _)) rfl ?_
      refine O_nil ?_
      refine D_ret ?_
      refine ret1 (v := (.int .i64 _)) rfl ?_
      exact ⟨i, rfl, .inr ⟨i, rfl, by rw [← hxe]; exact hx, hne⟩, hF⟩
  · simp only [asks] at h1
    refine O_nil ?_
    refine D_seq ?_
    refine D_condF rfl ?_
    refine D_exit ?_
    refine D_seq ?_
    refine D_region ?_
    refine s_assign (v := (.int .i64 _)) rfl ?_
    refine O_nil ?_
    refine D_ret ?_
    refine ret1 (v := (.int .i64 _)) rfl ?_
    refine ⟨-1, rfl, .inl ⟨rfl, fun s hm => ?_⟩, hF⟩
    obtain ⟨j, hj⟩ := List.getElem?_of_mem hm
    exact hne j s (by have := (List.getElem?_eq_some_iff.1 hj).1; omega) hj
end Go.Proofs.YtelnfdpbcbohdaaDoor

