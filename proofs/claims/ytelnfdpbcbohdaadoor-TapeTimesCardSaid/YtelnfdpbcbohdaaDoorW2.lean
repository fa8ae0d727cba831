/-
  TapeTimes: for every list and every two numbers: so many times the last ops are so many pieces behind one another, and none of what comes is a Repeat. Conditions: the listed package-level variables hold what the row lists. Own work.
-/
import Derived.Test.YtelnfdpbcbohdaaDoorT10
import Derived.Test.YtelnfdpbcbohdaaDoorD8
import Derived.Test.YtelnfdpbcbohdaaDoorCards
import Derived.Test.YtelnfdpbcbohdaaDoorTie
import Derived.Deep.DeepWitnessRowRef
namespace Go.Proofs.YtelnfdpbcbohdaaDoor
open Go Go.RowKit Go.ChangeShapes Go.WideShapes
set_option maxRecDepth 100000
theorem own : ownKnob Tryd.prog.godebug = none := by kernel_rfl
theorem laidOut : laidOutB Tryd.prog = true := by kernel_rfl
theorem readable : ∀ t, t = 37 ∨ t = 22 → Tryd.prog.readableRec t = true ∧ t < Tryd.prog.types.size := by
  rintro t (rfl | rfl)
  · exact ⟨by kernel_rfl, of_decide_eq_true (by kernel_rfl)⟩
  · exact ⟨by kernel_rfl, of_decide_eq_true (by kernel_rfl)⟩
theorem shapes_flat : ∀ k, k < 20 → ∀ j v, (shCells k)[j]? = some v → (flatD (Rows.laid_trunnion_tape_shapes (H := Unit)))[k * 3 + j]? = some v := by
  have key : ∀ k, k < 20 → ((flatD (Rows.laid_trunnion_tape_shapes (H := Unit))).drop (k * 3)).take 3 = shCells k := by
    intro k hk
    match k, hk with
    | 0, _ => rfl
    | 1, _ => rfl
    | 2, _ => rfl
    | 3, _ => rfl
    | 4, _ => rfl
    | 5, _ => rfl
    | 6, _ => rfl
    | 7, _ => rfl
    | 8, _ => rfl
    | 9, _ => rfl
    | 10, _ => rfl
    | 11, _ => rfl
    | 12, _ => rfl
    | 13, _ => rfl
    | 14, _ => rfl
    | 15, _ => rfl
    | 16, _ => rfl
    | 17, _ => rfl
    | 18, _ => rfl
    | 19, _ => rfl
    | n + 20, h => exact absurd h (by omega)
  intro k hk j v hj
  have hj3 : j < 3 := (List.getElem?_eq_some_iff.1 hj).1
  rw [← key k hk, List.getElem?_take, if_pos hj3, List.getElem?_drop] at hj
  exact hj
theorem gw {W : World} (hL : laidMetH Tryd.prog Rows.tapeTimesRow.laid W) (hS : W.ShapedOpen Tryd.prog) : GW W := by
  have hp : (Rows.tapeTimesRow.laid.all fun x => x.2.handleName?.isNone) = true := by kernel_rfl
  refine ⟨fun k hk j v hj => ?_, ?_, ?_, ?_, ?_, ?_⟩
  · rw [laid_cell (m := 5) hp hL (List.mem_of_getElem? (i := 6) rfl) (g := 0) (t := 44) (by kernel_rfl) (by kernel_rfl) (by kernel_rfl)]
    exact shapes_flat k hk j v hj
  · exact shaped_int hS (g := 1) (t := 3) (zero := #[.int .i64 0]) (of_decide_eq_true (by kernel_rfl)) (by kernel_rfl) rfl (by kernel_rfl) (by kernel_rfl) und3
  · obtain ⟨cs, h1, h2⟩ := laid_flat (m := 5) hp hL (List.mem_of_getElem? (i := 2) rfl) (g := 2) (t := 93) (by kernel_rfl) (by kernel_rfl) (by kernel_rfl)
    unfold Lib.TabIs
    rw [h1, ← Array.toArray_toList (xs := cs), h2]
    rfl
  · obtain ⟨ms, hu⟩ := undI66
    exact laid_iface hp hL (List.mem_of_getElem? (i := 5) rfl) (g := 3) (t := 66) (by kernel_rfl) (by kernel_rfl) hu
  · obtain ⟨ms, hu⟩ := undI66
    exact laid_iface hp hL (List.mem_of_getElem? (i := 4) rfl) (g := 4) (t := 66) (by kernel_rfl) (by kernel_rfl) hu
  · exact shaped_size hS (g := 8) (zero := (((begin Tryd.prog (fun _ _ => 0) default).world.heap[8]?).bind Obj.row?).get!.1) (t := 119) (of_decide_eq_true (by kernel_rfl)) (by kernel_rfl)

/-! ### A world for the witness -/
theorem laid_met (os : Os) (args : Array Value) : laidMetH Tryd.prog Rows.tapeTimesRow.laid ((World.laidAll Tryd.prog os Rows.tapeTimesRow.laid).forCall (fun _ _ => 0) ⟨#[], args, []⟩).memory := by
  rw [MakeChecks.laidMetH_plain _ _ _ (by kernel_rfl)]
  exact laidMet_laidAll _ (by kernel_rfl) (by kernel_rfl)
/-! ### The law of this text -/
theorem timesContract (H : Type) (enc : TypeId × Value → H) (W : World) (base : Nat) (args : Array Value) (ds gs : List (DataW H)) (before : List MemPlace)
    (hval : ∀ (j : Nat) t v, Tryd.f4.params[j]? = some t → args[j]? = some v → Value.okWide Tryd.prog W .any base t v)
    (hW : DataW.Whole enc Tryd.prog Tryd.f4.params.toList Rows.tapeTimesSpec.vars false W args.toList ds gs before)
    (hL : laidMetH Tryd.prog Rows.tapeTimesRow.laid W) (hS : W.ShapedOpen Tryd.prog) :
    Calls Tryd.prog 4 args W fun e W' => ∃ v, e = .returned v ∧ Rows.tapeTimesSpec.post enc Tryd.prog Tryd.f4 false true false false W args v W' := by
  have hW' := hW
  obtain ⟨p, q, hA, hV, rfl, hfz, hnd⟩ := hW'
  have hps : Tryd.f4.params = #[37, 22] := by rfl
  have hA' : DataW.TrodAll enc Tryd.prog W 0 (fun _ => true) true [37, 22] args.toList ds p := hA
  obtain ⟨v0, vs0, d0, ds0, p0, q0, hargs, rfl, rfl, h0, r0⟩ := trodAll_cons hA'
  obtain ⟨v1, vs1, d1, ds1, p1, q1, rfl, rfl, rfl, h1, r1⟩ := trodAll_cons r0
  obtain ⟨rfl, rfl, rfl⟩ := trodAll_nil r1
  obtain rfl : args = #[v0, v1] := by cases args; simp_all
  have hv0 := hval 0 37 v0 rfl rfl
  have hv1 := hval 1 22 v1 rfl rfl
  obtain ⟨a, len, cap, rfl, hlc, -⟩ := cell_slice und37 (arg_cell (by intro fs h; rw [und37] at h; cases h) (by intro m e h; rw [und37] at h; cases h) hv0)
  obtain ⟨cs, rfl, hcl, hcs⟩ := arg_agg (ts := [3, 3]) (.inr ⟨_, _, und22⟩) (by kernel_rfl) (by kernel_rfl) hv1
  match cs, hcl with
  | [c0, c1], _ =>
    obtain ⟨n0, rfl, -⟩ := cell_int und3 (hcs 0 3 c0 rfl rfl)
    obtain ⟨n1, rfl, -⟩ := cell_int und3 (hcs 1 3 c1 rfl rfl)
    refine (times_op a len cap n0 n1 hlc W (gw hL hS)).mono fun e W' ⟨he, hF⟩ => ?_
    refine ⟨_, he, ?_⟩
    exact post_true (tb := 4) laidOut (fun t ht => readable t (by
      rw [hps] at ht; simpa using ht)) (by rfl) und4 rfl rfl rfl rfl hW hF

def timesArgs : Array Value := #[.slice none 0 0, .agg #[.int .i64 0, .int .i64 0]]
theorem timesReads (os : Os) {H : Type} (enc : TypeId × Value → H) : ∃ places, DataW.whole enc Tryd.prog ((World.laidAll Tryd.prog os Rows.tapeTimesRow.laid).forCall (fun _ _ => 0) ⟨#[], timesArgs, []⟩).memory Tryd.f4.params.toList Rows.tapeTimesSpec.vars false timesArgs.toList 8 = some ([.nil, .agg [.lit (.int .i64 0), .lit (.int .i64 0)]], [], places) :=
  ⟨[], by kernel_rfl⟩
theorem timesLifted (os : Os) (started : os.Started) (H : Type) (enc : TypeId × Value → H) (F : Stop.Interp) :
    ReturnsInHanded {} Tryd.checked os 4 .any ((OpenSpec.ofChange Rows.tapeTimesSpec).preRow enc Tryd.prog Tryd.f4 Rows.tapeTimesRow.domain false Rows.tapeTimesRow.laid) (((OpenSpec.ofChange Rows.tapeTimesSpec).at F).post enc Tryd.prog Tryd.f4 false true false false) := by
  obtain ⟨places, hx⟩ := timesReads os enc
  refine returnsInHanded_of_row (C := Tryd.checked) (s := OpenSpec.ofChange Rows.tapeTimesSpec) own started (by kernel_rfl) Tryd.func4
    (witness_row_atRef (enc := enc) (C := Tryd.checked) false (World.laidAll Tryd.prog os Rows.tapeTimesRow.laid) timesArgs (World.laidAll_os _ _ _) (by kernel_rfl) (by kernel_rfl) (by kernel_rfl)
      (OpenSpec.preRow_of_cond 8 hx (by kernel_rfl) (fun k hk => by cases hk) (by kernel_rfl) (laid_met os _))) ?_
  intro W base args ds gs before hval hW _ hcond _ hL hS _
  exact timesContract H enc W base args ds gs before hval hW hL hS
theorem timesSaid : Rows.TapeTimesSaid :=
  OpenClaim.holds_of_cond 4 Tryd.f4 rfl rfl rfl rfl rfl rfl rfl ⟨rfl, rfl, rfl, rfl, rfl⟩ rfl rfl rfl rfl rfl (by kernel_rfl) Tryd.func4 (by kernel_rfl)
    (of_decide_eq_true (by kernel_rfl)) (by unfold Func.isWrapper; first | (rw [if_pos (by decide +kernel)]; kernel_rfl) | (rw [if_neg (by decide +kernel)]; exact ⟨rfl, rfl⟩))
    (fun os started H enc _ F => by rw [OpenClaim.pre_eq_preRow]; exact timesLifted os started H enc F)
theorem timesPlain (f : FuncId) (fn : Func) (hf : Tryd.pinned.checked.prog.funcNamed "trunnion/trunnionlaw29.TapeTimes" = some f) (hfn : Tryd.pinned.checked.prog.funcs[f]? = some fn) :
    true = Tryd.pinned.checked.prog.looks [] ∧ ∀ (j : Nat) t, fn.params[j]? = some t → Tryd.pinned.checked.prog.wantsStandIn t = false := by
  obtain rfl : f = 4 := Option.some.inj ((show Tryd.prog.funcNamed "trunnion/trunnionlaw29.TapeTimes" = some 4 by kernel_rfl).symm.trans hf) |>.symm
  obtain rfl : fn = Tryd.f4 := (Option.some.inj (Tryd.func4.symm.trans hfn)).symm
  refine ⟨by kernel_rfl, fun j t ht => ?_⟩
  have hm : t ∈ [37, 22] := Array.mem_toList_iff.2 (Array.mem_of_getElem? ht)
  simp only [List.mem_cons, List.mem_nil_iff, or_false] at hm
  rcases hm with rfl | rfl
  · exact (show Tryd.prog.wantsStandIn 37 = false by kernel_rfl)
  · exact (show Tryd.prog.wantsStandIn 22 = false by kernel_rfl)
/-- The card. -/
theorem tapeTimes : Rows.TapeTimesCardSaid :=
  Claim7.holds_tied_plain_at .later [] _ _ _ _ timesSaid (fun _ h => by cases h) (by kernel_rfl) (fun _ h => by cases h) tapeTimes_row_tie rfl ⟨rfl, rfl⟩ (by kernel_rfl) rfl timesPlain (by kernel_rfl)
end Go.Proofs.YtelnfdpbcbohdaaDoor

