/- EtaSays answers true for every input: how long any car, with any stops, would take to any call, is what the chapter says; reckoned once, when it is first asked. Conditions: none beyond the row; the table of math/bits is tied by the card. -/
import Derived.Test.YtchjajnhbipkmaaDoorCards
import Derived.Test.YtchjajnhbipkmaaDoorTie
import Derived.Test.YtchjajnhbipkmaaDoorLEtaSays
import Derived.WalkKit
import Derived.ProofKit
import Derived.OpenShut
import Derived.Deep.DeepHandedRow
import Derived.Lib.LaidTab
namespace Go.Proofs.YtchjajnhbipkmaaDoor.etaSays
open Go Go.ChangeShapes Go.WideShapes Go.ChangeAt Go.RowKit
set_option linter.unusedVariables false
theorem own : ownKnob Tryd.prog.godebug = none := by kernel_rfl
theorem laidOut : laidOutB Tryd.prog = true := by kernel_rfl
theorem gTab : Tryd.prog.globalNamed "math/bits.deBruijn64tab" = some 0 := by kernel_rfl
theorem gTabType : (Tryd.prog.globals[0]?).map (·.type) = some 160 := by kernel_rfl
theorem cellsT : Tryd.prog.cellsOf 160 = 64 := by kernel_rfl
theorem cells5 : Tryd.prog.cellsOf 5 = 1 := by kernel_rfl
theorem table {W : World} (h : laidMetH Tryd.prog Rows.etaSaysRow.laid W) : Lib.TabIs Tryd.prog W "math/bits.deBruijn64tab" .u8 (Lib.deBruijn64tab.map fun n : Nat => (n : Int)) :=
  Lib.tabIs_of_head (rest := []) gTab gTabType Tryd.underlying160 Tryd.underlying5 cells5 cellsT h
theorem known {W : World} (h : laidMetH Tryd.prog Rows.etaSaysRow.laid W) : G W := fun j hj => by
  have h1 := (table h).cell gTab j (by simpa using hj)
  rw [List.getD_eq_getElem?_getD, List.getElem?_map, List.getElem?_eq_getElem hj] at h1
  rw [List.getD_eq_getElem?_getD, List.getElem?_eq_getElem hj]
  exact h1
theorem inputs (ls : List Vg.Leaf) (h0 : Vg.rngs (Vg.shCells C_EtaSays.params) ls) : C_EtaSays.pre ls ∧ C_EtaSays.fn ls = [.b true] := by
  have h : Vg.rngs [.int .i64, .int .i64, .int .i64, .int .i64, .int .i64, .int .i64, .int .i64, .bool, .int .i64, .int .u64, .int .u64, .int .u64, .int .i64, .int .i64] ls := h0
  clear h0
  obtain ⟨n0, l0, rfl, h0, h⟩ := Vg.rngs_i h
  obtain ⟨n1, l1, rfl, h1, h⟩ := Vg.rngs_i h
  obtain ⟨n2, l2, rfl, h2, h⟩ := Vg.rngs_i h
  obtain ⟨n3, l3, rfl, h3, h⟩ := Vg.rngs_i h
  obtain ⟨n4, l4, rfl, h4, h⟩ := Vg.rngs_i h
  obtain ⟨n5, l5, rfl, h5, h⟩ := Vg.rngs_i h
  obtain ⟨n6, l6, rfl, h6, h⟩ := Vg.rngs_i h
  obtain ⟨n7, l7, rfl, h7, h⟩ := Vg.rngs_b h
  obtain ⟨n8, l8, rfl, h8, h⟩ := Vg.rngs_i h
  obtain ⟨n9, l9, rfl, h9, h⟩ := Vg.rngs_u h
  obtain ⟨n10, l10, rfl, h10, h⟩ := Vg.rngs_u h
  obtain ⟨n11, l11, rfl, h11, h⟩ := Vg.rngs_u h
  obtain ⟨n12, l12, rfl, h12, h⟩ := Vg.rngs_i h
  obtain ⟨n13, l13, rfl, h13, h⟩ := Vg.rngs_i h
  obtain rfl := Vg.rngs_nil h
  exact ⟨⟨h0, h1, h2, h3, h4, h5, h6, h8, h9, h10, h11, h12, h13, trivial⟩, rfl⟩
noncomputable def laidWorld (os : Os) : World :=
  { World.holding Tryd.prog os ⟨#[], #[], []⟩ with heap := (World.holding Tryd.prog os ⟨#[], #[], []⟩).heap.modify 0 fun
      | .cells _ t frozen => .cells (Lib.deBruijn64tab.map fun n : Nat => Value.int .u8 (n : Int)).toArray t frozen
      | o => o }
theorem laid_met (os : Os) : laidMet Tryd.prog Rows.etaSaysRow.laid ((laidWorld os).forCall (fun _ _ => 0) ⟨#[], #[.agg #[.int .i64 0, .int .i64 0, .int .i64 0, .int .i64 0], .agg #[.int .i64 0, .int .i64 0, .int .i64 0, .bool false, .int .i64 0], .agg #[.int .u64 0, .int .u64 0, .int .u64 0], .agg #[.int .i64 0, .int .i64 0]], []⟩).memory :=
  laidMet_of_run' 8 (by kernel_rfl) (by kernel_rfl)
theorem reads (os : Os) {H : Type} (enc : TypeId × Value → H) : ∃ places, DataW.whole enc Tryd.prog ((laidWorld os).forCall (fun _ _ => 0) ⟨#[], #[.agg #[.int .i64 0, .int .i64 0, .int .i64 0, .int .i64 0], .agg #[.int .i64 0, .int .i64 0, .int .i64 0, .bool false, .int .i64 0], .agg #[.int .u64 0, .int .u64 0, .int .u64 0], .agg #[.int .i64 0, .int .i64 0]], []⟩).memory Tryd.f16.params.toList Rows.etaSaysSpec.vars false (#[.agg #[.int .i64 0, .int .i64 0, .int .i64 0, .int .i64 0], .agg #[.int .i64 0, .int .i64 0, .int .i64 0, .bool false, .int .i64 0], .agg #[.int .u64 0, .int .u64 0, .int .u64 0], .agg #[.int .i64 0, .int .i64 0]] : Array Value).toList 8 = some ([.agg [.lit (.int .i64 0), .lit (.int .i64 0), .lit (.int .i64 0), .lit (.int .i64 0)], .agg [.agg [.lit (.int .i64 0), .lit (.int .i64 0), .lit (.int .i64 0), .lit (.bool false)], .lit (.int .i64 0)], .agg [.lit (.int .u64 0), .lit (.int .u64 0), .lit (.int .u64 0)], .agg [.lit (.int .i64 0), .lit (.int .i64 0)]], [], places) :=
  ⟨[], by kernel_rfl⟩
set_option maxRecDepth 100000 in
theorem lifted (os : Os) (started : os.Started) (H : Type) (enc : TypeId × Value → H) (F : Stop.Interp) :
    ReturnsInHanded {} Tryd.checked os 16 .any ((OpenSpec.ofChange Rows.etaSaysSpec).preRow enc Tryd.prog Tryd.f16 Rows.etaSaysRow.domain false Rows.etaSaysRow.laid) (((OpenSpec.ofChange Rows.etaSaysSpec).at F).post enc Tryd.prog Tryd.f16 false true false false) := by
  obtain ⟨places, hx⟩ := reads os enc
  refine returnsInHanded_of_row (C := Tryd.checked) (s := OpenSpec.ofChange Rows.etaSaysSpec) own started (by kernel_rfl) Tryd.func16
    (witness_row_at (enc := enc) (C := Tryd.checked) false (laidWorld os) #[.agg #[.int .i64 0, .int .i64 0, .int .i64 0, .int .i64 0], .agg #[.int .i64 0, .int .i64 0, .int .i64 0, .bool false, .int .i64 0], .agg #[.int .u64 0, .int .u64 0, .int .u64 0], .agg #[.int .i64 0, .int .i64 0]] rfl (by kernel_rfl) (by kernel_rfl) (by kernel_rfl)
      (OpenSpec.preRow_of_cond 8 hx (by kernel_rfl) (fun k hk => by cases hk) (by kernel_rfl) (laid_met os))) ?_
  intro W base args ds gs before hval hW _ _ _ hL _ _
  refine Vg.law_calls (P := Tryd.prog) (fn := Tryd.f16) laidOut EtaSays_sound (s := Rows.etaSaysSpec) (tb := 4) rfl Tryd.underlying4 (by kernel_rfl) rfl (Vg.all_rd (by kernel_rfl)) inputs rfl ?_ (known hL) hval hW
  intro ds hds
  match ds, hds with
  | [d0, d1, d2, d3], _ => exact ⟨rfl, rfl, rfl⟩
theorem said : Rows.EtaSaysSaid :=
  OpenClaim.holds_of_cond 16 Tryd.f16 rfl rfl rfl rfl rfl rfl rfl ⟨rfl, rfl, rfl, rfl, rfl⟩ rfl rfl rfl rfl rfl (by kernel_rfl) Tryd.func16 (by kernel_rfl)
    (of_decide_eq_true (by kernel_rfl)) (by unfold Func.isWrapper; first | (rw [if_pos (by decide +kernel)]; kernel_rfl) | (rw [if_neg (by decide +kernel)]; exact ⟨rfl, rfl⟩))
    (fun os started H enc _ F => by rw [OpenClaim.pre_eq_preRow]; exact lifted os started H enc F)
theorem plain (f : FuncId) (fn : Func) (hf : Tryd.pinned.checked.prog.funcNamed "paternoster/paternosterlaw17.EtaSays" = some f) (hfn : Tryd.pinned.checked.prog.funcs[f]? = some fn) :
    false = Tryd.pinned.checked.prog.looks [] ∧ ∀ (j : Nat) t, fn.params[j]? = some t → Tryd.pinned.checked.prog.wantsStandIn t = false := by
  obtain rfl : f = 16 := Option.some.inj ((show Tryd.prog.funcNamed "paternoster/paternosterlaw17.EtaSays" = some 16 by kernel_rfl).symm.trans hf) |>.symm
  obtain rfl : fn = Tryd.f16 := (Option.some.inj (Tryd.func16.symm.trans hfn)).symm
  refine ⟨by kernel_rfl, fun j t ht => ?_⟩
  have hm : t ∈ Tryd.f16.params.toList := by simpa using Array.mem_of_getElem? ht
  have hall : (Tryd.f16.params.toList.all fun u => !Tryd.prog.wantsStandIn u) = true := by kernel_rfl
  exact (show Tryd.prog.wantsStandIn t = false by simpa using List.all_eq_true.1 hall t hm)
theorem card : Rows.EtaSaysCardSaid :=
  Claim7.holds_tied_plain_at .later [] _ _ _ _ said (fun _ h => by cases h) (by kernel_rfl) (fun _ h => by cases h) etaSays_row_tie rfl ⟨rfl, rfl⟩ (by kernel_rfl) rfl plain (by kernel_rfl)
end Go.Proofs.YtchjajnhbipkmaaDoor.etaSays
namespace Go.Proofs.YtchjajnhbipkmaaDoor
/-- The card, under a short name, for the claim. -/
theorem etaSays_holds : Rows.EtaSaysCardSaid := etaSays.card
end Go.Proofs.YtchjajnhbipkmaaDoor
