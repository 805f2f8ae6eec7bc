/- RiserPlays answers true for every input: the riser and its reference answer alike, whatever is pressed, cleared and asked. Conditions: none beyond the row; the sentinel errors are tied by the card. -/
import Derived.Test.YtccdhkmohimfhaaDoorCards
import Derived.Test.YtccdhkmohimfhaaDoorTie
import Derived.Test.YtccdhkmohimfhaaDoorLRiserPlays
import Derived.WalkKit
import Derived.ProofKit
import Derived.OpenShut
import Derived.Deep.DeepHandedRow
import Derived.Lib.LaidTab
import Derived.LaidSub
import Derived.Stop.LaidTwo
import Derived.Stop.LaidErr
namespace Go.Proofs.YtccdhkmohimfhaaDoor.riserPlays
open Go Go.ChangeShapes Go.WideShapes Go.ChangeAt Go.RowKit
set_option linter.unusedVariables false
theorem own : ownKnob Tryd.prog.godebug = none := by kernel_rfl
theorem laidOut : laidOutB Tryd.prog = true := by kernel_rfl
theorem star : "*" ++ "errors.errorString" = "*errors.errorString" := by decide
theorem row111 (u : TypeId) (h : Tryd.prog.typeName? 3 u = some "*errors.errorString") : u = 111 :=
  typeName_ptr_named (nm := "errors.errorString") (by rw [star]; kernel_rfl) (by kernel_rfl) (by decide) u (by rw [star]; exact h)
theorem gErrEnd : Tryd.prog.globalNamed "paternoster/api.ErrEnd" = some 2 := by kernel_rfl
theorem tErrEnd : (Tryd.prog.globals[2]?).map (·.type) = some 26 := by kernel_rfl
theorem gErrShape : Tryd.prog.globalNamed "paternoster/api.ErrShape" = some 3 := by kernel_rfl
theorem tErrShape : (Tryd.prog.globals[3]?).map (·.type) = some 26 := by kernel_rfl
theorem gErrRange : Tryd.prog.globalNamed "paternoster/api.ErrRange" = some 0 := by kernel_rfl
theorem tErrRange : (Tryd.prog.globals[0]?).map (·.type) = some 26 := by kernel_rfl
theorem gErrMany : Tryd.prog.globalNamed "paternoster/api.ErrMany" = some 4 := by kernel_rfl
theorem tErrMany : (Tryd.prog.globals[4]?).map (·.type) = some 26 := by kernel_rfl
theorem gErrPower : Tryd.prog.globalNamed "paternoster/api.ErrPower" = some 5 := by kernel_rfl
theorem tErrPower : (Tryd.prog.globals[5]?).map (·.type) = some 26 := by kernel_rfl
theorem gErrNone : Tryd.prog.globalNamed "paternoster/api.ErrNone" = some 6 := by kernel_rfl
theorem tErrNone : (Tryd.prog.globals[6]?).map (·.type) = some 26 := by kernel_rfl
theorem gErrKind : Tryd.prog.globalNamed "paternoster/api.ErrKind" = some 7 := by kernel_rfl
theorem tErrKind : (Tryd.prog.globals[7]?).map (·.type) = some 26 := by kernel_rfl
theorem gErrOrder : Tryd.prog.globalNamed "paternoster/api.ErrOrder" = some 8 := by kernel_rfl
theorem tErrOrder : (Tryd.prog.globals[8]?).map (·.type) = some 26 := by kernel_rfl
theorem gErrDoor : Tryd.prog.globalNamed "paternoster/api.ErrDoor" = some 9 := by kernel_rfl
theorem tErrDoor : (Tryd.prog.globals[9]?).map (·.type) = some 26 := by kernel_rfl
theorem gErrFloor : Tryd.prog.globalNamed "paternoster/api.ErrFloor" = some 10 := by kernel_rfl
theorem tErrFloor : (Tryd.prog.globals[10]?).map (·.type) = some 26 := by kernel_rfl
theorem gErrTwice : Tryd.prog.globalNamed "paternoster/api.ErrTwice" = some 11 := by kernel_rfl
theorem tErrTwice : (Tryd.prog.globals[11]?).map (·.type) = some 26 := by kernel_rfl
theorem gErrWord : Tryd.prog.globalNamed "paternoster/api.ErrWord" = some 12 := by kernel_rfl
theorem tErrWord : (Tryd.prog.globals[12]?).map (·.type) = some 26 := by kernel_rfl
theorem gErrNumber : Tryd.prog.globalNamed "paternoster/api.ErrNumber" = some 13 := by kernel_rfl
theorem tErrNumber : (Tryd.prog.globals[13]?).map (·.type) = some 26 := by kernel_rfl
theorem cells128 : Tryd.prog.cellsOf 128 = 1 := by kernel_rfl
theorem cellsS : Tryd.prog.cellsOf 9 = 1 := by kernel_rfl
theorem laid_some {W : World} (h : laidMetH Tryd.prog Rows.riserPlaysRow.laid W) (keep : String × DataW Unit → Bool) (l : List (String × DataW Unit)) (e : (Rows.riserPlaysRow.laid.filter keep).filter (fun x => x.2.handleName?.isNone) = l) : laidMet Tryd.prog l W := by
  have h1 := (laidMetH_iff.1 (h.filter keep)).1
  rw [e] at h1
  exact h1
theorem sent_cell {W : World} {n : String} {k : Nat} {a : Addr} (hg : Tryd.prog.globalNamed n = some k) (h : W.var? Tryd.prog n = some #[.iface 111 (.pointer (some a))]) : W.cell? ⟨k, 0, none⟩ = some (.iface 111 (.pointer (some a))) := by
  rw [World.var?_cell hg h]
  rfl
theorem known {W : World} (h : laidMetH Tryd.prog Rows.riserPlaysRow.laid W) : G6 W := by
  have mErrEnd := laid_some h (fun x => x.1 == "paternoster/api.ErrEnd" || x.1 == "paternoster/api.ErrRange") [("paternoster/api.ErrEnd", .iface "*errors.errorString" (.ptr (.agg [.lit (.string [105, 116, 32, 101, 110, 100, 115, 32, 116, 111, 111, 32, 101, 97, 114, 108, 121])]))), ("paternoster/api.ErrRange", .iface "*errors.errorString" (.ptr (.agg [.lit (.string [97, 32, 110, 117, 109, 98, 101, 114, 32, 111, 117, 116, 32, 111, 102, 32, 105, 116, 115, 32, 114, 97, 110, 103, 101])])))] (by kernel_rfl)
  obtain ⟨aErrEnd, bErrEnd, -, -, cErrEnd, dErrEnd, ctErrEnd, dtErrEnd, vErrEnd, uErrEnd, -, -, -, -, -, -, neErrEnd, hErrEnd, iErrEnd⟩ := laid_sentinels2 mErrEnd gErrEnd tErrEnd gErrRange tErrRange Tryd.underlying26 row111 Tryd.underlying111 Tryd.underlying128 rfl rfl Tryd.underlying9 cells128 cellsS
  have mErrShape := laid_some h (fun x => x.1 == "paternoster/api.ErrShape" || x.1 == "paternoster/api.ErrRange") [("paternoster/api.ErrShape", .iface "*errors.errorString" (.ptr (.agg [.lit (.string [110, 111, 116, 32, 97, 115, 32, 105, 116, 32, 104, 97, 115, 32, 116, 111, 32, 98, 101])]))), ("paternoster/api.ErrRange", .iface "*errors.errorString" (.ptr (.agg [.lit (.string [97, 32, 110, 117, 109, 98, 101, 114, 32, 111, 117, 116, 32, 111, 102, 32, 105, 116, 115, 32, 114, 97, 110, 103, 101])])))] (by kernel_rfl)
  obtain ⟨aErrShape, bErrShape, -, -, cErrShape, dErrShape, ctErrShape, dtErrShape, vErrShape, uErrShape, -, -, -, -, -, -, neErrShape, hErrShape, iErrShape⟩ := laid_sentinels2 mErrShape gErrShape tErrShape gErrRange tErrRange Tryd.underlying26 row111 Tryd.underlying111 Tryd.underlying128 rfl rfl Tryd.underlying9 cells128 cellsS
  have eR : bErrShape = bErrEnd := by
    have e := uErrShape.symm.trans uErrEnd
    simp only [Option.some.injEq, Array.mk.injEq, List.cons.injEq, Value.iface.injEq, Value.pointer.injEq, true_and, and_true] at e
    exact e
  subst eR
  have mErrMany := laid_some h (fun x => x.1 == "paternoster/api.ErrMany") [("paternoster/api.ErrMany", .iface "*errors.errorString" (.ptr (.agg [.lit (.string [116, 111, 111, 32, 109, 97, 110, 121])])))] (by kernel_rfl)
  obtain ⟨aErrMany, -, vErrMany, -, -, -⟩ := laid_sentinel mErrMany gErrMany tErrMany Tryd.underlying26 row111 Tryd.underlying111 Tryd.underlying128 rfl rfl Tryd.underlying9 cells128 cellsS
  have mErrPower := laid_some h (fun x => x.1 == "paternoster/api.ErrPower") [("paternoster/api.ErrPower", .iface "*errors.errorString" (.ptr (.agg [.lit (.string [116, 104, 101, 32, 112, 111, 119, 101, 114, 32, 105, 115, 32, 103, 111, 110, 101])])))] (by kernel_rfl)
  obtain ⟨aErrPower, -, vErrPower, -, -, -⟩ := laid_sentinel mErrPower gErrPower tErrPower Tryd.underlying26 row111 Tryd.underlying111 Tryd.underlying128 rfl rfl Tryd.underlying9 cells128 cellsS
  have mErrNone := laid_some h (fun x => x.1 == "paternoster/api.ErrNone") [("paternoster/api.ErrNone", .iface "*errors.errorString" (.ptr (.agg [.lit (.string [116, 104, 101, 114, 101, 32, 105, 115, 32, 110, 111, 110, 101])])))] (by kernel_rfl)
  obtain ⟨aErrNone, -, vErrNone, -, -, -⟩ := laid_sentinel mErrNone gErrNone tErrNone Tryd.underlying26 row111 Tryd.underlying111 Tryd.underlying128 rfl rfl Tryd.underlying9 cells128 cellsS
  have mErrKind := laid_some h (fun x => x.1 == "paternoster/api.ErrKind") [("paternoster/api.ErrKind", .iface "*errors.errorString" (.ptr (.agg [.lit (.string [110, 111, 116, 32, 111, 102, 32, 116, 104, 97, 116, 32, 107, 105, 110, 100])])))] (by kernel_rfl)
  obtain ⟨aErrKind, -, vErrKind, -, -, -⟩ := laid_sentinel mErrKind gErrKind tErrKind Tryd.underlying26 row111 Tryd.underlying111 Tryd.underlying128 rfl rfl Tryd.underlying9 cells128 cellsS
  have mErrOrder := laid_some h (fun x => x.1 == "paternoster/api.ErrOrder") [("paternoster/api.ErrOrder", .iface "*errors.errorString" (.ptr (.agg [.lit (.string [110, 111, 116, 32, 105, 110, 32, 116, 104, 97, 116, 32, 111, 114, 100, 101, 114])])))] (by kernel_rfl)
  obtain ⟨aErrOrder, -, vErrOrder, -, -, -⟩ := laid_sentinel mErrOrder gErrOrder tErrOrder Tryd.underlying26 row111 Tryd.underlying111 Tryd.underlying128 rfl rfl Tryd.underlying9 cells128 cellsS
  have mErrDoor := laid_some h (fun x => x.1 == "paternoster/api.ErrDoor") [("paternoster/api.ErrDoor", .iface "*errors.errorString" (.ptr (.agg [.lit (.string [110, 111, 116, 32, 119, 105, 116, 104, 32, 116, 104, 101, 32, 100, 111, 111, 114, 32, 115, 111])])))] (by kernel_rfl)
  obtain ⟨aErrDoor, -, vErrDoor, -, -, -⟩ := laid_sentinel mErrDoor gErrDoor tErrDoor Tryd.underlying26 row111 Tryd.underlying111 Tryd.underlying128 rfl rfl Tryd.underlying9 cells128 cellsS
  have mErrFloor := laid_some h (fun x => x.1 == "paternoster/api.ErrFloor") [("paternoster/api.ErrFloor", .iface "*errors.errorString" (.ptr (.agg [.lit (.string [110, 111, 116, 32, 97, 116, 32, 116, 104, 97, 116, 32, 102, 108, 111, 111, 114])])))] (by kernel_rfl)
  obtain ⟨aErrFloor, -, vErrFloor, -, -, -⟩ := laid_sentinel mErrFloor gErrFloor tErrFloor Tryd.underlying26 row111 Tryd.underlying111 Tryd.underlying128 rfl rfl Tryd.underlying9 cells128 cellsS
  have mErrTwice := laid_some h (fun x => x.1 == "paternoster/api.ErrTwice") [("paternoster/api.ErrTwice", .iface "*errors.errorString" (.ptr (.agg [.lit (.string [116, 104, 101, 114, 101, 32, 105, 115, 32, 111, 110, 101])])))] (by kernel_rfl)
  obtain ⟨aErrTwice, -, vErrTwice, -, -, -⟩ := laid_sentinel mErrTwice gErrTwice tErrTwice Tryd.underlying26 row111 Tryd.underlying111 Tryd.underlying128 rfl rfl Tryd.underlying9 cells128 cellsS
  have mErrWord := laid_some h (fun x => x.1 == "paternoster/api.ErrWord") [("paternoster/api.ErrWord", .iface "*errors.errorString" (.ptr (.agg [.lit (.string [110, 111, 32, 115, 117, 99, 104, 32, 119, 111, 114, 100])])))] (by kernel_rfl)
  obtain ⟨aErrWord, -, vErrWord, -, -, -⟩ := laid_sentinel mErrWord gErrWord tErrWord Tryd.underlying26 row111 Tryd.underlying111 Tryd.underlying128 rfl rfl Tryd.underlying9 cells128 cellsS
  have mErrNumber := laid_some h (fun x => x.1 == "paternoster/api.ErrNumber") [("paternoster/api.ErrNumber", .iface "*errors.errorString" (.ptr (.agg [.lit (.string [110, 111, 116, 32, 97, 32, 110, 117, 109, 98, 101, 114])])))] (by kernel_rfl)
  obtain ⟨aErrNumber, -, vErrNumber, -, -, -⟩ := laid_sentinel mErrNumber gErrNumber tErrNumber Tryd.underlying26 row111 Tryd.underlying111 Tryd.underlying128 rfl rfl Tryd.underlying9 cells128 cellsS
  refine ⟨fun k => match k with | 0 => bErrShape | 2 => aErrEnd | 3 => aErrShape | 4 => aErrMany | 5 => aErrPower | 6 => aErrNone | 7 => aErrKind | 8 => aErrOrder | 9 => aErrDoor | 10 => aErrFloor | 11 => aErrTwice | 12 => aErrWord | 13 => aErrNumber | _ => aErrEnd, ⟨fun k hk h1 => ?_, Ne.symm neErrEnd, Ne.symm neErrShape, ⟨_, _, iErrEnd⟩, ⟨_, _, hErrEnd⟩, ⟨_, _, hErrShape⟩⟩⟩
  match k, hk, h1 with
  | 0, _, _ => exact sent_cell gErrRange uErrShape
  | 1, _, h1 => exact absurd rfl h1
  | 2, _, _ => exact sent_cell gErrEnd vErrEnd
  | 3, _, _ => exact sent_cell gErrShape vErrShape
  | 4, _, _ => exact sent_cell gErrMany vErrMany
  | 5, _, _ => exact sent_cell gErrPower vErrPower
  | 6, _, _ => exact sent_cell gErrNone vErrNone
  | 7, _, _ => exact sent_cell gErrKind vErrKind
  | 8, _, _ => exact sent_cell gErrOrder vErrOrder
  | 9, _, _ => exact sent_cell gErrDoor vErrDoor
  | 10, _, _ => exact sent_cell gErrFloor vErrFloor
  | 11, _, _ => exact sent_cell gErrTwice vErrTwice
  | 12, _, _ => exact sent_cell gErrWord vErrWord
  | 13, _, _ => exact sent_cell gErrNumber vErrNumber
  | k + 14, hk, _ => omega
def laidText : DataW Unit → ByteArray
  | .iface _ (.ptr (.agg [.lit (.string l)])) => ⟨l.toArray⟩
  | _ => ⟨#[]⟩
theorem inputs (ls : List Vg.Leaf) (h0 : Vg.rngs (Vg.shCells C_RiserPlays.params) ls) : C_RiserPlays.pre ls ∧ C_RiserPlays.fn ls = [.b true] := by
  have h : Vg.rngs [.int .i64, .lst [.int .i64, .int .i64, .int .i64, .int .i64], .int .i64, .int .i64, .int .i64] ls := h0
  clear h0
  obtain ⟨n0, l0, rfl, h0, h⟩ := Vg.rngs_i h
  obtain ⟨n1, l1, rfl, h1, h⟩ := Vg.rngs_l h
  obtain ⟨n2, l2, rfl, h2, h⟩ := Vg.rngs_i h
  obtain ⟨n3, l3, rfl, h3, h⟩ := Vg.rngs_i h
  obtain ⟨n4, l4, rfl, h4, h⟩ := Vg.rngs_i h
  obtain rfl := Vg.rngs_nil h
  exact ⟨⟨h0, h1, h2, h3, h4, trivial⟩, rfl⟩
noncomputable def laidWorld (os : Os) : World :=
  { World.holding Tryd.prog os ⟨#[.cells #[.string (laidText Rows.laid_paternoster_api_ErrEnd)] 128, .cells #[.string (laidText Rows.laid_paternoster_api_ErrShape)] 128, .cells #[.string (laidText Rows.laid_paternoster_api_ErrRange)] 128, .cells #[.string (laidText Rows.laid_paternoster_api_ErrMany)] 128, .cells #[.string (laidText Rows.laid_paternoster_api_ErrPower)] 128, .cells #[.string (laidText Rows.laid_paternoster_api_ErrNone)] 128, .cells #[.string (laidText Rows.laid_paternoster_api_ErrKind)] 128, .cells #[.string (laidText Rows.laid_paternoster_api_ErrOrder)] 128, .cells #[.string (laidText Rows.laid_paternoster_api_ErrDoor)] 128, .cells #[.string (laidText Rows.laid_paternoster_api_ErrFloor)] 128, .cells #[.string (laidText Rows.laid_paternoster_api_ErrTwice)] 128, .cells #[.string (laidText Rows.laid_paternoster_api_ErrWord)] 128, .cells #[.string (laidText Rows.laid_paternoster_api_ErrNumber)] 128], #[], []⟩ with heap := ((((((((((((((World.holding Tryd.prog os ⟨#[.cells #[.string (laidText Rows.laid_paternoster_api_ErrEnd)] 128, .cells #[.string (laidText Rows.laid_paternoster_api_ErrShape)] 128, .cells #[.string (laidText Rows.laid_paternoster_api_ErrRange)] 128, .cells #[.string (laidText Rows.laid_paternoster_api_ErrMany)] 128, .cells #[.string (laidText Rows.laid_paternoster_api_ErrPower)] 128, .cells #[.string (laidText Rows.laid_paternoster_api_ErrNone)] 128, .cells #[.string (laidText Rows.laid_paternoster_api_ErrKind)] 128, .cells #[.string (laidText Rows.laid_paternoster_api_ErrOrder)] 128, .cells #[.string (laidText Rows.laid_paternoster_api_ErrDoor)] 128, .cells #[.string (laidText Rows.laid_paternoster_api_ErrFloor)] 128, .cells #[.string (laidText Rows.laid_paternoster_api_ErrTwice)] 128, .cells #[.string (laidText Rows.laid_paternoster_api_ErrWord)] 128, .cells #[.string (laidText Rows.laid_paternoster_api_ErrNumber)] 128], #[], []⟩).heap.modify 2 fun
      | .cells _ t frozen => .cells #[.iface 111 (.pointer (some ⟨21, 0, none⟩))] t frozen
      | o => o).modify 3 fun
      | .cells _ t frozen => .cells #[.iface 111 (.pointer (some ⟨22, 0, none⟩))] t frozen
      | o => o).modify 0 fun
      | .cells _ t frozen => .cells #[.iface 111 (.pointer (some ⟨23, 0, none⟩))] t frozen
      | o => o).modify 4 fun
      | .cells _ t frozen => .cells #[.iface 111 (.pointer (some ⟨24, 0, none⟩))] t frozen
      | o => o).modify 5 fun
      | .cells _ t frozen => .cells #[.iface 111 (.pointer (some ⟨25, 0, none⟩))] t frozen
      | o => o).modify 6 fun
      | .cells _ t frozen => .cells #[.iface 111 (.pointer (some ⟨26, 0, none⟩))] t frozen
      | o => o).modify 7 fun
      | .cells _ t frozen => .cells #[.iface 111 (.pointer (some ⟨27, 0, none⟩))] t frozen
      | o => o).modify 8 fun
      | .cells _ t frozen => .cells #[.iface 111 (.pointer (some ⟨28, 0, none⟩))] t frozen
      | o => o).modify 9 fun
      | .cells _ t frozen => .cells #[.iface 111 (.pointer (some ⟨29, 0, none⟩))] t frozen
      | o => o).modify 10 fun
      | .cells _ t frozen => .cells #[.iface 111 (.pointer (some ⟨30, 0, none⟩))] t frozen
      | o => o).modify 11 fun
      | .cells _ t frozen => .cells #[.iface 111 (.pointer (some ⟨31, 0, none⟩))] t frozen
      | o => o).modify 12 fun
      | .cells _ t frozen => .cells #[.iface 111 (.pointer (some ⟨32, 0, none⟩))] t frozen
      | o => o).modify 13 fun
      | .cells _ t frozen => .cells #[.iface 111 (.pointer (some ⟨33, 0, none⟩))] t frozen
      | o => o) }
theorem laid_met (os : Os) : laidMet Tryd.prog Rows.riserPlaysRow.laid ((laidWorld os).forCall (fun _ _ => 0) ⟨#[], #[.int .i64 0, .slice none 0 0, .agg #[.int .i64 0, .int .i64 0, .int .i64 0]], []⟩).memory :=
  laidMet_of_run' 8 (by kernel_rfl) (by kernel_rfl)
theorem reads (os : Os) {H : Type} (enc : TypeId × Value → H) : ∃ places, DataW.whole enc Tryd.prog ((laidWorld os).forCall (fun _ _ => 0) ⟨#[], #[.int .i64 0, .slice none 0 0, .agg #[.int .i64 0, .int .i64 0, .int .i64 0]], []⟩).memory Tryd.f6.params.toList Rows.riserPlaysSpec.vars false (#[.int .i64 0, .slice none 0 0, .agg #[.int .i64 0, .int .i64 0, .int .i64 0]] : Array Value).toList 8 = some ([.lit (.int .i64 0), .nil, .agg [.agg [.lit (.int .i64 0), .lit (.int .i64 0)], .lit (.int .i64 0)]], [], places) :=
  ⟨[], by kernel_rfl⟩
set_option maxRecDepth 100000 in
theorem lifted (os : Os) (started : os.Started) (H : Type) (enc : TypeId × Value → H) (F : Stop.Interp) :
    ReturnsInHanded {} Tryd.checked os 6 .any ((OpenSpec.ofChange Rows.riserPlaysSpec).preRow enc Tryd.prog Tryd.f6 Rows.riserPlaysRow.domain false Rows.riserPlaysRow.laid) (((OpenSpec.ofChange Rows.riserPlaysSpec).at F).post enc Tryd.prog Tryd.f6 false true false false) := by
  obtain ⟨places, hx⟩ := reads os enc
  refine returnsInHanded_of_row (C := Tryd.checked) (s := OpenSpec.ofChange Rows.riserPlaysSpec) own started (by kernel_rfl) Tryd.func6
    (witness_row_at (enc := enc) (C := Tryd.checked) false (laidWorld os) #[.int .i64 0, .slice none 0 0, .agg #[.int .i64 0, .int .i64 0, .int .i64 0]] rfl (by kernel_rfl) (by kernel_rfl) (by kernel_rfl)
      (OpenSpec.preRow_of_cond 8 hx (by kernel_rfl) (fun k hk => by cases hk) (by kernel_rfl) (laid_met os))) ?_
  intro W base args ds gs before hval hW _ _ _ hL _ _
  refine Vg.law_calls (P := Tryd.prog) (fn := Tryd.f6) laidOut RiserPlays_sound (s := Rows.riserPlaysSpec) (tb := 4) rfl Tryd.underlying4 (by kernel_rfl) rfl (Vg.all_rd (by kernel_rfl)) inputs rfl ?_ (known hL) hval hW
  intro ds hds
  match ds, hds with
  | [d0, d1, d2], _ => exact ⟨rfl, rfl, rfl⟩
theorem said : Rows.RiserPlaysSaid :=
  OpenClaim.holds_of_cond 6 Tryd.f6 rfl rfl rfl rfl rfl rfl rfl ⟨rfl, rfl, rfl, rfl, rfl⟩ rfl rfl rfl rfl rfl (by kernel_rfl) Tryd.func6 (by kernel_rfl)
    (of_decide_eq_true (by kernel_rfl)) (by unfold Func.isWrapper; first | (rw [if_pos (by decide +kernel)]; kernel_rfl) | (rw [if_neg (by decide +kernel)]; exact ⟨rfl, rfl⟩))
    (fun os started H enc _ F => by rw [OpenClaim.pre_eq_preRow]; exact lifted os started H enc F)
theorem plain (f : FuncId) (fn : Func) (hf : Tryd.pinned.checked.prog.funcNamed "paternoster/paternosterlaw10.RiserPlays" = some f) (hfn : Tryd.pinned.checked.prog.funcs[f]? = some fn) :
    true = Tryd.pinned.checked.prog.looks [] ∧ ∀ (j : Nat) t, fn.params[j]? = some t → Tryd.pinned.checked.prog.wantsStandIn t = false := by
  obtain rfl : f = 6 := Option.some.inj ((show Tryd.prog.funcNamed "paternoster/paternosterlaw10.RiserPlays" = some 6 by kernel_rfl).symm.trans hf) |>.symm
  obtain rfl : fn = Tryd.f6 := (Option.some.inj (Tryd.func6.symm.trans hfn)).symm
  refine ⟨by kernel_rfl, fun j t ht => ?_⟩
  have hm : t ∈ Tryd.f6.params.toList := by simpa using Array.mem_of_getElem? ht
  have hall : (Tryd.f6.params.toList.all fun u => !Tryd.prog.wantsStandIn u) = true := by kernel_rfl
  exact (show Tryd.prog.wantsStandIn t = false by simpa using List.all_eq_true.1 hall t hm)
theorem card : Rows.RiserPlaysCardSaid :=
  Claim7.holds_tied_plain_at .later [] _ _ _ _ said (fun _ h => by cases h) (by kernel_rfl) (fun _ h => by cases h) riserPlays_row_tie rfl ⟨rfl, rfl⟩ (by kernel_rfl) rfl plain (by kernel_rfl)
end Go.Proofs.YtccdhkmohimfhaaDoor.riserPlays
namespace Go.Proofs.YtccdhkmohimfhaaDoor
/-- The card, under a short name, for the claim. -/
theorem riserPlays_holds : Rows.RiserPlaysCardSaid := riserPlays.card
end Go.Proofs.YtccdhkmohimfhaaDoor
