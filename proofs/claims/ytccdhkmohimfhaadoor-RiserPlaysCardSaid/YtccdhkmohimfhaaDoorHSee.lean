import Derived.Test.YtccdhkmohimfhaaDoorF3
import Derived.LaidEql
import Derived.Great.BuildSlice
import Derived.Lib.Hide
import Derived.Stop.Asserts
import Derived.Stop.IfaceNil
namespace Go.Proofs.YtccdhkmohimfhaaDoor
open Go.Vg
set_option linter.unusedVariables false
set_option linter.unusedSimpArgs false
open Go
set_option maxRecDepth 100000 in
set_option maxHeartbeats 1600000 in
theorem new_bad (fs : Int) (hp : fs < 2 ∨ 64 < fs) (e : Value) (w : World) (h0 : w.cell? ⟨0, 0, none⟩ = some e) : Calls Tryd.prog 12 #[.int .i64 fs] w fun x w' => x = .returned (.tuple #[.pointer none, e]) ∧ w' = w.drew := by
  have h0' : w.drew.cell? ⟨0, 0, none⟩ = some e := h0
  go_enter Tryd.func12, Tryd.ntmps12
  go_wp2
  all_goals go_region
  all_goals simp only [Exit.then]
  all_goals go_wp2
  all_goals (go_ret2; exact ⟨rfl, rfl⟩)
theorem some_map {α β : Type} {o : Option α} {f : α → β} {b : β} (h : o.map f = some b) : ∃ a, o = some a ∧ f a = b := by simpa using h
theorem alike_same (a : Addr) (w : World) : Calls Tryd.prog 60 #[.iface 111 (.pointer (some a)), .iface 111 (.pointer (some a))] w fun x w' => x = .returned (.bool true) ∧ w = w' := by
  obtain ⟨i, hi, hc⟩ := some_map (show (Tryd.prog.info? 111).map (·.comparable) = some true by kernel_rfl)
  obtain ⟨j, hj, hz⟩ := some_map (show (Tryd.prog.info? 128).map (·.size) = some 1 by kernel_rfl)
  have h1 := run_eql_iface_ptr_same (P := Tryd.prog) w (ti := 26) (tp := 111) a Tryd.underlying26 Tryd.underlying111 hi hc hj
  go_enter Tryd.func60, Tryd.ntmps60
  go_wp2
  go_ret
  exact ⟨rfl, rfl⟩
theorem alike_other {a b : Addr} {ca cb : Array Value} {ta tb : TypeId} (w : World) (hne : a ≠ b) (ha : w.heap[a.block]? = some (.cells ca ta (0, 0))) (hb : w.heap[b.block]? = some (.cells cb tb (0, 0))) : Calls Tryd.prog 60 #[.iface 111 (.pointer (some a)), .iface 111 (.pointer (some b))] w fun x w' => x = .returned (.bool false) ∧ w = w' := by
  obtain ⟨i, hi, hc⟩ := some_map (show (Tryd.prog.info? 111).map (·.comparable) = some true by kernel_rfl)
  obtain ⟨j, hj, hz⟩ := some_map (show (Tryd.prog.info? 128).map (·.size) = some 1 by kernel_rfl)
  have h1 := run_eql_iface_ptr_other (P := Tryd.prog) w (ti := 26) (tp := 111) Tryd.underlying26 Tryd.underlying111 hi hc hj (by rw [hz]; decide) hne ha hb
  go_enter Tryd.func60, Tryd.ntmps60
  go_wp2
  go_ret
  exact ⟨rfl, rfl⟩
def pv (a : Addr) : Value := .iface 111 (.pointer (some a))
/-- The sentinels: package api's variables hold pointers; the first is none of the two that are asked before it. -/
structure SentAt (w : World) (p : Nat → Addr) : Prop where
  g : ∀ k, k < 14 → k ≠ 1 → w.cell? ⟨k, 0, none⟩ = some (.iface 111 (.pointer (some (p k))))
  n2 : p 0 ≠ p 2
  n3 : p 0 ≠ p 3
  h0 : ∃ c t, w.heap[(p 0).block]? = some (.cells c t (0, 0))
  h2 : ∃ c t, w.heap[(p 2).block]? = some (.cells c t (0, 0))
  h3 : ∃ c t, w.heap[(p 3).block]? = some (.cells c t (0, 0))
def sentVals (p : Nat → Addr) : Array Value := #[pv (p 2), pv (p 3), pv (p 0), pv (p 4), pv (p 5), pv (p 6), pv (p 7), pv (p 8), pv (p 9), pv (p 10), pv (p 11), pv (p 12), pv (p 13)]
theorem lt_heap {h : Array Obj} {b : Nat} {o : Obj} (e : h[b]? = some o) : b < h.size := by
  rcases Nat.lt_or_ge b h.size with h1 | h1
  · exact h1
  · rw [Array.getElem?_eq_none h1] at e; cases e
theorem SentAt.below {w w' : World} {p : Nat → Addr} (h : SentAt w p) (hb : RowKit.Below w.heap.size w w') : SentAt w' p := by
  obtain ⟨c0, t0, h0⟩ := h.h0
  obtain ⟨c2, t2, h2⟩ := h.h2
  obtain ⟨c3, t3, h3⟩ := h.h3
  refine ⟨fun k hk h1 => ?_, h.n2, h.n3, ⟨c0, t0, (hb.block _ (lt_heap h0)).trans h0⟩, ⟨c2, t2, (hb.block _ (lt_heap h2)).trans h2⟩, ⟨c3, t3, (hb.block _ (lt_heap h3)).trans h3⟩⟩
  have hg := h.g k hk h1
  have hlt : k < w.heap.size := by
    rcases Nat.lt_or_ge k w.heap.size with h1 | h1
    · exact h1
    · unfold World.cell? at hg
      rw [Array.getElem?_eq_none h1] at hg
      cases hg
  unfold World.cell? at hg ⊢
  rw [hb.block k hlt]
  exact hg
theorem run_load_global {P : Program} (t : TypeId) (k : Nat) (u : TypeId) (x : Value) (a : Act) (w : World) {o : Oper} (ho : o.op = .load t (.global k)) (ha : isAggT P t = some false) (hs : sizeT P t = some 1) (h : w.cell? ⟨k, 0, none⟩ = some (.iface u x)) : (execOp a.eval o).run P w = .ok (.value (.iface u x)) w := by
  have e : a.eval (.global k) = .pointer (some ⟨k, 0, none⟩) := rfl
  have := run_loadVar (P := P) (w := w) (ρ := fun _ => .v (.iface u x)) (σ := fun _ => undef) (β := β0) ha hs (blk := k) (off := 0) (r := [.opq 0]) (x := .one (.opq 0)) rfl rfl (fun j c hj => by
    cases j with
    | zero =>
      simp at hj
      subst hj
      exact h
    | succ j => simp at hj)
  simp [execOp, ho, e, Instr.loadAt, Instr.sureAddr, this, TV.val, CV.val, Leaf.val, oneV]
theorem wl_val {P : Program} {ops : Array Oper} {Q : Exit → Act → World → Prop} {o : Oper} {rest : List Oper} {a : Act} {w w' : World} {v : Value} {a' : Act} (hg : o.guard = none) (hrun : (execOp a.eval o).run P w = .ok (.value v) w') (ha : a.put o.dst v = a') (h : wpList P ops Q rest a' w') : wpList P ops Q (o :: rest) a w := by
  refine wpList_plain hg fun K hK => ?_
  unfold Oper.wp
  rw [hrun, Oper.upon_value]
  subst ha
  exact hK _ _ h
set_option maxRecDepth 100000 in
theorem sentinels_calls {p : Nat → Addr} {w : World} (h : SentAt w p) : Calls Tryd.prog 59 #[] w fun x w' => x = .returned (.slice (some ⟨w.heap.size, 0, none⟩) 13 13) ∧ w' = w.alloc (.cells (sentVals p) 26) := by
  obtain ⟨ie, hie, hsz⟩ := some_map (show (Tryd.prog.info? 26).map (·.size) = some 1 by kernel_rfl)
  have hzz : (Tryd.prog.info? 26).bind (·.zero) = some .nilIface := by kernel_rfl
  rw [hie] at hzz
  have hz : ie.zero = some .nilIface := hzz
  have hag : isAggT Tryd.prog 26 = some false := by kernel_rfl
  have hs1 : sizeT Tryd.prog 26 = some 1 := by kernel_rfl
  go_enter Tryd.func59, Tryd.ntmps59
  refine wp_seq ?_
  refine wp_region_lit ?_
  refine wl_val (v := .slice none 0 0) (a' := ⟨#[.slice none 0 0, undef, undef, undef, undef, undef, undef, undef, undef, undef, undef, undef, undef, undef, undef], []⟩) rfl (by rfl) rfl ?_
  refine wpList_nil ?_
  refine wp_seq ?_
  refine wp_region_lit ?_
  refine wl_val (a' := ⟨#[.slice none 0 0, pv (p 2), undef, undef, undef, undef, undef, undef, undef, undef, undef, undef, undef, undef, undef], []⟩) rfl (run_load_global 26 2 _ _ _ w rfl hag hs1 (h.g 2 (by omega) (by omega))) rfl ?_
  refine wl_val (a' := ⟨#[.slice none 0 0, pv (p 2), pv (p 3), undef, undef, undef, undef, undef, undef, undef, undef, undef, undef, undef, undef], []⟩) rfl (run_load_global 26 3 _ _ _ w rfl hag hs1 (h.g 3 (by omega) (by omega))) rfl ?_
  refine wl_val (a' := ⟨#[.slice none 0 0, pv (p 2), pv (p 3), pv (p 0), undef, undef, undef, undef, undef, undef, undef, undef, undef, undef, undef], []⟩) rfl (run_load_global 26 0 _ _ _ w rfl hag hs1 (h.g 0 (by omega) (by omega))) rfl ?_
  refine wl_val (a' := ⟨#[.slice none 0 0, pv (p 2), pv (p 3), pv (p 0), pv (p 4), undef, undef, undef, undef, undef, undef, undef, undef, undef, undef], []⟩) rfl (run_load_global 26 4 _ _ _ w rfl hag hs1 (h.g 4 (by omega) (by omega))) rfl ?_
  refine wl_val (a' := ⟨#[.slice none 0 0, pv (p 2), pv (p 3), pv (p 0), pv (p 4), pv (p 5), undef, undef, undef, undef, undef, undef, undef, undef, undef], []⟩) rfl (run_load_global 26 5 _ _ _ w rfl hag hs1 (h.g 5 (by omega) (by omega))) rfl ?_
  refine wl_val (a' := ⟨#[.slice none 0 0, pv (p 2), pv (p 3), pv (p 0), pv (p 4), pv (p 5), pv (p 6), undef, undef, undef, undef, undef, undef, undef, undef], []⟩) rfl (run_load_global 26 6 _ _ _ w rfl hag hs1 (h.g 6 (by omega) (by omega))) rfl ?_
  refine wl_val (a' := ⟨#[.slice none 0 0, pv (p 2), pv (p 3), pv (p 0), pv (p 4), pv (p 5), pv (p 6), pv (p 7), undef, undef, undef, undef, undef, undef, undef], []⟩) rfl (run_load_global 26 7 _ _ _ w rfl hag hs1 (h.g 7 (by omega) (by omega))) rfl ?_
  refine wl_val (a' := ⟨#[.slice none 0 0, pv (p 2), pv (p 3), pv (p 0), pv (p 4), pv (p 5), pv (p 6), pv (p 7), pv (p 8), undef, undef, undef, undef, undef, undef], []⟩) rfl (run_load_global 26 8 _ _ _ w rfl hag hs1 (h.g 8 (by omega) (by omega))) rfl ?_
  refine wl_val (a' := ⟨#[.slice none 0 0, pv (p 2), pv (p 3), pv (p 0), pv (p 4), pv (p 5), pv (p 6), pv (p 7), pv (p 8), pv (p 9), undef, undef, undef, undef, undef], []⟩) rfl (run_load_global 26 9 _ _ _ w rfl hag hs1 (h.g 9 (by omega) (by omega))) rfl ?_
  refine wl_val (a' := ⟨#[.slice none 0 0, pv (p 2), pv (p 3), pv (p 0), pv (p 4), pv (p 5), pv (p 6), pv (p 7), pv (p 8), pv (p 9), pv (p 10), undef, undef, undef, undef], []⟩) rfl (run_load_global 26 10 _ _ _ w rfl hag hs1 (h.g 10 (by omega) (by omega))) rfl ?_
  refine wl_val (a' := ⟨#[.slice none 0 0, pv (p 2), pv (p 3), pv (p 0), pv (p 4), pv (p 5), pv (p 6), pv (p 7), pv (p 8), pv (p 9), pv (p 10), pv (p 11), undef, undef, undef], []⟩) rfl (run_load_global 26 11 _ _ _ w rfl hag hs1 (h.g 11 (by omega) (by omega))) rfl ?_
  refine wl_val (a' := ⟨#[.slice none 0 0, pv (p 2), pv (p 3), pv (p 0), pv (p 4), pv (p 5), pv (p 6), pv (p 7), pv (p 8), pv (p 9), pv (p 10), pv (p 11), pv (p 12), undef, undef], []⟩) rfl (run_load_global 26 12 _ _ _ w rfl hag hs1 (h.g 12 (by omega) (by omega))) rfl ?_
  refine wl_val (a' := ⟨#[.slice none 0 0, pv (p 2), pv (p 3), pv (p 0), pv (p 4), pv (p 5), pv (p 6), pv (p 7), pv (p 8), pv (p 9), pv (p 10), pv (p 11), pv (p 12), pv (p 13), undef], []⟩) rfl (run_load_global 26 13 _ _ _ w rfl hag hs1 (h.g 13 (by omega) (by omega))) rfl ?_
  refine wpList_buildSlice rfl 99 26 13 _ rfl (sentVals p) ie .nilIface Tryd.underlying99 hie hz (by rw [hsz]; decide) (by rw [hsz]; decide) ?_ ?_
  · rw [hsz, Array.toList_map]
    refine Great.fill_flat (sentVals p).toList _ (fun v hv => ?_) ?_
    · simp only [sentVals, List.mem_cons, List.not_mem_nil, or_false] at hv
      rcases hv with rfl | rfl | rfl | rfl | rfl | rfl | rfl | rfl | rfl | rfl | rfl | rfl | rfl <;> rfl
    · simp [sentVals]
  show wpList Tryd.prog _ _ _ ⟨#[.slice none 0 0, pv (p 2), pv (p 3), pv (p 0), pv (p 4), pv (p 5), pv (p 6), pv (p 7), pv (p 8), pv (p 9), pv (p 10), pv (p 11), pv (p 12), pv (p 13), .slice (some ⟨w.heap.size, 0, none⟩) 13 13], []⟩ _
  refine wl_val (v := .slice (some ⟨w.heap.size, 0, none⟩) 13 13) (a' := ⟨#[.slice (some ⟨w.heap.size, 0, none⟩) 13 13, pv (p 2), pv (p 3), pv (p 0), pv (p 4), pv (p 5), pv (p 6), pv (p 7), pv (p 8), pv (p 9), pv (p 10), pv (p 11), pv (p 12), pv (p 13), .slice (some ⟨w.heap.size, 0, none⟩) 13 13], []⟩) rfl (by rfl) rfl ?_
  refine wpList_nil ?_
  refine wp_ret ?_
  go_ret
  exact ⟨rfl, rfl⟩
theorem bare_calls (c : Int) (w : World) : Calls Tryd.prog 43 #[.int .i64 c] w fun x w' => x = .returned (.agg #[.int .i64 c, .bool false, .int .i64 0]) ∧ w' = w.alloc (.cells #[.int .i64 c, .bool false, .int .i64 0] 77) := by
  go_enter Tryd.func43, Tryd.ntmps43
  go_wp2
  exact bodyPost_ret (v := .agg #[.int .i64 c, .bool false, .int .i64 0]) (by simp [results, Tryd.results43, go_sem]) rfl ⟨rfl, rfl⟩
theorem sameFault_calls (c : Int) (w : World) : Calls Tryd.prog 48 #[.agg #[.int .i64 c, .bool false, .int .i64 0], .agg #[.int .i64 c, .bool false, .int .i64 0]] w fun x w' => x = .returned (.bool true) ∧ RowKit.Below w.heap.size w w' := by
  go_enter Tryd.func48, Tryd.ntmps48
  go_wp2
  go_ret
  exact ⟨rfl, ((RowKit.Below.refl _ _).alloc (Nat.le_refl _) _).alloc (by simp) _⟩
def SLoop (p0 : Addr) (B : Nat) (W : World) (a : Act) (w' : World) : Prop := ∃ i : Nat, i ≤ 2 ∧ w' = W ∧ ∃ t5 t6 t7 t8 t9 t10 t11 t12 t13 t14 t15 t16 t17 t18 t19, a = ⟨#[.iface 111 (.pointer (some p0)), undef, .int .i64 0, .slice (some ⟨B, 0, none⟩) 13 13, .int .i64 i, t5, t6, t7, t8, t9, t10, t11, t12, t13, t14, t15, t16, t17, t18, t19], []⟩
def SMeas (a : Act) (_ : World) : Nat := match a.eval (.tmp 4) with | .int _ n => (2 - n).toNat | _ => 0
set_option maxHeartbeats 1600000 in
theorem sentinel_calls {p : Nat → Addr} {w : World} (h : SentAt w p) : Calls Tryd.prog 53 #[.iface 111 (.pointer (some (p 0)))] w fun x w' => x = .returned (.int .i64 103) ∧ w' = w.alloc (.cells (sentVals p) 26) := by
  obtain ⟨c0, t0, h0⟩ := h.h0
  obtain ⟨c2, t2, h2⟩ := h.h2
  obtain ⟨c3, t3, h3⟩ := h.h3
  have n2 := h.n2
  have n3 := h.n3
  go_enter Tryd.func53, Tryd.ntmps53
  go_wp2_with (first | (go_at_call 59; refine (sentinels_calls h).mono ?_; rintro e w' ⟨rfl, rfl⟩))
  have al : ∀ k, k < w.heap.size → (w.alloc (.cells (sentVals p) 26)).heap[k]? = w.heap[k]? := fun k hk => al_old w _ hk
  have hc : ∀ i : Nat, i < 13 → (w.alloc (.cells (sentVals p) 26)).cell? ⟨w.heap.size, i, none⟩ = (sentVals p)[i]? := fun i hi => by
    unfold World.cell?
    rw [al_new]
    rfl
  have e0 := (al _ (lt_heap h0)).trans h0
  have e2 := (al _ (lt_heap h2)).trans h2
  have e3 := (al _ (lt_heap h3)).trans h3
  have k0 : (w.alloc (.cells (sentVals p) 26)).cell? ⟨w.heap.size, 0, none⟩ = some (.iface 111 (.pointer (some (p 2)))) := hc 0 (by decide)
  have k1 : (w.alloc (.cells (sentVals p) 26)).cell? ⟨w.heap.size, 1, none⟩ = some (.iface 111 (.pointer (some (p 3)))) := hc 1 (by decide)
  have k2 : (w.alloc (.cells (sentVals p) 26)).cell? ⟨w.heap.size, 2, none⟩ = some (.iface 111 (.pointer (some (p 0)))) := hc 2 (by decide)
  clear hc al
  generalize hW : (w.alloc (.cells (sentVals p) 26)) = W at e0 e2 e3 k0 k1 k2 ⊢
  generalize w.heap.size = B at *
  have HW := Lib.hid hW
  clear h h0 h2 h3 hW
  refine wp_loop (SLoop (p 0) B W)
    SMeas ⟨0, by omega, rfl, _, _, _, _, _, _, _, _, _, _, _, _, _, _, _, rfl⟩ ?_
  rintro a w' ⟨i, hi, rfl, t5, t6, t7, t8, t9, t10, t11, t12, t13, t14, t15, t16, t17, t18, t19, rfl⟩
  rcases (show i = 0 ∨ i = 1 ∨ i = 2 by omega) with rfl | rfl | rfl
  · go_wp2_with (first | (go_at_call 60; refine (alike_other _ n2 e0 e2).mono ?_; rintro e w'' ⟨rfl, rfl⟩))
    exact ⟨⟨1, by omega, rfl, _, _, _, _, _, _, _, _, _, _, _, _, _, _, _, rfl⟩, by show (2 - (1 : Int)).toNat < (2 - ((0 : Nat) : Int)).toNat; decide⟩
  · go_wp2_with (first | (go_at_call 60; refine (alike_other _ n3 e0 e3).mono ?_; rintro e w'' ⟨rfl, rfl⟩))
    exact ⟨⟨2, by omega, rfl, _, _, _, _, _, _, _, _, _, _, _, _, _, _, _, rfl⟩, by show (2 - (2 : Int)).toNat < (2 - ((1 : Nat) : Int)).toNat; decide⟩
  · go_wp2_with (first | (go_at_call 60; refine (alike_same _ _).mono ?_; rintro e w'' ⟨rfl, rfl⟩))
    go_ret
    exact ⟨rfl, HW.out.symm⟩
theorem ta_not {P : Program} {t xT asserted e : TypeId} {z v : Value} (hu : P.underlying asserted = some (.pointer e)) (hne : t ≠ asserted) (hz : (P.info? asserted).map (·.zero) = some (some z)) (w : World) :
    (Instr.typeAssert (.iface t v) xT asserted true).run P w = .ok (.tuple #[z, .bool false]) w := by
  obtain ⟨j, hj, hz'⟩ := Option.map_eq_some_iff.1 hz
  simp [Instr.typeAssert, run_underlying hu, hne, zeroValue, typeInfo, hj, hz']
theorem three_facts {w w' : World} {b : Nat} {x y z : Value} {t : TypeId} (hb : RowKit.Below w.heap.size w w') (hlt : b < w.heap.size) (h : w.heap[b]? = some (.cells #[x, y, z] t (0, 0))) :
    (w'.cell? ⟨b, 0, none⟩ = some x ∧ w'.frozen? ⟨b, 0, none⟩ = false) ∧ (w'.cell? ⟨b, 1, none⟩ = some y ∧ w'.frozen? ⟨b, 1, none⟩ = false) ∧ w'.cell? ⟨b, 2, none⟩ = some z ∧ w'.frozen? ⟨b, 2, none⟩ = false := by
  have h1 : w'.heap[b]? = some (.cells [x, y, z].toArray t (0, 0)) := (hb.block b hlt).trans h
  have k0 := cell_facts h1 (off := 0) rfl
  have k1 := cell_facts h1 (off := 1) rfl
  have k2 := cell_facts h1 (off := 2) rfl
  exact ⟨⟨k0.1, k0.2.1⟩, ⟨k1.1, k1.2.1⟩, k2.1, k2.2.1⟩
set_option maxRecDepth 100000 in
set_option maxHeartbeats 1600000 in
theorem fault_calls {p : Nat → Addr} {w : World} (h : SentAt w p) : Calls Tryd.prog 49 #[.iface 111 (.pointer (some (p 0)))] w fun x w' => x = .returned (.agg #[.int .i64 103, .bool false, .int .i64 0]) ∧ RowKit.Below w.heap.size w w' := by
  have hta := ta_not (P := Tryd.prog) (t := 111) (xT := 26) (asserted := 86) (v := .pointer (some (p 0))) Tryd.underlying86 (by decide) (z := .pointer none) (by kernel_rfl)
  go_enter Tryd.func49, Tryd.ntmps49
  go_wp2_with (first | (go_at_call 53; refine (sentinel_calls (h.below ((RowKit.Below.refl _ _).alloc (Nat.le_refl _) _))).mono ?_; rintro e w' ⟨rfl, rfl⟩) | (go_at_call 43; refine (bare_calls _ _).mono ?_; rintro e w' ⟨rfl, rfl⟩))
  exact bodyPost_ret (v := .agg #[.int .i64 103, .bool false, .int .i64 0]) (by simp [results, Tryd.results49, go_sem]) rfl ⟨rfl, (((RowKit.Below.refl _ _).alloc (Nat.le_refl _) _).alloc (by simp) _).alloc (by simp; omega) _⟩
def faultV : Value := .agg #[.int .i64 103, .bool false, .int .i64 0]
set_option maxRecDepth 100000 in
set_option maxHeartbeats 1600000 in
theorem same_calls {p : Nat → Addr} {w : World} (h : SentAt w p) : Calls Tryd.prog 42 #[.iface 111 (.pointer (some (p 0))), .agg #[.int .i64 103, .bool false, .int .i64 0]] w fun x w' => x = .returned (.bool true) ∧ RowKit.Below w.heap.size w w' := by
  have h1 := h.below ((RowKit.Below.refl w.heap.size w).alloc (Nat.le_refl _) (.cells #[.int .i64 103, .bool false, .int .i64 0] 77)).drew
  go_enter Tryd.func42, Tryd.ntmps42
  go_wp2
  go_region_with (first | ((with_reducible refine (fault_calls h1).mono ?_); rintro e w' ⟨rfl, hb⟩; obtain ⟨⟨c0, f0⟩, ⟨c1, f1⟩, ⟨c2, f2⟩⟩ := three_facts hb (b := w.heap.size) (by simp) (al_new _ _)) | ((with_reducible refine (sameFault_calls _ _).mono ?_); rintro e w' ⟨rfl, hb2⟩))
  all_goals simp only [Exit.then]
  all_goals go_wp2
  all_goals go_ret
  all_goals exact ⟨rfl, ((((RowKit.Below.refl _ _).alloc (Nat.le_refl _) _).drew).trans (hb.mono (by simp))).trans (hb2.mono (by have := hb.size; simp at this; omega))⟩
set_option maxHeartbeats 1600000 in
theorem isRange_calls {p : Nat → Addr} {w : World} (h : SentAt w p) : Calls Tryd.prog 22 #[.iface 111 (.pointer (some (p 0))), .int .i64 103] w fun x w' => x = .returned (.bool true) ∧ RowKit.Below w.heap.size w w' := by
  go_enter Tryd.func22, Tryd.ntmps22
  go_wp2_with (first | (go_at_call 43; refine (bare_calls _ _).mono ?_; rintro e w' ⟨rfl, rfl⟩) | (go_at_call 42; refine (same_calls (h.below ((RowKit.Below.refl _ _).alloc (Nat.le_refl _) _))).mono ?_; rintro e w' ⟨rfl, hb⟩))
  go_ret
  exact ⟨rfl, ((RowKit.Below.refl _ _).alloc (Nat.le_refl _) _).trans (hb.mono (by simp))⟩

end Go.Proofs.YtccdhkmohimfhaaDoor
