import Derived.Test.YtchjajnhbipkmaaDoorE
import Derived.Carry
import Derived.Tactics
import Derived.Tactics2
import Derived.OwnWalk
import Derived.Laws.OwnMore
import Derived.Maps.AppendAt
import Derived.Deep.Upon
import Derived.Lib.Hide
namespace Go.Proofs.YtchjajnhbipkmaaDoor
open Go.Vg
set_option linter.unusedVariables false
set_option linter.unusedSimpArgs false
open Go
/-- Where a number comes among numbers. -/
def posP (f : Nat → Int) (x : Int) : Nat → Nat → Nat
  | 0, k => k
  | m + 1, k => if f k < x then posP f x m (k + 1) else k
theorem posP_succ (f : Nat → Int) (x : Int) (m k : Nat) : posP f x (m + 1) k = if f k < x then posP f x m (k + 1) else k := rfl
def putV (l : LV) (x : Int) : LV :=
  let k := posP (fun i => l.gi i 0) x l.len 0
  if k < l.len ∧ l.gi k 0 = x then l else ⟨l.len + 1, fun i c => if i < k then l.gi i 0 else if i = k then x else l.gi (i - 1) 0, l.gb⟩

theorem lt_of_heap {h : Array Obj} {b : Nat} {o : Obj} (e : h[b]? = some o) : b < h.size := by
  rcases Nat.lt_or_ge b h.size with h1 | h1
  · exact h1
  · rw [Array.getElem?_eq_none h1] at e; cases e
def C_putS : Ctr := ⟨[.one (.lst [.int .i64]), .one (.int .i64)], [.one (.lst [.int .i64])],
  fun | [.l l, .i x] => (l.len : Int) ≤ 1000 | _ => False,
  fun | [.l l, .i x] => [.l (putV l x)] | _ => []⟩
theorem putS_pre {ls : List Leaf} (h_ : C_putS.pre ls) : ∃ (l : LV) (x : Int), ls = [.l l, .i x] ∧ ((l.len : Int) ≤ 1000) := by
  unfold C_putS at h_; dsimp only at h_; split at h_
  · exact ⟨_, _, rfl, h_⟩
  · exact h_.elim
theorem putS_mk {l : LV} {x : Int} (h_ : (l.len : Int) ≤ 1000) : C_putS.pre [.l l, .i x] := h_
theorem putS_res {l : LV} {x : Int} {rs_ : List Leaf} (h_ : rs_ = C_putS.fn [.l l, .i x]) : ∃ (q0 : LV), q0 = (putV l x) ∧ rs_ = [.l q0] := ⟨_, rfl, h_⟩
/-- A slice of numbers, that is read. -/
def SrcAt (w : World) (base0 : Option Addr) (n : Nat) (f : Nat → Int) : Prop := n = 0 ∨ ∃ b off, base0 = some ⟨b, off, none⟩ ∧ b < w.heap.size ∧ ∀ i, i < n → w.cell? ⟨b, off + i, none⟩ = some (.int .i64 (f i))
def ivals (f : Nat → Int) (n : Nat) : List Value := (List.range n).map fun i => Value.int .i64 (f i)
def SI (B : Nat) (v : Value) (f : Nat → Int) (n : Nat) (W0 : World) (a : Act) (w' : World) : Prop := ∃ (i : Nat) (v' : Value), i ≤ n ∧ w'.ownsRow B 3 1 v' i (ivals f i) ∧ RowKit.Below B W0 w' ∧
  ∃ t5 t6 t7 t8 t9 t10 t11 t12 t13 t14 t15 t16 t17 t18 t19 t20 t21, a = ⟨#[v, undef, .slice none 0 0, v', .int .i64 i, t5, t6, t7, t8, t9, t10, t11, t12, t13, t14, t15, t16, t17, t18, t19, t20, t21], []⟩
def SIm (n : Nat) (a : Act) (_ : World) : Nat := match a.eval (.tmp 4) with | .int _ k => ((n : Int) - k).toNat | _ => 0
def IntsPost (B : Nat) (f : Nat → Int) (n : Nat) (W0 : World) (e : Ending) (w' : World) : Prop := ∃ v', e = .returned v' ∧ w'.ownsRow B 3 1 v' n (ivals f n) ∧ RowKit.Below B W0 w'
theorem some_map {α β : Type} {o : Option α} {f : α → β} {b : β} (h : o.map f = some b) : ∃ a, o = some a ∧ f a = b := by simpa using h
theorem ivals_succ (f : Nat → Int) (i : Nat) : ivals f (i + 1) = ivals f i ++ [.int .i64 (f i)] := by
  unfold ivals
  rw [List.range_succ, List.map_append]
  rfl
theorem low_ne {w : World} {base : Nat} {e : TypeId} {size : Nat} {v : Value} {n : Nat} {xs : List Value} (h : w.ownsRow base e size v n xs) {b : Nat} (hb : b < base) : v.ownBlock ≠ some b := by
  rcases h.2 with ⟨rfl, _⟩ | ⟨g, cap, cur, rfl, hg, _⟩
  · intro e; cases e
  · intro e
    simp only [Value.ownBlock, Option.some.injEq] at e
    omega
theorem grown_below {B : Nat} {w0 w1 w2 : World} {o : Option Nat} (h : RowKit.Below B w0 w1) (hg : w1.grownBy w2 o) (hne : ∀ k, k < B → o ≠ some k) (hsz : B ≤ w1.heap.size) : RowKit.Below B w0 w2 :=
  ⟨hg.os.trans h.os, hg.tape.trans h.tape, hg.output.trans h.output, Nat.le_trans h.size hg.size, fun k hk => (hg.block k (by omega) (Ne.symm (hne k hk))).trans (h.block k hk)⟩
set_option maxHeartbeats 1600000 in
theorem ints_calls (w : World) (base0 : Option Addr) (n cap : Nat) (f : Nat → Int) (hs : SrcAt w base0 n f) (hn : n ≤ 1000000) :
    Calls Tryd.prog 46 #[.slice base0 n cap] w (IntsPost w.heap.size f n w) := by
  obtain ⟨i0, hi, hp⟩ := some_map (show (Tryd.prog.info? 3).map (fun i => (i.size, i.bytes, i.zero)) = some (1, 8, some (.int .i64 0)) by kernel_rfl)
  simp only [Prod.mk.injEq] at hp
  obtain ⟨hz1, hz2, hz0⟩ := hp
  have HI := Lib.hid hi
  have HZ0 := Lib.hid hz0
  have HZ1 := Lib.hid hz1
  have HZ2 := Lib.hid hz2
  clear hi hz0 hz1 hz2
  go_enter Tryd.func46, Tryd.ntmps46
  go_wp2_with (first
    | (at_make; refine wpList_make_own _ rfl _ _ 49 rfl w.heap.size 3 i0 (.int .i64 0) 1 Tryd.underlying49 HI.out HZ0.out HZ1.out .i64 .i64 _ n rfl rfl rfl (by rw [HZ2.out]; omega) (by unfold maxLen; omega) (Nat.le_refl _) ?_; intro w0 hown0 hgrow0))
  have hb0 : RowKit.Below w.heap.size w w0 := ⟨hgrow0.os, hgrow0.tape, hgrow0.output, hgrow0.size, fun k hk => hgrow0.block k hk (by simp)⟩
  refine wp_loop (SI w.heap.size (.slice base0 n cap) f n w) (SIm n) ⟨0, _, by omega, hown0, hb0, _, _, _, _, _, _, _, _, _, _, _, _, _, _, _, _, _, rfl⟩ ?_
  clear hown0 hgrow0 hb0
  rintro a w1 ⟨i, v', hin, hown, hbel, t5, t6, t7, t8, t9, t10, t11, t12, t13, t14, t15, t16, t17, t18, t19, t20, t21, rfl⟩
  by_cases hlt : i < n
  · obtain ⟨b, off, rfl, hb, hc⟩ := hs.resolve_left (by omega)
    have hci : w1.cell? ⟨b, off + i, none⟩ = some (.int .i64 (f i)) := by rw [← hc i hlt]; exact hbel.cell (p := ⟨b, off + i, none⟩) hb
    have HB := Lib.hid hbel
    clear hc hs hbel
    go_wp2_with (first
      | (at_builtin; refine wpList_append_own_at _ rfl _ _ 49 rfl w.heap.size 3 i0 (.int .i64 0) 1 8 Tryd.underlying49 HI.out HZ0.out HZ1.out HZ2.out rfl (by decide) _ _ _ rfl (hown.alloc _) ⟨w1.heap.size, 0, none⟩ 1 1 [.int .i64 (f i)] rfl rfl (cell_one_new _ _ _) (by simp [Value.oneCell']) (by unfold maxLen; omega) (by omega) (by have := HB.out.size; simp; omega) ?_; intro v'' w2 hown' hgrow hnil hloc))
    refine ⟨⟨i + 1, v'', by omega, by rw [ivals_succ]; exact hown', ?_, _, _, _, _, _, _, _, _, _, _, _, _, _, _, _, _, _, rfl⟩, ?_⟩
    · exact grown_below (HB.out.alloc (by have := HB.out.size; omega) _) hgrow (fun k hk => low_ne hown hk) (by have := HB.out.size; simp; omega)
    · show ((n : Int) - ((i : Int) + 1)).toNat < ((n : Int) - (i : Int)).toNat
      omega
  · have HB := Lib.hid hbel
    clear hbel
    go_wp2
    go_ret
    exact ⟨v', rfl, by rw [show n = i by omega]; exact hown, HB.out⟩
def SPl (w0 : World) (base0 : Option Addr) (n cap : Nat) (f : Nat → Int) (x : Int) (a : Act) (w' : World) : Prop := ∃ i : Nat, i ≤ n ∧ w' = w0 ∧ posP f x (n - i) i = posP f x n 0 ∧
  ∃ t7 t8 t9 t10 t11 t12 t13 t14 t15 t16 t17 t18 t19 t20, a = ⟨#[.slice base0 n cap, .int .i64 x, undef, undef, .slice none 0 0, .int .i64 i, undef, t7, t8, t9, t10, t11, t12, t13, t14, t15, t16, t17, t18, t19, t20, undef, undef, undef, undef, undef, undef, undef, undef, undef, undef, undef, undef, undef, undef, undef, undef, undef, undef, undef, undef, undef, undef, undef, undef, undef, undef], []⟩
def SPm (n : Nat) (a : Act) (_ : World) : Nat := match a.eval (.tmp 5) with | .int _ k => ((n : Int) - k).toNat | _ => 0
theorem src_news {w1 w2 : World} {b o m : Nat} {f : Nat → Int} (hb : RowKit.Below w1.heap.size w1 w2) (hlt : b < w1.heap.size) (h : ∀ j, j < m → w1.cell? ⟨b, o + j, none⟩ = some (.int .i64 (f j))) :
    ∀ j u, (ivals f m)[j]? = some u → w2.cell? ((⟨b, o, none⟩ : Addr).add j) = some u := fun j u hj => by
  unfold ivals at hj
  rw [List.getElem?_map] at hj
  have hjm : j < m := by
    rcases Nat.lt_or_ge j m with h1 | h1
    · exact h1
    · rw [List.getElem?_eq_none (by simpa using h1)] at hj; cases hj
  rw [List.getElem?_range hjm] at hj
  cases hj
  rw [Addr.add_lit, ← h j hjm]
  exact hb.cell (p := ⟨b, o + j, none⟩) hlt
theorem ivals_one (f : Nat → Int) (m : Nat) : ∀ u ∈ ivals f m, u.oneCell' = true := fun u hu => by
  unfold ivals at hu
  obtain ⟨j, _, rfl⟩ := List.mem_map.1 hu
  rfl
theorem ivals_add (f : Nat → Int) (a b : Nat) : ivals f (a + b) = ivals f a ++ ivals (fun j => f (a + j)) b := by
  unfold ivals
  rw [List.range_add, List.map_append, List.map_map]
  rfl
theorem ivals_congr {f g : Nat → Int} {m : Nat} (h : ∀ j, j < m → f j = g j) : ivals f m = ivals g m := by
  unfold ivals
  exact List.map_congr_left fun j hj => by rw [h j (List.mem_range.1 hj)]
theorem wl_append_nothing {P : Program} {ops : Array Oper} {Q : Exit → Act → World → Prop} {o : Oper} {rest : List Oper} {a : Act} {w : World} (hgd : o.guard = none) (s x : Operand) (t : TypeId)
    (ho : o.op = .call { callee := .builtin .append, args := #[s, x], argTypes := #[t, t] }) (e : TypeId) (i : TypeInfo) (ht : P.underlying t = some (.slice e)) (hi : P.info? e = some i)
    (base : Option Addr) (sLen sCap c : Nat) (hle : sLen ≤ sCap) (hs : a.eval s = .slice base sLen sCap) (hx : a.eval x = .slice none 0 c)
    (h : wpList P ops Q rest (a.put o.dst (.slice base sLen sCap)) w) : wpList P ops Q (o :: rest) a w := by
  refine wpList_plain hgd fun K hK => ?_
  have hr := run_append_nothing (P := P) w t t o.type e i ht hi base sLen sCap hle (.slice none 0 c) (Src.ofNil w ht c)
  unfold Oper.wp execOp
  simp only [ho, resolve, invoke, builtin, Sem.run_bind, Sem.run_pure, Result.andThen_ok, List.map_toArray, List.map_cons, List.map_nil, hs, hx, hr]
  exact hK _ _ h
theorem own_pos {w : World} {base : Nat} {e : TypeId} {size : Nat} {v : Value} {n : Nat} {xs : List Value} (h : w.ownsRow base e size v (n + 1) xs) : ∃ g c, v = .slice (some ⟨g, 0, none⟩) (n + 1) c ∧ n + 1 ≤ c := by
  rcases h.2 with ⟨_, h0⟩ | ⟨g, c, cur, hv, _, _, hc, _⟩
  · omega
  · exact ⟨g, c, hv, hc⟩
/-- What Put leaves: a new slice of these numbers. -/
def PutPost (W : World) (g : LV) (e : Ending) (w' : World) : Prop := ∃ v', e = .returned v' ∧ w'.ownsRow W.heap.size 3 1 v' g.len (ivals (fun k => g.gi k 0) g.len) ∧ RowKit.Below W.heap.size W w'
theorem put_at {l : LV} {x : Int} {i : Nat} (h : posP (fun k => l.gi k 0) x l.len 0 = i) (hi : i < l.len) (hx : l.gi i 0 = x) : putV l x = l := by
  unfold putV
  rw [h]
  exact if_pos ⟨hi, hx⟩
theorem put_in {l : LV} {x : Int} {i : Nat} (h : posP (fun k => l.gi k 0) x l.len 0 = i) (hi : i ≤ l.len) (hx : i < l.len → ¬ l.gi i 0 = x) : (putV l x).len = l.len + 1 ∧ ivals (fun k => (putV l x).gi k 0) (l.len + 1) = (ivals (fun k => l.gi k 0) i ++ [.int .i64 x]) ++ ivals (fun j => l.gi (i + j) 0) (l.len - i) := by
  have e : putV l x = ⟨l.len + 1, fun k c => if k < i then l.gi k 0 else if k = i then x else l.gi (k - 1) 0, l.gb⟩ := by
    unfold putV
    rw [h]
    exact if_neg (fun hh => hx hh.1 hh.2)
  rw [e]
  refine ⟨rfl, ?_⟩
  dsimp only
  rw [show l.len + 1 = (i + 1) + (l.len - i) by omega, ivals_add, ivals_succ]
  congr 1
  · congr 1
    · exact ivals_congr fun j hj => if_pos hj
    · rw [if_neg (by omega), if_pos rfl]
  · exact ivals_congr fun j hj => by
      rw [if_neg (by omega), if_neg (by omega)]
      congr 1
      omega
set_option maxRecDepth 100000 in
set_option maxHeartbeats 3200000 in
theorem put_calls (w : World) (base0 : Option Addr) (l : LV) (cap : Nat) (x : Int) (hs : SrcAt w base0 l.len (fun k => l.gi k 0)) (hn : l.len ≤ 1000) (hcap : l.len ≤ cap) :
    Calls Tryd.prog 27 #[.slice base0 l.len cap, .int .i64 x] w (PutPost w (putV l x)) := by
  obtain ⟨n, hln⟩ : ∃ n, l.len = n := ⟨_, rfl⟩
  obtain ⟨f, hlf⟩ : ∃ f : Nat → Int, (fun k => l.gi k 0) = f := ⟨_, rfl⟩
  rw [hln, hlf] at hs
  rw [hln] at hn hcap ⊢
  have HLN := Lib.hid hln
  have HLF := Lib.hid hlf
  clear hln hlf
  obtain ⟨i0, hi, hp⟩ := some_map (show (Tryd.prog.info? 3).map (fun i => (i.size, i.bytes, i.zero)) = some (1, 8, some (.int .i64 0)) by kernel_rfl)
  simp only [Prod.mk.injEq] at hp
  obtain ⟨hz1, hz2, hz0⟩ := hp
  have HI := Lib.hid hi
  have HZ0 := Lib.hid hz0
  have HZ1 := Lib.hid hz1
  have HZ2 := Lib.hid hz2
  clear hi hz0 hz1 hz2
  go_enter Tryd.func27, Tryd.ntmps27
  go_wp2
  refine wp_loop (SPl w base0 n cap f x) (SPm n) ⟨0, by omega, rfl, rfl, _, _, _, _, _, _, _, _, _, _, _, _, _, _, rfl⟩ ?_
  rintro a w1 ⟨i, hin, rfl, hpos, t7, t8, t9, t10, t11, t12, t13, t14, t15, t16, t17, t18, t19, t20, rfl⟩
  have HP := Lib.hid hpos
  clear hpos
  by_cases hlt : i < n
  · obtain ⟨b, off, rfl, hb, hc⟩ := hs.resolve_left (by omega)
    have hci := hc i hlt
    by_cases hfx : f i < x
    · go_wp2
      refine ⟨⟨i + 1, by omega, rfl, ?_, _, _, _, _, _, _, _, _, _, _, _, _, _, _, rfl⟩, ?_⟩
      · have h1 := HP.out
        rw [show n - i = (n - (i + 1)) + 1 by omega, posP_succ, if_pos hfx] at h1
        exact h1
      · show ((n : Int) - ((i : Int) + 1)).toNat < ((n : Int) - (i : Int)).toNat
        omega
    · have hpx : posP f x n 0 = i := by
        have h1 := HP.out
        rw [show n - i = (n - (i + 1)) + 1 by omega, posP_succ, if_neg hfx] at h1
        exact h1.symm
      have HPX := Lib.hid hpx
      clear hpx
      have hne : ¬ cap = i := by omega
      have hsi : SrcAt w1 (some ⟨b, off, none⟩) i f := Or.inr ⟨b, off, rfl, hb, fun j hj => hc j (by omega)⟩
      have hcl : ∀ j, j < n - i → w1.cell? ⟨b, off + i + j, none⟩ = some (.int .i64 (f (i + j))) := fun j hj => by rw [Nat.add_assoc]; exact hc (i + j) (by omega)
      have HC := Lib.hid hcl
      clear hc hcl
      by_cases hfe : f i = x
      · have HFE := Lib.hid hfe
        go_wp2_with (first | (go_at_call 46; (with_reducible refine (ints_calls _ _ _ _ f hs (by omega)).mono ?_); rintro e w' ⟨v', rfl, hown, hbel⟩))
        go_ret
        exact ⟨v', rfl, by rw [put_at (i := i) (by rw [HLF.out, HLN.out]; exact HPX.out) (by rw [HLN.out]; exact hlt) (by have := congrFun HLF.out i; rw [this]; exact HFE.out), HLF.out, HLN.out]; exact hown, hbel⟩
      · have HFN := Lib.hid hfe
        go_wp2_with (first
          | (go_at_call 46; (with_reducible refine (ints_calls _ _ _ _ f hsi (by omega)).mono ?_); rintro e w' ⟨v', rfl, hown, hbel⟩; have HOWN := Lib.hid hown; have HB := Lib.hid hbel; clear hown hbel)
          | (at_builtin; refine wpList_append_own_at _ rfl _ _ 49 rfl w1.heap.size 3 i0 (.int .i64 0) 1 8 Tryd.underlying49 HI.out HZ0.out HZ1.out HZ2.out rfl (by decide) _ _ _ rfl (HOWN.out.alloc _) ⟨_, 0, none⟩ 1 1 [.int .i64 x] rfl rfl (cell_one_new _ _ _) (by simp [Value.oneCell']) (by unfold maxLen; omega) (by omega) (by have := HB.out.size; simp; omega) ?_; intro v'' w2 hown' hgrow hnil hloc; have HOWN2 := Lib.hid hown'; have HB2 := Lib.hid (grown_below (HB.out.alloc (by have := HB.out.size; omega) _) hgrow (fun k hk => low_ne HOWN.out hk) (by have := HB.out.size; simp; omega)); clear hown' hgrow hnil hloc)
          | (at_builtin; refine wpList_append_own_at _ rfl _ _ 49 rfl w1.heap.size 3 i0 (.int .i64 0) 1 8 Tryd.underlying49 HI.out HZ0.out HZ1.out HZ2.out rfl (by decide) _ _ _ rfl HOWN2.out ⟨b, off + i, none⟩ (n - i) (cap - i) (ivals (fun j => f (i + j)) (n - i)) rfl (by simp [ivals]) (src_news HB2.out hb HC.out) (ivals_one _ _) (by unfold maxLen; omega) (by omega) (by have := HB2.out.size; omega) ?_; intro v3 w3 hown' hgrow hnil hloc; have HOWN3 := Lib.hid hown'; have HB3 := Lib.hid (grown_below HB2.out hgrow (fun k hk => low_ne HOWN2.out hk) (by have := HB2.out.size; omega)); clear hown' hgrow hnil hloc))
        go_ret
        have hpi := put_in (l := l) (x := x) (i := i) (by rw [HLF.out, HLN.out]; exact HPX.out) (by rw [HLN.out]; omega) (fun _ => by have := congrFun HLF.out i; rw [this]; exact HFN.out)
        rw [HLN.out, show (fun j => l.gi (i + j) 0) = fun j => f (i + j) from funext fun j => congrFun HLF.out (i + j), HLF.out] at hpi
        exact ⟨v3, rfl, by rw [hpi.1, hpi.2]; rw [show n + 1 = i + 1 + (n - i) by omega]; exact HOWN3.out, HB3.out⟩
  · obtain rfl : i = n := by omega
    have hpx : posP f x i 0 = i := by
      have h1 := HP.out
      rw [Nat.sub_self] at h1
      exact h1.symm
    have HPX := Lib.hid hpx
    clear hpx
    have hpi := put_in (l := l) (x := x) (i := i) (by rw [HLF.out, HLN.out]; exact HPX.out) (by rw [HLN.out]; omega) (fun h => by rw [HLN.out] at h; omega)
    rw [HLN.out, Nat.sub_self, HLF.out] at hpi
    have HPI := Lib.hid hpi
    clear hpi
    rcases base0 with _ | ad
    · go_wp2_with (first
        | (go_at_call 46; (with_reducible refine (ints_calls _ _ _ _ f hs (by omega)).mono ?_); rintro e w' ⟨v', rfl, hown, hbel⟩; have HOWN := Lib.hid hown; have HB := Lib.hid hbel; clear hown hbel)
        | (at_builtin; refine wpList_append_own_at _ rfl _ _ 49 rfl w1.heap.size 3 i0 (.int .i64 0) 1 8 Tryd.underlying49 HI.out HZ0.out HZ1.out HZ2.out rfl (by decide) _ _ _ rfl (HOWN.out.alloc _) ⟨_, 0, none⟩ 1 1 [.int .i64 x] rfl rfl (cell_one_new _ _ _) (by simp [Value.oneCell']) (by unfold maxLen; omega) (by omega) (by have := HB.out.size; simp; omega) ?_; intro v'' w2 hown' hgrow hnil hloc; have HOWN2 := Lib.hid hown'; have HB2 := Lib.hid (grown_below (HB.out.alloc (by have := HB.out.size; omega) _) hgrow (fun k hk => low_ne HOWN.out hk) (by have := HB.out.size; simp; omega)); obtain ⟨g2, c2, rfl, hc2⟩ := own_pos hown'; clear hown' hgrow hnil hloc)
        | (at_builtin; refine wl_append_nothing rfl _ _ 49 rfl 3 i0 Tryd.underlying49 HI.out _ _ _ _ hc2 rfl rfl ?_))
      all_goals go_ret
      all_goals exact ⟨_, rfl, by rw [HPI.out.1, HPI.out.2]; simp only [ivals, List.range_zero, List.map_nil, List.append_nil]; exact HOWN2.out, HB2.out⟩
    · by_cases hcn : cap = i
      · go_wp2_with (first
          | (go_at_call 46; (with_reducible refine (ints_calls _ _ _ _ f hs (by omega)).mono ?_); rintro e w' ⟨v', rfl, hown, hbel⟩; have HOWN := Lib.hid hown; have HB := Lib.hid hbel; clear hown hbel)
          | (at_builtin; refine wpList_append_own_at _ rfl _ _ 49 rfl w1.heap.size 3 i0 (.int .i64 0) 1 8 Tryd.underlying49 HI.out HZ0.out HZ1.out HZ2.out rfl (by decide) _ _ _ rfl (HOWN.out.alloc _) ⟨_, 0, none⟩ 1 1 [.int .i64 x] rfl rfl (cell_one_new _ _ _) (by simp [Value.oneCell']) (by unfold maxLen; omega) (by omega) (by have := HB.out.size; simp; omega) ?_; intro v'' w2 hown' hgrow hnil hloc; have HOWN2 := Lib.hid hown'; have HB2 := Lib.hid (grown_below (HB.out.alloc (by have := HB.out.size; omega) _) hgrow (fun k hk => low_ne HOWN.out hk) (by have := HB.out.size; simp; omega)); clear hown' hgrow hnil hloc)
          | (at_builtin; refine wpList_append_own_at _ rfl _ _ 49 rfl w1.heap.size 3 i0 (.int .i64 0) 1 8 Tryd.underlying49 HI.out HZ0.out HZ1.out HZ2.out rfl (by decide) _ _ _ rfl HOWN2.out _ 0 _ [] rfl rfl (fun j u hj => by simp at hj) (by simp) (by unfold maxLen; omega) (by omega) (by have := HB2.out.size; omega) ?_; intro v3 w3 hown' hgrow hnil hloc; have HOWN3 := Lib.hid hown'; have HB3 := Lib.hid (grown_below HB2.out hgrow (fun k hk => low_ne HOWN2.out hk) (by have := HB2.out.size; omega)); clear hown' hgrow hnil hloc))
        all_goals go_ret
        all_goals exact ⟨_, rfl, by rw [HPI.out.1, HPI.out.2]; have h3 := HOWN3.out; simp only [ivals, List.range_zero, List.map_nil] at h3 ⊢; exact h3, HB3.out⟩
      · go_wp2_with (first
          | (go_at_call 46; (with_reducible refine (ints_calls _ _ _ _ f hs (by omega)).mono ?_); rintro e w' ⟨v', rfl, hown, hbel⟩; have HOWN := Lib.hid hown; have HB := Lib.hid hbel; clear hown hbel)
          | (at_builtin; refine wpList_append_own_at _ rfl _ _ 49 rfl w1.heap.size 3 i0 (.int .i64 0) 1 8 Tryd.underlying49 HI.out HZ0.out HZ1.out HZ2.out rfl (by decide) _ _ _ rfl (HOWN.out.alloc _) ⟨_, 0, none⟩ 1 1 [.int .i64 x] rfl rfl (cell_one_new _ _ _) (by simp [Value.oneCell']) (by unfold maxLen; omega) (by omega) (by have := HB.out.size; simp; omega) ?_; intro v'' w2 hown' hgrow hnil hloc; have HOWN2 := Lib.hid hown'; have HB2 := Lib.hid (grown_below (HB.out.alloc (by have := HB.out.size; omega) _) hgrow (fun k hk => low_ne HOWN.out hk) (by have := HB.out.size; simp; omega)); clear hown' hgrow hnil hloc)
          | (at_builtin; refine wpList_append_own_at _ rfl _ _ 49 rfl w1.heap.size 3 i0 (.int .i64 0) 1 8 Tryd.underlying49 HI.out HZ0.out HZ1.out HZ2.out rfl (by decide) _ _ _ rfl HOWN2.out _ 0 _ [] rfl rfl (fun j u hj => by simp at hj) (by simp) (by unfold maxLen; omega) (by omega) (by have := HB2.out.size; omega) ?_; intro v3 w3 hown' hgrow hnil hloc; have HOWN3 := Lib.hid hown'; have HB3 := Lib.hid (grown_below HB2.out hgrow (fun k hk => low_ne HOWN2.out hk) (by have := HB2.out.size; omega)); clear hown' hgrow hnil hloc))
        all_goals go_ret
        all_goals exact ⟨_, rfl, by rw [HPI.out.1, HPI.out.2]; have h3 := HOWN3.out; simp only [ivals, List.range_zero, List.map_nil] at h3 ⊢; exact h3, HB3.out⟩

theorem putS_sound : C_putS.Sound Tryd.prog G 27 := by
  refine Ctr.PSound.sound ⟨⟨_, Tryd.func27, by kernel_rfl, by kernel_rfl⟩, ?_⟩ rfl
  intro ls S w hG hp hpar
  obtain ⟨l, x, rfl, hpre⟩ := putS_pre hp
  obtain ⟨base, cap, hS, hd⟩ := hpar.1 (0, [.int .i64]) (by simp [C_putS, shCells, Sh.cells, resLists])
  have hS : S 0 = .slice base l.len cap.1 := hS
  have ea : ((resTs 0 C_putS.params).map (TV.val (envOf [.l l, .i x]) S β0)).toArray = #[.slice base l.len cap.1, .int .i64 x] := by
    show #[asSl (S 0), _] = _
    rw [hS]
    rfl
  rw [ea]
  have hs : SrcAt w base l.len (fun k => l.gi k 0) := by
    rcases hd with h | ⟨a, rfl, hsp, hap, hc⟩
    · exact .inl h
    · refine .inr ⟨a.block, a.off, by rw [← hsp], hap.1, fun i hi => ?_⟩
      have h2 : w.cell? ⟨a.block, a.off + (i * 1 + 0), none⟩ = some (.int .i64 (l.gi i 0)) := hc i 0 (.int .i64) hi rfl
      rw [show a.off + (i * 1 + 0) = a.off + i by omega] at h2
      exact h2
  refine (put_calls w base l cap.1 x hs (by omega) cap.2).mono ?_
  rintro e w' ⟨v', rfl, hown, hb⟩
  have hsl : asSl v' = v' := by
    rcases hown.2 with ⟨rfl, _⟩ | ⟨g, c, cur, rfl, _⟩ <;> rfl
  refine ⟨hb, _, rfl, fun _ => v', hsl.symm, fun p hp => ?_⟩
  have hp : p = (0, [.int .i64]) := by simpa [C_putS, shCells, Sh.cells, resLists] using hp
  subst hp
  show readsNew w.heap.size w' [.int .i64] (putV l x) v'
  rcases hown.2 with ⟨rfl, h0⟩ | ⟨g, c, cur, rfl, hg, hcur, hnc, _, _, htake⟩
  · exact ⟨none, ⟨0, by omega⟩, by show Value.slice none 0 0 = Value.slice none (putV l x).len 0; rw [h0], .inl h0⟩
  · refine ⟨some ⟨g, 0, none⟩, ⟨c, hnc⟩, rfl, .inr ⟨⟨g, 0, none⟩, rfl, rfl, ⟨hg, lt_of_heap hcur⟩, fun i k K hi hK => ?_⟩⟩
    have hk : k = 0 := by
      cases k with
      | zero => rfl
      | succ k => simp at hK
    subst hk
    have hK : K = .int .i64 := by simpa using hK.symm
    subst hK
    have h1 : (cur.toList.take ((putV l x).len * 1))[i]? = (ivals (fun k => (putV l x).gi k 0) (putV l x).len)[i]? := by rw [htake]
    unfold ivals at h1
    rw [List.getElem?_take_of_lt (by omega), List.getElem?_map, List.getElem?_range hi] at h1
    show w'.cell? ⟨g, 0 + (i * 1 + 0), none⟩ = some (.int .i64 ((putV l x).gi i 0))
    rw [show 0 + (i * 1 + 0) = i by omega]
    unfold World.cell?
    rw [hcur]
    simpa using h1

end Go.Proofs.YtchjajnhbipkmaaDoor
