/- A generator of verification conditions for plain Go code, run by the kernel, and its proof; the step from a contract to a row. Own work, for this seat. -/
import Derived.Test.YtccdhkmohimfhaaDoorVa
import Derived.Carry
import Derived.Deep.Slices
import Derived.ProofKit
import Derived.SizedLaws
import Derived.ChangeOld
/- Memory behind a new block, a store, a call; regions. -/
namespace Go.Vg
open Go.RowKit
set_option linter.unusedVariables false
set_option linter.unusedSimpArgs false

section
variable {W w w' : World} {ρ : Env} {σ : Nat → Value} {β : Nat → Nat} {O : List (TypeId × List CV)} {L : List (Nat × List EK)}

theorem lt_of_get {α : Type} {l : List α} {k : Nat} {x : α} (h : l[k]? = some x) : k < l.length := by
  rcases Nat.lt_or_ge k l.length with h' | h'
  · exact h'
  · rw [List.getElem?_eq_none h'] at h; cases h

theorem WOk.alloc (hw : WOk W ρ σ β O L w) (t : TypeId) (cs : List CV) {β' : Nat → Nat} (hb : Vg.agree O.length β β') (hn : β' O.length = w.heap.size)
    {n : Nat} (ho : ∀ x, x ∈ O → x.2.all (CV.scp n O.length) = true) (hc : cs.all (CV.scp n O.length) = true) :
    WOk W ρ σ β' (O ++ [(t, cs)]) L (w.alloc (.cells (cs.map (CV.val ρ σ β)).toArray t)) := by
  have hlen : (O ++ [(t, cs)]).length = O.length + 1 := by simp
  refine ⟨hw.below.alloc hw.below.size _, fun k u ds hk => ?_, fun j k hj hk e => ?_, fun k hk => ?_, fun p hp => ?_, fun l T K hm he => ?_, hw.sep⟩
  · have hlt := lt_of_get hk
    rw [hlen] at hlt
    by_cases hko : k < O.length
    · rw [List.getElem?_append_left hko] at hk
      have h1 := own_lt hw hko
      rw [hb k hko, Below.heap_alloc _ _ _ h1, hw.own k u ds hk, cvs_agree (agree_refl n ρ) (agree_refl n σ) hb (ho (u, ds) (List.mem_of_getElem? hk))]
    · have hke : k = O.length := by omega
      subst hke
      simp at hk
      obtain ⟨rfl, rfl⟩ := hk
      rw [hn, cvs_agree (agree_refl n ρ) (agree_refl n σ) hb hc]
      show (w.heap.push _)[w.heap.size]? = _
      rw [Array.getElem?_push, if_pos rfl]
  · rw [hlen] at hj hk
    by_cases hjo : j < O.length <;> by_cases hko : k < O.length
    · rw [hb j hjo, hb k hko] at e; exact hw.inj j k hjo hko e
    · have hke : k = O.length := by omega
      subst hke
      rw [hb j hjo, hn] at e
      have := own_lt hw hjo
      omega
    · have hje : j = O.length := by omega
      subst hje
      rw [hb k hko, hn] at e
      have := own_lt hw hko
      omega
    · omega
  · rw [hlen] at hk
    by_cases hko : k < O.length
    · rw [hb k hko]; exact hw.ge k hko
    · have hke : k = O.length := by omega
      subst hke
      rw [hn]; exact hw.below.size
  · obtain ⟨base, cap, h1, h2⟩ := hw.lists p hp
    refine ⟨base, cap, h1, ?_⟩
    rcases h2 with h2 | ⟨ad, h3, h4, h6, h5⟩
    · exact .inl h2
    · refine .inr ⟨ad, h3, h4, ⟨by have := h6.1; simp; omega, fun k hk => ?_⟩, fun i c K hi hK => ?_⟩
      · rw [hlen] at hk
        by_cases hko : k < O.length
        · rw [hb k hko]; exact h6.2 k hko
        · have hke : k = O.length := by omega
          subst hke
          rw [hn]
          have := h6.1
          omega
      · rw [World.cell?_alloc_lt w _ ⟨ad.block, ad.off + (i * p.snd.length + c), none⟩ h6.1]; exact h5 i c K hi hK
  · obtain ⟨h1, h2⟩ := hw.gro l T K hm he
    refine ⟨h1.alloc _, fun k hk e => ?_⟩
    rw [hlen] at hk
    by_cases hko : k < O.length
    · rw [hb k hko] at e; exact h2 k hko e
    · have hke : k = O.length := by omega
      subst hke
      rw [hn] at e
      have := (h1.lt _ e).2
      omega

theorem setAt_get {α : Type} : ∀ (l : List α) (n : Nat) (x : α) (k : Nat), (setAt l n x)[k]? = if k = n then (if n < l.length then some x else none) else l[k]?
  | [], n, x, k => by simp [setAt]
  | a :: as, 0, x, k => by cases k <;> simp [setAt]
  | a :: as, n + 1, x, k => by
    cases k with
    | zero => simp [setAt]
    | succ k => simp [setAt, setAt_get as n x k]
theorem setAt_length {α : Type} : ∀ (l : List α) (n : Nat) (x : α), (setAt l n x).length = l.length
  | [], n, x => by simp [setAt]
  | a :: as, 0, x => by simp [setAt]
  | a :: as, n + 1, x => by simp [setAt, setAt_length as n x]

theorem WOk.store (hw : WOk W ρ σ β O L w) {b : Nat} {t : TypeId} {old cs : List CV} (hb : O[b]? = some (t, old)) :
    WOk W ρ σ β (setAt O b (t, cs)) L (w.setRow (β b) (cs.map (CV.val ρ σ β)).toArray) := by
  have hlt := lt_of_get hb
  refine ⟨below_setRow hw.below (hw.ge b hlt) _, fun k u ds hk => ?_, fun j k hj hk e => ?_, fun k hk => ?_, fun p hp => ?_, fun l T K hm he => ?_, hw.sep⟩
  · rw [setAt_get] at hk
    split at hk
    · rename_i hkb
      subst hkb
      try rw [if_pos hlt] at hk
      cases hk
      exact setRow_heap w (β k) _ _ _ _ (hw.own k t old hb)
    · rename_i hkb
      rw [setRow_other w (β b) (β k) _ (fun e => hkb (hw.inj k b (lt_of_get hk) hlt e))]
      exact hw.own k u ds hk
  · rw [setAt_length] at hj hk; exact hw.inj j k hj hk e
  · rw [setAt_length] at hk; exact hw.ge k hk
  · obtain ⟨base, cap, h1, h2⟩ := hw.lists p hp
    refine ⟨base, cap, h1, ?_⟩
    rcases h2 with h2 | ⟨ad, h3, h4, h6, h5⟩
    · exact .inl h2
    · refine .inr ⟨ad, h3, h4, ⟨by rw [size_setRow]; exact h6.1, fun k hk => h6.2 k (by rwa [setAt_length] at hk)⟩, fun i c K hi hK => ?_⟩
      rw [cell_setRow_other w (β b) _ ⟨ad.block, ad.off + (i * p.snd.length + c), none⟩ (h6.2 b hlt)]
      exact h5 i c K hi hK
  · obtain ⟨h1, h2⟩ := hw.gro l T K hm he
    refine ⟨ownsRow_block h1 (fun g hg => setRow_other w (β b) g _ (fun e => h2 b hlt (by rw [hg, e]))), fun k hk => h2 k (by rwa [setAt_length] at hk)⟩

/-- The lists that are left, where one was appended to. -/
def dropOld (old : Option Nat) (L : List (Nat × List EK)) : List (Nat × List EK) := match old with
  | some l => L.filter (fun p => !(Nat.beq p.1 l))
  | none => L
theorem dropOld_mem {old : Option Nat} {p : Nat × List EK} (h : p ∈ dropOld old L) : p ∈ L ∧ ∀ l, old = some l → p.1 ≠ l := by
  cases old with
  | none => exact ⟨h, fun l h => by cases h⟩
  | some l =>
    obtain ⟨h1, h2⟩ := List.mem_filter.1 h
    refine ⟨h1, fun l' h' e => ?_⟩
    cases h'
    rw [e, Nat.beq_refl] at h2
    cases h2

theorem WOk.app (hw : WOk W ρ σ β O L w) {n : Nat} {old : Option Nat} {t : TypeId} {ks : List IntKind} (hks : 0 < ks.length) (hold : ∀ l, old = some l → (l, gros t ks) ∈ L)
    {w1 : World} (h4 : w1.ownsRow W.heap.size t (gros t ks).length (σ n) (ρ n).lv.len (rowsOf (gros t ks) (ρ n).lv)) (hpos : 0 < (ρ n).lv.len)
    (h5 : w.grownBy w1 (oldV σ old).ownBlock) (h6 : (σ n).ownBlock = (oldV σ old).ownBlock ∨ (σ n).ownBlock = some w.heap.size) :
    WOk W ρ σ β O ((n, gros t ks) :: dropOld old L) w1 := by
  have hgr : groOf (gros t ks) = some t := gros_of hks
  have hge : ∀ g, (oldV σ old).ownBlock = some g → W.heap.size ≤ g ∧ g < w.heap.size := fun g hg => by
    cases old with
    | none => cases hg
    | some l => exact (hw.gro l t _ (hold l rfl) hgr).1.lt g hg
  have hnb : ∀ j, j < O.length → (oldV σ old).ownBlock ≠ some (β j) := fun j hj => by
    cases old with
    | none => intro e; cases e
    | some l => exact (hw.gro l t _ (hold l rfl) hgr).2 j hj
  have hkeep : ∀ p, p ∈ L → (∀ l, old = some l → p.1 ≠ l) → ((ρ p.1).lv.len = 0 ∧ isGro p.2 = false) ∨ (oldV σ old).ownBlock = none ∨ (oldV σ old).ownBlock ≠ (σ p.1).ownBlock := fun p hp hne => by
    cases old with
    | none => exact .inr (.inl rfl)
    | some l => exact hw.sep (l, gros t ks) p (hold l rfl) hp (isGro_gros hks) (fun e => hne l rfl e.symm)
  obtain ⟨g, cap, hform, hg1, hg2⟩ := h4.form hpos
  have hgb : (σ n).ownBlock = some g := by rw [hform]; rfl
  have hapart : ∀ j, j < O.length → g ≠ β j := fun j hj e => by
    rw [hgb] at h6
    rcases h6 with h6 | h6
    · exact hnb j hj (by rw [← h6, e])
    · cases h6
      have := own_lt hw hj
      omega
  refine ⟨⟨h5.os.trans hw.below.os, h5.tape.trans hw.below.tape, h5.output.trans hw.below.output, Nat.le_trans hw.below.size h5.size, fun j hj => ?_⟩, fun j u ds hj => ?_, hw.inj, hw.ge, fun p hp => ?_, fun l T K hm he => ?_, fun p q hp hq hg hne => ?_⟩
  · rw [h5.block j (Nat.lt_of_lt_of_le hj hw.below.size) (fun e => by have := (hge j e.symm).1; omega)]
    exact hw.below.block j hj
  · have hlt := lt_of_get hj
    rw [h5.block (β j) (own_lt hw hlt) (fun e => hnb j hlt e.symm)]
    exact hw.own j u ds hj
  · rcases List.mem_cons.1 hp with rfl | hp
    · refine ⟨some ⟨g, 0, none⟩, cap, hform, .inr ⟨⟨g, 0, none⟩, rfl, rfl, ⟨hg2, hapart⟩, fun i c K hi hK => ?_⟩⟩
      have hi' : i < (ρ n).lv.len := hi
      have h7 := h4.cells hgb (i * (gros t ks).length + c) _ (rowsOf_get hi' hK)
      rw [Addr.add_lit] at h7
      simpa using h7
    · obtain ⟨hp1, hp2⟩ := dropOld_mem hp
      obtain ⟨base, c, h1, h2⟩ := hw.lists p hp1
      refine ⟨base, c, h1, ?_⟩
      rcases h2 with h2 | ⟨ad, h3, h7, h8, h9⟩
      · exact .inl h2
      · rcases hkeep p hp1 hp2 with hk | hk
        · exact .inl hk.1
        · have hne : some ad.block ≠ (oldV σ old).ownBlock := fun e => by
            rcases hk with hk | hk
            · rw [hk] at e; cases e
            · exact hk (by rw [← e, h1, h3]; rfl)
          refine .inr ⟨ad, h3, h7, ⟨Nat.lt_of_lt_of_le h8.1 h5.size, h8.2⟩, fun i c K hi hK => ?_⟩
          exact h5.cell (h9 i c K hi hK) hne
  · rcases List.mem_cons.1 hm with hm | hm
    · cases hm
      rw [hgr] at he
      cases he
      exact ⟨h4, fun j hj e => hapart j hj (by rw [hgb] at e; exact Option.some.inj e)⟩
    · obtain ⟨hp1, hp2⟩ := dropOld_mem hm
      obtain ⟨h7, h8⟩ := hw.gro l T K hp1 he
      refine ⟨ownsRow_block h7 (fun g' hg' => h5.block g' (h7.lt g' hg').2 (fun e => ?_)), h8⟩
      rcases hkeep _ hp1 hp2 with hk | hk | hk
      · rw [isGro_of he] at hk; cases hk.2
      · rw [hk] at e; cases e
      · exact hk (by rw [← e]; exact hg'.symm)
  · rcases List.mem_cons.1 hp with rfl | hp
    · rcases List.mem_cons.1 hq with rfl | hq
      · exact absurd rfl hne
      · obtain ⟨hq1, hq2⟩ := dropOld_mem hq
        rcases h6 with h6 | h6
        · simp only [h6]; exact hkeep q hq1 hq2
        · by_cases hl : (ρ q.1).lv.len = 0 ∧ isGro q.2 = false
          · exact .inl hl
          · refine .inr (.inr fun e => ?_)
            simp only [h6] at e
            cases hgq : isGro q.2 with
            | true =>
              obtain ⟨T, he⟩ := isGro_eq hgq
              have h7 := hw.gro q.1 T q.2 hq1 he
              have := (h7.1.lt _ e.symm).2
              omega
            | false =>
              obtain ⟨base, c, h1, h2⟩ := hw.lists q hq1
              rcases h2 with h2 | ⟨ad, h3, h7, h8, h9⟩
              · exact hl ⟨h2, hgq⟩
              · rw [h1, h3] at e
                have e' : w.heap.size = ad.block := Option.some.inj e
                have := h8.1
                omega
    · obtain ⟨hp1, hp2⟩ := dropOld_mem hp
      rcases List.mem_cons.1 hq with rfl | hq
      · obtain ⟨T, he⟩ := isGro_eq hg
        have h7 := (hw.gro p.1 T p.2 hp1 he).1
        cases hb : (σ p.1).ownBlock with
        | none => exact .inr (.inl rfl)
        | some g' =>
          refine .inr (.inr fun e => ?_)
          have hlt := (h7.lt g' hb).2
          rcases h6 with h6 | h6
          · rcases hkeep p hp1 hp2 with hk | hk | hk
            · rw [hg] at hk; cases hk.2
            · simp only [h6, hk] at e; cases e
            · exact hk (by rw [hb, e, h6])
          · simp only [h6] at e
            have e' : g' = w.heap.size := Option.some.inj e
            omega
      · exact hw.sep p q hp1 (dropOld_mem hq).1 hg hne

theorem TOk.put {st : St} {a : Act} (hT : TOk ρ σ β st a) (dst : Option Tmp) {g : Gd} {sv : SV} {v : Value}
    (h : sv = .any ∨ (Gd.holds ρ g ∧ v = sv.val ρ σ β) ∨ (¬ Gd.holds ρ g ∧ v = undef)) : TOk ρ σ β (st.put dst (g, sv)) (a.put dst v) := by
  cases dst with
  | none => exact hT
  | some d =>
    by_cases hd : d < st.nt
    · have hb : Nat.blt d st.nt = true := by unfold Nat.blt; exact Nat.ble_eq_true_of_le hd
      have e : st.put (some d) (g, sv) = { st with tmps := (d, (g, sv)) :: st.tmps } := by simp only [St.put, hb]
      rw [e]
      refine ⟨by simp only [Act.put, Array.size_setIfInBounds, hT.size], fun t g' sv' ht => ?_, hT.defers, hT.pc⟩
      simp only [getT] at ht
      simp only [Act.put]
      split at ht
      · rename_i hdt
        have hdt := Nat.eq_of_beq_eq_true hdt
        subst hdt
        cases ht
        have h1 : (a.tmps.setIfInBounds d v).getD d undef = v := by
          rw [Array.getD_eq_getD_getElem?, Array.getElem?_setIfInBounds_self_of_lt (by rw [hT.size]; exact hd)]
          rfl
        rw [h1]
        exact h
      · rename_i hdt
        have h1 : (a.tmps.setIfInBounds d v).getD t undef = a.tmps.getD t undef := by
          rw [Array.getD_eq_getD_getElem?, Array.getD_eq_getD_getElem?, Array.getElem?_setIfInBounds_ne (fun e => by rw [e, Nat.beq_refl] at hdt; cases hdt)]
        rw [h1]
        exact hT.slot t g' sv' ht
    · have hb : Nat.blt d st.nt = false := by
        cases h2 : Nat.blt d st.nt
        · rfl
        · exact absurd (blt_lt h2) hd
      have e : st.put (some d) (g, sv) = st := by simp only [St.put, hb]
      have e2 : a.put (some d) v = a := by
        simp only [Act.put]
        rw [Array.setIfInBounds_eq_of_size_le (by rw [hT.size]; exact Nat.le_of_not_lt hd)]
      rw [e, e2]
      exact hT

theorem put_n (st : St) (dst : Option Tmp) (x : Gd × SV) : (st.put dst x).n = st.n ∧ (st.put dst x).own = st.own ∧ (st.put dst x).lists = st.lists ∧ (st.put dst x).pc = st.pc := by
  cases dst with
  | none => exact ⟨rfl, rfl, rfl, rfl⟩
  | some d => simp only [St.put]; split <;> exact ⟨rfl, rfl, rfl, rfl⟩

end

/-! ### Guards -/

section
variable {P : Program} {ρ : Env} {σ : Nat → Value} {β : Nat → Nat} {st : St} {a : Act}

theorem guard_ok {ops : Array Oper} (hT : TOk ρ σ β st a) {o : Oper} {g : Gd} (h : guardOf ops st o = some g) : (Region.wanted o (yielded ops a.tmps) = true ↔ Gd.holds ρ g) := by
  unfold guardOf at h
  unfold Region.wanted
  split at h
  · rename_i ho
    cases h
    rw [ho]
    exact ⟨fun _ p hp => by simp at hp, fun _ => rfl⟩
  · rename_i j want ho
    split at h
    · rename_i d hd
      split at h
      · rename_i gd e ht
        cases h
        rw [ho]
        simp only [beq_iff_eq]
        have hy : yielded ops a.tmps j = match a.tmps.getD d undef with | .bool b => some b | _ => none := by
          unfold yielded
          rw [hd]
          by_cases hlt : d < a.tmps.size
          · simp only [Option.bind_some, Array.getD_eq_getD_getElem?, Array.getElem?_eq_getElem hlt, Option.getD_some]
            cases a.tmps[d] <;> rfl
          · simp only [Option.bind_some, Array.getD_eq_getD_getElem?, Array.getElem?_eq_none (Nat.le_of_not_lt hlt), Option.getD_none, undef]
        rw [hy]
        rcases hT.slot d gd _ ht with h1 | ⟨h1, h2⟩ | ⟨h1, h2⟩
        · cases h1
        · rw [h2]
          simp only [SV.val, TV.val, CV.val]
          constructor
          · intro h3
            exact holds_cons (by simpa using h3) h1
          · intro h3
            have := h3 (e, want) (List.mem_cons_self ..)
            simpa using this
        · rw [h2]
          simp only [undef]
          constructor
          · intro h3; cases h3
          · intro h3; exact absurd (fun p hp => h3 p (List.mem_cons_of_mem _ hp)) h1
      · cases h
    · cases h

theorem dead_ok {g : Gd} (h : deadGd g = true) : ¬ Gd.holds ρ g := by
  intro hg
  simp only [deadGd, List.any_eq_true] at h
  obtain ⟨p, hp, h1⟩ := h
  have h2 := hg p hp
  split at h1
  · rename_i b hb
    rw [hb, Ex.bool_t] at h2
    have h3 := boolEq_eq h1
    rw [h2] at h3
    cases hp2 : p.2 <;> simp [hp2] at h3
  · cases h1

theorem thin_ok {g : Gd} : Gd.holds ρ (thinGd g) ↔ Gd.holds ρ g := by
  constructor
  · intro h p hp
    by_cases hf : (match p.1 with | .t b => !(boolEq b p.2) | _ => true) = true
    · exact h p (List.mem_filter.2 ⟨hp, hf⟩)
    · split at hf
      · rename_i b hb
        have : boolEq b p.2 = true := by simpa using hf
        rw [hb, Ex.bool_t, boolEq_eq this]
      · exact absurd rfl hf
  · intro h p hp
    exact h p (List.mem_filter.1 hp).1

theorem deadP_ok {st : St} (hpc : Gd.holds ρ st.pc) {g : Gd} (h : deadP st g = true) : ¬ Gd.holds ρ g := by
  unfold deadP at h
  rw [Bool.or_eq_true] at h
  rcases h with h | h
  · exact dead_ok h
  · intro hg
    obtain ⟨p, hp, h1⟩ := List.any_eq_true.1 h
    have h2 := knownIn_ok hpc h1
    have h3 := hg p hp
    simp only at h2
    rw [h3] at h2
    cases hb : p.2 <;> simp [hb] at h2
theorem thinP_ok {st : St} (hpc : Gd.holds ρ st.pc) {g : Gd} : Gd.holds ρ (thinP st g) ↔ Gd.holds ρ g := by
  rw [← thin_ok (g := g)]
  constructor
  · intro h p hp
    by_cases hf : knownIn st.pc p = true
    · exact knownIn_ok hpc hf
    · exact h p (List.mem_filter.2 ⟨hp, by simpa using hf⟩)
  · intro h p hp
    exact h p (List.mem_filter.1 hp).1

theorem isNil_holds {g : Gd} (h : isNil g = true) : Gd.holds ρ g := by
  cases g with
  | nil => exact fun p hp => by simp at hp
  | cons _ _ => simp [isNil] at h

theorem isT_ok {e : Ex} (h : isT e = true) : e.bool ρ = true := by
  unfold isT at h
  split at h
  · rfl
  · cases h

/-- What is known, and what is shown, is all that is needed. -/
theorem need_ok (hpc : Gd.holds ρ st.pc) {g : Gd} (hg : Gd.holds ρ g) {e : Ex} (h : ∀ x, x ∈ need st g e → x.bool ρ = true) : e.bool ρ = true := by
  unfold need at h
  split at h
  · rename_i ht; exact isT_ok ht
  · split at h
    · rename_i hk
      simp only [Bool.or_eq_true, List.any_eq_true] at hk
      rcases hk with ⟨q, hq, h1⟩ | ⟨q, hq, h1⟩
      · have := hpc q hq; rw [← pairEq_eq h1] at this; exact this
      · have := hg q hq; rw [← pairEq_eq h1] at this; exact this
    · exact h e (List.mem_singleton.2 rfl)

theorem needAll_ok (hpc : Gd.holds ρ st.pc) {g : Gd} (hg : Gd.holds ρ g) {obs : List Ex} (h : ∀ x, x ∈ needAll st g obs → x.bool ρ = true) : ∀ e, e ∈ obs → e.bool ρ = true :=
  fun e he => need_ok hpc hg fun x hx => h x (List.mem_flatten.2 ⟨_, List.mem_map.2 ⟨e, he, rfl⟩, hx⟩)

end
end Go.Vg

/- A region does what the run says. -/
namespace Go.Vg
open Go.RowKit
set_option linter.unusedVariables false
set_option linter.unusedSimpArgs false

/-! ### Results -/

section
variable {ρ ρ' : Env} {σ σ' : Nat → Value} {β β' : Nat → Nat}

theorem resC_shift {n k : Nat} (h1 : ρ' n = ρ k) (h2 : σ' n = σ k) (c : CK) : (resC n c).val ρ' σ' β' = (resC k c).val ρ σ β := by
  cases c <;> simp only [resC, CV.val, Ex.int_v, Ex.bool_v, h1, h2]
theorem resCs_shift : ∀ (cs : List CK) (n k : Nat), (∀ j, ρ' (n + j) = ρ (k + j)) → (∀ j, σ' (n + j) = σ (k + j)) → (resCs n cs).map (CV.val ρ' σ' β') = (resCs k cs).map (CV.val ρ σ β)
  | [], _, _, _, _ => rfl
  | c :: cs, n, k, h1, h2 => by
    have h3 := resC_shift (β := β) (β' := β') (h1 0) (h2 0) c
    have h4 := resCs_shift cs (n + 1) (k + 1) (fun j => by have := h1 (1 + j); rwa [← Nat.add_assoc, ← Nat.add_assoc] at this) (fun j => by have := h2 (1 + j); rwa [← Nat.add_assoc, ← Nat.add_assoc] at this)
    simp only [resCs, List.map_cons]
    rw [h4]
    congr 1
theorem resT_shift (s : Sh) (n k : Nat) (h1 : ∀ j, ρ' (n + j) = ρ (k + j)) (h2 : ∀ j, σ' (n + j) = σ (k + j)) : (resT n s).val ρ' σ' β' = (resT k s).val ρ σ β := by
  cases s with
  | one c => exact resC_shift (h1 0) (h2 0) c
  | agg cs => simp only [resT, TV.val, resCs_shift cs n k h1 h2 (β := β) (β' := β')]
theorem resTs_shift : ∀ (ss : List Sh) (n k : Nat), (∀ j, ρ' (n + j) = ρ (k + j)) → (∀ j, σ' (n + j) = σ (k + j)) → (resTs n ss).map (TV.val ρ' σ' β') = (resTs k ss).map (TV.val ρ σ β)
  | [], _, _, _, _ => rfl
  | s :: ss, n, k, h1, h2 => by
    have h3 := resT_shift s n k h1 h2 (β := β) (β' := β')
    have h4 := resTs_shift ss (n + s.cells.length) (k + s.cells.length) (fun j => by rw [Nat.add_assoc, Nat.add_assoc]; exact h1 _) (fun j => by rw [Nat.add_assoc, Nat.add_assoc]; exact h2 _)
    simp only [resTs, List.map_cons, h3, h4]
theorem resS_shift (ss : List Sh) (n k : Nat) (h1 : ∀ j, ρ' (n + j) = ρ (k + j)) (h2 : ∀ j, σ' (n + j) = σ (k + j)) : (resS n ss).val ρ' σ' β' = (resS k ss).val ρ σ β := by
  have h3 := resTs_shift ss n k h1 h2 (β := β) (β' := β')
  unfold resS
  cases ss with
  | nil => rfl
  | cons s ss =>
    cases ss with
    | nil => simpa [resTs, SV.val] using h3
    | cons s2 ss => simpa [resTs, SV.val] using h3

theorem resS_ne (n : Nat) (ss : List Sh) : resS n ss ≠ .any := by unfold resS; split <;> simp

theorem resLists_shift : ∀ (cs : List CK) (n k : Nat) (p : Nat × List EK), p ∈ resLists n cs → ∃ q, q ∈ resLists k cs ∧ p.2 = q.2 ∧ ∃ j, p.1 = n + j ∧ q.1 = k + j
  | [], _, _, p, h => by simp [resLists] at h
  | c :: cs, n, k, p, h => by
    have rest : p ∈ resLists (n + 1) cs → ∃ q, q ∈ resLists k (c :: cs) ∧ p.2 = q.2 ∧ ∃ j, p.1 = n + j ∧ q.1 = k + j := by
      intro h
      obtain ⟨q, h1, h2, j, h3, h4⟩ := resLists_shift cs (n + 1) (k + 1) p h
      refine ⟨q, ?_, h2, 1 + j, by omega, by omega⟩
      cases c <;> simp only [resLists, List.mem_cons] <;> first | exact h1 | exact .inr h1
    cases c with
    | lst ek =>
      simp only [resLists, List.mem_cons] at h
      rcases h with rfl | h
      · exact ⟨(k, ek), by simp [resLists], rfl, 0, rfl, rfl⟩
      · exact rest h
    | int _ => exact rest (by simpa [resLists] using h)
    | bool => exact rest (by simpa [resLists] using h)
    | str => exact rest (by simpa [resLists] using h)

theorem hasLst_lists {cs : List CK} (h : hasLst cs = false) (n : Nat) : resLists n cs = [] := by
  induction cs generalizing n with
  | nil => rfl
  | cons c cs ih =>
    simp only [hasLst, List.any_cons, Bool.or_eq_false_iff] at h
    cases c with
    | lst _ => simp at h
    | int _ => simp only [resLists]; exact ih h.2 _
    | bool => simp only [resLists]; exact ih h.2 _
    | str => simp only [resLists]; exact ih h.2 _
end

/-- The contracts are those of the table, and true. -/
def SigOk (P : Program) (G : World → Prop) (sig : List (Nat × List Sh × List Sh)) (Γ : Cx) : Prop :=
  ∀ f ps rs, sigOf sig f = some (ps, rs) → (Γ.ctr f).params = ps ∧ (Γ.ctr f).res = rs ∧ (Γ.ctr f).Sound P G f

section
variable {P : Program} {G : World → Prop} {sig : List (Nat × List Sh × List Sh)} {Γ : Cx} {W : World} {ρ : Env} {σ : Nat → Value} {β : Nat → Nat} {st : St} {a : Act} {g : Gd}

theorem run_enter {f : Nat} (hc : Callable P f) {c0 : Call} {o : Oper} (ho : o.op = .call c0) (hf : c0.callee = .value (.func f)) (w : World) :
    (execOp a.eval o).run P w = .ok (.enter f (c0.args.map a.eval)) w := by
  obtain ⟨fn, h1, h2, h3⟩ := hc
  have h2' : ¬ fn.name = "runtime.NumGoroutine" := by simpa using h2
  have h3' : ¬ fn.body = none := by intro e; rw [e] at h3; cases h3
  simp [execOp, ho, resolve, hf, Act.eval, Deferred.ofValue, invoke, callFunc, h1, h2', h3']

/-- A call, from the state's own slots. -/
theorem call_okE (hst : Stable G) (hΓ : SigOk P G sig Γ) (hT : TOk ρ σ β st a) (hg : Gd.holds ρ g) {f : Nat} {args : List Ax} {res : List Sh} {o : Oper}
    (hs : StepOk P sig W ρ σ β st g a o (.call f args res)) (hpre : (Γ.ctr f).pre (args.map (Ax.ev ρ))) {E0 : Nat → Prop} {w : World} (hA : ArgW E0 ρ σ β st.own st.lists w) (hGw : G w)
    (hin : ∀ c0, o.op = .call c0 → ∀ x, x ∈ c0.args.toList → ∀ y, st.opnd g x = some (.tv y) → InE E0 y.cells) :
    ∃ vs, (∀ w, (execOp a.eval o).run P w = .ok (.enter f vs) w) ∧ Calls P f vs w fun e w' => Below w.heap.size w w' ∧ ∃ v, e = .returned v ∧ ResOk w.heap.size w' res ((Γ.ctr f).fn (args.map (Ax.ev ρ))) v := by
  obtain ⟨ps, c0, h1, h2, h3, h4⟩ := hs
  obtain ⟨h5, h6, h7, h8⟩ := hΓ f ps res h1
  unfold argsS at h4
  split at h4
  · rename_i l hl
    cases h4
    have hE : ∀ j ax, l.flatten[j]? = some ax → envOf (l.flatten.map (Ax.ev ρ)) (0 + j) = ax.ev ρ ∧ (l.flatten.map (Ax.slv ρ σ β)).getD (0 + j) undef = ax.slv ρ σ β := fun j ax hj => by
      rw [Nat.zero_add]
      exact ⟨by unfold envOf; rw [List.getD_eq_getElem?_getD, List.getElem?_map, hj]; rfl, by rw [List.getD_eq_getElem?_getD, List.getElem?_map, hj]; rfl⟩
    have h9 := args_ok hT hg hA (E := envOf (l.flatten.map (Ax.ev ρ))) (S := fun n => (l.flatten.map (Ax.slv ρ σ β)).getD n undef) (n := 0) hl (hin c0 h2) hE
    refine ⟨c0.args.map a.eval, run_enter h7 h2 h3, ?_⟩
    have h10 := h8 (l.flatten.map (Ax.ev ρ)) (fun n => (l.flatten.map (Ax.slv ρ σ β)).getD n undef) w hGw hpre (by rw [h5]; exact h9.2)
    rw [h5, h9.1, h6] at h10
    have h11 : (List.map a.eval c0.args.toList).toArray = c0.args.map a.eval := by rw [← Array.toList_map]
    rwa [h11] at h10
  · cases h4

theorem call_ok (hst : Stable G) (hG : G W) (hΓ : SigOk P G sig Γ) (hT : TOk ρ σ β st a) (hg : Gd.holds ρ g) {f : Nat} {args : List Ax} {res : List Sh} {o : Oper}
    (hs : StepOk P sig W ρ σ β st g a o (.call f args res)) (hpre : (Γ.ctr f).pre (args.map (Ax.ev ρ))) {w : World} (hw : WOk W ρ σ β st.own st.lists w) :
    ∃ vs, (∀ w, (execOp a.eval o).run P w = .ok (.enter f vs) w) ∧ Calls P f vs w fun e w' => Below w.heap.size w w' ∧ ∃ v, e = .returned v ∧ ResOk w.heap.size w' res ((Γ.ctr f).fn (args.map (Ax.ev ρ))) v := by
  obtain ⟨ps, c0, h1, h2, h3, h4⟩ := hs
  obtain ⟨h5, h6, h7, h8⟩ := hΓ f ps res h1
  unfold argsS at h4
  split at h4
  · rename_i l hl
    cases h4
    have hE : ∀ j ax, l.flatten[j]? = some ax → envOf (l.flatten.map (Ax.ev ρ)) (0 + j) = ax.ev ρ ∧ (l.flatten.map (Ax.slv ρ σ β)).getD (0 + j) undef = ax.slv ρ σ β := fun j ax hj => by
      rw [Nat.zero_add]
      exact ⟨by unfold envOf; rw [List.getD_eq_getElem?_getD, List.getElem?_map, hj]; rfl, by rw [List.getD_eq_getElem?_getD, List.getElem?_map, hj]; rfl⟩
    have h9 := args_ok hT hg (E0 := fun _ => True) (ArgW.of hw) (E := envOf (l.flatten.map (Ax.ev ρ))) (S := fun n => (l.flatten.map (Ax.slv ρ σ β)).getD n undef) (n := 0) hl (fun _ _ _ _ _ _ _ => trivial) hE
    refine ⟨c0.args.map a.eval, run_enter h7 h2 h3, ?_⟩
    have h10 := h8 (l.flatten.map (Ax.ev ρ)) (fun n => (l.flatten.map (Ax.slv ρ σ β)).getD n undef) w (hst W w hG hw.below) hpre (by rw [h5]; exact h9.2)
    rw [h5, h9.1, h6] at h10
    have h11 : (List.map a.eval c0.args.toList).toArray = c0.args.map a.eval := by rw [← Array.toList_map]
    rwa [h11] at h10
  · cases h4

theorem resOk_fixed {B : Nat} {w' : World} {res : List Sh} {rs : List Leaf} {v : Value} (h : ResOk B w' res rs v) (hl : hasLst (shCells res) = false) :
    v = (resS 0 res).val (envOf rs) (fun _ => undef) β0 := by
  obtain ⟨S, h1, _⟩ := h
  rw [h1]
  have key : ∀ (cs : List CK) (n : Nat), hasLst cs = false → (resCs n cs).map (CV.val (envOf rs) S β0) = (resCs n cs).map (CV.val (envOf rs) (fun _ => undef) β0) := by
    intro cs
    induction cs with
    | nil => intro n _; rfl
    | cons c cs ih =>
      intro n hc
      simp only [hasLst, List.any_cons, Bool.or_eq_false_iff] at hc
      cases c with
      | lst _ => simp at hc
      | int k => simp only [resCs, List.map_cons, ih (n + 1) hc.2]; rfl
      | bool => simp only [resCs, List.map_cons, ih (n + 1) hc.2]; rfl
      | str => simp only [resCs, List.map_cons, ih (n + 1) hc.2]; rfl
  have keyT : ∀ (s : Sh) (n : Nat), hasLst s.cells = false → (resT n s).val (envOf rs) S β0 = (resT n s).val (envOf rs) (fun _ => undef) β0 := by
    intro s n hs
    cases s with
    | one c =>
      have := key [c] n hs
      simpa [resCs, resT, TV.val] using this
    | agg cs => simp only [resT, TV.val, key cs n hs]
  have keyTs : ∀ (ss : List Sh) (n : Nat), hasLst (shCells ss) = false → (resTs n ss).map (TV.val (envOf rs) S β0) = (resTs n ss).map (TV.val (envOf rs) (fun _ => undef) β0) := by
    intro ss
    induction ss with
    | nil => intro n _; rfl
    | cons s ss ih =>
      intro n hc
      have : hasLst s.cells = false ∧ hasLst (shCells ss) = false := by
        have h2 : shCells (s :: ss) = s.cells ++ shCells ss := by simp [shCells]
        rw [h2] at hc
        simpa [hasLst] using hc
      simp only [resTs, List.map_cons, keyT s n this.1, ih _ this.2]
  have h3 := keyTs res 0 hl
  unfold resS
  cases res with
  | nil => rfl
  | cons s ss =>
    cases ss with
    | nil => simpa [resTs, SV.val] using h3
    | cons s2 ss => simpa [resTs, SV.val] using h3

theorem its_ob {l : List Ex} (h : itsHold Γ (l.map (It.ob g)) ρ) : (Gd.holds ρ g → ∀ x, x ∈ l → x.bool ρ = true) := by
  induction l with
  | nil => exact fun _ x hx => by simp at hx
  | cons e l ih =>
    obtain ⟨h1, h2⟩ := h
    intro hg x hx
    rcases List.mem_cons.1 hx with rfl | hx
    · exact h1 hg
    · exact ih h2 hg x hx
theorem env_ob (l : List Ex) : itsEnv Γ (l.map (It.ob g)) ρ = ρ := by
  induction l with
  | nil => rfl
  | cons e l ih => exact ih

theorem TOk.pcAdd (hT : TOk ρ σ β st a) {l : List Ex} (h : ∀ x, x ∈ l → x.bool ρ = true) : TOk ρ σ β { st with pc := l.map (fun e => (e, true)) ++ st.pc } a :=
  ⟨hT.size, hT.slot, hT.defers, fun p hp => by
    rcases List.mem_append.1 hp with hp | hp
    · obtain ⟨e, he, rfl⟩ := List.mem_map.1 hp; exact h e he
    · exact hT.pc p hp⟩

/-- Slots and memory. -/
def Rel (W : World) (ρ : Env) (σ : Nat → Value) (β : Nat → Nat) (st : St) (a : Act) (w : World) : Prop := TOk ρ σ β st a ∧ WOk W ρ σ β st.own st.lists w

/-- What goes on behind an operation. -/
def Goes (W : World) (ρ : Env) (σ : Nat → Value) (β : Nat → Nat) (n : Nat) (ρ1 : Env) (st' : St) (K : Act → World → Prop) : Prop :=
  ∀ σ' β' a' w', agree n ρ ρ1 → n ≤ st'.n → Rel W ρ1 σ' β' st' a' w' → K a' w'

theorem apply_ok (hst : Stable G) (hG : G W) (hΓ : SigOk P G sig Γ) {w : World} (hR : Rel W ρ σ β st a w) {o : Oper} {s : Step} (hg : Gd.holds ρ g) (hs : StepOk P sig W ρ σ β st g a o s)
    {st' : St} {its : List It} (h : applyStep false st g o.dst s = some (st', its)) (hits : itsHold Γ its ρ) {next : Act → World → Prop} {Q : Exit → Act → World → Prop}
    (hk : Goes W ρ σ β st.n (itsEnv Γ its ρ) st' next) : o.wp P a w next Q := by
  obtain ⟨hT, hw⟩ := hR
  cases s with
  | pure v obs =>
    simp only [applyStep, Option.some.injEq, Prod.mk.injEq] at h
    obtain ⟨h1, h2⟩ := h
    subst h2
    have hl := its_ob hits hg
    have hob := needAll_ok hT.pc hg hl
    obtain ⟨val, h3, h4⟩ := hs hob
    unfold Oper.wp
    rw [h4 w hw]
    rw [Oper.upon_value]
    rw [env_ob] at hk
    have hT' : TOk ρ σ β (st.put o.dst (g, v)) (a.put o.dst val) := hT.put o.dst (by
      rcases h3 with h3 | h3
      · exact .inl h3
      · exact .inr (.inl ⟨hg, h3⟩))
    have hown : (st.put o.dst (g, v)).own = st.own ∧ (st.put o.dst (g, v)).lists = st.lists ∧ (st.put o.dst (g, v)).n = st.n := ⟨(put_n _ _ _).2.1, (put_n _ _ _).2.2.1, (put_n _ _ _).1⟩
    refine hk σ β _ _ (agree_refl _ _) ?_ ?_
    · subst h1; split <;> simp [hown.2.2]
    · subst h1
      split
      · refine ⟨?_, ?_⟩
        · exact TOk.pcAdd hT' hl
        · show WOk W ρ σ β (st.put o.dst (g, v)).own (st.put o.dst (g, v)).lists w
          rw [hown.1, hown.2.1]; exact hw
      · refine ⟨hT', ?_⟩
        rw [hown.1, hown.2.1]; exact hw
  | app old t k e =>
    obtain ⟨hn, hks, hold, hrun⟩ := hs
    simp only [applyStep] at h
    split at h
    · cases h
    · rename_i hc
      simp only [Option.some.injEq, Prod.mk.injEq] at h
      obtain ⟨h1, h2⟩ := h
      subst h1; subst h2
      simp only [Bool.false_or, Bool.or_eq_true, not_or, Bool.not_eq_true', Bool.not_eq_true, Bool.not_eq_false] at hc
      have hscp : st.scp st.n = true := by simpa using hc.1.2
      obtain ⟨h7, h8, h9, h10⟩ := st_scp hscp
      have hax : ((oldAx old).ev ρ).lv = oldLV ρ old := by cases old <;> rfl
      obtain ⟨hlen, _⟩ := hits
      simp only [It.holds] at hlen
      rw [hax] at hlen
      obtain ⟨v', w1, h3, h4, h5, h6⟩ := hrun w hw hlen
      have henv : itsEnv Γ [It.app (oldAx old) e st.n] ρ = push ρ st.n [.l (snoc (oldLV ρ old) (e.map (Ex.int ρ)))] := by
        simp only [itsEnv, It.env]
        rw [hax]
      rw [henv] at hk
      let ρ1 : Env := push ρ st.n [.l (snoc (oldLV ρ old) (e.map (Ex.int ρ)))]
      let σ1 : Nat → Value := fun m => if m < st.n then σ m else v'
      have ha : agree st.n ρ ρ1 := agree_push ρ st.n _
      have has : agree st.n σ σ1 := fun m hm => by simp [σ1, hm]
      have hρ : (ρ1 st.n).lv = snoc (oldLV ρ old) (e.map (Ex.int ρ)) := by simp [ρ1, push, Leaf.lv]
      have hσ : σ1 st.n = v' := by simp [σ1]
      have hoV : oldV σ1 old = oldV σ old := by
        cases old with
        | none => rfl
        | some l => exact has l (h9 _ (hold l rfl))
      unfold Oper.wp
      rw [h3, Oper.upon_value]
      have hw1 : WOk W ρ1 σ1 β st.own st.lists w := hw.agree h8 h9 ha has (agree_refl _ _)
      have hT1 : TOk ρ1 σ1 β st a := hT.agree hscp ha has (agree_refl _ _)
      have hw2 := hw1.app (n := st.n) hks hold (w1 := w1) (by rw [hρ, hσ]; exact h4) (by rw [hρ]; exact Nat.succ_pos _) (by rw [hoV]; exact h5) (by rw [hσ, hoV]; exact h6)
      have hval : v' = (SV.tv (.one (.lst st.n))).val ρ1 σ1 β := by
        obtain ⟨g, cap, hf, _, _⟩ := h4.form (Nat.succ_pos _)
        have e1 : asSl v' = v' := by rw [hf]; rfl
        show v' = asSl (σ1 st.n)
        rw [hσ, e1]
      refine hk σ1 β _ _ ha ?_ ⟨?_, ?_⟩
      · simp
      · have := hT1.put o.dst (g := g) (sv := .tv (.one (.lst st.n))) (v := v') (.inr (.inl ⟨isNil_holds hn, hval⟩))
        exact ⟨this.size, this.slot, this.defers, this.pc⟩
      · have hown : (st.put o.dst (g, .tv (.one (.lst st.n)))).own = st.own ∧ (st.put o.dst (g, .tv (.one (.lst st.n)))).lists = st.lists := ⟨(put_n _ _ _).2.1, (put_n _ _ _).2.2.1⟩
        show WOk W ρ1 σ1 β (st.put o.dst (g, .tv (.one (.lst st.n)))).own ((st.n, gros t k) :: dropOld old (st.put o.dst (g, .tv (.one (.lst st.n)))).lists) w1
        rw [hown.1, hown.2]
        exact hw2
  | call f args res =>
    simp only [applyStep] at h
    split at h
    · cases h
    · rename_i hngro
      split at h
      · cases h
      rename_i hc
      simp only [Option.some.injEq, Prod.mk.injEq] at h
      obtain ⟨h1, h2⟩ := h
      subst h1; subst h2
      simp only [Bool.or_eq_true, not_or, Bool.not_eq_true', Bool.not_eq_true, Bool.not_eq_false] at hc
      have hscp : st.scp st.n = true := by simpa using hc.1.2
      have hgscp : Gd.scp st.n g = true := by simpa using hc.2
      obtain ⟨vs, h3, h4⟩ := call_ok hst hG hΓ hT hg hs (hits.1 hg) hw
      unfold Oper.wp
      rw [h3 w, Oper.upon_enter]
      refine h4.mono ?_
      rintro e w' ⟨hb, v, rfl, S, hv, hl⟩
      obtain ⟨h5, h6, h7, h8⟩ := st_scp hscp
      let rs := (Γ.ctr f).fn (args.map (Ax.ev ρ))
      let ρ1 : Env := push ρ st.n rs
      let σ1 : Nat → Value := fun m => if m < st.n then σ m else S (m - st.n)
      have ha : agree st.n ρ ρ1 := agree_push ρ st.n rs
      have has : agree st.n σ σ1 := fun m hm => by simp [σ1, hm]
      have hsh1 : ∀ j, ρ1 (st.n + j) = envOf rs (0 + j) := fun j => by simp [ρ1, push, envOf, show ¬ st.n + j < st.n by omega]
      have hsh2 : ∀ j, σ1 (st.n + j) = S (0 + j) := fun j => by simp [σ1, show ¬ st.n + j < st.n by omega]
      have hv' : v = (resS st.n res).val ρ1 σ1 β := by rw [hv]; exact (resS_shift res st.n 0 hsh1 hsh2).symm
      have hw1 : WOk W ρ1 σ1 β st.own st.lists w' := (hw.call hb).agree h6 h7 ha has (agree_refl _ _)
      have hT1 : TOk ρ1 σ1 β st a := hT.agree hscp ha has (agree_refl _ _)
      refine hk σ1 β _ _ ha ?_ ⟨?_, ?_⟩
      · simp
      · have := hT1.put o.dst (g := g) (sv := resS st.n res) (v := v) (.inr (.inl ⟨(gd_agree ha hgscp).2 hg, hv'⟩))
        exact ⟨this.size, this.slot, this.defers, this.pc⟩
      · have hown : (st.put o.dst (g, resS st.n res)).own = st.own ∧ (st.put o.dst (g, resS st.n res)).lists = st.lists := ⟨(put_n _ _ _).2.1, (put_n _ _ _).2.2.1⟩
        show WOk W ρ1 σ1 β (st.put o.dst (g, resS st.n res)).own (resLists st.n (shCells res) ++ (st.put o.dst (g, resS st.n res)).lists) w'
        rw [hown.1, hown.2]
        have hng : ∀ p, p ∈ resLists st.n (shCells res) → isGro p.2 = false := fun p hp => by
          have h1 : (resLists st.n (shCells res)).any (fun p => isGro p.2) = false := by simpa using hngro
          simpa using List.any_eq_false.1 h1 p hp
        refine ⟨hw1.below, hw1.own, hw1.inj, hw1.ge, fun p hp => ?_, fun l T K hm he => ?_, fun p q hp hq hg hne => ?_⟩
        rotate_left
        · rcases List.mem_append.1 hm with hm | hm
          · have := hng _ hm; rw [isGro_of he] at this; cases this
          · exact hw1.gro l T K hm he
        · have hp' : p ∈ st.lists := by
            rcases List.mem_append.1 hp with hp | hp
            · have := hng _ hp; rw [hg] at this; cases this
            · exact hp
          rcases List.mem_append.1 hq with hq | hq
          · obtain ⟨T, he⟩ := isGro_eq hg
            have h9 := (hw.gro p.1 T p.2 hp' he).1
            rw [has p.1 (h7 p hp')]
            cases hbl : (σ p.1).ownBlock with
            | none => exact .inr (.inl rfl)
            | some g' =>
              have hlt := (h9.lt g' hbl).2
              obtain ⟨q', hq', h10, j, h11, h12⟩ := resLists_shift (shCells res) st.n 0 q hq
              obtain ⟨base, cap, h13, h14⟩ := hl q' hq'
              rcases h14 with h14 | ⟨ad, h15, h16, h17, h18⟩
              · refine .inl ⟨?_, hng q hq⟩
                rw [h11, hsh1, ← h12]; exact h14
              · refine .inr (.inr fun e => ?_)
                rw [h11, hsh2, ← h12, h13, h15] at e
                have e' : g' = ad.block := Option.some.inj e
                have := h17.1
                omega
          · exact hw1.sep p q hp' hq hg hne
        rcases List.mem_append.1 hp with hp | hp
        · obtain ⟨q, hq, h9, j, h10, h11⟩ := resLists_shift (shCells res) st.n 0 p hp
          obtain ⟨base, cap, h12, h13⟩ := hl q hq
          rw [h9, h10, hsh1, hsh2, ← h11]
          refine ⟨base, cap, h12, ?_⟩
          rcases h13 with h13 | ⟨ad, h14, h15, h16, h17⟩
          · exact .inl h13
          · refine .inr ⟨ad, h14, h15, ⟨h16.2, fun k hk e => ?_⟩, h17⟩
            have := own_lt hw hk
            omega
        · exact hw1.lists p hp
  | alloc t cs v =>
    obtain ⟨hn, hne, hrun⟩ := hs
    simp only [applyStep] at h
    split at h
    · cases h
    · rename_i hc
      simp only [Option.some.injEq, Prod.mk.injEq] at h
      obtain ⟨h1, h2⟩ := h
      subst h1; subst h2
      simp only [Bool.false_or, Bool.or_eq_true, not_or, Bool.not_eq_true', Bool.not_eq_true, Bool.not_eq_false] at hc
      have hscp : st.scp st.n = true := by simpa using hc.1.2
      have hcs : cs.all (CV.scp st.n st.own.length) = true := by simpa using hc.2
      obtain ⟨h5, h6, h7, h8⟩ := st_scp hscp
      let β1 : Nat → Nat := fun k => if k = st.own.length then w.heap.size else β k
      have hb1 : agree st.own.length β β1 := fun m hm => by simp [β1, show m ≠ st.own.length by omega]
      have hbn : β1 st.own.length = w.heap.size := by simp [β1]
      unfold Oper.wp
      rw [hrun w hw β1 hbn, Oper.upon_value]
      have hT1 : TOk ρ σ β1 st a := hT.agree hscp (agree_refl _ _) (agree_refl _ _) hb1
      have hown : (st.put o.dst (g, v)).own = st.own ∧ (st.put o.dst (g, v)).lists = st.lists ∧ (st.put o.dst (g, v)).n = st.n := ⟨(put_n _ _ _).2.1, (put_n _ _ _).2.2.1, (put_n _ _ _).1⟩
      refine hk σ β1 _ _ (agree_refl _ _) ?_ ⟨?_, ?_⟩
      · simp [hown.2.2]
      · have := hT1.put o.dst (g := g) (sv := v) (v := v.val ρ σ β1) (.inr (.inl ⟨hg, rfl⟩))
        exact ⟨this.size, this.slot, this.defers, this.pc⟩
      · show WOk W ρ σ β1 (st.own ++ [(t, cs)]) (st.put o.dst (g, v)).lists _
        rw [hown.2.1]
        exact hw.alloc t cs hb1 hbn h6 hcs
  | store b off cs =>
    obtain ⟨hn, u, old, hb, hrun⟩ := hs
    simp only [applyStep, hb, hn] at h
    simp only [Bool.not_true, Bool.or_self, Bool.false_eq_true, if_false, Option.some.injEq, Prod.mk.injEq] at h
    obtain ⟨h1, h2⟩ := h
    subst h1; subst h2
    unfold Oper.wp
    rw [hrun w (hw.own b u old hb), Oper.upon_skip]
    have hown : (st.put o.dst (g, .any)).own = st.own ∧ (st.put o.dst (g, .any)).lists = st.lists ∧ (st.put o.dst (g, .any)).n = st.n := ⟨(put_n _ _ _).2.1, (put_n _ _ _).2.2.1, (put_n _ _ _).1⟩
    refine hk σ β _ _ (agree_refl _ _) ?_ ⟨?_, ?_⟩
    · simp [hown.2.2]
    · have := hT.put o.dst (g := g) (sv := .any) (v := undef) (.inl rfl)
      exact ⟨this.size, this.slot, this.defers, this.pc⟩
    · show WOk W ρ σ β (setAt st.own b (u, layAt old off cs)) (st.put o.dst (g, .any)).lists _
      rw [hown.2.1]
      exact hw.store hb

/-- Where the guard does not hold. -/
theorem apply_not {dr : Bool} {w : World} (hR : Rel W ρ σ β st a w) {dst : Option Tmp} {s : Step} {o : Oper} (hg : ¬ Gd.holds ρ g)
    {st' : St} {its : List It} (h : applyStep dr st g dst s = some (st', its)) :
    agree st.n ρ (itsEnv Γ its ρ) ∧ st.n ≤ st'.n ∧ Rel W (itsEnv Γ its ρ) σ β st' (a.put dst undef) w := by
  obtain ⟨hT, hw⟩ := hR
  have hnil : ¬ isNil g = true := fun h => hg (isNil_holds h)
  cases s with
  | pure v obs =>
    simp only [applyStep, Option.some.injEq, Prod.mk.injEq] at h
    obtain ⟨h1, h2⟩ := h
    subst h2
    rw [if_neg hnil] at h1
    subst h1
    have hown : (st.put dst (g, v)).own = st.own ∧ (st.put dst (g, v)).lists = st.lists ∧ (st.put dst (g, v)).n = st.n := ⟨(put_n _ _ _).2.1, (put_n _ _ _).2.2.1, (put_n _ _ _).1⟩
    rw [env_ob]
    exact ⟨agree_refl _ _, by rw [hown.2.2]; exact Nat.le_refl _, hT.put dst (.inr (.inr ⟨hg, rfl⟩)), by rw [hown.1, hown.2.1]; exact hw⟩
  | app old t k e =>
    have hn2 : isNil g = false := by simpa using hnil
    simp [applyStep, hn2] at h
  | call f args res =>
    simp only [applyStep] at h
    split at h
    · cases h
    · split at h
      · cases h
      rename_i hc
      simp only [Option.some.injEq, Prod.mk.injEq] at h
      obtain ⟨h1, h2⟩ := h
      subst h1; subst h2
      have hc' : hasLst (shCells res) = false ∧ st.scp st.n = true ∧ Gd.scp st.n g = true := by
        have hn2 : isNil g = false := by simpa using hnil
        revert hc
        cases hasLst (shCells res) <;> cases st.scp st.n <;> cases Gd.scp st.n g <;> cases dr <;> simp [hn2]
      obtain ⟨hl, hscp, hgscp⟩ := hc'
      obtain ⟨h5, h6, h7, h8⟩ := st_scp hscp
      have ha : agree st.n ρ (push ρ st.n ((Γ.ctr f).fn (args.map (Ax.ev ρ)))) := agree_push _ _ _
      have hown : (st.put dst (g, resS st.n res)).own = st.own ∧ (st.put dst (g, resS st.n res)).lists = st.lists ∧ (st.put dst (g, resS st.n res)).n = st.n := ⟨(put_n _ _ _).2.1, (put_n _ _ _).2.2.1, (put_n _ _ _).1⟩
      refine ⟨ha, by simp, ?_, ?_⟩
      · have hT1 := hT.agree hscp ha (agree_refl st.n σ) (agree_refl st.own.length β)
        have := hT1.put dst (g := g) (sv := resS st.n res) (v := undef) (.inr (.inr ⟨fun hh => hg ((gd_agree ha hgscp).1 hh), rfl⟩))
        exact ⟨this.size, this.slot, this.defers, this.pc⟩
      · show WOk W _ σ β (st.put dst (g, resS st.n res)).own (resLists st.n (shCells res) ++ (st.put dst (g, resS st.n res)).lists) w
        rw [hown.1, hown.2.1, hasLst_lists hl, List.nil_append]
        exact hw.agree h6 h7 ha (agree_refl st.n σ) (agree_refl st.own.length β)
  | alloc t cs v =>
    have hn2 : isNil g = false := by simpa using hnil
    simp [applyStep, hn2] at h
  | store b off cs =>
    have hn2 : isNil g = false := by simpa using hnil
    simp [applyStep, hn2] at h

end
end Go.Vg

/- Regions, code, functions: the conditions suffice. -/
namespace Go.Vg
open Go.RowKit
set_option linter.unusedVariables false
set_option linter.unusedSimpArgs false

section
variable {P : Program} {G : World → Prop} {sig : List (Nat × List Sh × List Sh)} {Γ : Cx} {W : World}

theorem Rel.dead {ρ : Env} {σ : Nat → Value} {β : Nat → Nat} {st : St} {a : Act} {w : World} (hR : Rel W ρ σ β st a w) (dst : Option Tmp) :
    Rel W ρ σ β (st.put dst ([], .any)) (a.put dst undef) w := by
  have hown : (st.put dst ([], SV.any)).own = st.own ∧ (st.put dst ([], SV.any)).lists = st.lists := ⟨(put_n _ _ _).2.1, (put_n _ _ _).2.2.1⟩
  exact ⟨hR.1.put dst (.inl rfl), by rw [hown.1, hown.2]; exact hR.2⟩
theorem Rel.deadG {ρ : Env} {σ : Nat → Value} {β : Nat → Nat} {st : St} {a : Act} {w : World} (hR : Rel W ρ σ β st a w) (dst : Option Tmp) {g : Gd} {sv : SV} (hg : ¬ Gd.holds ρ g) :
    Rel W ρ σ β (st.put dst (g, sv)) (a.put dst undef) w := by
  have hown : (st.put dst (g, sv)).own = st.own ∧ (st.put dst (g, sv)).lists = st.lists := ⟨(put_n _ _ _).2.1, (put_n _ _ _).2.2.1⟩
  exact ⟨hR.1.put dst (.inr (.inr ⟨hg, rfl⟩)), by rw [hown.1, hown.2]; exact hR.2⟩
theorem ops_ok (hst : Stable G) (hG : G W) (hΓ : SigOk P G sig Γ) {ops : Array Oper} {Q : Exit → Act → World → Prop} : ∀ (l : List Oper) (st : St) (its : List It) (st' : St), execOps P sig false ops l st = some (st', its) →
    ∀ (ρ : Env) (σ : Nat → Value) (β : Nat → Nat) (a : Act) (w : World), Rel W ρ σ β st a w → itsHold Γ its ρ → Goes W ρ σ β st.n (itsEnv Γ its ρ) st' (fun a' w' => Q .normal a' w') → wpList P ops Q l a w
  | [], st, its, st', h, ρ, σ, β, a, w, hR, hits, hk => by
    simp only [execOps, Option.some.injEq, Prod.mk.injEq] at h
    obtain ⟨h1, h2⟩ := h
    subst h1; subst h2
    exact hk σ β a w (agree_refl _ _) (Nat.le_refl _) hR
  | o :: l, st, its, st', h, ρ, σ, β, a, w, hR, hits, hk => by
    simp only [execOps] at h
    split at h
    · cases h
    · rename_i g0 hg0
      have hwant := guard_ok hR.1 hg0
      split at h
      · rename_i hd
        have hnw : ¬ Region.wanted o (yielded ops a.tmps) = true := fun hh => dead_ok hd (hwant.1 hh)
        unfold wpList
        rw [if_neg hnw]
        have hp := put_n st o.dst ([], SV.any)
        exact ops_ok hst hG hΓ l _ its st' h ρ σ β _ w (hR.dead o.dst) hits (fun σ' β' a' w' h1 h2 h3 => hk σ' β' a' w' (by rwa [hp.1] at h1) (by rwa [hp.1] at h2) h3)
      · split at h
        · cases h
        · rename_i s hs
          split at h
          · cases h
          · rename_i st1 its1 ha
            split at h
            · cases h
            · rename_i st2 its2 hr
              cases h
              obtain ⟨hi1, hi2⟩ := itsHold_append hits
              rw [itsEnv_append] at hk
              unfold wpList
              by_cases hg : Gd.holds ρ (thinGd g0)
              · rw [if_pos (hwant.2 (thin_ok.1 hg))]
                refine .inl (apply_ok hst hG hΓ hR hg (step_ok hR.1 hg hs) ha hi1 ?_)
                intro σ1 β1 a1 w1 h1 h2 h3
                exact ops_ok hst hG hΓ l st1 its2 st' hr _ σ1 β1 a1 w1 h3 hi2 (fun σ' β' a' w' h4 h5 h6 => hk σ' β' a' w' (agree_trans h1 h4 h2) (Nat.le_trans h2 h5) h6)
              · rw [if_neg (fun hh => hg (thin_ok.2 (hwant.1 hh)))]
                obtain ⟨h1, h2, h3⟩ := apply_not (Γ := Γ) hR (o := o) hg ha
                exact ops_ok hst hG hΓ l st1 its2 st' hr _ σ β _ w h3 hi2 (fun σ' β' a' w' h4 h5 h6 => hk σ' β' a' w' (agree_trans h1 h4 h2) (Nat.le_trans h2 h5) h6)

theorem TOk.more {ρ : Env} {σ : Nat → Value} {β : Nat → Nat} {st : St} {a : Act} (hT : TOk ρ σ β st a) {p : Ex × Bool} (h : p.1.bool ρ = p.2) : TOk ρ σ β { st with pc := p :: st.pc } a :=
  ⟨hT.size, hT.slot, hT.defers, fun q hq => by
    rcases List.mem_cons.1 hq with rfl | hq
    · exact h
    · exact hT.pc q hq⟩
theorem seq_ok (hst : Stable G) (hG : G W) (hΓ : SigOk P G sig Γ) {ops : Array Oper} {Q : Exit → Act → World → Prop} : ∀ (n : Nat) (l : List Oper) (st : St) (K : St → Option Fm) (φ : Fm), execSeq P sig ops n l st K = some φ →
    ∀ (ρ : Env) (σ : Nat → Value) (β : Nat → Nat) (a : Act) (w : World), φ.holds Γ ρ → Rel W ρ σ β st a w →
    (∀ st' φ' ρ' σ' β' a' w', K st' = some φ' → φ'.holds Γ ρ' → agree st.n ρ ρ' → st.n ≤ st'.n → Rel W ρ' σ' β' st' a' w' → Q .normal a' w') → wpList P ops Q l a w := by
  intro n
  induction n with
  | zero =>
    intro l st K φ h ρ σ β a w hφ hR hk
    cases l with
    | nil =>
      simp only [execSeq] at h
      exact hk st φ ρ σ β a w h hφ (agree_refl _ _) (Nat.le_refl _) hR
    | cons o l => simp [execSeq] at h
  | succ n ih =>
    intro l st K φ h ρ σ β a w hφ hR hk
    cases l with
    | nil =>
      simp only [execSeq] at h
      exact hk st φ ρ σ β a w h hφ (agree_refl _ _) (Nat.le_refl _) hR
    | cons o l =>
      simp only [execSeq] at h
      split at h
      · cases h
      · rename_i g0 hg0
        have hwant := guard_ok hR.1 hg0
        split at h
        · rename_i hd
          have hnw : ¬ Region.wanted o (yielded ops a.tmps) = true := fun hh => deadP_ok hR.1.pc hd (hwant.1 hh)
          unfold wpList
          rw [if_neg hnw]
          have hp := put_n st o.dst (g0, SV.tv (.one (.bool (.t false))))
          exact ih l _ K φ h ρ σ β _ w hφ (hR.deadG o.dst (deadP_ok hR.1.pc hd)) (fun st' φ' ρ' σ' β' a' w' h1 h2 h3 h4 h5 => hk st' φ' ρ' σ' β' a' w' h1 h2 (by rwa [hp.1] at h3) (by rwa [hp.1] at h4) h5)
        · split at h
          · rename_i st1 its1 hsa
            split at h
            · rename_i ψ hψ
              cases h
              obtain ⟨hi1, hi2⟩ := wrap_holds hφ
              unfold stepApply at hsa
              split at hsa
              · cases hsa
              · rename_i s hs
                unfold wpList
                by_cases hg : Gd.holds ρ (thinP st g0)
                · rw [if_pos (hwant.2 ((thinP_ok hR.1.pc).1 hg))]
                  refine .inl (apply_ok hst hG hΓ hR hg (step_ok hR.1 hg hs) hsa hi1 ?_)
                  intro σ1 β1 a1 w1 h1 h2 h3
                  exact ih l st1 K ψ hψ _ σ1 β1 a1 w1 hi2 h3 (fun st' φ' ρ' σ' β' a' w' h4 h5 h6 h7 h8 => hk st' φ' ρ' σ' β' a' w' h4 h5 (agree_trans h1 h6 h2) (Nat.le_trans h2 h7) h8)
                · rw [if_neg (fun hh => hg ((thinP_ok hR.1.pc).2 (hwant.1 hh)))]
                  obtain ⟨h1, h2, h3⟩ := apply_not (Γ := Γ) hR (o := o) hg hsa
                  exact ih l st1 K ψ hψ _ σ β _ w hi2 h3 (fun st' φ' ρ' σ' β' a' w' h4 h5 h6 h7 h8 => hk st' φ' ρ' σ' β' a' w' h4 h5 (agree_trans h1 h6 h2) (Nat.le_trans h2 h7) h8)
            · cases h
          · split at h
            · cases h
            · rename_i p g1 hgp
              split at h
              · rename_i φ1 φ2 e1 e2
                cases h
                obtain ⟨h3, h4⟩ := hφ
                by_cases hb : p.1.bool ρ = p.2
                · have h5 := (strip_bool ρ p.1 p.2).2 hb
                  exact ih (o :: l) _ K φ1 e1 ρ σ β a w (h3 h5) ⟨hR.1.more h5, hR.2⟩ hk
                · have h5 := (strip_bool ρ p.1 (!p.2)).2 (by cases h6 : p.2 <;> cases h7 : p.1.bool ρ <;> simp_all)
                  exact ih (o :: l) _ K φ2 e2 ρ σ β a w (h4 h5) ⟨hR.1.more h5, hR.2⟩ hk
              · cases h

/-- An operation of a region that draws its order. -/
theorem draw_ok (hst : Stable G) (hG : G W) (hΓ : SigOk P G sig Γ) {C : World → Prop} (hCb : ∀ w w', C w → Below w.heap.size w w' → C w') {ρ : Env} {σ : Nat → Value} {β : Nat → Nat} {st : St} {a : Act}
    (hT : TOk ρ σ β st a) (hC : ∀ w, C w → WOk W ρ σ β st.own st.lists w) (hne : ∃ w, C w) {g : Gd} (hg : Gd.holds ρ g) {o : Oper} {s : Step} (hs : StepOk P sig W ρ σ β st g a o s)
    {st' : St} {its : List It} (h : applyStep true st g o.dst s = some (st', its)) (hits : itsHold Γ its ρ) :
    ∃ v σ', (∀ w, C w → o.quietAt P a C w v) ∧ agree st.n ρ (itsEnv Γ its ρ) ∧ st.n ≤ st'.n ∧ TOk (itsEnv Γ its ρ) σ' β st' (a.put o.dst v) ∧
      ∀ w, C w → WOk W (itsEnv Γ its ρ) σ' β st'.own st'.lists w := by
  cases s with
  | pure v obs =>
    simp only [applyStep, Option.some.injEq, Prod.mk.injEq] at h
    obtain ⟨h1, h2⟩ := h
    subst h2
    have hl := its_ob hits hg
    have hob := needAll_ok hT.pc hg hl
    obtain ⟨val, h3, h4⟩ := hs hob
    have hp := put_n st o.dst (g, v)
    have hT' : TOk ρ σ β (st.put o.dst (g, v)) (a.put o.dst val) := hT.put o.dst (by
      rcases h3 with h3 | h3
      · exact .inl h3
      · exact .inr (.inl ⟨hg, h3⟩))
    rw [env_ob]
    refine ⟨val, σ, fun w hw => ?_, agree_refl _ _, ?_, ?_, fun w hw => ?_⟩
    · unfold Oper.quietAt
      rw [h4 w (hC w hw)]
      exact ⟨rfl, rfl⟩
    · subst h1; split <;> simp [hp.1]
    · subst h1
      split
      · exact TOk.pcAdd hT' hl
      · exact hT'
    · subst h1
      split
      · show WOk W ρ σ β (st.put o.dst (g, v)).own (st.put o.dst (g, v)).lists w
        rw [hp.2.1, hp.2.2.1]; exact hC w hw
      · rw [hp.2.1, hp.2.2.1]; exact hC w hw
  | app old t k e => simp [applyStep] at h
  | call f args res =>
    simp only [applyStep] at h
    split at h
    · cases h
    · split at h
      · cases h
      rename_i hc
      simp only [Option.some.injEq, Prod.mk.injEq] at h
      obtain ⟨h1, h2⟩ := h
      subst h1; subst h2
      have hc' : hasLst (shCells res) = false ∧ st.scp st.n = true ∧ Gd.scp st.n g = true := by
        revert hc
        cases hasLst (shCells res) <;> cases st.scp st.n <;> cases Gd.scp st.n g <;> simp
      obtain ⟨hlst, hscp, hgscp⟩ := hc'
      obtain ⟨h5, h6, h7, h8⟩ := st_scp hscp
      let rs := (Γ.ctr f).fn (args.map (Ax.ev ρ))
      let ρ1 : Env := push ρ st.n rs
      let σ1 : Nat → Value := fun m => if m < st.n then σ m else undef
      have ha : agree st.n ρ ρ1 := agree_push ρ st.n rs
      have has : agree st.n σ σ1 := fun m hm => by simp [σ1, hm]
      have hsh1 : ∀ j, ρ1 (st.n + j) = envOf rs (0 + j) := fun j => by simp [ρ1, push, envOf, show ¬ st.n + j < st.n by omega]
      have hsh2 : ∀ j, σ1 (st.n + j) = (fun _ => undef : Nat → Value) (0 + j) := fun j => by simp [σ1, show ¬ st.n + j < st.n by omega]
      have hv' : (resS 0 res).val (envOf rs) (fun _ => undef) β0 = (resS st.n res).val ρ1 σ1 β := (resS_shift res st.n 0 hsh1 hsh2).symm
      have hp := put_n st o.dst (g, resS st.n res)
      refine ⟨(resS 0 res).val (envOf rs) (fun _ => undef) β0, σ1, fun w hw => ?_, ha, by simp, ?_, fun w hw => ?_⟩
      · obtain ⟨vs, h3, h4⟩ := call_ok hst hG hΓ hT hg hs (hits.1 hg) (hC w hw)
        unfold Oper.quietAt
        rw [h3 w]
        refine ⟨rfl, h4.mono ?_⟩
        rintro e w' ⟨hb, v, rfl, hr⟩
        exact ⟨by rw [resOk_fixed hr hlst], hCb w w' hw hb⟩
      · have hT1 : TOk ρ1 σ1 β st a := hT.agree hscp ha has (agree_refl _ _)
        have := hT1.put o.dst (g := g) (sv := resS st.n res) (v := (resS 0 res).val (envOf rs) (fun _ => undef) β0) (.inr (.inl ⟨(gd_agree ha hgscp).2 hg, hv'⟩))
        exact ⟨this.size, this.slot, this.defers, this.pc⟩
      · show WOk W ρ1 σ1 β (st.put o.dst (g, resS st.n res)).own (resLists st.n (shCells res) ++ (st.put o.dst (g, resS st.n res)).lists) w
        rw [hp.2.1, hp.2.2.1, hasLst_lists hlst, List.nil_append]
        exact (hC w hw).agree h6 h7 ha has (agree_refl _ _)
  | alloc t cs v => simp [applyStep] at h
  | store b off cs => simp [applyStep] at h

theorem ops_draw (hst : Stable G) (hG : G W) (hΓ : SigOk P G sig Γ) {C : World → Prop} (hCb : ∀ w w', C w → Below w.heap.size w w' → C w') (hne : ∃ w, C w) {ops : Array Oper} {Q : Act → Prop} :
    ∀ (l : List Oper) (st : St) (its : List It) (st' : St), execOps P sig true ops l st = some (st', its) →
    ∀ (ρ : Env) (σ : Nat → Value) (β : Nat → Nat) (a : Act), TOk ρ σ β st a → (∀ w, C w → WOk W ρ σ β st.own st.lists w) → itsHold Γ its ρ →
    (∀ σ' a', agree st.n ρ (itsEnv Γ its ρ) → st.n ≤ st'.n → TOk (itsEnv Γ its ρ) σ' β st' a' → (∀ w, C w → WOk W (itsEnv Γ its ρ) σ' β st'.own st'.lists w) → Q a') →
    wpQuiet P ops C Q l a
  | [], st, its, st', h, ρ, σ, β, a, hT, hC, hits, hk => by
    simp only [execOps, Option.some.injEq, Prod.mk.injEq] at h
    obtain ⟨h1, h2⟩ := h
    subst h1; subst h2
    exact hk σ a (agree_refl _ _) (Nat.le_refl _) hT hC
  | o :: l, st, its, st', h, ρ, σ, β, a, hT, hC, hits, hk => by
    simp only [execOps] at h
    split at h
    · cases h
    · rename_i g0 hg0
      have hwant := guard_ok hT hg0
      split at h
      · rename_i hd
        have hnw : ¬ Region.wanted o (yielded ops a.tmps) = true := fun hh => dead_ok hd (hwant.1 hh)
        unfold wpQuiet
        rw [if_neg hnw]
        have hp := put_n st o.dst ([], SV.any)
        refine ops_draw hst hG hΓ hCb hne l _ its st' h ρ σ β _ (hT.put o.dst (.inl rfl)) (fun w hw => ?_) hits (fun σ' a' h1 h2 h3 h4 => hk σ' a' (by rwa [hp.1] at h1) (by rwa [hp.1] at h2) h3 h4)
        rw [hp.2.1, hp.2.2.1]; exact hC w hw
      · split at h
        · cases h
        · rename_i s hs
          split at h
          · cases h
          · rename_i st1 its1 ha
            split at h
            · cases h
            · rename_i st2 its2 hr
              cases h
              obtain ⟨hi1, hi2⟩ := itsHold_append hits
              rw [itsEnv_append] at hk
              unfold wpQuiet
              by_cases hg : Gd.holds ρ (thinGd g0)
              · rw [if_pos (hwant.2 (thin_ok.1 hg))]
                obtain ⟨v, σ1, h0, h1, h2, h3, h4⟩ := draw_ok hst hG hΓ hCb hT hC hne hg (step_ok hT hg hs) ha hi1
                refine ⟨v, h0, ?_⟩
                exact ops_draw hst hG hΓ hCb hne l st1 its2 st' hr _ σ1 β _ h3 h4 hi2 (fun σ' a' h5 h6 h7 h8 => hk σ' a' (agree_trans h1 h5 h2) (Nat.le_trans h2 h6) h7 h8)
              · rw [if_neg (fun hh => hg (thin_ok.2 (hwant.1 hh)))]
                obtain ⟨w0, hw0⟩ := hne
                have h9 : ∃ σ1, agree st.n ρ (itsEnv Γ its1 ρ) ∧ st.n ≤ st1.n ∧ TOk (itsEnv Γ its1 ρ) σ1 β st1 (a.put o.dst undef) ∧ ∀ w, C w → WOk W (itsEnv Γ its1 ρ) σ1 β st1.own st1.lists w := by
                  obtain ⟨h1, h2, h3⟩ := apply_not (Γ := Γ) ⟨hT, hC w0 hw0⟩ (o := o) hg ha
                  exact ⟨σ, h1, h2, h3.1, fun w hw => (apply_not (Γ := Γ) ⟨hT, hC w hw⟩ (o := o) hg ha).2.2.2⟩
                obtain ⟨σ1, h1, h2, h3, h4⟩ := h9
                exact ops_draw hst hG hΓ hCb ⟨w0, hw0⟩ l st1 its2 st' hr _ σ1 β _ h3 h4 hi2 (fun σ' a' h5 h6 h7 h8 => hk σ' a' (agree_trans h1 h5 h2) (Nat.le_trans h2 h6) h7 h8)

end
end Go.Vg

/- Regions that draw their order and end in stores: one walk of the lexical order serves every order. -/
namespace Go.Vg
open Go.RowKit
set_option linter.unusedVariables false
set_option linter.unusedSimpArgs false

theorem edgeOn_spec {o : Oper} {j : Nat} (h : edgeOn o j = true) : ∃ e, e ∈ o.after ∧ Region.binds .any e = true ∧ e.on = j := by
  unfold edgeOn at h
  rw [List.any_eq_true] at h
  obtain ⟨e, he, h⟩ := h
  rw [Bool.and_eq_true] at h
  exact ⟨e, by simpa using he, h.1, Nat.eq_of_beq_eq_true h.2⟩
theorem edgesBelow_spec {o : Oper} {k : Nat} (h : edgesBelow o k = true) : ∀ e ∈ o.after, Region.binds .any e = true → e.on < k := by
  intro e he hb
  unfold edgesBelow at h
  have := List.all_eq_true.1 h e (by simpa using he)
  rw [hb] at this
  exact blt_lt (by simpa using this)
theorem dsts_mem : ∀ (l : List Oper) (k i d : Nat) (o : Oper), l[i]? = some o → o.dst = some d → (d, k + i) ∈ dsts l k
  | [], _, _, _, _, h, _ => by simp at h
  | x :: l, k, 0, d, o, h, hd => by
    simp only [List.getElem?_cons_zero, Option.some.injEq] at h
    subst h
    simp [dsts, hd]
  | x :: l, k, i + 1, d, o, h, hd => by
    have := dsts_mem l (k + 1) i d o (by simpa using h) hd
    rw [show k + 1 + i = k + (i + 1) by omega] at this
    unfold dsts
    split
    · exact List.mem_cons_of_mem _ this
    · exact this
theorem findD_mem : ∀ {l : List (Nat × Nat)} {d k : Nat}, distinctN l = true → (d, k) ∈ l → findD l d = some k
  | [], _, _, _, h => by simp at h
  | x :: l, d, k, hd, h => by
    simp only [distinctN, Bool.and_eq_true, Bool.not_eq_true', List.any_eq_false] at hd
    unfold findD
    rcases List.mem_cons.1 h with h | h
    · rw [← h]; simp
    · have h1 := hd.1 _ h
      have h2 : Nat.beq x.1 d = false := by
        cases h3 : Nat.beq x.1 d
        · rfl
        · exfalso
          apply h1
          have := Nat.eq_of_beq_eq_true h3
          show Nat.beq d x.1 = true
          rw [this]
          exact Nat.beq_refl _
      rw [h2]
      exact findD_mem hd.2 h
theorem lexAll_spec {ops : List Oper} {ds : List (Nat × Nat)} {m : Nat} : ∀ {l : List Oper} {k : Nat}, lexAll ops ds m k l = true → ∀ i o, l[i]? = some o → lexOp ops ds m (k + i) o = true
  | [], _, _, _, _, h => by simp at h
  | x :: l, k, h, 0, o, hi => by
    simp only [lexAll, Bool.and_eq_true] at h
    simp only [List.getElem?_cons_zero, Option.some.injEq] at hi
    subst hi
    exact h.1
  | x :: l, k, h, i + 1, o, hi => by
    simp only [lexAll, Bool.and_eq_true] at h
    have := lexAll_spec h.2 i o (by simpa using hi)
    rwa [show k + 1 + i = k + (i + 1) by omega] at this
theorem looksAt_looks {ops : Array Oper} {o : Oper} {t : Nat} (h : t ∈ o.looksAt ops) : t ∈ looks ops.toList o := by
  unfold Oper.looksAt at h
  unfold looks
  rw [List.mem_append] at h ⊢
  rcases h with h | h
  · exact .inl h
  · refine .inr ?_
    split at h
    · rename_i g b hg
      rw [hg]
      simp only [Array.getElem?_toList]
      generalize (ops[g]?.bind fun x => x.dst) = z at *
      cases z <;> simp at h ⊢
      exact h
    · simp at h

section
variable {P : Program} {ops : Array Oper} {C : World → Prop} {m : Nat}

theorem lexFast_spec (h : lexFast ops m = true) : Region.noSelect ops = true ∧ distinctN (dsts ops.toList 0) = true ∧ ∀ k o, ops[k]? = some o → lexOp ops.toList (dsts ops.toList 0) m k o = true := by
  simp only [lexFast, Bool.and_eq_true] at h
  refine ⟨h.1.1, h.1.2, fun k o ho => ?_⟩
  have := lexAll_spec h.2 k o (by simpa using ho)
  rwa [Nat.zero_add] at this
theorem lex_below (h : lexFast ops m = true) {k : Nat} {o : Oper} (ho : ops[k]? = some o) : ∀ e ∈ o.after, Region.binds .any e = true → e.on < k := by
  have := (lexFast_spec h).2.2 k o ho
  simp only [lexOp, Bool.and_eq_true] at this
  exact edgesBelow_spec this.1.1
theorem lex_looks (h : lexFast ops m = true) {k j : Nat} {o oj : Oper} (ho : ops[k]? = some o) (hj : ops[j]? = some oj) {t : Nat} (ht : t ∈ o.looksAt ops) (hd : oj.dst = some t) : ∃ e, e ∈ o.after ∧ Region.binds .any e = true ∧ e.on = j := by
  have hs := lexFast_spec h
  have := hs.2.2 k o ho
  simp only [lexOp, Bool.and_eq_true] at this
  have h1 := List.all_eq_true.1 this.1.2 t (looksAt_looks ht)
  have h2 := findD_mem hs.2.1 (dsts_mem ops.toList 0 j t oj (by simpa using hj) hd)
  rw [h2] at h1
  rw [Nat.zero_add] at h1
  exact edgeOn_spec h1
theorem lex_dst (h : lexFast ops m = true) {k j : Nat} {o oj : Oper} (ho : ops[k]? = some o) (hj : ops[j]? = some oj) {t : Nat} (h1 : o.dst = some t) (h2 : oj.dst = some t) : k = j := by
  have hs := lexFast_spec h
  have h3 := findD_mem hs.2.1 (dsts_mem ops.toList 0 k t o (by simpa using ho) h1)
  have h4 := findD_mem hs.2.1 (dsts_mem ops.toList 0 j t oj (by simpa using hj) h2)
  rw [h3] at h4
  simpa using h4
theorem lex_tail (h : lexFast ops m = true) {k : Nat} {o : Oper} (ho : ops[k]? = some o) (hk : m ≤ k) : (∀ p, p < m → ∃ e, e ∈ o.after ∧ Region.binds .any e = true ∧ e.on = p) ∧ (m < k → ∃ e, e ∈ o.after ∧ Region.binds .any e = true ∧ e.on = k - 1) := by
  have := (lexFast_spec h).2.2 k o ho
  simp only [lexOp, Bool.and_eq_true] at this
  have h1 := this.2
  rw [if_pos (Nat.ble_eq_true_of_le hk)] at h1
  simp only [Bool.and_eq_true] at h1
  refine ⟨fun p hp => edgeOn_spec (List.all_eq_true.1 h1.1 p (List.mem_range.2 hp)), fun hlt => ?_⟩
  have h2 := h1.2
  rw [Bool.or_eq_true] at h2
  rcases h2 with h2 | h2
  · have := Nat.eq_of_beq_eq_true h2; omega
  · exact edgeOn_spec h2

/-- How many of the first m have not come up. -/
def unl (m : Nat) (listed : Array Bool) : Nat := (List.range m).countP fun i => !listed.getD i true

theorem countP_one {p q : Nat → Bool} {i : Nat} : ∀ {l : List Nat}, l.Nodup → i ∈ l → p i = true → q i = false → (∀ j, j ≠ i → q j = p j) → l.countP q + 1 = l.countP p
  | [], _, h, _, _, _ => by simp at h
  | x :: l, hn, h, hp, hq, hr => by
    rw [List.nodup_cons] at hn
    rcases List.mem_cons.1 h with h | h
    · subst h
      have : l.countP q = l.countP p := by
        apply List.countP_congr
        intro j hj
        rw [hr j (fun e => hn.1 (e ▸ hj))]
      rw [List.countP_cons_of_neg (by simp [hq]), List.countP_cons_of_pos hp, this]
    · have hx : x ≠ i := fun e => hn.1 (e ▸ h)
      have := countP_one hn.2 h hp hq hr
      rw [List.countP_cons, List.countP_cons, hr x hx]
      omega
theorem unl_set {listed : Array Bool} {i : Nat} (hi : i < m) (h : listed.getD i true = false) : unl m (listed.setIfInBounds i true) + 1 = unl m listed := by
  refine countP_one List.nodup_range (List.mem_range.2 hi) (by rw [h]; rfl) ?_ (fun j hj => ?_)
  · have hlt : i < listed.size := by
      rcases Nat.lt_or_ge i listed.size with h' | h'
      · exact h'
      · simp [Array.getElem?_eq_none h'] at h
    simp [Array.getElem?_setIfInBounds_self_of_lt hlt]
  · rw [getD_set_ne true (Ne.symm hj)]
theorem unl_pos {listed : Array Bool} {i : Nat} (hi : i < m) (h : listed.getD i true = false) : 0 < unl m listed := by
  unfold unl
  rw [List.countP_pos_iff]
  exact ⟨i, List.mem_range.2 hi, by rw [h]; rfl⟩

/-- Whatever order is picked among the first m. -/
def wpAnyM (P : Program) (ops : Array Oper) (C : World → Prop) (m : Nat) (T : Act → Prop) : Nat → Array Bool → Act → Prop
  | 0, _, a => T a
  | fuel + 1, listed, a => Region.ready .any ops listed ≠ [] ∧ ∀ i ∈ Region.ready .any ops listed, i < m → qOp P ops C i (wpAnyM P ops C m T fuel (listed.setIfInBounds i true)) a

theorem wpAnyM_first {T : Act → Prop} {i : Nat} {oi : Oper} {v : Value} (him : i < m) (hi : ops[i]? = some oi) (hsel : ∀ (j : Nat) (o : Oper) cs b, ops[j]? = some o → o.op ≠ .select cs b) :
    ∀ (fuel : Nat) (listed : Array Bool) (a : Act), unl m listed = fuel + 1 →
      (∀ j oj, ops[j]? = some oj → j ≠ i → listed.getD j true = false → (∀ e ∈ oj.after, Region.binds .any e = true → e.on ≠ i) → oi.apart ops oj = true) →
      i ∈ Region.ready .any ops listed → YieldsIn P ops C oi v a →
      wpAnyM P ops C m T fuel (listed.setIfInBounds i true) (a.put oi.dst v) → wpAnyM P ops C m T (fuel + 1) listed a := by
  intro fuel
  induction fuel with
  | zero =>
    intro listed a hu _ hr hy H
    refine ⟨fun h => (by rw [h] at hr; cases hr), fun j hj hjm => ?_⟩
    by_cases hji : j = i
    · subst hji; exact hy.qOp hi H
    · exfalso
      have h1 := unl_set him (mem_ready.1 hr).1
      have h2 := unl_pos (listed := listed.setIfInBounds i true) hjm (by rw [getD_set_ne true (Ne.symm hji)]; exact (mem_ready.1 hj).1)
      omega
  | succ fuel ih =>
    intro listed a hu hfree hr hy H
    refine ⟨fun h => (by rw [h] at hr; cases hr), fun j hj hjm => ?_⟩
    by_cases hji : j = i
    · subst hji; exact hy.qOp hi H
    · have h1 := H.2 j (ready_mono hj hji) hjm
      obtain ⟨hjun, oj, hoj, hall⟩ := mem_ready.1 hj
      have hnot : ∀ e ∈ oj.after, Region.binds .any e = true → e.on ≠ i := fun e he hb heq => by
        have h1 := hall e he hb
        have h0 := (mem_ready.1 hr).1
        rw [heq] at h1
        rcases Nat.lt_or_ge i listed.size with h' | h'
        · simp [h'] at h0 h1; rw [h0] at h1; cases h1
        · simp [Array.getElem?_eq_none h'] at h1
      have h2 := qOp_put hoj (hfree j oj hoj hji hjun hnot) (fun cs b => hsel i oi cs b hi) (fun cs b => hsel j oj cs b hoj) hy h1
      have hfree' : ∀ k ok, ops[k]? = some ok → k ≠ i → (listed.setIfInBounds j true).getD k true = false →
          (∀ e ∈ ok.after, Region.binds .any e = true → e.on ≠ i) → oi.apart ops ok = true := fun k ok hk hki hun hno => by
        refine hfree k ok hk hki ?_ hno
        by_cases hjk : j = k
        · subst hjk; exact hjun
        · rw [getD_set_ne true hjk] at hun; exact hun
      have hu' := unl_set hjm hjun
      refine qOp_mono (fun a' h3 => ih (listed.setIfInBounds j true) a' (by omega) hfree' (ready_mono hr (Ne.symm hji)) h3.1 ?_) h2
      rw [Array.setIfInBounds_comm _ _ hji]
      exact h3.2

/-- The first k have come up, and no other. -/
def LI (ops : Array Oper) (k : Nat) (listed : Array Bool) : Prop := listed.size = ops.size ∧ ∀ j, j < ops.size → listed[j]? = some (decide (j < k))
theorem LI.getD {k : Nat} {listed : Array Bool} (h : LI ops k listed) {j : Nat} (hj : j < ops.size) (d : Bool) : listed.getD j d = decide (j < k) := by
  have h1 := h.2 j hj
  have h2 : j < listed.size := by rw [h.1]; exact hj
  rw [Array.getElem?_eq_getElem h2] at h1
  rw [Array.getD, dif_pos h2]
  simpa using h1
theorem LI.start : LI ops 0 (Array.replicate ops.size false) := ⟨by simp, fun j hj => by simp [hj]⟩
theorem LI.step {k : Nat} {listed : Array Bool} (h : LI ops k listed) (hk : k < ops.size) : LI ops (k + 1) (listed.setIfInBounds k true) := by
  refine ⟨by simp [h.1], fun j hj => ?_⟩
  by_cases hjk : k = j
  · subst hjk
    rw [Array.getElem?_setIfInBounds_self_of_lt (by rw [h.1]; exact hk)]
    simp
  · rw [Array.getElem?_setIfInBounds_ne hjk, h.2 j hj]
    congr 1
    apply decide_eq_decide.2
    omega
theorem get_lt {k : Nat} {o : Oper} (h : ops[k]? = some o) : k < ops.size := by
  rcases Nat.lt_or_ge k ops.size with h' | h'
  · exact h'
  · simp [Array.getElem?_eq_none h'] at h
theorem LI.ready {k : Nat} {listed : Array Bool} (h : LI ops k listed) (hl : lexFast ops m = true) {o : Oper} (ho : ops[k]? = some o) : k ∈ Region.ready .any ops listed := by
  have hk := get_lt ho
  rw [mem_ready]
  refine ⟨by rw [h.getD hk]; simp, o, ho, fun e he hb => ?_⟩
  have := lex_below hl ho e he hb
  rw [h.getD (by omega)]
  simpa using this
theorem LI.free {k : Nat} {listed : Array Bool} (h : LI ops k listed) (hl : lexFast ops m = true) {o : Oper} (ho : ops[k]? = some o) :
    ∀ j oj, ops[j]? = some oj → j ≠ k → listed.getD j true = false → (∀ e ∈ oj.after, Region.binds .any e = true → e.on ≠ k) → o.apart ops oj = true := by
  intro j oj hj hjk hun hno
  rw [h.getD (get_lt hj)] at hun
  have hjk2 : k < j := by have : ¬ j < k := by simpa using hun
                          omega
  unfold Oper.apart
  rw [Bool.and_eq_true]
  constructor
  · split
    · rename_i d hd
      rw [Bool.and_eq_true]
      constructor
      · rw [Bool.not_eq_true', ← Bool.not_eq_true]
        intro hc
        obtain ⟨e, he, hb, h1⟩ := lex_looks hl hj ho (by simpa using hc) hd
        exact hno e he hb h1
      · rw [bne_iff_ne]
        intro hc
        exact hjk (lex_dst hl hj ho hc hd)
    · rfl
  · split
    · rename_i d hd
      rw [Bool.not_eq_true', ← Bool.not_eq_true]
      intro hc
      obtain ⟨e, he, hb, h1⟩ := lex_looks hl ho hj (by simpa using hc) hd
      have := lex_below hl ho e he hb
      omega
    · rfl

theorem LI.unl {k : Nat} {listed : Array Bool} (h : LI ops k listed) (hk : k ≤ m) (hm : m ≤ ops.size) : unl m listed = m - k := by
  unfold Vg.unl
  have h1 : (List.range m).countP (fun i => !listed.getD i true) = (List.range m).countP (fun i => decide (k ≤ i)) := by
    apply List.countP_congr
    intro i hi
    rw [h.getD (by have := List.mem_range.1 hi; omega)]
    simp
  rw [h1]
  clear h1 hm
  induction m with
  | zero => simp
  | succ n ih =>
    rw [List.range_succ, List.countP_append]
    by_cases hkn : k ≤ n
    · rw [ih hkn]
      simp [hkn]
      omega
    · have : k = n + 1 := by omega
      subst this
      have : (List.range n).countP (fun i => decide (n + 1 ≤ i)) = 0 := by
        rw [List.countP_eq_zero]
        intro i hi
        have := List.mem_range.1 hi
        simp; omega
      rw [this]
      simp
theorem wpAnyM_lex {T : Act → Prop} (hl : lexFast ops m = true) (hm : m ≤ ops.size) : ∀ (fuel k : Nat) (listed : Array Bool) (a : Act), k + fuel = m → LI ops k listed →
    wpQuiet P ops C T ((ops.toList.drop k).take fuel) a → wpAnyM P ops C m T fuel listed a
  | 0, _, _, _, _, _, h => by simpa [wpQuiet, wpAnyM] using h
  | fuel + 1, k, listed, a, hk, hL, h => by
    have hk2 : k < ops.size := by omega
    obtain ⟨o, ho⟩ : ∃ o, ops[k]? = some o := ⟨ops[k], Array.getElem?_eq_getElem hk2⟩
    have hd : ops.toList.drop k = o :: ops.toList.drop (k + 1) := by
      rw [List.drop_eq_getElem_cons (by simpa using hk2)]
      congr 1
      have := ho
      rw [Array.getElem?_eq_getElem hk2] at this
      simpa using this
    rw [hd, List.take_succ_cons] at h
    have hst : qOp P ops C k (wpQuiet P ops C T ((ops.toList.drop (k + 1)).take fuel)) a := by unfold qOp; simp only [ho]; exact h
    obtain ⟨v, hy, hK⟩ := yieldsIn_of_qOp ho hst
    exact wpAnyM_first (by omega) ho (Region.noSelect_spec (lexFast_spec hl).1) fuel listed a (by rw [hL.unl (by omega) hm]; omega) (hL.free hl ho) (hL.ready hl ho) hy
      (wpAnyM_lex hl hm fuel (k + 1) _ _ (by omega) (hL.step hk2) hK)

/-- The tail: one order. -/
theorem wpAny_tail {Q : Exit → Act → World → Prop} (hl : lexFast ops m = true) : ∀ (fuel k : Nat) (listed : Array Bool) (a : Act) (w : World), k + fuel = ops.size → m ≤ k → LI ops k listed →
    wpList P ops Q (ops.toList.drop k) a w → wpAny P .any ops Q fuel listed a w
  | 0, k, listed, a, w, hk, hmk, hL, h => by
    refine ⟨?_, ?_⟩
    · apply List.eq_nil_iff_forall_not_mem.2
      intro j hj
      obtain ⟨hun, o, ho, _⟩ := mem_ready.1 hj
      rw [hL.getD (get_lt ho)] at hun
      have := get_lt ho
      simp at hun
      omega
    · rw [List.drop_of_length_le (by simp; omega)] at h
      exact h
  | fuel + 1, k, listed, a, w, hk, hmk, hL, h => by
    have hk2 : k < ops.size := by omega
    obtain ⟨o, ho⟩ : ∃ o, ops[k]? = some o := ⟨ops[k], Array.getElem?_eq_getElem hk2⟩
    have hd : ops.toList.drop k = o :: ops.toList.drop (k + 1) := by
      rw [List.drop_eq_getElem_cons (by simpa using hk2)]
      congr 1
      have := ho
      rw [Array.getElem?_eq_getElem hk2] at this
      simpa using this
    rw [hd] at h
    have hr := hL.ready hl ho
    refine ⟨fun h0 => absurd (h0 ▸ hr) (by simp), fun j hj => ?_⟩
    have hjk : j = k := by
      obtain ⟨hun, oj, hoj, hall⟩ := mem_ready.1 hj
      have hjs := get_lt hoj
      rw [hL.getD hjs] at hun
      have h1 : ¬ j < k := by simpa using hun
      rcases Nat.lt_or_ge k j with h2 | h2
      · exfalso
        obtain ⟨e, he, hb, h3⟩ := (lex_tail hl hoj (by omega)).2 (by omega)
        have h4 := hall e he hb
        rw [h3, hL.getD (by omega)] at h4
        have : j - 1 < k := by simpa using h4
        omega
      · omega
    subst hjk
    unfold wpOp
    simp only [ho]
    unfold wpList at h
    split
    · rename_i hw
      rw [if_pos hw] at h
      exact h.imp (Oper.wp_mono fun a' w' => wpAny_tail hl fuel (j + 1) _ a' w' (by omega) (by omega) (hL.step hk2)) id
    · rename_i hw
      rw [if_neg hw] at h
      exact wpAny_tail hl fuel (j + 1) _ _ w (by omega) (by omega) (hL.step hk2) h

/-- From the one to the other. -/
theorem wpAny_of_M {Q : Exit → Act → World → Prop} {T : Act → Prop} {r : Nat} (hl : lexFast ops m = true) (hms : m ≤ ops.size)
    (hT : ∀ a w listed, C w → T a → LI ops m listed → wpAny P .any ops Q r listed a w) : ∀ (fuel : Nat) (listed : Array Bool) (a : Act) (w : World), C w → unl m listed = fuel →
    listed.size = ops.size → (∀ j, m ≤ j → j < ops.size → listed[j]? = some false) → wpAnyM P ops C m T fuel listed a → wpAny P .any ops Q (fuel + r) listed a w
  | 0, listed, a, w, hw, hu, hs, ht, h => by
    rw [Nat.zero_add]
    refine hT a w listed hw h ⟨hs, fun j hj => ?_⟩
    rcases Nat.lt_or_ge j m with h1 | h1
    · have h2 : listed.getD j true = true := by
        cases hc : listed.getD j true
        · have := unl_pos h1 hc; omega
        · rfl
      have h3 : j < listed.size := by omega
      rw [Array.getElem?_eq_getElem h3]
      rw [Array.getD, dif_pos h3] at h2
      simpa [h1] using h2
    · rw [ht j h1 hj]
      simp; omega
  | fuel + 1, listed, a, w, hw, hu, hs, ht, h => by
    rw [show fuel + 1 + r = (fuel + r) + 1 by omega]
    refine ⟨fun h0 => absurd h0 h.1, fun i hi => ?_⟩
    obtain ⟨hun, oi, hoi, hall⟩ := mem_ready.1 hi
    have him : i < m := by
      rcases Nat.lt_or_ge i m with h1 | h1
      · exact h1
      · exfalso
        have h2 : unl m listed = 0 := by
          unfold unl
          rw [List.countP_eq_zero]
          intro p hp
          obtain ⟨e, he, hb, h3⟩ := (lex_tail hl hoi h1).1 p (List.mem_range.1 hp)
          have h4 := hall e he hb
          rw [h3] at h4
          have h5 : p < listed.size := by have := List.mem_range.1 hp; omega
          rw [Array.getD, dif_pos h5] at h4
          rw [Array.getD, dif_pos h5, h4]
          simp
        omega
    refine wpOp_of_qOp hw (fun a' w' hw' hk => ?_) (h.2 i hi him)
    have h6 := unl_set him hun
    refine wpAny_of_M hl hms hT fuel _ a' w' hw' (by omega) (by simp [hs]) (fun j h1 h2 => ?_) hk
    rw [Array.getElem?_setIfInBounds_ne (by omega)]
    exact ht j h1 h2

/-- **A region that draws its order**: its first m operations are quiet, the rest waits for all of them, and for one another. -/
theorem wp_region_tail {id : Nat} {Q : Exit → Act → World → Prop} {a : Act} {w : World} (hm : P.follows .mixedOrders = true) (hl : lexFast ops m = true) (hms : m ≤ ops.size) (hC : C { w with drawn := w.drawn + 1 })
    (h : wpQuiet P ops C (fun a' => ∀ w', C w' → wpList P ops Q (ops.toList.drop m) a' w') (ops.toList.take m) a) : (Code.region id ops true).wp P Q a w := by
  refine wp_region_any hm ?_
  have h1 := wpAnyM_lex hl hms m 0 (Array.replicate ops.size false) a (by omega) LI.start (by simpa using h)
  have h2 := wpAny_of_M (Q := Q) (r := ops.size - m) hl hms (fun a w listed hw ht hL => wpAny_tail hl (ops.size - m) m listed a w (by omega) (Nat.le_refl _) hL (ht w hw)) m _ a _ hC (by rw [LI.start.unl (Nat.zero_le _) hms]; omega)
    (by simp) (fun j _ hj => by simp [hj]) h1
  rwa [show m + (ops.size - m) = ops.size by omega] at h2

theorem quietLen_le : ∀ l : List Oper, quietLen l ≤ l.length
  | [] => Nat.le_refl _
  | o :: l => by
    have := quietLen_le l
    unfold quietLen
    split <;> simp <;> omega
end
end Go.Vg

/- Regions that draw their order, of plain operations and stores: one walk of the lexical order serves every order. -/
namespace Go.Vg
open Go.RowKit
set_option linter.unusedVariables false
set_option linter.unusedSimpArgs false

section
variable {P : Program} {ops : Array Oper} {C : World → Prop}

/-- An operation comes up: a store; or one that yields one value in every world of the class, and leaves the world alone. -/
def stepS (P : Program) (ops : Array Oper) (C : World → Prop) (j : Nat) (K : Act → World → Prop) (a : Act) (w : World) : Prop :=
  match ops[j]? with
  | none => False
  | some o => if Region.wanted o (yielded ops a.tmps) = true then
      (if isStore o = true then ∃ w', (execOp a.eval o).run P w = .ok .skip w' ∧ K (a.put o.dst undef) w'
       else ∃ v, (∀ w, C w → (execOp a.eval o).run P w = .ok (.value v) w) ∧ K (a.put o.dst v) w)
    else K (a.put o.dst undef) w

def wpAnyS (P : Program) (ops : Array Oper) (C : World → Prop) (Q : Act → World → Prop) : Nat → Array Bool → Act → World → Prop
  | 0, listed, a, w => C w ∧ Region.ready .any ops listed = [] ∧ Q a w
  | fuel + 1, listed, a, w => C w ∧ Region.ready .any ops listed ≠ [] ∧ ∀ i ∈ Region.ready .any ops listed, stepS P ops C i (wpAnyS P ops C Q fuel (listed.setIfInBounds i true)) a w

theorem wpAnyS_C {Q : Act → World → Prop} {fuel : Nat} {listed : Array Bool} {a : Act} {w : World} (h : wpAnyS P ops C Q fuel listed a w) : C w := by
  cases fuel <;> exact h.1

theorem wpAny_of_S {Q : Act → World → Prop} {Q' : Exit → Act → World → Prop} (hQ : ∀ a w, Q a w → Q' .normal a w) : ∀ (fuel : Nat) (listed : Array Bool) (a : Act) (w : World),
    wpAnyS P ops C Q fuel listed a w → wpAny P .any ops Q' fuel listed a w
  | 0, _, _, _, h => ⟨h.2.1, hQ _ _ h.2.2⟩
  | fuel + 1, listed, a, w, h => ⟨fun h0 => absurd h0 h.2.1, fun i hi => by
      have h1 := h.2.2 i hi
      unfold stepS at h1
      unfold wpOp
      split
      · rename_i ho; rw [ho] at h1; exact h1.elim
      · rename_i o ho
        rw [ho] at h1
        simp only at h1
        split
        · rename_i hw
          rw [if_pos hw] at h1
          left
          unfold Oper.wp
          split at h1
          · obtain ⟨w', h2, h3⟩ := h1
            rw [h2, Oper.upon_skip]
            exact wpAny_of_S hQ fuel _ _ _ h3
          · obtain ⟨v, h2, h3⟩ := h1
            rw [h2 w h.1, Oper.upon_value]
            exact wpAny_of_S hQ fuel _ _ _ h3
        · rename_i hw
          rw [if_neg hw] at h1
          exact wpAny_of_S hQ fuel _ _ _ h1⟩

/-- In every world of the class it yields v. -/
def YieldsS (P : Program) (ops : Array Oper) (C : World → Prop) (o : Oper) (v : Value) (a : Act) : Prop :=
  (Region.wanted o (yielded ops a.tmps) = true ∧ isStore o = false ∧ ∀ w, C w → (execOp a.eval o).run P w = .ok (.value v) w) ∨ (Region.wanted o (yielded ops a.tmps) = false ∧ v = undef)

theorem YieldsS.step {i : Nat} {o : Oper} {v : Value} {a : Act} {w : World} (hi : ops[i]? = some o) (hy : YieldsS P ops C o v a) {K : Act → World → Prop} (h : K (a.put o.dst v) w) : stepS P ops C i K a w := by
  unfold stepS
  simp only [hi]
  rcases hy with ⟨hw, hs, hv⟩ | ⟨hw, rfl⟩
  · rw [if_pos hw, if_neg (by rw [hs]; decide)]; exact ⟨v, hv, h⟩
  · rw [if_neg (by rw [hw]; decide)]; exact h

theorem stepS_mono {j : Nat} {K K' : Act → World → Prop} {a : Act} {w : World} (h : ∀ a w, K a w → K' a w) (hs : stepS P ops C j K a w) : stepS P ops C j K' a w := by
  unfold stepS at *
  split
  · rename_i ho; rw [ho] at hs; exact hs
  · rename_i o ho
    rw [ho] at hs
    simp only at hs
    split
    · rename_i hw
      rw [if_pos hw] at hs
      split
      · rename_i hst
        rw [if_pos hst] at hs
        obtain ⟨w', h1, h2⟩ := hs
        exact ⟨w', h1, h _ _ h2⟩
      · rename_i hst
        rw [if_neg hst] at hs
        obtain ⟨v, h1, h2⟩ := hs
        exact ⟨v, h1, h _ _ h2⟩
    · rename_i hw
      rw [if_neg hw] at hs
      exact h _ _ hs

/-- One operation 'oj', apart from 'oi'. -/
theorem stepS_put {j : Nat} {oi oj : Oper} {v : Value} (hj : ops[j]? = some oj) (hap : oi.apart ops oj = true)
    (hsi : ∀ cs b, oi.op ≠ .select cs b) (hsj : ∀ cs b, oj.op ≠ .select cs b) {K : Act → World → Prop} {a : Act} {w : World} (h : stepS P ops C j K (a.put oi.dst v) w) :
    stepS P ops C j (fun a' w' => (∃ u, a' = a.put oj.dst u) ∧ K (a'.put oi.dst v) w') a w := by
  obtain ⟨h1, h2, h3⟩ := Oper.apart_spec hap
  unfold stepS at *
  simp only [hj] at *
  rw [wanted_put oj a oi.dst v h1, execOp_put oj hsj a oi.dst v h1] at h
  split
  · rename_i hw
    rw [if_pos hw] at h
    split
    · rename_i hst
      rw [if_pos hst] at h
      obtain ⟨w', h4, h5⟩ := h
      exact ⟨w', h4, ⟨_, rfl⟩, by rw [← Act.put_comm a v undef h2]; exact h5⟩
    · rename_i hst
      rw [if_neg hst] at h
      obtain ⟨u, h4, h5⟩ := h
      exact ⟨u, h4, ⟨_, rfl⟩, by rw [← Act.put_comm a v u h2]; exact h5⟩
  · rename_i hw
    rw [if_neg hw] at h
    exact ⟨⟨_, rfl⟩, by rw [← Act.put_comm a v undef h2]; exact h⟩

theorem YieldsS.put {oi oj : Oper} {v u : Value} {a : Act} (hap : oi.apart ops oj = true) (hsi : ∀ cs b, oi.op ≠ .select cs b) (hy : YieldsS P ops C oi v a) : YieldsS P ops C oi v (a.put oj.dst u) := by
  obtain ⟨_, _, h3⟩ := Oper.apart_spec hap
  unfold YieldsS at *
  rw [wanted_put oi a oj.dst u h3, execOp_put oi hsi a oj.dst u h3]
  exact hy

/-- A plain operation that may come up now may be taken first. -/
theorem pure_first {Q : Act → World → Prop} {i : Nat} {oi : Oper} {v : Value} (hi : ops[i]? = some oi) (hsel : ∀ (j : Nat) (o : Oper) cs b, ops[j]? = some o → o.op ≠ .select cs b) :
    ∀ (fuel : Nat) (listed : Array Bool) (a : Act) (w : World),
      (∀ j oj, ops[j]? = some oj → j ≠ i → listed.getD j true = false → (∀ e ∈ oj.after, Region.binds .any e = true → e.on ≠ i) → oi.apart ops oj = true) →
      i ∈ Region.ready .any ops listed → YieldsS P ops C oi v a →
      wpAnyS P ops C Q fuel (listed.setIfInBounds i true) (a.put oi.dst v) w → wpAnyS P ops C Q (fuel + 1) listed a w := by
  intro fuel
  induction fuel with
  | zero =>
    intro listed a w _ hr hy H
    refine ⟨wpAnyS_C H, fun h => (by rw [h] at hr; cases hr), fun j hj => ?_⟩
    by_cases hji : j = i
    · subst hji; exact hy.step hi H
    · have := ready_mono hj hji
      rw [H.2.1] at this
      cases this
  | succ fuel ih =>
    intro listed a w hfree hr hy H
    refine ⟨wpAnyS_C H, fun h => (by rw [h] at hr; cases hr), fun j hj => ?_⟩
    by_cases hji : j = i
    · subst hji; exact hy.step hi H
    · have h1 := H.2.2 j (ready_mono hj hji)
      obtain ⟨hjun, oj, hoj, hall⟩ := mem_ready.1 hj
      have hnot : ∀ e ∈ oj.after, Region.binds .any e = true → e.on ≠ i := fun e he hb heq => by
        have h1 := hall e he hb
        have h0 := (mem_ready.1 hr).1
        rw [heq] at h1
        rcases Nat.lt_or_ge i listed.size with h' | h'
        · simp [h'] at h0 h1; rw [h0] at h1; cases h1
        · simp [Array.getElem?_eq_none h'] at h1
      have hap := hfree j oj hoj hji hjun hnot
      have h2 := stepS_put hoj hap (fun cs b => hsel i oi cs b hi) (fun cs b => hsel j oj cs b hoj) h1
      have hfree' : ∀ k ok, ops[k]? = some ok → k ≠ i → (listed.setIfInBounds j true).getD k true = false →
          (∀ e ∈ ok.after, Region.binds .any e = true → e.on ≠ i) → oi.apart ops ok = true := fun k ok hk hki hun hno => by
        refine hfree k ok hk hki ?_ hno
        by_cases hjk : j = k
        · subst hjk; exact hjun
        · rw [getD_set_ne true hjk] at hun; exact hun
      refine stepS_mono (fun a' w' h3 => ?_) h2
      obtain ⟨⟨u, rfl⟩, h3⟩ := h3
      refine ih (listed.setIfInBounds j true) _ w' hfree' (ready_mono hr (Ne.symm hji)) (hy.put hap (fun cs b => hsel i oi cs b hi)) ?_
      rw [Array.setIfInBounds_comm _ _ hji]
      exact h3

/-- The next store, where it may come up, may be taken first. -/
theorem store_first {Q : Act → World → Prop} {i : Nat} {oi : Oper} (hi : ops[i]? = some oi) (hst : isStore oi = true) (hsel : ∀ (j : Nat) (o : Oper) cs b, ops[j]? = some o → o.op ≠ .select cs b) :
    ∀ (fuel : Nat) (listed : Array Bool) (a : Act) (w w1 : World),
      (∀ j oj, ops[j]? = some oj → j ≠ i → listed.getD j true = false → (∀ e ∈ oj.after, Region.binds .any e = true → e.on ≠ i) → oi.apart ops oj = true) →
      (∀ j oj, ops[j]? = some oj → j ≠ i → isStore oj = true → listed.getD j true = false → ∃ e, e ∈ oj.after ∧ Region.binds .any e = true ∧ e.on = i) →
      i ∈ Region.ready .any ops listed → C w → Region.wanted oi (yielded ops a.tmps) = true → (execOp a.eval oi).run P w = .ok .skip w1 →
      wpAnyS P ops C Q fuel (listed.setIfInBounds i true) (a.put oi.dst undef) w1 → wpAnyS P ops C Q (fuel + 1) listed a w := by
  have own : ∀ (K : Act → World → Prop) (a : Act) (w w1 : World), Region.wanted oi (yielded ops a.tmps) = true → (execOp a.eval oi).run P w = .ok .skip w1 → K (a.put oi.dst undef) w1 → stepS P ops C i K a w := by
    intro K a w w1 hw hrun hK
    unfold stepS
    simp only [hi]
    rw [if_pos hw, if_pos hst]
    exact ⟨w1, hrun, hK⟩
  intro fuel
  induction fuel with
  | zero =>
    intro listed a w w1 _ _ hr hC hw hrun H
    refine ⟨hC, fun h => (by rw [h] at hr; cases hr), fun j hj => ?_⟩
    by_cases hji : j = i
    · subst hji; exact own _ _ _ _ hw hrun H
    · have := ready_mono hj hji
      rw [H.2.1] at this
      cases this
  | succ fuel ih =>
    intro listed a w w1 hfree hord hr hC hw hrun H
    refine ⟨hC, fun h => (by rw [h] at hr; cases hr), fun j hj => ?_⟩
    by_cases hji : j = i
    · subst hji; exact own _ _ _ _ hw hrun H
    · have h1 := H.2.2 j (ready_mono hj hji)
      obtain ⟨hjun, oj, hoj, hall⟩ := mem_ready.1 hj
      have hnot : ∀ e ∈ oj.after, Region.binds .any e = true → e.on ≠ i := fun e he hb heq => by
        have h1 := hall e he hb
        have h0 := (mem_ready.1 hr).1
        rw [heq] at h1
        rcases Nat.lt_or_ge i listed.size with h' | h'
        · simp [h'] at h0 h1; rw [h0] at h1; cases h1
        · simp [Array.getElem?_eq_none h'] at h1
      have hap := hfree j oj hoj hji hjun hnot
      have hnst : isStore oj = false := by
        cases hc : isStore oj
        · rfl
        · obtain ⟨e, he, hb, h4⟩ := hord j oj hoj hji hc hjun
          exact absurd h4 (hnot e he hb)
      have h2 := stepS_put hoj hap (fun cs b => hsel i oi cs b hi) (fun cs b => hsel j oj cs b hoj) h1
      have hfree' : ∀ k ok, ops[k]? = some ok → k ≠ i → (listed.setIfInBounds j true).getD k true = false →
          (∀ e ∈ ok.after, Region.binds .any e = true → e.on ≠ i) → oi.apart ops ok = true := fun k ok hk hki hun hno => by
        refine hfree k ok hk hki ?_ hno
        by_cases hjk : j = k
        · subst hjk; exact hjun
        · rw [getD_set_ne true hjk] at hun; exact hun
      have hord' : ∀ k ok, ops[k]? = some ok → k ≠ i → isStore ok = true → (listed.setIfInBounds j true).getD k true = false → ∃ e, e ∈ ok.after ∧ Region.binds .any e = true ∧ e.on = i := fun k ok hk hki hs hun => by
        refine hord k ok hk hki hs ?_
        by_cases hjk : j = k
        · subst hjk; exact hjun
        · rw [getD_set_ne true hjk] at hun; exact hun
      obtain ⟨_, _, h3⟩ := Oper.apart_spec hap
      have go : ∀ u, wpAnyS P ops C Q fuel ((listed.setIfInBounds i true).setIfInBounds j true) ((a.put oj.dst u).put oi.dst undef) w1 → wpAnyS P ops C Q (fuel + 1) (listed.setIfInBounds j true) (a.put oj.dst u) w := fun u H' => by
        refine ih (listed.setIfInBounds j true) _ w w1 hfree' hord' (ready_mono hr (Ne.symm hji)) hC ?_ ?_ ?_
        · rw [wanted_put oi a oj.dst u h3]; exact hw
        · rw [execOp_put oi (fun cs b => hsel i oi cs b hi) a oj.dst u h3]; exact hrun
        · rw [Array.setIfInBounds_comm _ _ hji]; exact H'
      unfold stepS at h2 ⊢
      simp only [hoj] at h2 ⊢
      split
      · rename_i hwj
        rw [if_pos hwj, if_neg (by rw [hnst]; decide)] at h2
        rw [if_neg (by rw [hnst]; decide)]
        obtain ⟨u, h4, _, h5⟩ := h2
        exact ⟨u, h4, go u h5⟩
      · rename_i hwj
        rw [if_neg hwj] at h2
        exact go undef h2.2

/-- One order. -/
def seqS (P : Program) (ops : Array Oper) (C : World → Prop) (Q : Act → World → Prop) : List Oper → Act → World → Prop
  | [], a, w => C w ∧ Q a w
  | o :: rest, a, w => C w ∧ ((isStore o = true ∧ Region.wanted o (yielded ops a.tmps) = true ∧ ∃ w1, (execOp a.eval o).run P w = .ok .skip w1 ∧ seqS P ops C Q rest (a.put o.dst undef) w1) ∨
      ∃ v, YieldsS P ops C o v a ∧ seqS P ops C Q rest (a.put o.dst v) w)

theorem storeOrd_spec (h : storeOrd ops = true) {i j : Nat} {oi oj : Oper} (hi : ops[i]? = some oi) (hj : ops[j]? = some oj) (hij : i < j) (hsi : isStore oi = true) (hsj : isStore oj = true) :
    ∃ e, e ∈ oj.after ∧ Region.binds .any e = true ∧ e.on = i := by
  have h1 := List.all_eq_true.1 h j (List.mem_range.2 (get_lt hj))
  simp only [hj, hsj, Bool.not_true, Bool.false_or] at h1
  have h2 := List.all_eq_true.1 h1 i (List.mem_range.2 hij)
  simp only [hi, hsi, Bool.not_true, Bool.false_or] at h2
  exact edgeOn_spec h2

theorem wpAnyS_lex {Q : Act → World → Prop} (hl : lexFast ops ops.size = true) (ho : storeOrd ops = true) : ∀ (fuel k : Nat) (listed : Array Bool) (a : Act) (w : World), k + fuel = ops.size → LI ops k listed →
    seqS P ops C Q (ops.toList.drop k) a w → wpAnyS P ops C Q fuel listed a w
  | 0, k, listed, a, w, hk, hL, h => by
    rw [List.drop_of_length_le (by simp; omega)] at h
    refine ⟨h.1, ?_, h.2⟩
    apply List.eq_nil_iff_forall_not_mem.2
    intro j hj
    obtain ⟨hun, o, ho', _⟩ := mem_ready.1 hj
    rw [hL.getD (get_lt ho')] at hun
    have := get_lt ho'
    simp at hun
    omega
  | fuel + 1, k, listed, a, w, hk, hL, h => by
    have hk2 : k < ops.size := by omega
    obtain ⟨o, ho'⟩ : ∃ o, ops[k]? = some o := ⟨ops[k], Array.getElem?_eq_getElem hk2⟩
    have hd : ops.toList.drop k = o :: ops.toList.drop (k + 1) := by
      rw [List.drop_eq_getElem_cons (by simpa using hk2)]
      congr 1
      have := ho'
      rw [Array.getElem?_eq_getElem hk2] at this
      simpa using this
    rw [hd] at h
    have hns := Region.noSelect_spec (lexFast_spec hl).1
    rcases h with ⟨hC, ⟨hst, hw, w1, hrun, hrest⟩ | ⟨v, hy, hrest⟩⟩
    · refine store_first ho' hst hns fuel listed a w w1 (hL.free hl ho') (fun j oj hj hjk hsj hun => ?_) (hL.ready hl ho') hC hw hrun (wpAnyS_lex hl ho fuel (k + 1) _ _ w1 (by omega) (hL.step hk2) hrest)
      rw [hL.getD (get_lt hj)] at hun
      have hkj : k < j := by
        have : ¬ j < k := by simpa using hun
        omega
      exact storeOrd_spec ho ho' hj hkj hst hsj
    · exact pure_first ho' hns fuel listed a w (hL.free hl ho') (hL.ready hl ho') hy (wpAnyS_lex hl ho fuel (k + 1) _ _ w (by omega) (hL.step hk2) hrest)

/-- **A region that draws its order**: plain operations and stores. -/
theorem wp_region_mix {id : Nat} {Q : Exit → Act → World → Prop} {a : Act} {w : World} (hm : P.follows .mixedOrders = true) (hl : lexFast ops ops.size = true) (ho : storeOrd ops = true)
    (h : seqS P ops C (fun a w => Q .normal a w) ops.toList a { w with drawn := w.drawn + 1 }) : (Code.region id ops true).wp P Q a w := by
  refine wp_region_any hm ?_
  exact wpAny_of_S (fun _ _ h => h) _ _ _ _ (wpAnyS_lex hl ho ops.size 0 _ a _ (by omega) LI.start (by simpa using h))
end

/-! ### What the run says of such a region -/

section
variable {P : Program} {sig : List (Nat × List Sh × List Sh)} {Γ : Cx} {W : World} {ρ : Env} {σ : Nat → Value} {β : Nat → Nat}

theorem holds_nil' (ρ : Env) : Gd.holds ρ [] := fun p hp => by simp at hp
theorem step_own {B : List Nat} {st : St} {o : Oper} {O' : List (TypeId × List CV)} (hB : ∀ k, memN k B = false → O'[k]? = st.own[k]?) (h : mixOp B st o = true) :
    stepOp P sig { st with own := O' } [] o = stepOp P sig st [] o := by
  unfold mixOp at h
  split at h
  · rename_i t x ho
    split at h
    · rename_i b off hx
      have hx' : St.cell { st with own := O' } [] x = some (.ptr b off) := hx
      have e := hB b (by simpa using h)
      simp only [stepOp, ho, hx, hx']
      cases isAggT P t with
      | none => rfl
      | some ag => cases sizeT P t with
        | none => rfl
        | some s => simp only [e]
    · rename_i l w e off hx
      have hx' : St.cell { st with own := O' } [] x = some (.elem l w e off) := hx
      have hl : listOf { st with own := O' } l = listOf st l := rfl
      simp only [stepOp, ho, hx, hx']
      cases isAggT P t with
      | none => rfl
      | some ag => cases sizeT P t with
        | none => rfl
        | some s => rfl
    · cases h
  all_goals first | (rename_i ho; simp only [stepOp, ho]; rfl) | (rename_i x ho; simp only [stepOp, ho]; rfl) | (rename_i x y ho; simp only [stepOp, ho]; rfl) | (rename_i x y z ho; simp only [stepOp, ho]; rfl) | cases h

/-- The class: all is known but what some own blocks hold. -/
def Mixed (W : World) (ρ : Env) (σ : Nat → Value) (β : Nat → Nat) (B : List Nat) (O0 : List (TypeId × List CV)) (L : List (Nat × List EK)) (w : World) : Prop :=
  ∃ O', O'.length = O0.length ∧ (∀ k, memN k B = false → O'[k]? = O0[k]?) ∧ WOk W ρ σ β O' L w

theorem mix_ok {B : List Nat} {O0 : List (TypeId × List CV)} {L : List (Nat × List EK)} {ops : Array Oper} {Q : Act → World → Prop} : ∀ (l : List Oper) (st : St) (its : List It) (st' : St), execMix P sig B l st = some (st', its) →
    ∀ (a : Act) (w : World), TOk ρ σ β st a → WOk W ρ σ β st.own st.lists w → st.lists = L → st.own.length = O0.length → (∀ k, memN k B = false → st.own[k]? = O0[k]?) → itsHold Γ its ρ →
    (∀ a' w', itsEnv Γ its ρ = ρ → st'.n = st.n → TOk ρ σ β st' a' → WOk W ρ σ β st'.own st'.lists w' → Q a' w') → seqS P ops (Mixed W ρ σ β B O0 L) Q l a w
  | [], st, its, st', h, a, w, hT, hw, hL, hlen, hB, hits, hk => by
    simp only [execMix, Option.some.injEq, Prod.mk.injEq] at h
    obtain ⟨h1, h2⟩ := h
    subst h1; subst h2
    exact ⟨⟨st.own, hlen, hB, hL ▸ hw⟩, hk a w rfl rfl hT hw⟩
  | o :: l, st, its, st', h, a, w, hT, hw, hL, hlen, hB, hits, hk => by
    simp only [execMix] at h
    have hC : Mixed W ρ σ β B O0 L w := ⟨st.own, hlen, hB, hL ▸ hw⟩
    split at h
    · cases h
    · rename_i hgd
      have hwant : Region.wanted o (yielded ops a.tmps) = true := by simp [Region.wanted, hgd]
      split at h
      · rename_i v obs hs
        split at h
        · rename_i hc
          simp only [Bool.and_eq_true, Bool.not_eq_true'] at hc
          split at h
          · rename_i st1 its1 ha
            split at h
            · rename_i st2 its2 hr
              cases h
              obtain ⟨hi1, hi2⟩ := itsHold_append hits
              have henv := fun (ρ' : Env) => itsEnv_append (Γ := Γ) (x := its1) (y := its2) (ρ := ρ)
              simp only [applyStep, Option.some.injEq, Prod.mk.injEq] at ha
              obtain ⟨h1, h2⟩ := ha
              subst h2
              have hob := needAll_ok hT.pc (holds_nil' ρ) (its_ob hi1 (holds_nil' ρ))
              have e1 : itsEnv Γ ((needAll st [] obs).map (It.ob [])) ρ = ρ := env_ob _
              rw [e1] at hi2
              have hvne : v ≠ .any := fun e => by rw [e] at hc; simp [notAny] at hc
              have hrun : ∀ w', Mixed W ρ σ β B O0 L w' → (execOp a.eval o).run P w' = .ok (.value (v.val ρ σ β)) w' := by
                rintro w' ⟨O', hl', hB', hw'⟩
                have hT' : TOk ρ σ β { st with own := O' } a := ⟨hT.size, hT.slot, hT.defers, hT.pc⟩
                have hs' : stepOp P sig { st with own := O' } [] o = some (.pure v obs) := (step_own (fun k hk => by rw [hB' k hk, hB k hk]) hc.1.2).trans hs
                obtain ⟨val, hv, hr'⟩ := step_ok (W := W) hT' (holds_nil' ρ) hs' hob
                rcases hv with hv | hv
                · exact absurd hv hvne
                · have := hr' w' (by show WOk W ρ σ β O' st.lists w'; rw [hL]; exact hw')
                  rw [this, hv]
              refine ⟨hC, .inr ⟨v.val ρ σ β, .inl ⟨hwant, hc.2, hrun⟩, ?_⟩⟩
              have hp := put_n st o.dst ([], v)
              have hT' : TOk ρ σ β (st.put o.dst ([], v)) (a.put o.dst (v.val ρ σ β)) := hT.put o.dst (.inr (.inl ⟨holds_nil' ρ, rfl⟩))
              have hst1 : TOk ρ σ β st1 (a.put o.dst (v.val ρ σ β)) ∧ st1.own = st.own ∧ st1.lists = st.lists ∧ st1.n = st.n := by
                subst h1
                split
                · exact ⟨TOk.pcAdd hT' (its_ob hi1 (holds_nil' ρ)), hp.2.1, hp.2.2.1, hp.1⟩
                · exact ⟨hT', hp.2.1, hp.2.2.1, hp.1⟩
              obtain ⟨t1, t2, t3, t4⟩ := hst1
              refine mix_ok l st1 its2 st' hr _ w t1 (by rw [t2, t3]; exact hw) (by rw [t3]; exact hL) (by rw [t2]; exact hlen) (fun k hk => by rw [t2]; exact hB k hk) hi2 (fun a' w' h3 h4 h5 h6 => hk a' w' ?_ ?_ h5 h6)
              · rw [itsEnv_append, e1, h3]
              · rw [h4, t4]
            · cases h
          · cases h
        · cases h
      · rename_i b off cs hs
        split at h
        · rename_i hc
          simp only [Bool.and_eq_true] at hc
          split at h
          · rename_i st1 its1 ha
            split at h
            · rename_i st2 its2 hr
              cases h
              obtain ⟨hn, u, old, hb, hrun⟩ := step_ok (W := W) hT (holds_nil' ρ) hs
              simp only [applyStep, hb, hn] at ha
              simp only [Bool.not_true, Bool.or_self, Bool.false_eq_true, if_false, Option.some.injEq, Prod.mk.injEq] at ha
              obtain ⟨h1, h2⟩ := ha
              subst h1; subst h2
              have hp := put_n st o.dst ([], SV.any)
              refine ⟨hC, .inl ⟨hc.2, hwant, _, hrun w (hw.own b u old hb), ?_⟩⟩
              have hT' := hT.put o.dst (g := []) (sv := .any) (v := undef) (.inl rfl)
              refine mix_ok l _ its2 st' hr _ _ ⟨hT'.size, hT'.slot, hT'.defers, hT'.pc⟩ ?_ ?_ ?_ ?_ hits (fun a' w' h3 h4 h5 h6 => hk a' w' h3 ?_ h5 h6)
              · show WOk W ρ σ β (setAt st.own b (u, layAt old off cs)) (st.put o.dst ([], .any)).lists _
                rw [hp.2.2.1]
                exact hw.store hb
              · show (st.put o.dst ([], .any)).lists = L
                rw [hp.2.2.1]; exact hL
              · show (setAt st.own b (u, layAt old off cs)).length = O0.length
                rw [setAt_length]; exact hlen
              · intro k hk
                show (setAt st.own b (u, layAt old off cs))[k]? = O0[k]?
                rw [setAt_get, if_neg (fun e => by rw [e] at hk; rw [hk] at hc; cases hc.1)]
                exact hB k hk
              · rw [h4]; exact hp.1
            · cases h
          · cases h
        · cases h
      · cases h
end
end Go.Vg

/- Regions that draw their order, make blocks, call, and store to the new blocks. -/
namespace Go.Vg
open Go.RowKit
set_option linter.unusedVariables false
set_option linter.unusedSimpArgs false

/-! ### Stores to new blocks -/

def SlotOk (ρ : Env) (σ : Nat → Value) (β : Nat → Nat) (x : Gd × SV) (v : Value) : Prop :=
  x.2 = .any ∨ (Gd.holds ρ x.1 ∧ v = x.2.val ρ σ β) ∨ (¬ Gd.holds ρ x.1 ∧ v = undef)

abbrev NB := List (Bool × TypeId × List CV)

theorem setAt_append {α : Type} (N M : List α) {n : Nat} (x : α) (h : n < N.length) : setAt (N ++ M) n x = setAt N n x ++ M := by
  apply List.ext_getElem?
  intro k
  rw [setAt_get]
  by_cases hk : k < N.length
  · have h1 : (N ++ M)[k]? = N[k]? := List.getElem?_append_left hk
    have h2 : (setAt N n x ++ M)[k]? = (setAt N n x)[k]? := List.getElem?_append_left (by rw [setAt_length]; exact hk)
    rw [h1, h2, setAt_get]
    by_cases hkn : k = n
    · rw [if_pos hkn, if_pos hkn, if_pos (by simp; omega), if_pos h]
    · rw [if_neg hkn, if_neg hkn]
  · have h1 : (N ++ M)[k]? = M[k - N.length]? := List.getElem?_append_right (by omega)
    have h2 : (setAt N n x ++ M)[k]? = M[k - (setAt N n x).length]? := List.getElem?_append_right (by rw [setAt_length]; omega)
    rw [h1, h2, setAt_length, if_neg (by omega)]
theorem applyS_length (N : NB) (x : Nat × Nat × List CV) : (applyS N x).length = N.length := by
  unfold applyS; split
  · rw [setAt_length]
  · rfl
theorem applyS_append (N M : NB) {x : Nat × Nat × List CV} (h : x.1 < N.length) : applyS (N ++ M) x = applyS N x ++ M := by
  unfold applyS
  rw [List.getElem?_append_left h]
  split
  · rw [setAt_append _ _ _ h]
  · rfl
theorem conts_snoc (N : NB) (S : List (Nat × Nat × List CV)) (x : Nat × Nat × List CV) : conts N (S ++ [x]) = applyS (conts N S) x := by simp [conts, List.foldl_append]
theorem conts_length : ∀ (S : List (Nat × Nat × List CV)) (N : NB), (conts N S).length = N.length
  | [], _ => rfl
  | x :: S, N => by
    show (conts (applyS N x) S).length = _
    rw [conts_length S, applyS_length]
theorem conts_append : ∀ (S : List (Nat × Nat × List CV)) (N M : NB), (∀ x, x ∈ S → x.1 < N.length) → conts (N ++ M) S = conts N S ++ M
  | [], _, _, _ => rfl
  | x :: S, N, M, h => by
    show conts (applyS (N ++ M) x) S = conts (applyS N x) S ++ M
    rw [applyS_append N M (h x (List.mem_cons_self ..))]
    exact conts_append S _ M (fun y hy => by rw [applyS_length]; exact h y (List.mem_cons_of_mem _ hy))
theorem applyS_get (N : NB) (x : Nat × Nat × List CV) (i : Nat) : (applyS N x)[i]? = match N[i]? with
    | some (false, t, old) => if i = x.1 then some (false, t, layAt old x.2.1 x.2.2) else some (false, t, old)
    | o => o := by
  unfold applyS
  split
  · rename_i t old hx
    rw [setAt_get]
    by_cases hi : i = x.1
    · subst hi
      rw [if_pos rfl, if_pos (lt_of_get hx), hx]
      simp
    · rw [if_neg hi]
      cases hN : N[i]? with
      | none => rfl
      | some y =>
        obtain ⟨kd, t', o'⟩ := y
        cases kd <;> simp [hi]
  · rename_i hne
    cases hN : N[i]? with
    | none => rfl
    | some y =>
      obtain ⟨kd, t', o'⟩ := y
      cases kd with
      | true => rfl
      | false =>
        by_cases hi : i = x.1
        · subst hi; exact absurd hN (hne _ _)
        · simp [hi]
theorem conts_true : ∀ (S : List (Nat × Nat × List CV)) (N : NB) {i : Nat} {t : TypeId} {cs : List CV}, N[i]? = some (true, t, cs) → (conts N S)[i]? = some (true, t, cs)
  | [], _, _, _, _, h => h
  | x :: S, N, i, t, cs, h => conts_true S (applyS N x) (by rw [applyS_get, h])

/-! ### The run of such a region -/

section
variable {P : Program} {sig : List (Nat × List Sh × List Sh)} {ops : Array Oper} {st : St}

def At (P : Program) (sig : List (Nat × List Sh × List Sh)) (ops : Array Oper) (st : St) (k : Nat) (f : FS) (o : Oper) (r : FR) : Prop :=
  freeAt P sig ops st k = some f ∧ ops[k]? = some o ∧ freeStep P sig ops f o = some r

theorem freeAt_succ {k : Nat} {f' : FS} (h : freeAt P sig ops st (k + 1) = some f') : ∃ f o r, At P sig ops st k f o r ∧ f' = ⟨{ f.st.put o.dst r.x with n := r.n }, r.N, r.S, f.its ++ r.its, f.L ++ r.R, f.n0⟩ := by
  simp only [freeAt] at h
  split at h
  · cases h
  · rename_i f hf
    split at h
    · cases h
    · rename_i o ho
      split at h
      · cases h
      · rename_i r hr
        cases h
        exact ⟨f, o, r, ⟨hf, ho, hr⟩, rfl⟩
theorem freeAt_of {k : Nat} {f : FS} {o : Oper} {r : FR} (h : At P sig ops st k f o r) : freeAt P sig ops st (k + 1) = some ⟨{ f.st.put o.dst r.x with n := r.n }, r.N, r.S, f.its ++ r.its, f.L ++ r.R, f.n0⟩ := by
  obtain ⟨h1, h2, h3⟩ := h
  simp only [freeAt, h1, h2, h3]
theorem freeAt_le {m : Nat} {F : FS} (h : freeAt P sig ops st m = some F) : ∀ {k : Nat}, k ≤ m → ∃ f, freeAt P sig ops st k = some f := by
  induction m generalizing F with
  | zero => intro k hk; have : k = 0 := by omega
            subst this; exact ⟨F, h⟩
  | succ m ih =>
    intro k hk
    by_cases hkm : k = m + 1
    · subst hkm; exact ⟨F, h⟩
    · obtain ⟨f, o, r, ⟨h1, _, _⟩, _⟩ := freeAt_succ h
      exact ih h1 (by omega)
theorem At_of {m : Nat} {F : FS} (h : freeAt P sig ops st m = some F) {k : Nat} (hk : k < m) : ∃ f o r, At P sig ops st k f o r := by
  obtain ⟨f', hf'⟩ := freeAt_le h (show k + 1 ≤ m by omega)
  obtain ⟨f, o, r, h1, _⟩ := freeAt_succ hf'
  exact ⟨f, o, r, h1⟩
theorem At_same {k : Nat} {f f' : FS} {o o' : Oper} {r r' : FR} (h : At P sig ops st k f o r) (h' : At P sig ops st k f' o' r') : f = f' ∧ o = o' ∧ r = r' := by
  obtain ⟨h1, h2, h3⟩ := h
  obtain ⟨g1, g2, g3⟩ := h'
  rw [h1] at g1; cases g1
  rw [h2] at g2; cases g2
  rw [h3] at g3; cases g3
  exact ⟨rfl, rfl, rfl⟩

/-- What an operation's record says, whichever it is. -/
structure StepF (P : Program) (sig : List (Nat × List Sh × List Sh)) (ops : Array Oper) (f : FS) (o : Oper) (r : FR) (g : Gd) : Prop where
  guard : guardOf ops f.st o = some g
  gscp : Gd.scp f.st.n g = true
  kind : (isStore o = true ∧ isNil g = true ∧ r.x = (g, .any) ∧ r.n = f.st.n ∧ r.N = f.N ∧ r.its = [] ∧ ∃ b off cs t old, stepOp P sig { f.st with own := f.st.own ++ blks (conts f.N f.S) } g o = some (.store b off cs) ∧
        f.st.own.length ≤ b ∧ cs.all (CV.scp f.st.n f.st.own.length) = true ∧ (conts f.N f.S)[b - f.st.own.length]? = some (false, t, old) ∧ r.S = f.S ++ [(b - f.st.own.length, off, cs)]) ∨
    (isStore o = false ∧ r.S = f.S ∧
      ((∃ c args res, stepOp P sig { f.st with own := f.st.own ++ blks f.N, lists := namedL f g o ++ f.st.lists } g o = some (.call c args res) ∧ r.R = resLists f.st.n (shCells res) ∧ args.all (Ax.scp f.st.n (f.st.own.length + f.N.length)) = true ∧
          r.x = (g, resS f.st.n res) ∧ r.n = f.st.n + (shCells res).length ∧ r.N = f.N ∧ r.its = [.call c g args f.st.n]) ∨
       (∃ v obs, (stepOp P sig f.st g o = some (.pure v obs) ∨ (obs = [] ∧ ∃ l, lenNew P f g o = some l ∧ v = .tv (.one (.int .i64 (.len l))))) ∧ v.scp f.st.n f.st.own.length = true ∧ (needAll f.st g obs).all (Ex.scp f.st.n) = true ∧ r.x = (g, v) ∧ r.n = f.st.n ∧ r.N = f.N ∧ r.its = (needAll f.st g obs).map (It.ob g)) ∨
       (∃ t cs v v' kd, stepOp P sig f.st g o = some (.alloc t cs v) ∧ isNil g = true ∧ cs.all (CV.scp f.st.n f.st.own.length) = true ∧ newV f.st.own.length (f.st.own.length + f.N.length) v = some (v', kd) ∧ r.x = ([], v') ∧ r.n = f.st.n ∧ r.N = f.N ++ [(kd, t, cs)] ∧ r.its = [])))
  sL : isStore o = true → f.L = [] ∧ ∀ x, r.S = f.S ++ [x] → x.2.2.all (cvLow f.n0) = true
  rS : r.R ≠ [] → f.S = []
  rR : r.R = [] ∨ ∃ res, r.x = (g, resS f.st.n res) ∧ r.n = f.st.n + (shCells res).length ∧ r.R = resLists f.st.n (shCells res)
  lowx : svLow f.n0 r.x.2 = true ∨ ∃ res, r.x.2 = resS f.st.n res ∧ r.n = f.st.n + (shCells res).length
  lowN : ∀ kd t cs, r.N = f.N ++ [(kd, t, cs)] → cs.all (cvLow f.n0) = true ∧ r.R = []

theorem isNil_nil {α : Type} {l : List α} (h : isNil l = true) : l = [] := by
  cases l with
  | nil => rfl
  | cons _ _ => simp [isNil] at h
theorem snoc_ne {α : Type} {l : List α} {x : α} (h : l = l ++ [x]) : False := by
  have := congrArg List.length h
  simp at this
theorem snoc_inj {α : Type} {l : List α} {x y : α} (h : l ++ [x] = l ++ [y]) : x = y := by
  have := List.append_cancel_left h
  simpa using this
theorem newV_low {m n k : Nat} {v v' : SV} {kd : Bool} (h : newV m n v = some (v', kd)) : svLow k v' = true := by
  unfold newV at h
  split at h
  · split at h
    · cases h; rfl
    · cases h
  · split at h
    · cases h; rfl
    · cases h
  · cases h
theorem hasLst_nil : ∀ {cs : List CK} {n : Nat}, hasLst cs = false → resLists n cs = []
  | [], _, _ => rfl
  | c :: cs, n, h => by
    simp only [hasLst, List.any_cons, Bool.or_eq_false_iff] at h
    cases c with
    | lst _ => simp at h
    | int k => exact hasLst_nil (n := n + 1) h.2
    | bool => exact hasLst_nil (n := n + 1) h.2
    | str => exact hasLst_nil (n := n + 1) h.2

theorem stepF_of {f : FS} {o : Oper} {r : FR} (h : freeStep P sig ops f o = some r) : ∃ g, StepF P sig ops f o r g := by
  unfold freeStep at h
  split at h
  · cases h
  · rename_i g hg
    split at h
    · cases h
    · rename_i hscp
      have hscp : Gd.scp f.st.n g = true := by simpa using hscp
      split at h
      · rename_i hst
        split at h
        · rename_i b off cs hs
          split at h
          · rename_i hc
            cases h
            simp only [Bool.and_eq_true] at hc
            obtain ⟨hc, hcL, hcl⟩ := hc
            have h4 := hc.2
            unfold isBox at h4
            split at h4
            · rename_i t old hN
              exact ⟨g, hg, hscp, .inl ⟨hst, hc.1.1.1, rfl, rfl, rfl, rfl, b, off, cs, t, old, hs, Nat.le_of_ble_eq_true hc.1.1.2, hc.1.2, hN, rfl⟩,
                fun _ => ⟨isNil_nil hcL, fun x hx => by rw [← snoc_inj hx]; exact hcl⟩, fun h => absurd rfl h, .inl rfl, .inl rfl, fun kd t cs h => (snoc_ne h).elim⟩
            · cases h4
          · cases h
        · cases h
      · rename_i hst
        have hst : isStore o = false := by simpa using hst
        have hstf : isStore o = true → f.L = [] ∧ ∀ x, r.S = f.S ++ [x] → x.2.2.all (cvLow f.n0) = true := fun h => by rw [hst] at h; cases h
        split at h
        · split at h
          · rename_i c args res hs
            split at h
            · cases h
            · rename_i hc
              cases h
              simp only [Bool.or_eq_true, not_or, Bool.not_eq_true', Bool.not_eq_true, Bool.not_eq_false, Bool.and_eq_false_iff] at hc
              refine ⟨g, hg, hscp, .inr ⟨hst, rfl, .inl ⟨c, args, res, hs, rfl, by simpa using hc.2, rfl, rfl, rfl, rfl⟩⟩, hstf, fun h => ?_, .inr ⟨res, rfl, rfl, rfl⟩, .inr ⟨res, rfl, rfl⟩, fun kd t cs h => (snoc_ne h).elim⟩
              rcases hc.1 with h1 | h1
              · exact absurd (hasLst_nil h1) h
              · exact isNil_nil (by simpa using h1)
          · cases h
        · split at h
          · rename_i v obs hs
            split at h
            · rename_i hc
              cases h
              simp only [Bool.and_eq_true] at hc
              exact ⟨g, hg, hscp, .inr ⟨hst, rfl, .inr (.inl ⟨v, obs, .inl hs, hc.1.1, hc.1.2, rfl, rfl, rfl, rfl⟩)⟩, hstf, fun h => absurd rfl h, .inl rfl, .inl hc.2, fun kd t cs h => (snoc_ne h).elim⟩
            · cases h
          · rename_i t cs v hs
            split at h
            · rename_i hc
              split at h
              · rename_i v' kd hv
                cases h
                simp only [Bool.and_eq_true] at hc
                exact ⟨g, hg, hscp, .inr ⟨hst, rfl, .inr (.inr ⟨t, cs, v, v', kd, hs, hc.1.1, hc.1.2, hv, rfl, rfl, rfl, rfl⟩)⟩, hstf, fun h => absurd rfl h, .inl rfl, .inl (newV_low hv), fun kd t cs h => by
                  have := snoc_inj h
                  cases this
                  exact ⟨hc.2, rfl⟩⟩
              · cases h
            · cases h
          · rename_i hs
            split at h
            · rename_i l hl
              cases h
              have hlt : Nat.blt l f.st.n = true := by
                unfold lenNew at hl
                split at hl
                · split at hl
                  · split at hl
                    · split at hl
                      · split at hl
                        · rename_i hc
                          cases hl
                          simp only [Bool.and_eq_true] at hc
                          exact hc.2
                        · cases hl
                      · cases hl
                    · cases hl
                  · cases hl
                · cases hl
              exact ⟨g, hg, hscp, .inr ⟨hst, rfl, .inr (.inl ⟨_, [], .inr ⟨rfl, l, hl, rfl⟩, by simp [SV.scp, TV.scp, TV.cells, CV.scp, Ex.scp, hlt], rfl, rfl, rfl, rfl, rfl⟩)⟩, hstf, fun h => absurd rfl h, .inl rfl, .inl rfl, fun kd t cs h => (snoc_ne h).elim⟩
            · cases h
          · cases h

theorem freeAt_base : ∀ {k : Nat} {f : FS}, freeAt P sig ops st k = some f → f.st.own = st.own ∧ f.st.lists = st.lists ∧ f.st.nt = st.nt ∧ f.st.pc = st.pc ∧ st.n ≤ f.st.n ∧ (∀ x, x ∈ f.S → x.1 < f.N.length)
  | 0, f, h => by
    simp only [freeAt, Option.some.injEq] at h
    subst h
    exact ⟨rfl, rfl, rfl, rfl, Nat.le_refl _, fun x hx => by simp at hx⟩
  | k + 1, f', h => by
    obtain ⟨f, o, r, ⟨h1, h2, h3⟩, rfl⟩ := freeAt_succ h
    obtain ⟨b1, b2, b3, b4, b5, b6⟩ := freeAt_base h1
    obtain ⟨g, hs⟩ := stepF_of h3
    have hp := put_n f.st o.dst r.x
    have hnt : (f.st.put o.dst r.x).nt = f.st.nt := by
      cases hd : o.dst with
      | none => rfl
      | some d => simp only [St.put]; split <;> rfl
    have key : f.st.n ≤ r.n ∧ (∀ x, x ∈ r.S → x.1 < r.N.length) := by
      rcases hs.kind with ⟨_, _, _, e2, e3, _, b, off, cs, t, old, _, _, _, hN, e5⟩ | ⟨_, e1, ⟨c, args, res, _, _, _, _, e2, e3, _⟩ | ⟨v, obs, _, _, _, _, e2, e3, _⟩ | ⟨t, cs, v, v', kd, _, _, _, _, _, e2, e3, _⟩⟩
      · refine ⟨by omega, fun x hx => ?_⟩
        rw [e5] at hx
        rcases List.mem_append.1 hx with hx | hx
        · rw [e3]; exact b6 x hx
        · rw [List.mem_singleton.1 hx, e3]
          have := lt_of_get hN
          rw [conts_length] at this
          exact this
      · exact ⟨by omega, fun x hx => by rw [e3]; exact b6 x (e1 ▸ hx)⟩
      · exact ⟨by omega, fun x hx => by rw [e3]; exact b6 x (e1 ▸ hx)⟩
      · refine ⟨by omega, fun x hx => ?_⟩
        have := b6 x (e1 ▸ hx)
        rw [e3]; simp; omega
    exact ⟨hp.2.1.trans b1, hp.2.2.1.trans b2, hnt.trans b3, hp.2.2.2.trans b4, Nat.le_trans b5 key.1, key.2⟩

theorem freeAt_mono {k m : Nat} {f F : FS} (hk : freeAt P sig ops st k = some f) (hm : freeAt P sig ops st m = some F) (hkm : k ≤ m) :
    (∃ M, F.N = f.N ++ M) ∧ (∃ M, F.S = f.S ++ M) ∧ f.st.n ≤ F.st.n := by
  induction m generalizing F with
  | zero =>
    have : k = 0 := by omega
    subst this
    rw [hk] at hm; cases hm
    exact ⟨⟨[], by simp⟩, ⟨[], by simp⟩, Nat.le_refl _⟩
  | succ m ih =>
    by_cases hk' : k = m + 1
    · subst hk'
      rw [hk] at hm; cases hm
      exact ⟨⟨[], by simp⟩, ⟨[], by simp⟩, Nat.le_refl _⟩
    · obtain ⟨f', o, r, ⟨h1, h2, h3⟩, rfl⟩ := freeAt_succ hm
      obtain ⟨⟨M, e1⟩, ⟨M2, e2⟩, e3⟩ := ih h1 (by omega)
      obtain ⟨g, hs⟩ := stepF_of h3
      rcases hs.kind with ⟨_, _, _, q2, q3, _, b, off, cs, t, old, _, _, _, hN, q5⟩ | ⟨_, q1, ⟨c, args, res, _, _, _, _, q2, q3, _⟩ | ⟨v, obs, _, _, _, _, q2, q3, _⟩ | ⟨t, cs, v, v', kd, _, _, _, _, _, q2, q3, _⟩⟩
      · exact ⟨⟨M, by simp only [q3, e1]⟩, ⟨M2 ++ [(b - f'.st.own.length, off, cs)], by simp only [q5, e2, List.append_assoc]⟩, by simp only; omega⟩
      · exact ⟨⟨M, by simp only [q3, e1]⟩, ⟨M2, by simp only [q1, e2]⟩, by simp only; omega⟩
      · exact ⟨⟨M, by simp only [q3, e1]⟩, ⟨M2, by simp only [q1, e2]⟩, by simp only; omega⟩
      · exact ⟨⟨M ++ [(kd, t, cs)], by simp only [q3, e1, List.append_assoc]⟩, ⟨M2, by simp only [q1, e2]⟩, by simp only; omega⟩

theorem getT_put {s : St} {dst : Option Tmp} {x : Gd × SV} {t : Nat} {y : Gd × SV} (h : getT (s.put dst x).tmps t = some y) : (dst = some t ∧ t < s.nt ∧ y = x) ∨ ((dst ≠ some t ∨ ¬ t < s.nt) ∧ getT s.tmps t = some y) := by
  cases dst with
  | none => exact .inr ⟨.inl (by simp), h⟩
  | some d =>
    simp only [St.put] at h
    split at h
    · rename_i hd
      simp only [getT] at h
      split at h
      · rename_i hdt
        have := Nat.eq_of_beq_eq_true hdt
        subst this
        cases h
        exact .inl ⟨rfl, blt_lt hd, rfl⟩
      · rename_i hdt
        refine .inr ⟨.inl (fun e => ?_), h⟩
        cases e
        rw [Nat.beq_refl] at hdt; cases hdt
    · rename_i hd
      refine .inr ⟨?_, h⟩
      by_cases hdt : d = t
      · subst hdt
        right
        intro hlt
        have : Nat.blt d s.nt = true := by unfold Nat.blt; exact Nat.ble_eq_true_of_le hlt
        rw [hd] at this; cases this
      · exact .inl (fun e => hdt (Option.some.inj e))
theorem getT_filter {p : Nat → Bool} : ∀ {l : List (Nat × (Gd × SV))} {t : Nat} {y : Gd × SV}, getT (l.filter (fun x => p x.1)) t = some y → p t = true ∧ getT l t = some y
  | [], _, _, h => by simp [getT] at h
  | x :: l, t, y, h => by
    rw [List.filter_cons] at h
    split at h
    · rename_i hp
      simp only [getT] at h ⊢
      split at h
      · rename_i hb
        have := Nat.eq_of_beq_eq_true hb
        rw [this] at hp
        exact ⟨hp, h⟩
      · rename_i hb
        exact getT_filter h
    · rename_i hp
      obtain ⟨h1, h2⟩ := getT_filter h
      refine ⟨h1, ?_⟩
      simp only [getT]
      have : Nat.beq x.1 t = false := by
        cases hb : Nat.beq x.1 t
        · rfl
        · rw [Nat.eq_of_beq_eq_true hb] at hp
          exact absurd h1 hp
      rw [this]
      exact h2

theorem freeAt_slots : ∀ {k : Nat} {f : FS}, freeAt P sig ops st k = some f → ∀ t y, getT f.st.tmps t = some y →
    (getT st.tmps t = some y ∧ ∀ (j : Nat) (o : Oper), ops[j]? = some o → o.dst ≠ some t) ∨ ∃ j f' o r, j < k ∧ At P sig ops st j f' o r ∧ o.dst = some t ∧ t < st.nt ∧ r.x = y
  | 0, f, h, t, y, ht => by
    simp only [freeAt, Option.some.injEq] at h
    subst h
    obtain ⟨h1, h2⟩ := getT_filter (p := fun t => !(ops.toList.any fun o => match o.dst with | some d => Nat.beq d t | none => false)) ht
    refine .inl ⟨h2, fun j o ho hd => ?_⟩
    rw [Bool.not_eq_true', List.any_eq_false] at h1
    have := h1 o (by
      have := List.mem_of_getElem? (l := ops.toList) (i := j) (a := o) (by simpa using ho)
      exact this)
    rw [hd] at this
    exact this (Nat.beq_refl t)
  | k + 1, f', h, t, y, ht => by
    obtain ⟨f, o, r, hat, rfl⟩ := freeAt_succ h
    rcases getT_put ht with ⟨h1, h2, h3⟩ | ⟨_, h2⟩
    · exact .inr ⟨k, f, o, r, Nat.lt_succ_self k, hat, h1, by rw [← (freeAt_base hat.1).2.2.1]; exact h2, h3.symm⟩
    · rcases freeAt_slots hat.1 t y h2 with h3 | ⟨j, f1, o1, r1, hj, h4⟩
      · exact .inl h3
      · exact .inr ⟨j, f1, o1, r1, by omega, h4⟩

/-- A value that names no new block; or a new block itself. -/
theorem x_kind {k : Nat} {f : FS} {o : Oper} {r : FR} (h : At P sig ops st k f o r) :
    ((∀ (ρ : Env) (σ : Nat → Value) (β β' : Nat → Nat), agree st.own.length β β' → r.x.2.val ρ σ β' = r.x.2.val ρ σ β) ∧ (∀ y, r.x.2 = .tv y → ∀ b n, (CV.osl b n ∈ y.cells ∨ CV.ptr b n ∈ y.cells) → b < st.own.length) ∧ r.N = f.N) ∨
    (∃ kd t cs v, r.N = f.N ++ [(kd, t, cs)] ∧ cs.all (CV.scp f.st.n st.own.length) = true ∧ newV st.own.length (st.own.length + f.N.length) v = some (r.x.2, kd)) := by
  obtain ⟨b1, _⟩ := freeAt_base h.1
  obtain ⟨g, hs⟩ := stepF_of h.2.2
  rcases hs.kind with ⟨_, _, e1, _, e3, _⟩ | ⟨_, _, ⟨c, args, res, _, hl, _, e1, _, e3, _⟩ | ⟨v, obs, _, hscp, _, e1, _, e3, _⟩ | ⟨t, cs, v, v', kd, _, _, hcs, hv, e1, _, e3, _⟩⟩
  · left; rw [e1]; exact ⟨fun _ _ _ _ _ => rfl, fun y hy => (by cases hy), e3⟩
  · left; rw [e1]
    refine ⟨fun ρ σ β β' _ => resS_shift res _ _ (fun _ => rfl) (fun _ => rfl), fun y hy b n hm => ?_, e3⟩
    exfalso
    have hno : ∀ (cs : List CK) (n0 : Nat), ¬ (CV.osl b n ∈ resCs n0 cs ∨ CV.ptr b n ∈ resCs n0 cs) := by
      intro cs
      induction cs with
      | nil => intro n0 hm; simp [resCs] at hm
      | cons c cs ih =>
        intro n0 hm
        simp only [resCs, List.mem_cons] at hm
        rcases hm with (hm | hm) | (hm | hm)
        · cases c <;> simp [resC] at hm
        · exact ih _ (.inl hm)
        · cases c <;> simp [resC] at hm
        · exact ih _ (.inr hm)
    have hT : ∀ (s : Sh) (n0 : Nat), ¬ (CV.osl b n ∈ (resT n0 s).cells ∨ CV.ptr b n ∈ (resT n0 s).cells) := by
      intro s n0 hm
      cases s with
      | one c => exact hno [c] n0 (by simpa [resT, TV.cells, resCs] using hm)
      | agg cs => exact hno cs n0 (by simpa [resT, TV.cells] using hm)
    unfold resS at hy
    split at hy
    · rename_i x hx
      cases hy
      cases res with
      | nil => simp [resTs] at hx
      | cons s ss =>
        simp only [resTs, List.cons.injEq] at hx
        rw [← hx.1] at hm
        exact hT s _ hm
    · cases hy
  · left; rw [e1]
    rw [b1] at hscp
    refine ⟨fun ρ σ β β' ha => sv_agree (n := f.st.n) (agree_refl _ ρ) (agree_refl _ σ) ha hscp, fun y hy b n hm => ?_, e3⟩
    simp only at hy
    subst hy
    have hall : ∀ c, c ∈ y.cells → CV.scp f.st.n st.own.length c = true := List.all_eq_true.1 (by simpa [SV.scp, TV.scp] using hscp)
    rcases hm with hm | hm
    · have := hall _ hm; exact blt_lt this
    · have := hall _ hm; exact blt_lt this
  · right; rw [e1, b1] at *
    exact ⟨kd, t, cs, v, e3, hcs, hv⟩

theorem newV_spec {m n : Nat} {v v' : SV} {kd : Bool} (h : newV m n v = some (v', kd)) : (v = .tv (.one (.ptr m 0)) ∧ v' = .tv (.one (.ptr n 0)) ∧ kd = false) ∨ (∃ len, v = .tv (.one (.osl m len)) ∧ v' = .tv (.one (.osl n len)) ∧ kd = true) := by
  unfold newV at h
  split at h
  · split at h
    · rename_i hb; cases h; rw [Nat.eq_of_beq_eq_true hb]; exact .inl ⟨rfl, rfl, rfl⟩
    · cases h
  · split at h
    · rename_i hb; cases h; rw [Nat.eq_of_beq_eq_true hb]; exact .inr ⟨_, rfl, rfl, rfl⟩
    · cases h
  · cases h

/-- Cells that name no new block. -/
def NoNew (m : Nat) (cs : List CV) : Prop := ∀ (ρ : Env) (σ : Nat → Value) (β β' : Nat → Nat), agree m β β' → cs.map (CV.val ρ σ β') = cs.map (CV.val ρ σ β)
theorem noNew_scp {n m : Nat} {cs : List CV} (h : cs.all (CV.scp n m) = true) : NoNew m cs := fun ρ σ β β' ha => cvs_agree (agree_refl n ρ) (agree_refl n σ) ha h
theorem applyS_noNew {m : Nat} {N : NB} {x : Nat × Nat × List CV} (hN : ∀ (i : Nat) (kd : Bool) (t : TypeId) (cs : List CV), N[i]? = some (kd, t, cs) → NoNew m cs) (hx : NoNew m x.2.2) : ∀ (i : Nat) (kd : Bool) (t : TypeId) (cs : List CV), (applyS N x)[i]? = some (kd, t, cs) → NoNew m cs := by
  intro i kd t cs h
  rw [applyS_get] at h
  split at h
  · rename_i t' old hi
    split at h
    · cases h
      intro ρ σ β β' ha
      rw [layAt_map, layAt_map, hN i _ _ _ hi ρ σ β β' ha, hx ρ σ β β' ha]
    · cases h
      exact hN i _ _ _ hi
  · exact hN i _ _ _ h
theorem conts_noNew {m : Nat} : ∀ (S : List (Nat × Nat × List CV)) {N : NB}, (∀ (i : Nat) (kd : Bool) (t : TypeId) (cs : List CV), N[i]? = some (kd, t, cs) → NoNew m cs) → (∀ x, x ∈ S → NoNew m x.2.2) → ∀ (i : Nat) (kd : Bool) (t : TypeId) (cs : List CV), (conts N S)[i]? = some (kd, t, cs) → NoNew m cs
  | [], _, hN, _ => hN
  | x :: S, N, hN, hS => conts_noNew S (applyS_noNew hN (hS x (List.mem_cons_self ..))) (fun y hy => hS y (List.mem_cons_of_mem _ hy))
theorem conts_untouched : ∀ (S : List (Nat × Nat × List CV)) {N : NB} {i : Nat}, (∀ x, x ∈ S → x.1 ≠ i) → (conts N S)[i]? = N[i]?
  | [], _, _, _ => rfl
  | x :: S, N, i, h => by
    show (conts (applyS N x) S)[i]? = _
    rw [conts_untouched S (fun y hy => h y (List.mem_cons_of_mem _ hy)), applyS_get]
    cases hN : N[i]? with
    | none => rfl
    | some y =>
      obtain ⟨kd, t, o⟩ := y
      cases kd with
      | true => rfl
      | false => simp only; rw [if_neg (fun e => h x (List.mem_cons_self ..) e.symm)]
theorem freeAt_noNew : ∀ {k : Nat} {f : FS}, freeAt P sig ops st k = some f → (∀ (i : Nat) (kd : Bool) (t : TypeId) (cs : List CV), f.N[i]? = some (kd, t, cs) → NoNew st.own.length cs) ∧ ∀ x, x ∈ f.S → NoNew st.own.length x.2.2
  | 0, f, h => by
    simp only [freeAt, Option.some.injEq] at h
    subst h
    exact ⟨fun i kd t cs h => by simp at h, fun x hx => by simp at hx⟩
  | k + 1, f', h => by
    obtain ⟨f, o, r, hat, rfl⟩ := freeAt_succ h
    obtain ⟨h1, h2⟩ := freeAt_noNew hat.1
    obtain ⟨b1, _⟩ := freeAt_base hat.1
    obtain ⟨g, hs⟩ := stepF_of hat.2.2
    rcases hs.kind with ⟨_, _, _, _, e3, _, b, off, cs, t, old, _, _, hcs, _, e5⟩ | ⟨_, e1, hk⟩
    · refine ⟨fun i kd t cs hi => h1 i kd t cs (by rw [← e3]; exact hi), fun x hx => ?_⟩
      simp only [e5] at hx
      rcases List.mem_append.1 hx with hx | hx
      · exact h2 x hx
      · rw [List.mem_singleton.1 hx]
        rw [b1] at hcs
        exact noNew_scp hcs
    · refine ⟨?_, fun x hx => h2 x (by simp only [e1] at hx; exact hx)⟩
      rcases x_kind hat with ⟨_, _, e3⟩ | ⟨kd, t, cs, v, e3, hcs, _⟩
      · intro i kd t cs hi
        exact h1 i kd t cs (by simp only [e3] at hi; exact hi)
      · intro i kd' t' cs' hi
        simp only [e3] at hi
        by_cases hlt : i < f.N.length
        · rw [List.getElem?_append_left hlt] at hi; exact h1 i _ _ _ hi
        · rw [List.getElem?_append_right (by omega)] at hi
          have : i - f.N.length = 0 := by
            have := lt_of_get hi
            simp at this; omega
          rw [this] at hi
          simp at hi
          obtain ⟨_, _, rfl⟩ := hi
          exact noNew_scp hcs
/-! ### Slices that came back -/

theorem freeAt_n0 : ∀ {k : Nat} {f : FS}, freeAt P sig ops st k = some f → f.n0 = st.n
  | 0, f, h => by
    simp only [freeAt, Option.some.injEq] at h
    subst h
    rfl
  | k + 1, f', h => by
    obtain ⟨f, o, r, hat, rfl⟩ := freeAt_succ h
    have := freeAt_n0 hat.1
    exact this
theorem freeAt_L : ∀ {k : Nat} {f : FS}, freeAt P sig ops st k = some f → ∀ p, p ∈ f.L → ∃ j f1 o1 r1, j < k ∧ At P sig ops st j f1 o1 r1 ∧ p ∈ r1.R
  | 0, f, h, p, hp => by
    simp only [freeAt, Option.some.injEq] at h
    subst h
    simp at hp
  | k + 1, f', h, p, hp => by
    obtain ⟨f, o, r, hat, rfl⟩ := freeAt_succ h
    rcases List.mem_append.1 hp with hp | hp
    · obtain ⟨j, f1, o1, r1, hj, h1⟩ := freeAt_L hat.1 p hp
      exact ⟨j, f1, o1, r1, by omega, h1⟩
    · exact ⟨k, f, o, r, Nat.lt_succ_self k, hat, hp⟩
theorem resLists_rng : ∀ {cs : List CK} {n : Nat} {p : Nat × List EK}, p ∈ resLists n cs → n ≤ p.1 ∧ p.1 < n + cs.length
  | [], _, _, h => by simp [resLists] at h
  | c :: cs, n, p, h => by
    have rest : p ∈ resLists (n + 1) cs → n ≤ p.1 ∧ p.1 < n + (c :: cs).length := fun h => by
      have := resLists_rng h
      simp only [List.length_cons]
      omega
    cases c with
    | lst ek =>
      simp only [resLists, List.mem_cons] at h
      rcases h with rfl | h
      · simp
      · exact rest h
    | int k => exact rest h
    | bool => exact rest h
    | str => exact rest h
theorem R_rng {j : Nat} {f : FS} {o : Oper} {r : FR} (h : At P sig ops st j f o r) {p : Nat × List EK} (hp : p ∈ r.R) : f.st.n ≤ p.1 ∧ p.1 < r.n := by
  obtain ⟨g, hs⟩ := stepF_of h.2.2
  rcases hs.rR with h1 | ⟨res, _, h2, h3⟩
  · rw [h1] at hp; simp at hp
  · rw [h3] at hp
    have := resLists_rng hp
    omega
theorem At_n_le {j k : Nat} {f f1 : FS} {o o1 : Oper} {r r1 : FR} (h : At P sig ops st j f o r) (h1 : At P sig ops st k f1 o1 r1) (hjk : j < k) : r.n ≤ f1.st.n :=
  (freeAt_mono (freeAt_of h) h1.1 (by omega)).2.2
/-- Two operations' own variables are apart. -/
theorem At_apart {j k : Nat} {f f1 : FS} {o o1 : Oper} {r r1 : FR} (h : At P sig ops st j f o r) (h1 : At P sig ops st k f1 o1 r1) (hjk : j ≠ k) : r.n ≤ f1.st.n ∨ r1.n ≤ f.st.n := by
  rcases Nat.lt_or_gt_of_ne hjk with hlt | hlt
  · exact .inl (At_n_le h h1 hlt)
  · exact .inr (At_n_le h1 h hlt)
theorem cvLow_val {m : Nat} {ρ : Env} {σ σ' : Nat → Value} {β : Nat → Nat} (hσ : ∀ l, l < m → σ' l = σ l) {c : CV} (h : cvLow m c = true) : CV.val ρ σ' β c = CV.val ρ σ β c := by
  cases c with
  | lst l => simp only [CV.val]; rw [hσ l (blt_lt h)]
  | elem l w e off => simp only [CV.val]; rw [hσ l (blt_lt h)]
  | _ => rfl
theorem cvsLow_val {m : Nat} {ρ : Env} {σ σ' : Nat → Value} {β : Nat → Nat} (hσ : ∀ l, l < m → σ' l = σ l) {cs : List CV} (h : cs.all (cvLow m) = true) : cs.map (CV.val ρ σ' β) = cs.map (CV.val ρ σ β) :=
  List.map_congr_left fun c hc => cvLow_val hσ (List.all_eq_true.1 h c hc)
theorem svLow_val {m : Nat} {ρ : Env} {σ σ' : Nat → Value} {β : Nat → Nat} (hσ : ∀ l, l < m → σ' l = σ l) {v : SV} (h : svLow m v = true) : v.val ρ σ' β = v.val ρ σ β := by
  have hT : ∀ x : TV, x.cells.all (cvLow m) = true → x.val ρ σ' β = x.val ρ σ β := fun x hx => by
    cases x with
    | one c =>
      simp only [TV.cells, List.all_cons, List.all_nil, Bool.and_true] at hx
      exact cvLow_val hσ hx
    | agg cs => simp only [TV.val]; rw [cvsLow_val hσ (cs := cs) hx]
  cases v with
  | any => rfl
  | tv x => exact hT x h
  | tup ts =>
    simp only [SV.val]
    rw [List.map_congr_left fun x hx => hT x (List.all_eq_true.1 h x hx)]
theorem resS_sig {ρ : Env} {σ σ' : Nat → Value} {β : Nat → Nat} {res : List Sh} {n : Nat} (hσ : ∀ l, n ≤ l → l < n + (shCells res).length → σ' l = σ l) : (resS n res).val ρ σ' β = (resS n res).val ρ σ β := by
  have key : ∀ (cs : List CK) (n : Nat), (∀ l, n ≤ l → l < n + cs.length → σ' l = σ l) → (resCs n cs).map (CV.val ρ σ' β) = (resCs n cs).map (CV.val ρ σ β) := by
    intro cs
    induction cs with
    | nil => intro n _; rfl
    | cons c cs ih =>
      intro n hc
      have h1 := ih (n + 1) (fun l h1 h2 => hc l (by omega) (by simp only [List.length_cons]; omega))
      have h0 := hc n (Nat.le_refl _) (by simp)
      simp only [resCs, List.map_cons, h1]
      congr 1
      cases c with
      | lst _ => simp only [resC, CV.val, h0]
      | int k => rfl
      | bool => rfl
      | str => rfl
  have keyT : ∀ (s : Sh) (n : Nat), (∀ l, n ≤ l → l < n + s.cells.length → σ' l = σ l) → (resT n s).val ρ σ' β = (resT n s).val ρ σ β := by
    intro s n hs
    cases s with
    | one c =>
      have := key [c] n hs
      simpa [resCs, resT, TV.val] using this
    | agg cs => simp only [resT, TV.val, key cs n hs]
  have keyTs : ∀ (ss : List Sh) (n : Nat), (∀ l, n ≤ l → l < n + (shCells ss).length → σ' l = σ l) → (resTs n ss).map (TV.val ρ σ' β) = (resTs n ss).map (TV.val ρ σ β) := by
    intro ss
    induction ss with
    | nil => intro n _; rfl
    | cons s ss ih =>
      intro n hc
      have h2 : (shCells (s :: ss)).length = s.cells.length + (shCells ss).length := by simp [shCells]
      rw [h2] at hc
      have e1 := ih (n + s.cells.length) (fun l h1 h2 => hc l (by omega) (by omega))
      have e2 := keyT s n (fun l h1 h2 => hc l h1 (by omega))
      simp only [resTs, List.map_cons, e1, e2]
  have h3 := keyTs res n hσ
  unfold resS
  cases res with
  | nil => rfl
  | cons s ss =>
    cases ss with
    | nil => simpa [resTs, SV.val] using h3
    | cons s2 ss => simpa [resTs, SV.val] using h3
/-- An operation's value looks at the old slices, and at its own. -/
theorem x_sig {k : Nat} {f : FS} {o : Oper} {r : FR} (h : At P sig ops st k f o r) {ρ : Env} {σ σ' : Nat → Value} {β : Nat → Nat} (h1 : ∀ l, l < st.n → σ' l = σ l) (h2 : ∀ l, f.st.n ≤ l → l < r.n → σ' l = σ l) : r.x.2.val ρ σ' β = r.x.2.val ρ σ β := by
  obtain ⟨g, hs⟩ := stepF_of h.2.2
  rcases hs.lowx with h3 | ⟨res, h3, h4⟩
  · rw [freeAt_n0 h.1] at h3
    exact svLow_val h1 h3
  · rw [h3]
    exact resS_sig (fun l h5 h6 => h2 l h5 (by omega))
/-- Cells that look at the old slices alone. -/
def SigIn (m : Nat) (cs : List CV) : Prop := ∀ (ρ : Env) (σ σ' : Nat → Value) (β : Nat → Nat), (∀ l, l < m → σ' l = σ l) → cs.map (CV.val ρ σ' β) = cs.map (CV.val ρ σ β)
theorem applyS_sigIn {m : Nat} {N : NB} {x : Nat × Nat × List CV} (hN : ∀ (i : Nat) (kd : Bool) (t : TypeId) (cs : List CV), N[i]? = some (kd, t, cs) → SigIn m cs) (hx : SigIn m x.2.2) : ∀ (i : Nat) (kd : Bool) (t : TypeId) (cs : List CV), (applyS N x)[i]? = some (kd, t, cs) → SigIn m cs := by
  intro i kd t cs h
  rw [applyS_get] at h
  split at h
  · rename_i t' old hi
    split at h
    · cases h
      intro ρ σ σ' β ha
      rw [layAt_map, layAt_map, hN i _ _ _ hi ρ σ σ' β ha, hx ρ σ σ' β ha]
    · cases h
      exact hN i _ _ _ hi
  · exact hN i _ _ _ h
theorem conts_sigIn {m : Nat} : ∀ (S : List (Nat × Nat × List CV)) {N : NB}, (∀ (i : Nat) (kd : Bool) (t : TypeId) (cs : List CV), N[i]? = some (kd, t, cs) → SigIn m cs) → (∀ x, x ∈ S → SigIn m x.2.2) → ∀ (i : Nat) (kd : Bool) (t : TypeId) (cs : List CV), (conts N S)[i]? = some (kd, t, cs) → SigIn m cs
  | [], _, hN, _ => hN
  | x :: S, N, hN, hS => conts_sigIn S (applyS_sigIn hN (hS x (List.mem_cons_self ..))) (fun y hy => hS y (List.mem_cons_of_mem _ hy))
theorem freeAt_sigIn : ∀ {k : Nat} {f : FS}, freeAt P sig ops st k = some f → (∀ (i : Nat) (kd : Bool) (t : TypeId) (cs : List CV), f.N[i]? = some (kd, t, cs) → SigIn st.n cs) ∧ ∀ x, x ∈ f.S → SigIn st.n x.2.2
  | 0, f, h => by
    simp only [freeAt, Option.some.injEq] at h
    subst h
    exact ⟨fun i kd t cs h => by simp at h, fun x hx => by simp at hx⟩
  | k + 1, f', h => by
    obtain ⟨f, o, r, hat, rfl⟩ := freeAt_succ h
    obtain ⟨h1, h2⟩ := freeAt_sigIn hat.1
    have hn0 := freeAt_n0 hat.1
    obtain ⟨g, hs⟩ := stepF_of hat.2.2
    rcases hs.kind with ⟨hst, _, _, _, e3, _, b, off, cs, t, old, _, _, hcs, _, e5⟩ | ⟨_, e1, hk⟩
    · refine ⟨fun i kd t cs hi => h1 i kd t cs (by rw [← e3]; exact hi), fun x hx => ?_⟩
      simp only [e5] at hx
      rcases List.mem_append.1 hx with hx | hx
      · exact h2 x hx
      · rw [List.mem_singleton.1 hx]
        have := (hs.sL hst).2 _ e5
        rw [hn0] at this
        exact fun ρ σ σ' β ha => cvsLow_val ha this
    · refine ⟨?_, fun x hx => h2 x (by simp only [e1] at hx; exact hx)⟩
      rcases x_kind hat with ⟨_, _, e3⟩ | ⟨kd, t, cs, v, e3, hcs, _⟩
      · intro i kd t cs hi
        exact h1 i kd t cs (by simp only [e3] at hi; exact hi)
      · intro i kd' t' cs' hi
        simp only [e3] at hi
        by_cases hlt : i < f.N.length
        · rw [List.getElem?_append_left hlt] at hi; exact h1 i _ _ _ hi
        · rw [List.getElem?_append_right (by omega)] at hi
          have : i - f.N.length = 0 := by
            have := lt_of_get hi
            simp at this; omega
          rw [this] at hi
          simp at hi
          obtain ⟨_, _, rfl⟩ := hi
          have := (hs.lowN _ _ _ e3).1
          rw [hn0] at this
          exact fun ρ σ σ' β ha => cvsLow_val ha this
/-- Where something is stored, no slice comes back. -/
theorem store_noR {j k : Nat} {f f1 : FS} {o o1 : Oper} {r r1 : FR} (h : At P sig ops st j f o r) (hst : isStore o = true) (h1 : At P sig ops st k f1 o1 r1) : r1.R = [] := by
  obtain ⟨g, hs⟩ := stepF_of h.2.2
  obtain ⟨g1, hs1⟩ := stepF_of h1.2.2
  rcases Nat.lt_trichotomy j k with hlt | hlt | hlt
  · apply Classical.byContradiction
    intro hne
    have e := hs1.rS hne
    obtain ⟨_, ⟨M, hM⟩, _⟩ := freeAt_mono (freeAt_of h) h1.1 (by omega)
    rcases hs.kind with ⟨_, _, _, _, _, _, b, off, cs, t, old, _, _, _, _, e5⟩ | ⟨hn, _⟩
    · simp only at hM
      rw [e, e5] at hM
      have := congrArg List.length hM
      simp at this
    · rw [hst] at hn; cases hn
  · subst hlt
    obtain ⟨rfl, rfl, rfl⟩ := At_same h h1
    rcases hs.rR with h3 | ⟨res, h3, _⟩
    · exact h3
    · rcases hs.kind with ⟨_, _, e1, _⟩ | ⟨hn, _⟩
      · rw [e1] at h3
        exact absurd (congrArg Prod.snd h3).symm (resS_ne _ _)
      · rw [hst] at hn; cases hn
  · have hL := (hs.sL hst).1
    apply Classical.byContradiction
    intro hne
    obtain ⟨p, hp⟩ := List.exists_mem_of_ne_nil _ hne
    have : p ∈ f.L := by
      have mono : ∀ {m : Nat} {F : FS}, freeAt P sig ops st m = some F → k + 1 ≤ m → p ∈ F.L := by
        intro m
        induction m with
        | zero => intro F _ hkm; omega
        | succ m ih =>
          intro F hF hkm
          obtain ⟨f2, o2, r2, hat2, rfl⟩ := freeAt_succ hF
          by_cases hkm2 : k = m
          · subst hkm2
            obtain ⟨rfl, rfl, rfl⟩ := At_same h1 hat2
            exact List.mem_append.2 (.inr hp)
          · exact List.mem_append.2 (.inl (ih hat2.1 (by omega)))
      exact mono h.1 (by omega)
    rw [hL] at this
    simp at this
end
end Go.Vg

/- Such a region does what its run says, whichever order is drawn. -/
namespace Go.Vg
open Go.RowKit
set_option linter.unusedVariables false
set_option linter.unusedSimpArgs false

section
variable {P : Program} {G : World → Prop} {sig : List (Nat × List Sh × List Sh)} {Γ : Cx} {W : World} {ops : Array Oper} {st : St} {F : FS}
variable {ρ : Env} {σ : Nat → Value} {β : Nat → Nat} {a0 : Act} {w0 : World}

theorem alloc_at : ∀ {m : Nat} {F : FS}, freeAt P sig ops st m = some F → ∀ i, i < F.N.length → ∃ k f o r, k < m ∧ At P sig ops st k f o r ∧ f.N.length = i ∧ r.N.length = f.N.length + 1
  | 0, F, h, i, hi => by
    simp only [freeAt, Option.some.injEq] at h
    subst h
    simp at hi
  | m + 1, F', h, i, hi => by
    obtain ⟨f, o, r, hat, rfl⟩ := freeAt_succ h
    by_cases hif : i < f.N.length
    · obtain ⟨k, f1, o1, r1, hk, h1⟩ := alloc_at hat.1 i hif
      exact ⟨k, f1, o1, r1, by omega, h1⟩
    · rcases x_kind hat with ⟨_, _, e3⟩ | ⟨kd, t, cs, v, e3, _⟩
      · simp only [e3] at hi; omega
      · simp only [e3] at hi
        simp at hi
        exact ⟨m, f, o, r, Nat.lt_succ_self m, hat, by omega, by rw [e3]; simp⟩
theorem store_at : ∀ {m : Nat} {F : FS}, freeAt P sig ops st m = some F → ∀ q, q < F.S.length → ∃ k f o r, k < m ∧ At P sig ops st k f o r ∧ isStore o = true ∧ f.S.length = q
  | 0, F, h, q, hq => by
    simp only [freeAt, Option.some.injEq] at h
    subst h
    simp at hq
  | m + 1, F', h, q, hq => by
    obtain ⟨f, o, r, hat, rfl⟩ := freeAt_succ h
    by_cases hqf : q < f.S.length
    · obtain ⟨k, f1, o1, r1, hk, h1⟩ := store_at hat.1 q hqf
      exact ⟨k, f1, o1, r1, by omega, h1⟩
    · obtain ⟨g, hs⟩ := stepF_of hat.2.2
      rcases hs.kind with ⟨hst, _, _, _, _, _, b, off, cs, t, old, _, _, _, _, e5⟩ | ⟨_, e1, _⟩
      · simp only [e5] at hq
        simp at hq
        exact ⟨m, f, o, r, Nat.lt_succ_self m, hat, hst, by omega⟩
      · simp only [e1] at hq; omega

theorem its_step {f : FS} {o : Oper} {r : FR} (h : freeStep P sig ops f o = some r) (ρ' : Env) : agree f.st.n ρ' (itsEnv Γ r.its ρ') := by
  obtain ⟨g, hs⟩ := stepF_of h
  rcases hs.kind with ⟨_, _, _, _, _, e, _⟩ | ⟨_, _, ⟨c, args, res, _, _, _, _, _, _, e⟩ | ⟨v, obs, _, _, _, _, _, _, e⟩ | ⟨t, cs, v, v', kd, _, _, _, _, _, _, _, e⟩⟩
  · rw [e]; exact agree_refl _ _
  · rw [e]; exact agree_push _ _ _
  · rw [e, env_ob]; exact agree_refl _ _
  · rw [e]; exact agree_refl _ _
theorem its_prefix {k m : Nat} {f F : FS} (hk : freeAt P sig ops st k = some f) (hm : freeAt P sig ops st m = some F) (hkm : k ≤ m) :
    (∃ rest, F.its = f.its ++ rest) ∧ agree f.st.n (itsEnv Γ f.its ρ) (itsEnv Γ F.its ρ) := by
  induction m generalizing F with
  | zero =>
    have : k = 0 := by omega
    subst this
    rw [hk] at hm; cases hm
    exact ⟨⟨[], by simp⟩, agree_refl _ _⟩
  | succ m ih =>
    by_cases hk' : k = m + 1
    · subst hk'
      rw [hk] at hm; cases hm
      exact ⟨⟨[], by simp⟩, agree_refl _ _⟩
    · obtain ⟨f', o, r, hat, rfl⟩ := freeAt_succ hm
      obtain ⟨⟨rest, e1⟩, e2⟩ := ih hat.1 (by omega)
      refine ⟨⟨rest ++ r.its, by simp only [e1, List.append_assoc]⟩, ?_⟩
      show agree f.st.n _ (itsEnv Γ (f'.its ++ r.its) ρ)
      rw [itsEnv_append]
      exact agree_trans e2 (its_step hat.2.2 _) (freeAt_mono hk hat.1 (by omega)).2.2
theorem its_at {m : Nat} (hF : freeAt P sig ops st m = some F) (hits : itsHold Γ F.its ρ) {k : Nat} (hk : k < m) {f : FS} {o : Oper} {r : FR} (h : At P sig ops st k f o r) :
    itsHold Γ r.its (itsEnv Γ f.its ρ) ∧ agree r.n (itsEnv Γ r.its (itsEnv Γ f.its ρ)) (itsEnv Γ F.its ρ) ∧ agree f.st.n (itsEnv Γ f.its ρ) (itsEnv Γ F.its ρ) := by
  have h1 := freeAt_of h
  obtain ⟨⟨rest, e1⟩, e2⟩ := its_prefix (Γ := Γ) (ρ := ρ) h1 hF (by omega)
  rw [e1] at hits
  obtain ⟨h2, _⟩ := itsHold_append hits
  obtain ⟨_, h3⟩ := itsHold_append h2
  refine ⟨h3, ?_, (its_prefix (Γ := Γ) (ρ := ρ) h.1 hF (by omega)).2⟩
  have e3 : agree r.n (itsEnv Γ (f.its ++ r.its) ρ) (itsEnv Γ F.its ρ) := e2
  rwa [itsEnv_append] at e3

theorem resCs_scp {M : Nat} : ∀ (cs : List CK) (n N : Nat), n + cs.length ≤ N → (resCs n cs).all (CV.scp N M) = true
  | [], _, _, _ => rfl
  | c :: cs, n, N, h => by
    simp only [List.length_cons] at h
    have h1 : Nat.blt n N = true := by unfold Nat.blt; exact Nat.ble_eq_true_of_le (by omega)
    simp only [resCs, List.all_cons, resCs_scp cs (n + 1) N (by omega), Bool.and_true]
    cases c <;> simp only [resC, CV.scp, Ex.scp, h1]
theorem resS_scp {M : Nat} (res : List Sh) (n : Nat) : (resS n res).scp (n + (shCells res).length) M = true := by
  have hT : ∀ (ss : List Sh) (n N : Nat), n + (shCells ss).length ≤ N → (resTs n ss).all (TV.scp N M) = true := by
    intro ss
    induction ss with
    | nil => intro n N _; rfl
    | cons s ss ih =>
      intro n N h
      have e : (shCells (s :: ss)).length = s.cells.length + (shCells ss).length := by simp [shCells]
      rw [e] at h
      simp only [resTs, List.all_cons, ih (n + s.cells.length) N (by omega), Bool.and_true]
      cases s with
      | one c => exact resCs_scp [c] n N (by simp [Sh.cells] at h ⊢; omega)
      | agg cs => exact resCs_scp cs n N (by simp only [Sh.cells] at h; omega)
  have h := hT res n _ (Nat.le_refl _)
  unfold resS
  split
  · rename_i x hx
    rw [hx] at h
    simpa [SV.scp] using h
  · exact h
theorem resS_sigma {res : List Sh} (hl : hasLst (shCells res) = false) (n : Nat) (ρ : Env) (σ σ' : Nat → Value) (β : Nat → Nat) : (resS n res).val ρ σ β = (resS n res).val ρ σ' β := by
  have key : ∀ (cs : List CK) (n : Nat), hasLst cs = false → (resCs n cs).map (CV.val ρ σ β) = (resCs n cs).map (CV.val ρ σ' β) := by
    intro cs
    induction cs with
    | nil => intro n _; rfl
    | cons c cs ih =>
      intro n hc
      simp only [hasLst, List.any_cons, Bool.or_eq_false_iff] at hc
      cases c with
      | lst _ => simp at hc
      | int k => simp only [resCs, List.map_cons, ih (n + 1) hc.2]; rfl
      | bool => simp only [resCs, List.map_cons, ih (n + 1) hc.2]; rfl
      | str => simp only [resCs, List.map_cons, ih (n + 1) hc.2]; rfl
  have keyT : ∀ (s : Sh) (n : Nat), hasLst s.cells = false → (resT n s).val ρ σ β = (resT n s).val ρ σ' β := by
    intro s n hs
    cases s with
    | one c =>
      have := key [c] n hs
      simpa [resCs, resT, TV.val] using this
    | agg cs => simp only [resT, TV.val, key cs n hs]
  have keyTs : ∀ (ss : List Sh) (n : Nat), hasLst (shCells ss) = false → (resTs n ss).map (TV.val ρ σ β) = (resTs n ss).map (TV.val ρ σ' β) := by
    intro ss
    induction ss with
    | nil => intro n _; rfl
    | cons s ss ih =>
      intro n hc
      have : hasLst s.cells = false ∧ hasLst (shCells ss) = false := by
        have h2 : shCells (s :: ss) = s.cells ++ shCells ss := by simp [shCells]
        rw [h2] at hc
        simpa [hasLst] using hc
      simp only [resTs, List.map_cons, keyT s n this.1, ih _ this.2]
  have h3 := keyTs res n hl
  unfold resS
  cases res with
  | nil => rfl
  | cons s ss =>
    cases ss with
    | nil => simpa [resTs, SV.val] using h3
    | cons s2 ss => simpa [resTs, SV.val] using h3

/-! ### New blocks behind the old ones -/

theorem WOk.extend {w : World} {O M : List (TypeId × List CV)} {L : List (Nat × List EK)} (hw : WOk W ρ σ β O L w0) (hb : Below w0.heap.size w0 w)
    (h1 : ∀ (i : Nat) t cs, M[i]? = some (t, cs) → w.heap[β (O.length + i)]? = some (.cells (cs.map (CV.val ρ σ β)).toArray t (0, 0)))
    (h2 : ∀ i, i < M.length → w0.heap.size ≤ β (O.length + i)) (h3 : ∀ i j, i < M.length → j < M.length → β (O.length + i) = β (O.length + j) → i = j) : WOk W ρ σ β (O ++ M) L w := by
  have hw' := hw.call hb
  have split : ∀ k, k < (O ++ M).length → k < O.length ∨ ∃ i, i < M.length ∧ k = O.length + i := fun k hk => by
    by_cases h : k < O.length
    · exact .inl h
    · exact .inr ⟨k - O.length, by simp at hk; omega, by omega⟩
  refine ⟨hw'.below, fun k t cs hk => ?_, fun j k hj hk e => ?_, fun k hk => ?_, fun p hp => ?_, fun l T K hm he => ?_, hw'.sep⟩
  · rcases split k (lt_of_get hk) with h | ⟨i, hi, rfl⟩
    · rw [List.getElem?_append_left h] at hk; exact hw'.own k t cs hk
    · rw [List.getElem?_append_right (by omega), Nat.add_sub_cancel_left] at hk; exact h1 i t cs hk
  · rcases split j hj with hj' | ⟨i, hi, rfl⟩ <;> rcases split k hk with hk' | ⟨i', hi', rfl⟩
    · exact hw'.inj j k hj' hk' e
    · have := own_lt hw hj'; have := h2 i' hi'; omega
    · have := own_lt hw hk'; have := h2 i hi; omega
    · rw [h3 i i' hi hi' e]
  · rcases split k hk with h | ⟨i, hi, rfl⟩
    · exact hw'.ge k h
    · exact Nat.le_trans hw.below.size (h2 i hi)
  · have hr := hw'.lists p hp
    obtain ⟨base, cap, e1, e2⟩ := hr
    refine ⟨base, cap, e1, ?_⟩
    rcases e2 with e2 | ⟨ad, e3, e4, e5, e6⟩
    · exact .inl e2
    · by_cases hl0 : (ρ p.1).lv.len = 0
      · exact .inl hl0
      · refine .inr ⟨ad, e3, e4, ⟨e5.1, fun k hk => ?_⟩, e6⟩
        rcases split k hk with h | ⟨i, hi, rfl⟩
        · exact e5.2 k h
        · intro e
          obtain ⟨base', cap', f1, f2⟩ := hw.lists p hp
          rcases f2 with f2 | ⟨ad', f3, _, f5, _⟩
          · exact hl0 f2
          · rw [f1] at e1
            cases e1
            rw [f3] at e3
            cases e3
            have := f5.1; have := h2 i hi; omega
  · obtain ⟨g1, g2⟩ := hw'.gro l T K hm he
    refine ⟨g1, fun k hk => ?_⟩
    rcases split k hk with h | ⟨i, hi, rfl⟩
    · exact g2 k h
    · intro e
      have := ((hw.gro l T K hm he).1.lt _ e).2
      have := h2 i hi
      omega

/-! ### What holds, whatever has come up -/

structure InvB (P : Program) (sig : List (Nat × List Sh × List Sh)) (ops : Array Oper) (st : St) (F : FS) (ρs : Env) (σ : Nat → Value) (β : Nat → Nat) (a0 : Act) (w0 : World)
    (β' : Nat → Nat) (s : Nat) (listed : Array Bool) (a : Act) (w : World) : Prop where
  lsize : listed.size = ops.size
  asize : a.tmps.size = st.nt
  defers : a.defers = []
  init : ∀ t, (∀ (j : Nat) (o : Oper), ops[j]? = some o → o.dst ≠ some t) → a.tmps.getD t undef = a0.tmps.getD t undef
  slot : ∀ j f o r d, At P sig ops st j f o r → listed.getD j false = true → o.dst = some d → d < st.nt → SlotOk ρs σ β' r.x (a.tmps.getD d undef)
  mem : Below w0.heap.size w0 w
  blk : ∀ j f o r kd t cs, At P sig ops st j f o r → r.N.length = f.N.length + 1 → listed.getD j false = true → (conts F.N (F.S.take s))[f.N.length]? = some (kd, t, cs) →
    w.heap[β' (st.own.length + f.N.length)]? = some (.cells (cs.map (CV.val ρs σ β')).toArray t (0, 0))
  ge : ∀ j f o r, At P sig ops st j f o r → r.N.length = f.N.length + 1 → listed.getD j false = true → w0.heap.size ≤ β' (st.own.length + f.N.length)
  lt : ∀ j f o r, At P sig ops st j f o r → r.N.length = f.N.length + 1 → listed.getD j false = true → β' (st.own.length + f.N.length) < w.heap.size
  inj : ∀ j f o r j' f' o' r', At P sig ops st j f o r → r.N.length = f.N.length + 1 → listed.getD j false = true → At P sig ops st j' f' o' r' → r'.N.length = f'.N.length + 1 → listed.getD j' false = true →
    β' (st.own.length + f.N.length) = β' (st.own.length + f'.N.length) → f.N.length = f'.N.length
  sto : ∀ j f o r, At P sig ops st j f o r → isStore o = true → (listed.getD j false = true ↔ f.S.length < s)
  agr : agree st.own.length β β'
  closed : ∀ (j : Nat) (o : Oper), ops[j]? = some o → listed.getD j false = true → ∀ e, e ∈ o.after → Region.binds .any e = true → listed.getD e.on false = true
  lst : ∀ j f o r, At P sig ops st j f o r → listed.getD j false = true → Gd.holds ρs r.x.1 → ∀ p, p ∈ r.R → reads w 0 β0 p.2 (ρs p.1).lv (σ p.1)

open Classical in
noncomputable def slotVal (ρ : Env) (σ : Nat → Value) (β : Nat → Nat) (x : Gd × SV) : Value := if Gd.holds ρ x.1 then x.2.val ρ σ β else undef
theorem slotVal_ok {x : Gd × SV} : SlotOk ρ σ β x (slotVal ρ σ β x) := by
  unfold slotVal SlotOk
  by_cases h : Gd.holds ρ x.1
  · rw [if_pos h]; exact .inr (.inl ⟨h, rfl⟩)
  · rw [if_neg h]; exact .inr (.inr ⟨h, rfl⟩)

/-- The slots, with all that is to come up ahead of number k filled in. -/
noncomputable def fill (P : Program) (sig : List (Nat × List Sh × List Sh)) (ops : Array Oper) (st : St) (ρs : Env) (σ : Nat → Value) (β' : Nat → Nat) (listed : Array Bool) (a : Act) : Nat → Act
  | 0 => a
  | k + 1 => if listed.getD k false = true then fill P sig ops st ρs σ β' listed a k else match freeAt P sig ops st k, ops[k]? with
    | some f, some o => match freeStep P sig ops f o with
      | some r => (fill P sig ops st ρs σ β' listed a k).put o.dst (slotVal ρs σ β' r.x)
      | none => fill P sig ops st ρs σ β' listed a k
    | _, _ => fill P sig ops st ρs σ β' listed a k

variable {ρs : Env} {β' : Nat → Nat} {s : Nat} {listed : Array Bool} {a : Act} {w : World}

theorem fill_at {k : Nat} {f : FS} {o : Oper} {r : FR} (h : At P sig ops st k f o r) :
    fill P sig ops st ρs σ β' listed a (k + 1) = if listed.getD k false = true then fill P sig ops st ρs σ β' listed a k else (fill P sig ops st ρs σ β' listed a k).put o.dst (slotVal ρs σ β' r.x) := by
  obtain ⟨h1, h2, h3⟩ := h
  simp only [fill, h1, h2, h3]

theorem put_get_ne {a : Act} {dst : Option Tmp} {v : Value} {t : Nat} (h : dst ≠ some t) : (a.put dst v).tmps.getD t undef = a.tmps.getD t undef := by
  cases dst with
  | none => rfl
  | some d =>
    simp only [Act.put]
    rw [Array.getD_eq_getD_getElem?, Array.getD_eq_getD_getElem?, Array.getElem?_setIfInBounds_ne (fun e => h (by rw [e]))]
theorem put_get_eq {a : Act} {d : Tmp} {v : Value} (h : d < a.tmps.size) : (a.put (some d) v).tmps.getD d undef = v := by
  simp only [Act.put]
  rw [Array.getD_eq_getD_getElem?, Array.getElem?_setIfInBounds_self_of_lt h]
  rfl
theorem put_size {a : Act} {dst : Option Tmp} {v : Value} : (a.put dst v).tmps.size = a.tmps.size := by
  cases dst <;> simp [Act.put]
theorem put_defers {a : Act} {dst : Option Tmp} {v : Value} : (a.put dst v).defers = a.defers := by
  cases dst <;> rfl

/-- A slot that bears the value already. -/
theorem TOk.put_same {f : St} {ρ : Env} {σ : Nat → Value} {β : Nat → Nat} {a : Act} (hT : TOk ρ σ β f a) {dst : Option Tmp} {x : Gd × SV} (h : ∀ d, dst = some d → d < f.nt → SlotOk ρ σ β x (a.tmps.getD d undef)) : TOk ρ σ β (f.put dst x) a := by
  have hnt : (f.put dst x).nt = f.nt ∧ (f.put dst x).pc = f.pc := by
    cases dst with
    | none => exact ⟨rfl, rfl⟩
    | some d => simp only [St.put]; split <;> exact ⟨rfl, rfl⟩
  refine ⟨by rw [hnt.1]; exact hT.size, fun t g sv ht => ?_, hT.defers, by rw [hnt.2]; exact hT.pc⟩
  rcases getT_put ht with ⟨h1, h2, h3⟩ | ⟨_, h2⟩
  · have := h t h1 h2
    rw [← h3] at this
    exact this
  · exact hT.slot t g sv h2

theorem fill_get (hl : lexFast ops ops.size = true) : ∀ {k j : Nat} {oj : Oper} {d : Tmp}, ops[j]? = some oj → oj.dst = some d → k ≤ j → (fill P sig ops st ρs σ β' listed a k).tmps.getD d undef = a.tmps.getD d undef
  | 0, _, _, _, _, _, _ => rfl
  | k + 1, j, oj, d, hj, hd, hk => by
    have ih := fill_get hl hj hd (show k ≤ j by omega)
    unfold fill
    split
    · exact ih
    · split
      · rename_i f o _ ho
        split
        · rw [put_get_ne (fun e => ?_)]
          · exact ih
          · have := lex_dst hl ho hj e hd
            omega
        · exact ih
      · exact ih

theorem fill_tok (hl : lexFast ops ops.size = true) (hF : freeAt P sig ops st ops.size = some F) (hT0 : TOk ρs σ β' st a0) (hI : InvB P sig ops st F ρs σ β a0 w0 β' s listed a w) :
    ∀ {k : Nat} {f : FS}, freeAt P sig ops st k = some f → k ≤ ops.size → TOk ρs σ β' f.st (fill P sig ops st ρs σ β' listed a k)
  | 0, f, h, _ => by
    simp only [freeAt, Option.some.injEq] at h
    subst h
    refine ⟨hI.asize, fun t g sv ht => ?_, hI.defers, hT0.pc⟩
    rcases freeAt_slots (P := P) (sig := sig) (ops := ops) (st := st) (k := 0) rfl t (g, sv) ht with ⟨h1, h2⟩ | ⟨j, _, _, _, hj, _⟩
    · show SlotOk ρs σ β' (g, sv) (a.tmps.getD t undef)
      rw [hI.init t h2]
      exact hT0.slot t g sv h1
    · omega
  | k + 1, f', h, hk => by
    obtain ⟨f, o, r, hat, rfl⟩ := freeAt_succ h
    have ih := fill_tok hl hF hT0 hI hat.1 (by omega)
    rw [fill_at hat]
    have hnt := (freeAt_base hat.1).2.2.1
    by_cases hlk : listed.getD k false = true
    · rw [if_pos hlk]
      have := ih.put_same (dst := o.dst) (x := r.x) (fun d hd hdn => by
        rw [fill_get hl hat.2.1 hd (Nat.le_refl k)]
        exact hI.slot k f o r d hat hlk hd (by rw [← hnt]; exact hdn))
      exact ⟨this.size, this.slot, this.defers, this.pc⟩
    · rw [if_neg hlk]
      have := ih.put o.dst (g := r.x.1) (sv := r.x.2) (v := slotVal ρs σ β' r.x) slotVal_ok
      exact ⟨this.size, this.slot, this.defers, this.pc⟩

theorem fill_exec (hl : lexFast ops ops.size = true) {j : Nat} {oj : Oper} (hj : ops[j]? = some oj) (hr : j ∈ Region.ready .any ops listed) : ∀ {k : Nat}, k ≤ j →
    execOp (fill P sig ops st ρs σ β' listed a k).eval oj = execOp a.eval oj ∧ Region.wanted oj (yielded ops (fill P sig ops st ρs σ β' listed a k).tmps) = Region.wanted oj (yielded ops a.tmps)
  | 0, _ => ⟨rfl, rfl⟩
  | k + 1, hk => by
    have ih := fill_exec hl hj hr (show k ≤ j by omega)
    unfold fill
    split
    · exact ih
    · rename_i hlk
      split
      · rename_i f o _ ho
        split
        · have hno : ∀ d, o.dst = some d → d ∉ oj.looksAt ops := fun d hd hm => by
            obtain ⟨e, he, hb, h1⟩ := lex_looks hl hj ho hm hd
            obtain ⟨_, o', ho', hall⟩ := mem_ready.1 hr
            rw [hj] at ho'; cases ho'
            have := hall e he hb
            rw [h1] at this
            exact hlk this
          have hns := Region.noSelect_spec (lexFast_spec hl).1
          rw [execOp_put oj (fun cs b => hns j oj cs b hj) _ o.dst _ hno, wanted_put oj _ o.dst _ hno]
          exact ih
        · exact ih
      · exact ih

theorem getD_set {listed : Array Bool} {j k : Nat} (hj : j < listed.size) : (listed.setIfInBounds j true).getD k false = if k = j then true else listed.getD k false := by
  by_cases h : k = j
  · subst h
    rw [if_pos rfl, Array.getD_eq_getD_getElem?, Array.getElem?_setIfInBounds_self_of_lt hj]
    rfl
  · rw [if_neg h, getD_set_ne false (Ne.symm h)]
end
end Go.Vg

/- Each operation that comes up keeps what holds; at the end all is as the run says. -/
namespace Go.Vg
open Go.RowKit
set_option linter.unusedVariables false
set_option linter.unusedSimpArgs false

section
variable {P : Program} {G : World → Prop} {sig : List (Nat × List Sh × List Sh)} {Γ : Cx} {W : World} {ops : Array Oper} {st : St} {F : FS}
variable {ρ : Env} {σ : Nat → Value} {β : Nat → Nat} {a0 : Act} {w0 : World}

theorem opnd_tmp {s : St} {g : Gd} {x : Operand} {y : TV} (h : s.opnd g x = some (.tv y)) : (∃ t gd, x = .tmp t ∧ getT s.tmps t = some (gd, .tv y)) ∨ (∀ b n, ¬ (CV.osl b n ∈ y.cells ∨ CV.ptr b n ∈ y.cells)) := by
  unfold St.opnd at h
  cases x with
  | tmp t =>
    simp only at h
    split at h
    · rename_i gd sv ht
      split at h
      · cases h; exact .inl ⟨t, gd, rfl, ht⟩
      · split at h
        · cases h; exact .inl ⟨t, gd, rfl, ht⟩
        · cases h
    · cases h
  | const v =>
    right
    have hc : ∀ (v : Value) (c : CV), CV.ofCell v = some c → ∀ b n, ¬ (c = .osl b n ∨ c = .ptr b n) := by
      intro v c hv b n hbn
      unfold CV.ofCell at hv
      split at hv <;> cases hv <;> simp at hbn
    simp only [SV.ofConst] at h
    intro b n hm
    split at h
    · rename_i cs
      split at h
      · rename_i l hl
        cases h
        have key : ∀ (l : List Value) (r : List CV), mapO CV.ofCell l = some r → ∀ c, c ∈ r → ¬ (c = .osl b n ∨ c = .ptr b n) := by
          intro l
          induction l with
          | nil => intro r hr c hc; simp only [mapO, Option.some.injEq] at hr; subst hr; simp at hc
          | cons v l ih =>
            intro r hr c hcm
            simp only [mapO] at hr
            cases hx : CV.ofCell v with
            | none => simp [hx] at hr
            | some b' =>
              cases hl' : mapO CV.ofCell l with
              | none => simp [hx, hl'] at hr
              | some bs =>
                simp only [hx, hl', Option.some.injEq] at hr
                subst hr
                rcases List.mem_cons.1 hcm with e | e
                · rw [e]; exact hc v b' hx b n
                · exact ih bs hl' c e
        rcases hm with hm | hm
        · exact key _ _ hl _ hm (.inl rfl)
        · exact key _ _ hl _ hm (.inr rfl)
      · cases h
    · split at h
      · rename_i c hcc
        cases h
        have := hc _ _ hcc b n
        simp only [TV.cells, List.mem_singleton] at hm
        exact this (hm.imp Eq.symm Eq.symm)
      · cases h
  | global _ => cases h
  | func _ => cases h

theorem least_nat' {p : Nat → Prop} (h : ∃ n, p n) : ∃ n, p n ∧ ∀ m, p m → n ≤ m := by
  obtain ⟨n, hn⟩ := h
  induction n using Nat.strongRecOn with
  | _ n ih =>
    by_cases hm : ∃ m, m < n ∧ p m
    · obtain ⟨m, h1, h2⟩ := hm
      exact ih m h1 h2
    · exact ⟨n, hn, fun m h1 => by
        rcases Nat.lt_or_ge m n with h2 | h2
        · exact absurd ⟨m, h2, h1⟩ hm
        · exact h2⟩
theorem ax_agree {n m : Nat} {ρ ρ' : Env} (h : agree n ρ ρ') {x : Ax} (hx : x.scp n m = true) : x.ev ρ' = x.ev ρ := by
  cases x with
  | i e => simp only [Ax.ev]; rw [int_agree h hx]
  | b e => simp only [Ax.ev]; rw [bool_agree h hx]
  | l k => simp only [Ax.ev]; rw [h k (blt_lt hx)]
  | c w y cs =>
    simp only [Ax.scp, Bool.and_eq_true] at hx
    simp only [Ax.ev]
    have hi : ∀ c, c ∈ cs → CV.intv ρ' c = CV.intv ρ c ∧ CV.boolv ρ' c = CV.boolv ρ c := fun c hc => by
      have := List.all_eq_true.1 hx.2 c hc
      cases c <;> simp only [CV.scp] at this <;> simp only [CV.intv, CV.boolv, and_self, and_true, true_and]
      · exact int_agree h this
      · exact bool_agree h this
    have hg : ∀ (j : Nat), CV.intv ρ' (cs.getD j .nilp) = CV.intv ρ (cs.getD j .nilp) ∧ CV.boolv ρ' (cs.getD j .nilp) = CV.boolv ρ (cs.getD j .nilp) := fun j => by
      rw [List.getD_eq_getElem?_getD]
      cases hj : cs[j]? with
      | none => exact ⟨rfl, rfl⟩
      | some c => exact hi c (List.mem_of_getElem? hj)
    unfold cellsLV
    congr 2
    · funext i c; exact (hg _).1
    · funext i c; exact (hg _).2
theorem call_operand {c0 : Call} {x : Operand} (hx : x ∈ c0.args.toList) : x ∈ c0.operands := by
  unfold Call.operands
  have : x ∈ c0.args := by simpa using hx
  cases c0.callee <;> simp [this]

/-- The new block that an operand names was made by an operation that is waited for. -/
theorem slot_blocks (hl : lexFast ops ops.size = true) (hscp : st.scp st.n = true) {j : Nat} {f : FS} {o : Oper} {r : FR} (hat : At P sig ops st j f o r) {g : Gd} {x : Operand} (hx : x ∈ o.op.operands.toList) {y : TV}
    (hy : f.st.opnd g x = some (.tv y)) {b n : Nat} (hb : CV.osl b n ∈ y.cells ∨ CV.ptr b n ∈ y.cells) :
    b < st.own.length ∨ ∃ k f1 o1 r1 kd t cs, k < j ∧ At P sig ops st k f1 o1 r1 ∧ r1.N = f1.N ++ [(kd, t, cs)] ∧ b = st.own.length + f1.N.length ∧ (CV.osl b n ∈ y.cells → kd = true) ∧
      (∃ e, e ∈ o.after ∧ Region.binds .any e = true ∧ e.on = k) := by
  rcases opnd_tmp hy with ⟨t, gd, rfl, ht⟩ | hno
  · rcases freeAt_slots hat.1 t _ ht with ⟨h1, _⟩ | ⟨k, f1, o1, r1, hk, hat1, hd, _, hx1⟩
    · left
      obtain ⟨h4, _, _, _⟩ := st_scp hscp
      have h5 := (h4 (t, (gd, .tv y)) (getT_mem h1)).2
      have hall : ∀ c, c ∈ y.cells → CV.scp st.n st.own.length c = true := List.all_eq_true.1 (by simpa [SV.scp, TV.scp] using h5)
      rcases hb with hb | hb
      · have := hall _ hb; exact blt_lt this
      · have := hall _ hb; exact blt_lt this
    · have hedge : ∃ e, e ∈ o.after ∧ Region.binds .any e = true ∧ e.on = k := by
        refine lex_looks hl hat.2.1 hat1.2.1 (t := t) ?_ hd
        unfold Oper.looksAt
        rw [List.mem_append]
        exact .inl (List.mem_filterMap.2 ⟨.tmp t, hx, rfl⟩)
      rcases x_kind hat1 with ⟨_, h6, _⟩ | ⟨kd, ty, cs, v, e3, _, hv⟩
      · left
        exact h6 y (by rw [hx1]) b n hb
      · right
        rw [hx1] at hv
        simp only at hv
        rcases newV_spec hv with ⟨_, e5, e6⟩ | ⟨len, _, e5, e6⟩
        · cases e5
          simp only [TV.cells, List.mem_singleton, CV.ptr.injEq, reduceCtorEq, false_or] at hb
          exact ⟨k, f1, o1, r1, kd, ty, cs, hk, hat1, e3, hb.1, fun h => by simp [TV.cells] at h, hedge⟩
        · cases e5
          simp only [TV.cells, List.mem_singleton, CV.osl.injEq, reduceCtorEq, or_false] at hb
          exact ⟨k, f1, o1, r1, kd, ty, cs, hk, hat1, e3, hb.1, fun _ => e6, hedge⟩
  · exact absurd hb (hno b n)

theorem step_store {s : St} {g : Gd} {o : Oper} {b off : Nat} {cs : List CV} (hst : isStore o = true) (h : stepOp P sig s g o = some (.store b off cs)) : ∃ x, x ∈ o.op.operands.toList ∧ s.opnd g x = some (.tv (.one (.ptr b off))) := by
  unfold isStore at hst
  split at hst
  · rename_i t x y ho
    simp only [stepOp, ho] at h
    split at h
    · rename_i b' off' cs' s' hx hy hs
      split at h
      · split at h
        · cases h
          refine ⟨x, by rw [ho]; simp [Op.operands], ?_⟩
          unfold St.cell at hx
          split at hx
          · rename_i c hc; cases hx; exact hc
          · cases hx
        · cases h
      · cases h
    · cases h
  · cases hst

theorem alloc_uniq {j k : Nat} {f f1 : FS} {o o1 : Oper} {r r1 : FR} (h : At P sig ops st j f o r) (h1 : At P sig ops st k f1 o1 r1) (hj : r.N.length = f.N.length + 1) (hk : r1.N.length = f1.N.length + 1) (e : f.N.length = f1.N.length) : j = k := by
  rcases Nat.lt_trichotomy j k with hlt | hlt | hlt
  · obtain ⟨⟨M, hM⟩, _, _⟩ := freeAt_mono (freeAt_of h) h1.1 (by omega)
    have := congrArg List.length hM
    simp only [List.length_append] at this
    omega
  · exact hlt
  · obtain ⟨⟨M, hM⟩, _, _⟩ := freeAt_mono (freeAt_of h1) h.1 (by omega)
    have := congrArg List.length hM
    simp only [List.length_append] at this
    omega
theorem store_S {j : Nat} {f : FS} {o : Oper} {r : FR} (h : At P sig ops st j f o r) (hst : isStore o = true) : r.S.length = f.S.length + 1 := by
  obtain ⟨g, hs⟩ := stepF_of h.2.2
  rcases hs.kind with ⟨_, _, _, _, _, _, b, off, cs, t, old, _, _, _, _, e5⟩ | ⟨hn, _⟩
  · rw [e5]; simp
  · rw [hst] at hn; cases hn
theorem store_uniq {j k : Nat} {f f1 : FS} {o o1 : Oper} {r r1 : FR} (h : At P sig ops st j f o r) (h1 : At P sig ops st k f1 o1 r1) (hj : isStore o = true) (hk : isStore o1 = true) (e : f.S.length = f1.S.length) : j = k := by
  have e1 := store_S h hj
  have e2 := store_S h1 hk
  rcases Nat.lt_trichotomy j k with hlt | hlt | hlt
  · obtain ⟨_, ⟨M, hM⟩, _⟩ := freeAt_mono (freeAt_of h) h1.1 (by omega)
    have := congrArg List.length hM
    simp only [List.length_append] at this
    omega
  · exact hlt
  · obtain ⟨_, ⟨M, hM⟩, _⟩ := freeAt_mono (freeAt_of h1) h.1 (by omega)
    have := congrArg List.length hM
    simp only [List.length_append] at this
    omega

theorem noNew_of {j : Nat} {f : FS} {o : Oper} {r : FR} (hat : At P sig ops st j f o r) (hF : freeAt P sig ops st ops.size = some F) {kd : Bool} {t : TypeId} {cs : List CV} (hN : r.N = f.N ++ [(kd, t, cs)]) : NoNew st.own.length cs :=
  (freeAt_noNew (freeAt_of hat)).1 f.N.length kd t cs (by show r.N[f.N.length]? = _; rw [hN, List.getElem?_append_right (Nat.le_refl _), Nat.sub_self]; rfl)

variable {ρs : Env} {β' : Nat → Nat} {s : Nat} {listed : Array Bool} {a : Act} {w : World}

/-- An operation that makes no block and stores nothing. -/
theorem InvB.quiet (hI : InvB P sig ops st F ρs σ β a0 w0 β' s listed a w) (hl : lexFast ops ops.size = true) {j : Nat} {f : FS} {o : Oper} {r : FR} (hat : At P sig ops st j f o r) (hr : j ∈ Region.ready .any ops listed)
    (hN : r.N.length ≠ f.N.length + 1) (hst : isStore o = false) {u : Value} (hu : SlotOk ρs σ β' r.x u) {w' : World} (hw' : Below w.heap.size w w') (hR : Gd.holds ρs r.x.1 → ∀ p, p ∈ r.R → reads w' 0 β0 p.2 (ρs p.1).lv (σ p.1)) :
    InvB P sig ops st F ρs σ β a0 w0 β' s (listed.setIfInBounds j true) (a.put o.dst u) w' := by
  have hjl : j < listed.size := by rw [hI.lsize]; exact get_lt hat.2.1
  have hg := fun k => getD_set (k := k) hjl
  have ne : ∀ {k f1 o1 r1}, At P sig ops st k f1 o1 r1 → r1.N.length = f1.N.length + 1 → k ≠ j := fun h1 hn e => by
    subst e
    obtain ⟨rfl, rfl, rfl⟩ := At_same hat h1
    exact hN hn
  refine ⟨by simp [hI.lsize], by rw [put_size]; exact hI.asize, by rw [put_defers]; exact hI.defers, fun t ht => ?_, fun k f1 o1 r1 d h1 hk hd hdn => ?_, hI.mem.trans (hw'.mono hI.mem.size), fun k f1 o1 r1 kd t cs h1 hn hk hc => ?_, fun k f1 o1 r1 h1 hn hk => ?_, fun k f1 o1 r1 h1 hn hk => ?_,
    fun k f1 o1 r1 k' f2 o2 r2 h1 hn hk h2 hn' hk' e => ?_, fun k f1 o1 r1 h1 hs1 => ?_, hI.agr, fun k o1 ho1 hk e he hb => ?_, fun k f1 o1 r1 h1 hk hgd p hp => ?_⟩
  · rw [put_get_ne (ht j o hat.2.1)]; exact hI.init t ht
  · rw [hg] at hk
    by_cases hkj : k = j
    · subst hkj
      obtain ⟨rfl, rfl, rfl⟩ := At_same hat h1
      rw [hd, put_get_eq (by rw [hI.asize]; exact hdn)]
      exact hu
    · rw [if_neg hkj] at hk
      rw [put_get_ne (fun e => hkj (lex_dst hl h1.2.1 hat.2.1 hd e))]
      exact hI.slot k f1 o1 r1 d h1 hk hd hdn
  · rw [hg, if_neg (ne h1 hn)] at hk
    rw [hw'.block _ (hI.lt k f1 o1 r1 h1 hn hk)]
    exact hI.blk k f1 o1 r1 kd t cs h1 hn hk hc
  · rw [hg, if_neg (ne h1 hn)] at hk; exact hI.ge k f1 o1 r1 h1 hn hk
  · rw [hg, if_neg (ne h1 hn)] at hk; exact Nat.lt_of_lt_of_le (hI.lt k f1 o1 r1 h1 hn hk) hw'.size
  · rw [hg, if_neg (ne h1 hn)] at hk
    rw [hg, if_neg (ne h2 hn')] at hk'
    exact hI.inj k f1 o1 r1 k' f2 o2 r2 h1 hn hk h2 hn' hk' e
  · have hkj : k ≠ j := fun e => by
      subst e
      obtain ⟨rfl, rfl, rfl⟩ := At_same hat h1
      rw [hst] at hs1; cases hs1
    rw [hg, if_neg hkj]
    exact hI.sto k f1 o1 r1 h1 hs1
  · rw [hg] at hk ⊢
    by_cases hkj : k = j
    · subst hkj
      obtain ⟨_, o', ho', hall⟩ := mem_ready.1 hr
      rw [ho1] at ho'; cases ho'
      split
      · rfl
      · exact hall e he hb
    · rw [if_neg hkj] at hk
      split
      · rfl
      · exact hI.closed k o1 ho1 hk e he hb
  · rw [hg] at hk
    by_cases hkj : k = j
    · subst hkj
      obtain ⟨rfl, rfl, rfl⟩ := At_same hat h1
      exact hR hgd p hp
    · rw [if_neg hkj] at hk
      exact reads_below (hI.lst k f1 o1 r1 h1 hk hgd p hp) hw'

/-- An operation that makes a block. -/
theorem InvB.alloc (hI : InvB P sig ops st F ρs σ β a0 w0 β' s listed a w) (hl : lexFast ops ops.size = true) (hscp : st.scp st.n = true) (hF : freeAt P sig ops st ops.size = some F) {j : Nat} {f : FS} {o : Oper} {r : FR}
    (hat : At P sig ops st j f o r) (hr : j ∈ Region.ready .any ops listed) (hst : isStore o = false)
    {kd : Bool} {t : TypeId} {cs : List CV} {v : SV} (hN : r.N = f.N ++ [(kd, t, cs)]) (hv : newV st.own.length (st.own.length + f.N.length) v = some (r.x.2, kd)) (hx1 : r.x.1 = []) :
    ∃ β'', (∀ k, k ≠ st.own.length + f.N.length → β'' k = β' k) ∧ β'' (st.own.length + f.N.length) = w.heap.size ∧
      InvB P sig ops st F ρs σ β a0 w0 β'' s (listed.setIfInBounds j true) (a.put o.dst (r.x.2.val ρs σ β'')) (w.alloc (.cells (cs.map (CV.val ρs σ β')).toArray t)) := by
  have hjl : j < listed.size := by rw [hI.lsize]; exact get_lt hat.2.1
  have hjun : listed.getD j false = false := by
    have := (mem_ready.1 hr).1
    rw [Array.getD, dif_pos hjl] at this
    rw [Array.getD, dif_pos hjl, this]
  have hg := fun k => getD_set (k := k) hjl
  have hNl : r.N.length = f.N.length + 1 := by rw [hN]; simp
  let β'' : Nat → Nat := fun k => if k = st.own.length + f.N.length then w.heap.size else β' k
  have hb1 : ∀ k, k ≠ st.own.length + f.N.length → β'' k = β' k := fun k hk => by simp [β'', hk]
  have hb2 : β'' (st.own.length + f.N.length) = w.heap.size := by simp [β'']
  have hagr : agree st.own.length β' β'' := fun k hk => hb1 k (by omega)
  have other : ∀ {k f1 o1 r1}, At P sig ops st k f1 o1 r1 → r1.N.length = f1.N.length + 1 → k ≠ j → f1.N.length ≠ f.N.length := fun h1 hn hkj e => hkj (alloc_uniq h1 hat hn hNl e)
  have noNew := conts_noNew (m := st.own.length) (F.S.take s) (N := F.N) (freeAt_noNew hF).1 (fun x hx => (freeAt_noNew hF).2 x (List.mem_of_mem_take hx))
  refine ⟨β'', hb1, hb2, by simp [hI.lsize], by rw [put_size]; exact hI.asize, by rw [put_defers]; exact hI.defers, fun t ht => ?_, fun k f1 o1 r1 d h1 hk hd hdn => ?_, hI.mem.alloc hI.mem.size _, fun k f1 o1 r1 kd' t' cs' h1 hn hk hc => ?_, fun k f1 o1 r1 h1 hn hk => ?_, fun k f1 o1 r1 h1 hn hk => ?_,
    fun k f1 o1 r1 k' f2 o2 r2 h1 hn hk h2 hn' hk' e => ?_, fun k f1 o1 r1 h1 hs1 => ?_, agree_trans hI.agr hagr (Nat.le_refl _), fun k o1 ho1 hk e he hb => ?_, fun k f1 o1 r1 h1 hk hgd p hp => ?_⟩
  · rw [put_get_ne (ht j o hat.2.1)]; exact hI.init t ht
  · rw [hg] at hk
    by_cases hkj : k = j
    · subst hkj
      obtain ⟨rfl, rfl, rfl⟩ := At_same hat h1
      rw [hd, put_get_eq (by rw [hI.asize]; exact hdn)]
      exact .inr (.inl ⟨by rw [hx1]; exact holds_nil' ρs, rfl⟩)
    · rw [if_neg hkj] at hk
      rw [put_get_ne (fun e => hkj (lex_dst hl h1.2.1 hat.2.1 hd e))]
      have h2 := hI.slot k f1 o1 r1 d h1 hk hd hdn
      have hval : r1.x.2.val ρs σ β'' = r1.x.2.val ρs σ β' := by
        rcases x_kind h1 with ⟨h3, _⟩ | ⟨kd1, t1, cs1, v1, e3, _, hv1⟩
        · exact h3 ρs σ β' β'' hagr
        · have hne := other h1 (by rw [e3]; simp) hkj
          rcases newV_spec hv1 with ⟨_, e5, _⟩ | ⟨len, _, e5, _⟩
          · rw [e5]; simp only [SV.val, TV.val, CV.val]; rw [hb1 _ (by omega)]
          · rw [e5]; simp only [SV.val, TV.val, CV.val]; rw [hb1 _ (by omega)]
      unfold SlotOk at *
      rw [hval]
      exact h2
  · rw [hg] at hk
    by_cases hkj : k = j
    · subst hkj
      obtain ⟨rfl, rfl, rfl⟩ := At_same hat h1
      have hun : ∀ x, x ∈ F.S.take s → x.1 ≠ f.N.length := by
        intro x hx e
        obtain ⟨q, hq1, hq2⟩ := List.getElem_of_mem hx
        simp only [List.length_take] at hq1
        obtain ⟨k2, f2, o2, r2, hk2, h2, hst2, hq3⟩ := store_at hF q (by omega)
        have hlk2 := (hI.sto k2 f2 o2 r2 h2 hst2).2 (by omega)
        obtain ⟨g2, hs2⟩ := stepF_of h2.2.2
        rcases hs2.kind with ⟨_, _, _, _, _, _, b, off, cs2, t2, old, hstep, hble, _, hget, e5⟩ | ⟨hn2, _⟩
        · obtain ⟨_, ⟨M, hM⟩, _⟩ := freeAt_mono (freeAt_of h2) hF (by omega)
          simp only at hM
          have hxq : F.S[q]? = some (b - f2.st.own.length, off, cs2) := by
            rw [hM, e5, List.append_assoc, List.getElem?_append_right (by omega), hq3, Nat.sub_self]
            rfl
          rw [List.getElem_take] at hq2
          rw [List.getElem?_eq_getElem (by omega)] at hxq
          rw [← hq2, Option.some.inj hxq] at e
          simp only at e
          obtain ⟨xo, hxo, hopn⟩ := step_store hst2 hstep
          have hopn' : f2.st.opnd g2 xo = some (.tv (.one (.ptr b off))) := hopn
          have hb2' := (freeAt_base h2.1).1
          rcases slot_blocks hl hscp h2 hxo hopn' (b := b) (n := off) (.inr (by simp [TV.cells])) with hlt | ⟨k3, f3, o3, r3, kd3, t3, cs3, hk3, h3, e31, e32, _, e33⟩
          · rw [hb2'] at hble; omega
          · have : f3.N.length = f.N.length := by rw [hb2'] at e; omega
            have hk3j : k3 = k := alloc_uniq h3 hat (by rw [e31]; simp) hNl this
            obtain ⟨ed, he, hbn, heo⟩ := e33
            have := hI.closed k2 o2 h2.2.1 hlk2 ed he hbn
            rw [heo, hk3j, hjun] at this
            cases this
        · rw [hst2] at hn2; cases hn2
      have hFN : F.N[f.N.length]? = some (kd, t, cs) := by
        obtain ⟨⟨M, hM⟩, _, _⟩ := freeAt_mono (freeAt_of hat) hF (by have := get_lt hat.2.1; omega)
        simp only at hM
        rw [hM, hN, List.append_assoc, List.getElem?_append_right (Nat.le_refl _), Nat.sub_self]
        rfl
      rw [conts_untouched _ hun, hFN] at hc
      cases hc
      rw [hb2, noNew_of hat hF hN ρs σ β' β'' hagr]
      show (w.heap.push _)[w.heap.size]? = _
      rw [Array.getElem?_push, if_pos rfl]
    · rw [if_neg hkj] at hk
      have hne := other h1 hn hkj
      rw [hb1 _ (by omega), noNew _ _ _ _ hc ρs σ β' β'' hagr, Below.heap_alloc _ _ _ (hI.lt k f1 o1 r1 h1 hn hk)]
      exact hI.blk k f1 o1 r1 kd' t' cs' h1 hn hk hc
  · rw [hg] at hk
    by_cases hkj : k = j
    · subst hkj
      obtain ⟨rfl, rfl, rfl⟩ := At_same hat h1
      rw [hb2]; exact hI.mem.size
    · rw [if_neg hkj] at hk
      rw [hb1 _ (by have := other h1 hn hkj; omega)]
      exact hI.ge k f1 o1 r1 h1 hn hk
  · rw [hg] at hk
    have hsz : (w.alloc (.cells (cs.map (CV.val ρs σ β')).toArray t)).heap.size = w.heap.size + 1 := by simp
    by_cases hkj : k = j
    · subst hkj
      obtain ⟨rfl, rfl, rfl⟩ := At_same hat h1
      rw [hb2, hsz]; omega
    · rw [if_neg hkj] at hk
      rw [hb1 _ (by have := other h1 hn hkj; omega), hsz]
      have := hI.lt k f1 o1 r1 h1 hn hk
      omega
  · rw [hg] at hk hk'
    by_cases hkj : k = j
    · subst hkj
      obtain ⟨rfl, rfl, rfl⟩ := At_same hat h1
      by_cases hkj' : k' = k
      · subst hkj'
        obtain ⟨rfl, rfl, rfl⟩ := At_same hat h2
        rfl
      · rw [if_neg hkj'] at hk'
        rw [hb2, hb1 _ (by have := other h2 hn' hkj'; omega)] at e
        have := hI.lt k' f2 o2 r2 h2 hn' hk'
        omega
    · rw [if_neg hkj] at hk
      by_cases hkj' : k' = j
      · subst hkj'
        obtain ⟨rfl, rfl, rfl⟩ := At_same hat h2
        rw [hb2, hb1 _ (by have := other h1 hn hkj; omega)] at e
        have := hI.lt k f1 o1 r1 h1 hn hk
        omega
      · rw [if_neg hkj'] at hk'
        rw [hb1 _ (by have := other h1 hn hkj; omega), hb1 _ (by have := other h2 hn' hkj'; omega)] at e
        exact hI.inj k f1 o1 r1 k' f2 o2 r2 h1 hn hk h2 hn' hk' e
  · have hkj : k ≠ j := fun e => by
      subst e
      obtain ⟨rfl, rfl, rfl⟩ := At_same hat h1
      rw [hst] at hs1; cases hs1
    rw [hg, if_neg hkj]
    exact hI.sto k f1 o1 r1 h1 hs1
  · rw [hg] at hk ⊢
    by_cases hkj : k = j
    · subst hkj
      obtain ⟨_, o', ho', hall⟩ := mem_ready.1 hr
      rw [ho1] at ho'; cases ho'
      split
      · rfl
      · exact hall e he hb
    · rw [if_neg hkj] at hk
      split
      · rfl
      · exact hI.closed k o1 ho1 hk e he hb
  · rw [hg] at hk
    by_cases hkj : k = j
    · subst hkj
      obtain ⟨rfl, rfl, rfl⟩ := At_same hat h1
      obtain ⟨g1, hs1⟩ := stepF_of hat.2.2
      rw [(hs1.lowN _ _ _ hN).2] at hp
      simp at hp
    · rw [if_neg hkj] at hk
      exact reads_below (hI.lst k f1 o1 r1 h1 hk hgd p hp) ((Below.refl w.heap.size w).alloc (Nat.le_refl _) _)

/-- A store to a new block. -/
theorem InvB.store (hI : InvB P sig ops st F ρs σ β a0 w0 β' s listed a w) (hl : lexFast ops ops.size = true) (ho : storeOrd ops = true) (hscp : st.scp st.n = true) (hF : freeAt P sig ops st ops.size = some F) {j : Nat} {f : FS} {o : Oper} {r : FR}
    (hat : At P sig ops st j f o r) (hr : j ∈ Region.ready .any ops listed) {g : Gd} {b off : Nat} {cs old : List CV} {t : TypeId} (hst : isStore o = true) (hx : r.x = (g, .any)) (hN : r.N = f.N)
    (hstep : stepOp P sig { f.st with own := f.st.own ++ blks (conts f.N f.S) } g o = some (.store b off cs)) (hble : f.st.own.length ≤ b) (hget : (conts f.N f.S)[b - f.st.own.length]? = some (false, t, old)) (hS : r.S = f.S ++ [(b - f.st.own.length, off, cs)]) :
    w.heap[β' b]? = some (.cells (old.map (CV.val ρs σ β')).toArray t (0, 0)) ∧
      InvB P sig ops st F ρs σ β a0 w0 β' (s + 1) (listed.setIfInBounds j true) (a.put o.dst undef) (w.setRow (β' b) ((layAt old off cs).map (CV.val ρs σ β')).toArray) := by
  have hjl : j < listed.size := by rw [hI.lsize]; exact get_lt hat.2.1
  have hjs := get_lt hat.2.1
  have hjun : listed.getD j false = false := by
    have := (mem_ready.1 hr).1
    rw [Array.getD, dif_pos hjl] at this
    rw [Array.getD, dif_pos hjl, this]
  have hg := fun k => getD_set (k := k) hjl
  obtain ⟨_, o', ho', hall⟩ := mem_ready.1 hr
  rw [hat.2.1] at ho'; cases ho'
  obtain ⟨b1, _, _, _, _, b6⟩ := freeAt_base hat.1
  rw [b1] at hble hget hS
  have ne : ∀ {k f1 o1 r1}, At P sig ops st k f1 o1 r1 → r1.N.length = f1.N.length + 1 → k ≠ j := fun h1 hn e => by
    subst e
    obtain ⟨rfl, rfl, rfl⟩ := At_same hat h1
    rw [hN] at hn
    omega
  -- the block
  obtain ⟨xo, hxo, hopn⟩ := step_store hst hstep
  have hopn' : f.st.opnd g xo = some (.tv (.one (.ptr b off))) := hopn
  obtain ⟨k3, f3, o3, r3, kd3, t3, cs3, hk3, h3, e31, e32, _, ed, he, hbn, heo⟩ : ∃ k f1 o1 r1 kd t cs, k < j ∧ At P sig ops st k f1 o1 r1 ∧ r1.N = f1.N ++ [(kd, t, cs)] ∧ b = st.own.length + f1.N.length ∧ (CV.osl b off ∈ (TV.one (.ptr b off)).cells → kd = true) ∧
      (∃ e, e ∈ o.after ∧ Region.binds .any e = true ∧ e.on = k) := by
    rcases slot_blocks hl hscp hat hxo hopn' (b := b) (n := off) (.inr (by simp [TV.cells])) with hlt | h
    · omega
    · exact h
  have hl3 : listed.getD k3 false = true := by rw [← heo]; exact hall ed he hbn
  have hi : b - st.own.length = f3.N.length := by omega
  rw [hi] at hget hS
  -- how many stores came up
  have hsr : s = f.S.length := by
    have h1 : ¬ f.S.length < s := fun h => by
      have := (hI.sto j f o r hat hst).2 h
      rw [hjun] at this; cases this
    by_cases h0 : f.S.length = 0
    · omega
    · obtain ⟨k4, f4, o4, r4, hk4, h4, hst4, hq4⟩ := store_at hat.1 (f.S.length - 1) (by omega)
      obtain ⟨e4, he4, hb4, ho4⟩ := storeOrd_spec ho h4.2.1 hat.2.1 hk4 hst4 hst
      have := (hI.sto k4 f4 o4 r4 h4 hst4).1 (by rw [← ho4]; exact hall e4 he4 hb4)
      omega
  obtain ⟨⟨MN, hMN⟩, ⟨MS, hMS⟩, _⟩ := freeAt_mono (freeAt_of hat) hF (by omega)
  simp only at hMN hMS
  rw [hN] at hMN
  rw [hS, List.append_assoc] at hMS
  have htake : F.S.take s = f.S := by rw [hMS, hsr]; exact List.take_left
  have htake1 : F.S.take (s + 1) = f.S ++ [(f3.N.length, off, cs)] := by
    rw [hMS, ← List.append_assoc]
    have : s + 1 = (f.S ++ [(f3.N.length, off, cs)]).length := by simp [hsr]
    rw [this]; exact List.take_left
  have hconts : (conts F.N (F.S.take s))[f3.N.length]? = some (false, t, old) := by
    rw [htake, hMN, conts_append _ _ _ b6, List.getElem?_append_left (lt_of_get hget)]
    exact hget
  have hheap := hI.blk k3 f3 o3 r3 false t old h3 (by rw [e31]; simp) hl3 hconts
  rw [← e32] at hheap
  have hge := hI.ge k3 f3 o3 r3 h3 (by rw [e31]; simp) hl3
  rw [← e32] at hge
  refine ⟨hheap, by simp [hI.lsize], by rw [put_size]; exact hI.asize, by rw [put_defers]; exact hI.defers, fun t ht => ?_, fun k f1 o1 r1 d h1 hk hd hdn => ?_, below_setRow hI.mem hge _, fun k f1 o1 r1 kd' t' cs' h1 hn hk hc => ?_, fun k f1 o1 r1 h1 hn hk => ?_, fun k f1 o1 r1 h1 hn hk => ?_,
    fun k f1 o1 r1 k' f2 o2 r2 h1 hn hk h2 hn' hk' e => ?_, fun k f1 o1 r1 h1 hs1 => ?_, hI.agr, fun k o1 ho1 hk e he hb => ?_, fun k f1 o1 r1 h1 hk hgd p hp => (by rw [store_noR hat hst h1] at hp; simp at hp)⟩
  · rw [put_get_ne (ht j o hat.2.1)]; exact hI.init t ht
  · rw [hg] at hk
    by_cases hkj : k = j
    · subst hkj
      obtain ⟨rfl, rfl, rfl⟩ := At_same hat h1
      rw [hx]
      exact .inl rfl
    · rw [if_neg hkj] at hk
      rw [put_get_ne (fun e => hkj (lex_dst hl h1.2.1 hat.2.1 hd e))]
      exact hI.slot k f1 o1 r1 d h1 hk hd hdn
  · have hkj := ne h1 hn
    rw [hg, if_neg hkj] at hk
    rw [htake1, conts_snoc, ← htake, applyS_get] at hc
    simp only at hc
    by_cases hkk : f1.N.length = f3.N.length
    · have hkk3 : k = k3 := alloc_uniq h1 h3 hn (by rw [e31]; simp) hkk
      rw [hkk, hconts] at hc
      simp only [if_true, Option.some.injEq, Prod.mk.injEq] at hc
      obtain ⟨_, rfl, rfl⟩ := hc
      rw [hkk, ← e32]
      exact setRow_heap w (β' b) _ _ _ _ hheap
    · have hc' : (conts F.N (F.S.take s))[f1.N.length]? = some (kd', t', cs') := by
        cases hN1 : (conts F.N (F.S.take s))[f1.N.length]? with
        | none => rw [hN1] at hc; cases hc
        | some y =>
          rw [hN1] at hc
          obtain ⟨kdy, ty, oy⟩ := y
          cases kdy with
          | true => exact hc
          | false => simp only [if_neg hkk] at hc; exact hc
      rw [setRow_other w (β' b) _ _ (fun e => hkk (hI.inj k f1 o1 r1 k3 f3 o3 r3 h1 hn hk h3 (by rw [e31]; simp) hl3 (by rw [e, e32])))]
      exact hI.blk k f1 o1 r1 kd' t' cs' h1 hn hk hc'
  · have hkj := ne h1 hn
    rw [hg, if_neg hkj] at hk; exact hI.ge k f1 o1 r1 h1 hn hk
  · have hkj := ne h1 hn
    rw [hg, if_neg hkj] at hk; rw [size_setRow]; exact hI.lt k f1 o1 r1 h1 hn hk
  · have hkj := ne h1 hn
    have hkj' := ne h2 hn'
    rw [hg, if_neg hkj] at hk
    rw [hg, if_neg hkj'] at hk'
    exact hI.inj k f1 o1 r1 k' f2 o2 r2 h1 hn hk h2 hn' hk' e
  · rw [hg]
    by_cases hkj : k = j
    · subst hkj
      obtain ⟨rfl, rfl, rfl⟩ := At_same hat h1
      rw [if_pos rfl]
      exact ⟨fun _ => by omega, fun _ => rfl⟩
    · rw [if_neg hkj, hI.sto k f1 o1 r1 h1 hs1]
      have : f1.S.length ≠ s := fun e => hkj (store_uniq h1 hat hs1 hst (by omega))
      omega
  · rw [hg] at hk ⊢
    by_cases hkj : k = j
    · subst hkj
      rw [hat.2.1] at ho1; cases ho1
      split
      · rfl
      · exact hall e he hb
    · rw [if_neg hkj] at hk
      split
      · rfl
      · exact hI.closed k o1 ho1 hk e he hb

/-- Another choice of the slices that an operation is to give, ahead of its coming up. -/
theorem InvB.resig (hI : InvB P sig ops st F ρs σ β a0 w0 β' s listed a w) (hF : freeAt P sig ops st ops.size = some F) {j : Nat} {f : FS} {o : Oper} {r : FR} (hat : At P sig ops st j f o r) (hju : listed.getD j false = false) {σ' : Nat → Value}
    (hσ : ∀ l, l < f.st.n ∨ r.n ≤ l → σ' l = σ l) : InvB P sig ops st F ρs σ' β a0 w0 β' s listed a w := by
  have ne : ∀ {k}, listed.getD k false = true → j ≠ k := fun hk e => by rw [e, hk] at hju; cases hju
  have hst0 := (freeAt_base hat.1).2.2.2.2.1
  have hlow : ∀ l, l < st.n → σ' l = σ l := fun l hl => hσ l (.inl (by omega))
  have hown : ∀ {k f1 o1 r1}, At P sig ops st k f1 o1 r1 → listed.getD k false = true → ∀ l, f1.st.n ≤ l → l < r1.n → σ' l = σ l := fun h1 hk l h2 h3 => by
    rcases At_apart hat h1 (ne hk) with h | h
    · exact hσ l (.inr (by omega))
    · exact hσ l (.inl (by omega))
  have hsig := conts_sigIn (m := st.n) (F.S.take s) (N := F.N) (freeAt_sigIn hF).1 (fun x hx => (freeAt_sigIn hF).2 x (List.mem_of_mem_take hx))
  refine ⟨hI.lsize, hI.asize, hI.defers, hI.init, fun k f1 o1 r1 d h1 hk hd hdn => ?_, hI.mem, fun k f1 o1 r1 kd t cs h1 hn hk hc => ?_, hI.ge, hI.lt, hI.inj, hI.sto, hI.agr, hI.closed, fun k f1 o1 r1 h1 hk hgd p hp => ?_⟩
  · have h2 := hI.slot k f1 o1 r1 d h1 hk hd hdn
    unfold SlotOk at *
    rw [x_sig h1 hlow (hown h1 hk)]
    exact h2
  · rw [hsig _ _ _ _ hc ρs σ σ' β' hlow]
    exact hI.blk k f1 o1 r1 kd t cs h1 hn hk hc
  · obtain ⟨h2, h3⟩ := R_rng h1 hp
    rw [hown h1 hk p.1 h2 h3]
    exact hI.lst k f1 o1 r1 h1 hk hgd p hp

theorem resS_lst {n l : Nat} {res : List Sh} (h : SV.tv (.one (.lst l)) = resS n res) : n ≤ l ∧ l < n + (shCells res).length := by
  cases res with
  | nil => unfold resS at h; simp [resTs] at h
  | cons s ss =>
    cases ss with
    | nil =>
      unfold resS at h
      simp only [resTs, SV.tv.injEq] at h
      cases s with
      | agg cs => simp [resT] at h
      | one c =>
        simp only [resT, TV.one.injEq] at h
        cases c with
        | lst ek => simp only [resC, CV.lst.injEq] at h; subst h; simp [shCells, Sh.cells]
        | int k => simp [resC] at h
        | bool => simp [resC] at h
        | str => simp [resC] at h
    | cons s2 ss => unfold resS at h; simp [resTs] at h

/-- The new slice that an operand names came back from an operation that is waited for. -/
theorem slot_list (hl : lexFast ops ops.size = true) (hscp : st.scp st.n = true) {j : Nat} {f : FS} {o : Oper} {r : FR} (hat : At P sig ops st j f o r) {g : Gd} {x : Operand} (hx : x ∈ o.op.operands.toList) {l : Nat}
    (hy : f.st.opnd g x = some (.tv (.one (.lst l)))) {p : Nat × List EK} (hp : p ∈ f.L) (hpl : p.1 = l) {ρ : Env} (hpc : Gd.holds ρ f.st.pc) (hg : Gd.holds ρ g) :
    ∃ k f1 o1 r1, k < j ∧ At P sig ops st k f1 o1 r1 ∧ p ∈ r1.R ∧ Gd.holds ρ r1.x.1 ∧ (∃ e, e ∈ o.after ∧ Region.binds .any e = true ∧ e.on = k) := by
  obtain ⟨k', f', o', r', hk', hat', hpR⟩ := freeAt_L hat.1 p hp
  obtain ⟨h1, h2⟩ := R_rng hat' hpR
  have h0 := (freeAt_base hat'.1).2.2.2.2.1
  have hslot : ∃ t gd, x = .tmp t ∧ getT f.st.tmps t = some (gd, .tv (.one (.lst l))) ∧ Gd.holds ρ gd := by
    unfold St.opnd at hy
    cases x with
    | tmp t =>
      simp only at hy
      split at hy
      · rename_i gd sv ht
        split at hy
        · rename_i hin
          cases hy
          exact ⟨t, gd, rfl, ht, gdIn_holds hin hg⟩
        · split at hy
          · rename_i hin
            cases hy
            exact ⟨t, gd, rfl, ht, gdAll_holds hpc hg hin⟩
          · cases hy
      · cases hy
    | const v =>
      exfalso
      simp only [SV.ofConst] at hy
      split at hy
      · split at hy <;> cases hy
      · split at hy
        · rename_i c hc
          cases hy
          unfold CV.ofCell at hc
          split at hc <;> cases hc
        · cases hy
    | global _ => cases hy
    | func _ => cases hy
  obtain ⟨t, gd, rfl, ht, hgd⟩ := hslot
  rcases freeAt_slots hat.1 t _ ht with ⟨h3, _⟩ | ⟨k, f1, o1, r1, hk, hat1, hd, _, hx1⟩
  · exfalso
    obtain ⟨h4, _, _, _⟩ := st_scp hscp
    have h5 := (h4 (t, (gd, .tv (.one (.lst l)))) (getT_mem h3)).2
    simp only [SV.scp, TV.scp, TV.cells, List.all_cons, List.all_nil, Bool.and_true, CV.scp] at h5
    have := blt_lt h5
    omega
  · have hedge : ∃ e, e ∈ o.after ∧ Region.binds .any e = true ∧ e.on = k := by
      refine lex_looks hl hat.2.1 hat1.2.1 (t := t) ?_ hd
      unfold Oper.looksAt
      rw [List.mem_append]
      exact .inl (List.mem_filterMap.2 ⟨.tmp t, hx, rfl⟩)
    obtain ⟨g1, hs1⟩ := stepF_of hat1.2.2
    rcases hs1.lowx with h3 | ⟨res, h3, h4⟩
    · exfalso
      rw [hx1, freeAt_n0 hat1.1] at h3
      simp only [svLow, TV.cells, List.all_cons, List.all_nil, Bool.and_true, cvLow] at h3
      have := blt_lt h3
      omega
    · rw [hx1] at h3
      obtain ⟨h5, h6⟩ := resS_lst h3
      have hkk : k = k' := by
        apply Classical.byContradiction
        intro hne
        rcases At_apart hat1 hat' hne with h | h <;> omega
      subst hkk
      obtain ⟨rfl, rfl, rfl⟩ := At_same hat1 hat'
      exact ⟨k, f1, o1, r1, hk, hat1, hpR, by rw [hx1]; exact hgd, hedge⟩

theorem lenNew_spec {f : FS} {g : Gd} {o : Oper} {l : Nat} (h : lenNew P f g o = some l) : ∃ c0 t x el, o.op = .call c0 ∧ c0.callee = .builtin .len ∧ c0.argTypes.toList = [t] ∧ c0.args.toList = [x] ∧ P.underlying t = some (.slice el) ∧
    f.st.opnd g x = some (.tv (.one (.lst l))) ∧ ∃ p, p ∈ f.L ∧ p.1 = l := by
  unfold lenNew at h
  split at h
  · rename_i c ho
    split at h
    · rename_i hc
      split at h
      · rename_i t x ht hx
        split at h
        · rename_i el l' hu hcell
          split at h
          · rename_i hh
            cases h
            simp only [Bool.and_eq_true, List.any_eq_true] at hh
            obtain ⟨⟨p, hp, hb⟩, _⟩ := hh
            refine ⟨c, t, x, el, ho, hc, ht, hx, hu, ?_, p, hp, (Nat.eq_of_beq_eq_true hb).symm⟩
            unfold St.cell at hcell
            split at hcell
            · rename_i c' hc'
              cases hcell
              exact hc'
            · cases hcell
          · cases h
        · cases h
      · cases h
    · cases h
  · cases h
theorem len_run {c0 : Call} {t el : TypeId} {x : Operand} {o : Oper} {ac : Act} {base : Option Addr} {n cap : Nat} (ho : o.op = .call c0) (hb : c0.callee = .builtin .len) (ht : c0.argTypes.toList = [t]) (hx0 : c0.args.toList = [x])
    (hu : P.underlying t = some (.slice el)) (hxv : ac.eval x = .slice base n cap) (w : World) : (execOp ac.eval o).run P w = .ok (.value (.int .i64 n)) w := by
  have h1 : c0.argTypes = #[t] := by rw [← Array.toArray_toList (xs := c0.argTypes), ht]
  have h2 : c0.args = #[x] := by rw [← Array.toArray_toList (xs := c0.args), hx0]
  simp [execOp, ho, hb, h1, h2, resolve, invoke, builtin, Builtin.len_, run_underlying hu, hxv, goInt]

/-- Whichever comes up. -/
theorem free_step (hst : Stable G) (hG : G W) (hΓ : SigOk P G sig Γ) (hl : lexFast ops ops.size = true) (ho : storeOrd ops = true) (hscp : st.scp st.n = true) (hF : freeAt P sig ops st ops.size = some F) (hits : itsHold Γ F.its ρ)
    {σ0 : Nat → Value} (hT0 : TOk ρ σ0 β st a0) (hw0 : WOk W ρ σ0 β st.own st.lists w0) (hσ0 : agree st.n σ0 σ) {Q : Exit → Act → World → Prop} {j : Nat} (hr : j ∈ Region.ready .any ops listed) (hI : InvB P sig ops st F (itsEnv Γ F.its ρ) σ β a0 w0 β' s listed a w) :
    wpOp P ops Q j (fun a' w' => ∃ β'' s' σ'', agree st.n σ0 σ'' ∧ InvB P sig ops st F (itsEnv Γ F.its ρ) σ'' β a0 w0 β'' s' (listed.setIfInBounds j true) a' w') a w := by
  obtain ⟨_, o, hoj, hall⟩ := mem_ready.1 hr
  have hjs := get_lt hoj
  obtain ⟨f, o', r, hat⟩ := At_of hF hjs
  have : o = o' := by have := hat.2.1; rw [hoj] at this; exact Option.some.inj this
  subst this
  have hag0 : agree st.n ρ (itsEnv Γ F.its ρ) := by
    have := (its_prefix (Γ := Γ) (ρ := ρ) (k := 0) (f := _) rfl hF (Nat.zero_le _)).2
    exact this
  obtain ⟨hi1, hag2, hag1⟩ := its_at hF hits hjs hat
  generalize hρs : itsEnv Γ F.its ρ = ρs at *
  have hT0' : TOk ρs σ β' st a0 := hT0.agree hscp hag0 hσ0 hI.agr
  obtain ⟨_, sc2, sc3, _⟩ := st_scp hscp
  have hW0 : WOk W ρs σ β' st.own st.lists w0 := hw0.agree sc2 sc3 hag0 hσ0 hI.agr
  have hWw := hW0.call hI.mem
  have hTf := fill_tok hl hF hT0' hI hat.1 (by omega)
  obtain ⟨hex, hwt⟩ := fill_exec (P := P) (sig := sig) (st := st) (ρs := ρs) (σ := σ) (β' := β') (a := a) hl hoj hr (Nat.le_refl j)
  obtain ⟨g, hs⟩ := stepF_of hat.2.2
  have hguard := guard_ok hTf hs.guard
  rw [hwt] at hguard
  obtain ⟨b1, b2, b3, b4, b5, b6⟩ := freeAt_base hat.1
  have hjl : j < listed.size := by rw [hI.lsize]; exact hjs
  have hjun : listed.getD j false = false := by
    have := (mem_ready.1 hr).1
    rw [Array.getD, dif_pos hjl] at this
    rw [Array.getD, dif_pos hjl, this]
  have hnamed : Gd.holds ρs g → ∀ x, x ∈ o.op.operands.toList → ∀ l, f.st.opnd g x = some (.tv (.one (.lst l))) → ∀ p, p ∈ f.L → p.1 = l → reads w 0 β0 p.2 (ρs p.1).lv (σ p.1) := fun hgg x hx l hy p hp hpl => by
    obtain ⟨k, f1, o1, r1, hk, h1, h2, h3, ed, he, hbn, heo⟩ := slot_list hl hscp hat hx hy hp hpl hTf.pc hgg
    exact hI.lst k f1 o1 r1 h1 (by rw [← heo]; exact hall ed he hbn) h3 p h2
  unfold wpOp
  simp only [hoj]
  by_cases hwn : Region.wanted o (yielded ops a.tmps) = true
  · rw [if_pos hwn]
    left
    have hg := hguard.1 hwn
    unfold Oper.wp
    rcases hs.kind with ⟨hsto, _, e1, _, e3, _, b, off, cs, t, old, hstep, hble, _, hget, e5⟩ | ⟨hnsto, e1, ⟨c, args, res, hstep, hl', hax, ex, en, eN, eI⟩ | ⟨v, obs, hstep, hvs, hobs, ex, en, eN, eI⟩ | ⟨t, cs, v, v', kd, hstep, hnil, hcs, hv, ex, en, eN, eI⟩⟩
    · -- store
      obtain ⟨hheap, hI'⟩ := hI.store hl ho hscp hF hat hr hsto e1 e3 hstep hble hget e5
      have hTf' : TOk ρs σ β' { f.st with own := f.st.own ++ blks (conts f.N f.S) } (fill P sig ops st ρs σ β' listed a j) := ⟨hTf.size, hTf.slot, hTf.defers, hTf.pc⟩
      obtain ⟨_, u, old', hown, hrun⟩ := step_ok (W := W) hTf' hg hstep
      have : (u, old') = (t, old) := by
        have h1 : (f.st.own ++ blks (conts f.N f.S))[b]? = some (u, old') := hown
        rw [List.getElem?_append_right hble] at h1
        unfold blks at h1
        rw [List.getElem?_map, hget] at h1
        exact (Option.some.inj h1).symm
      cases this
      have h2 := hrun w hheap
      rw [hex] at h2
      rw [h2, Oper.upon_skip]
      exact ⟨β', s + 1, σ, hσ0, hI'⟩
    · -- call
      have hTf' : TOk ρs σ β' { f.st with own := f.st.own ++ blks f.N, lists := namedL f g o ++ f.st.lists } (fill P sig ops st ρs σ β' listed a j) := ⟨hTf.size, hTf.slot, hTf.defers, hTf.pc⟩
      have hsok := step_ok (W := W) hTf' hg hstep
      rw [eI] at hi1 hag2
      have hgk : Gd.holds (itsEnv Γ f.its ρ) g := (gd_agree hag1 hs.gscp).1 hg
      have hargs : args.map (Ax.ev ρs) = args.map (Ax.ev (itsEnv Γ f.its ρ)) := List.map_congr_left fun x hx => ax_agree hag1 (List.all_eq_true.1 hax x hx)
      have hpre : (Γ.ctr c).pre (args.map (Ax.ev ρs)) := by rw [hargs]; exact hi1.1 hgk
      let E0 : Nat → Prop := fun b => b < st.own.length ∨ ∃ k f1 o1 r1 t cs, At P sig ops st k f1 o1 r1 ∧ r1.N = f1.N ++ [(true, t, cs)] ∧ k < j ∧ listed.getD k false = true ∧ b = st.own.length + f1.N.length
      have hA : ArgW E0 ρs σ β' (f.st.own ++ blks f.N) (namedL f g o ++ f.st.lists) w := by
        refine ⟨fun p hp => ?_, fun b t cs hE hb => ?_⟩
        · rcases List.mem_append.1 hp with hp | hp
          · unfold namedL at hp
            obtain ⟨hp1, hp2⟩ := List.mem_filter.1 hp
            obtain ⟨x, hx, hx2⟩ := List.any_eq_true.1 hp2
            split at hx2
            · rename_i l hy
              exact hnamed hg x hx l hy p hp1 (Nat.eq_of_beq_eq_true hx2).symm
            · cases hx2
          · exact reads_less (hWw.lists p (by rw [← b2]; exact hp))
        rw [b1] at hb
        by_cases hlt : b < st.own.length
        · rw [List.getElem?_append_left hlt] at hb
          exact hWw.own b t cs hb
        · rw [List.getElem?_append_right (by omega)] at hb
          rcases hE with hE | ⟨k, f1, o1, r1, t1, cs1, h1, e2, hkj, hlk, e4⟩
          · exact absurd hE hlt
          · unfold blks at hb
            rw [List.getElem?_map, show b - st.own.length = f1.N.length by omega] at hb
            obtain ⟨⟨M, hM⟩, _, _⟩ := freeAt_mono (freeAt_of h1) hat.1 (by omega)
            simp only at hM
            have hN1 : f.N[f1.N.length]? = some (true, t1, cs1) := by
              rw [hM, e2, List.append_assoc, List.getElem?_append_right (Nat.le_refl _), Nat.sub_self]; rfl
            rw [hN1] at hb
            simp only [Option.map_some, Option.some.injEq, Prod.mk.injEq] at hb
            obtain ⟨rfl, rfl⟩ := hb
            obtain ⟨⟨M2, hM2⟩, _, _⟩ := freeAt_mono hat.1 hF (by omega)
            have hN2 : F.N[f1.N.length]? = some (true, t1, cs1) := by rw [hM2, List.getElem?_append_left (lt_of_get hN1)]; exact hN1
            rw [e4]
            exact hI.blk k f1 o1 r1 true t1 cs1 h1 (by rw [e2]; simp) hlk (conts_true _ _ hN2)
      have hin : ∀ c0, o.op = .call c0 → ∀ x, x ∈ c0.args.toList → ∀ y, St.opnd { f.st with own := f.st.own ++ blks f.N, lists := namedL f g o ++ f.st.lists } g x = some (.tv y) → InE E0 y.cells := by
        intro c0 hc0 x hx y hy b n hm
        have hy' : f.st.opnd g x = some (.tv y) := hy
        have hx' : x ∈ o.op.operands.toList := by rw [hc0]; unfold Op.operands; simp; exact call_operand hx
        rcases slot_blocks hl hscp hat hx' hy' (b := b) (n := n) (.inl hm) with hlt | ⟨k, f1, o1, r1, kd, t1, cs1, hk, h1, e31, e32, e33, ed, he, hbn, heo⟩
        · exact .inl hlt
        · have hkd := e33 hm
          subst hkd
          exact .inr ⟨k, f1, o1, r1, t1, cs1, h1, e31, hk, by rw [← heo]; exact hall ed he hbn, e32⟩
      obtain ⟨vs, h3, h4⟩ := call_okE hst hΓ hTf' hg hsok hpre hA (hst W w hG hWw.below) hin
      rw [hex] at h3
      rw [h3 w, Oper.upon_enter]
      refine h4.mono ?_
      rintro e w' ⟨hb, vv, rfl, hro⟩
      obtain ⟨S, hv, hrd⟩ := hro
      rw [hargs] at hv hrd
      have hen : agree r.n (push (itsEnv Γ f.its ρ) f.st.n ((Γ.ctr c).fn (args.map (Ax.ev (itsEnv Γ f.its ρ))))) ρs := hag2
      let σs : Nat → Value := fun l => if l < f.st.n then σ l else S (l - f.st.n)
      let σ2 : Nat → Value := fun l => if l < f.st.n then σ l else if l < r.n then S (l - f.st.n) else σ l
      have hσ2 : ∀ l, l < f.st.n ∨ r.n ≤ l → σ2 l = σ l := fun l hl => by
        simp only [σ2]
        split
        · rfl
        · rw [if_neg (by omega)]
      have hσs : agree r.n σs σ2 := fun l hl => by
        show (if l < f.st.n then σ l else if l < r.n then S (l - f.st.n) else σ l) = (if l < f.st.n then σ l else S (l - f.st.n))
        rw [if_pos hl]
      refine ⟨β', s, σ2, fun l hl => by rw [hσ2 l (.inl (by omega))]; exact hσ0 l hl, (hI.resig hF hat hjun hσ2).quiet hl hat hr (by rw [eN]; omega) hnsto ?_ hb (fun _ p hp => ?_)⟩
      · rw [ex]
        refine .inr (.inl ⟨hg, ?_⟩)
        have h6 : (resS f.st.n res).val ρs σ2 β' = (resS f.st.n res).val (push (itsEnv Γ f.its ρ) f.st.n ((Γ.ctr c).fn (args.map (Ax.ev (itsEnv Γ f.its ρ))))) σs β' :=
          sv_agree (n := r.n) (m := 0) hen hσs (fun m hm => by omega) (by rw [en]; exact resS_scp res f.st.n)
        show _ = (resS f.st.n res).val ρs σ2 β'
        rw [h6, hv]
        exact (resS_shift res f.st.n 0 (fun i => by simp [push, envOf, show ¬ f.st.n + i < f.st.n by omega]) (fun i => by simp [σs, show ¬ f.st.n + i < f.st.n by omega])).symm
      · rw [hl'] at hp
        obtain ⟨q, hq, h2, i, h3', h4'⟩ := resLists_shift (shCells res) f.st.n 0 p hp
        have hlt := resLists_rng hp
        have e1 : ρs p.1 = envOf ((Γ.ctr c).fn (args.map (Ax.ev (itsEnv Γ f.its ρ)))) q.1 := by
          rw [hen p.1 (by omega)]
          simp [push, envOf, show ¬ p.1 < f.st.n by omega, show p.1 - f.st.n = q.1 by omega]
        have e2 : σ2 p.1 = S q.1 := by
          simp only [σ2]
          rw [if_neg (by omega), if_pos (by omega), show p.1 - f.st.n = q.1 by omega]
        rw [e1, e2, h2]
        obtain ⟨base, cap, g1, g2⟩ := hrd q hq
        refine ⟨base, cap, g1, ?_⟩
        rcases g2 with g2 | ⟨ad, g3, g4, g5, g6⟩
        · exact .inl g2
        · exact .inr ⟨ad, g3, g4, ⟨g5.2, fun k hk => by omega⟩, g6⟩
    · -- plain
      rw [eI] at hi1
      have hob : ∀ x, x ∈ obs → x.bool ρs = true := needAll_ok hTf.pc hg (fun x hx => by
        have h1 := its_ob hi1 ((gd_agree hag1 hs.gscp).1 hg) x hx
        rw [bool_agree hag1 (List.all_eq_true.1 hobs x hx)]
        exact h1)
      have hR0 : r.R = [] := by
        rcases hs.rR with h | ⟨res, h5, h6, h7⟩
        · exact h
        · rw [en] at h6
          have : (shCells res) = [] := List.eq_nil_of_length_eq_zero (by omega)
          rw [h7, this]; rfl
      have hone : ∃ val, (v = .any ∨ val = v.val ρs σ β') ∧ (execOp (fill P sig ops st ρs σ β' listed a j).eval o).run P w = .ok (.value val) w := by
        rcases hstep with hstep | ⟨rfl, l, hln, rfl⟩
        · obtain ⟨val, hv1, hrun⟩ := step_ok (W := W) hTf hg hstep hob
          exact ⟨val, hv1, hrun w (by rw [b1, b2]; exact hWw)⟩
        · obtain ⟨c0, t, x, el, h1, h2, h3, h4, h5, h6, p, hp, hpl⟩ := lenNew_spec hln
          have hxm : x ∈ o.op.operands.toList := by
            rw [h1]; unfold Op.operands; simp
            exact call_operand (by rw [h4]; simp)
          obtain ⟨base, cap, h7, _⟩ := hnamed hg x hxm l h6 p hp hpl
          have hxv : (fill P sig ops st ρs σ β' listed a j).eval x = .slice base (ρs l).lv.len cap := by
            rcases opnd_ok hTf hg h6 with h8 | h8
            · cases h8
            · rw [h8]
              simp only [SV.val, TV.val, CV.val]
              rw [← hpl, h7]
              rfl
          exact ⟨_, .inr rfl, len_run h1 h2 h3 h4 h5 hxv w⟩
      obtain ⟨val, hv1, h2⟩ := hone
      rw [hex] at h2
      rw [h2, Oper.upon_value]
      refine ⟨β', s, σ, hσ0, hI.quiet hl hat hr (by rw [eN]; omega) hnsto ?_ (Below.refl _ _) (fun _ p hp => by rw [hR0] at hp; simp at hp)⟩
      rw [ex]
      rcases hv1 with hv1 | hv1
      · exact .inl hv1
      · exact .inr (.inl ⟨hg, hv1⟩)
    · -- a new block
      rw [b1] at hv
      obtain ⟨β'', hb1, hb2, hI'⟩ := hI.alloc (kd := kd) (t := t) (cs := cs) (v := v) hl hscp hF hat hr hnsto eN (by rw [ex]; exact hv) (by rw [ex])
      obtain ⟨_, hne, hrun⟩ := step_ok (W := W) hTf hg hstep
      have hWf : WOk W ρs σ β' f.st.own f.st.lists w := by rw [b1, b2]; exact hWw
      let β1 : Nat → Nat := fun k => if k = st.own.length then w.heap.size else β' k
      have h2 := hrun w hWf β1 (by rw [b1]; simp [β1])
      rw [hex] at h2
      rw [h2, Oper.upon_value]
      have hval : v.val ρs σ β1 = r.x.2.val ρs σ β'' := by
        rw [ex]
        rcases newV_spec hv with ⟨e1, e2, _⟩ | ⟨len, e1, e2, _⟩
        · rw [e1, e2]; simp only [SV.val, TV.val, CV.val, hb2]; simp [β1]
        · rw [e1, e2]; simp only [SV.val, TV.val, CV.val, hb2]; simp [β1]
      rw [hval]
      exact ⟨β'', s, σ, hσ0, hI'⟩
  · rw [if_neg hwn]
    have hng : ¬ Gd.holds ρs g := fun h => hwn (hguard.2 h)
    have hno : r.x.1 = g ∧ r.N.length ≠ f.N.length + 1 ∧ isStore o = false := by
      rcases hs.kind with ⟨hsto, hnil, _⟩ | ⟨hnsto, e1, ⟨c, args, res, hstep, hl', hax, ex, en, eN, eI⟩ | ⟨v, obs, hstep, hvs, hobs, ex, en, eN, eI⟩ | ⟨t, cs, v, v', kd, hstep, hnil, hcs, hv, ex, en, eN, eI⟩⟩
      · exact absurd (isNil_holds hnil) hng
      · exact ⟨by rw [ex], by rw [eN]; omega, hnsto⟩
      · exact ⟨by rw [ex], by rw [eN]; omega, hnsto⟩
      · exact absurd (isNil_holds hnil) hng
    exact ⟨β', s, σ, hσ0, hI.quiet hl hat hr hno.2.1 hno.2.2 (.inr (.inr ⟨by rw [hno.1]; exact hng, rfl⟩)) (Below.refl _ _) (fun h => by rw [hno.1] at h; exact absurd h hng)⟩

/-- All that is left, in any order. -/
theorem free_any (hst : Stable G) (hG : G W) (hΓ : SigOk P G sig Γ) (hl : lexFast ops ops.size = true) (ho : storeOrd ops = true) (hscp : st.scp st.n = true) (hF : freeAt P sig ops st ops.size = some F) (hits : itsHold Γ F.its ρ)
    {σ0 : Nat → Value} (hT0 : TOk ρ σ0 β st a0) (hw0 : WOk W ρ σ0 β st.own st.lists w0) {Q : Exit → Act → World → Prop}
    (hQ : ∀ σ β' s listed a w, agree st.n σ0 σ → InvB P sig ops st F (itsEnv Γ F.its ρ) σ β a0 w0 β' s listed a w → (∀ k, k < ops.size → listed.getD k false = true) → Q .normal a w) :
    ∀ (fuel : Nat) (σ : Nat → Value) (β' : Nat → Nat) (s : Nat) (listed : Array Bool) (a : Act) (w : World), unl ops.size listed = fuel → agree st.n σ0 σ → InvB P sig ops st F (itsEnv Γ F.its ρ) σ β a0 w0 β' s listed a w → wpAny P .any ops Q fuel listed a w
  | 0, σ, β', s, listed, a, w, hu, hσ0, hI => by
    have hall : ∀ k, k < ops.size → listed.getD k false = true := fun k hk => by
      cases hc : listed.getD k true with
      | false => have := unl_pos hk hc; omega
      | true =>
        have hlt : k < listed.size := by rw [hI.lsize]; exact hk
        rw [Array.getD, dif_pos hlt] at hc
        rw [Array.getD, dif_pos hlt, hc]
    refine ⟨?_, hQ σ β' s listed a w hσ0 hI hall⟩
    apply List.eq_nil_iff_forall_not_mem.2
    intro j hj
    obtain ⟨hun, o, hoj, _⟩ := mem_ready.1 hj
    have h1 := hall j (get_lt hoj)
    have hlt : j < listed.size := by rw [hI.lsize]; exact get_lt hoj
    rw [Array.getD, dif_pos hlt] at h1 hun
    rw [h1] at hun; cases hun
  | fuel + 1, σ, β', s, listed, a, w, hu, hσ0, hI => by
    refine ⟨fun h0 => ?_, fun i hi => ?_⟩
    · exfalso
      -- the least that has not come up may come up
      have hex : ∃ k, k < ops.size ∧ listed.getD k false = false := by
        apply Classical.byContradiction
        intro hno
        have : unl ops.size listed = 0 := by
          unfold unl
          rw [List.countP_eq_zero]
          intro p hp
          have hp' := List.mem_range.1 hp
          have hlt : p < listed.size := by rw [hI.lsize]; exact hp'
          have h1 : listed.getD p false ≠ false := fun e => hno ⟨p, hp', e⟩
          rw [Array.getD, dif_pos hlt] at h1
          rw [Array.getD, dif_pos hlt]
          simpa using h1
        omega
      obtain ⟨k, ⟨hk1, hk2⟩, hmin⟩ := least_nat' hex
      have hlt : k < listed.size := by rw [hI.lsize]; exact hk1
      have hmem : k ∈ Region.ready .any ops listed := by
        rw [mem_ready]
        refine ⟨by rw [Array.getD, dif_pos hlt] at hk2 ⊢; exact hk2, ops[k], Array.getElem?_eq_getElem hk1, fun e he hb => ?_⟩
        have h1 := lex_below hl (Array.getElem?_eq_getElem hk1) e he hb
        cases hc : listed.getD e.on false with
        | true => rfl
        | false => have := hmin e.on ⟨by omega, hc⟩; omega
      rw [h0] at hmem
      cases hmem
    · have hstep := free_step (Q := Q) hst hG hΓ hl ho hscp hF hits hT0 hw0 hσ0 hi hI
      refine wpOp_mono (fun a' w' h => ?_) hstep
      obtain ⟨β'', s', σ'', hσ', hI'⟩ := h
      have h1 := unl_set (get_lt (mem_ready.1 hi).2.choose_spec.1) (mem_ready.1 hi).1
      exact free_any hst hG hΓ hl ho hscp hF hits hT0 hw0 hQ fuel σ'' β'' s' _ a' w' (by omega) hσ' hI'

/-- **A region that draws its order, makes blocks, calls, and stores to the new blocks.** -/
theorem wp_region_free (hm : P.follows .mixedOrders = true) (hst : Stable G) (hG : G W) (hΓ : SigOk P G sig Γ) (hl : lexFast ops ops.size = true) (ho : storeOrd ops = true) (hscp : st.scp st.n = true) (hF : freeAt P sig ops st ops.size = some F) (hits : itsHold Γ F.its ρ)
    {w : World} (hT0 : TOk ρ σ β st a0) (hw : WOk W ρ σ β st.own st.lists w) {id : Nat} {Q : Exit → Act → World → Prop}
    (hQ : ∀ σ' β' a' w', agree st.n ρ (itsEnv Γ F.its ρ) → st.n ≤ F.st.n → Rel W (itsEnv Γ F.its ρ) σ' β' { F.st with own := F.st.own ++ blks (conts F.N F.S) } a' w' → Q .normal a' w') : (Code.region id ops true).wp P Q a0 w := by
  refine wp_region_any hm ?_
  have hw0 : WOk W ρ σ β st.own st.lists { w with drawn := w.drawn + 1 } := hw.drew
  obtain ⟨b1, b2, b3, b4, b5, b6⟩ := freeAt_base hF
  have hag0 : agree st.n ρ (itsEnv Γ F.its ρ) := (its_prefix (Γ := Γ) (ρ := ρ) (k := 0) (f := _) rfl hF (Nat.zero_le _)).2
  have hrep : ∀ k, (Array.replicate ops.size false).getD k false = false := fun k => by
    by_cases hk : k < ops.size
    · simp [hk]
    · simp [hk]
  refine free_any (a0 := a0) (w0 := { w with drawn := w.drawn + 1 }) hst hG hΓ hl ho hscp hF hits hT0 hw0 ?_ ops.size σ β 0 (Array.replicate ops.size false) a0 _ (by rw [LI.start.unl (Nat.zero_le _) (Nat.le_refl _)]; omega) (agree_refl _ _) ?_
  · intro σ' β' s listed a' w' hσ0 hI hall
    obtain ⟨_, sc2, sc3, _⟩ := st_scp hscp
    generalize itsEnv Γ F.its ρ = ρs at *
    have hT0' : TOk ρs σ' β' st a0 := hT0.agree hscp hag0 hσ0 hI.agr
    have hTf := fill_tok hl hF hT0' hI hF (Nat.le_refl _)
    have hfill : ∀ k, k ≤ ops.size → fill P sig ops st ρs σ' β' listed a' k = a' := by
      intro k
      induction k with
      | zero => intro _; rfl
      | succ k ih =>
        intro hk
        unfold fill
        rw [if_pos (hall k (by omega))]
        exact ih (by omega)
    rw [hfill _ (Nat.le_refl _)] at hTf
    have hs : F.S.length ≤ s := by
      by_cases h0 : F.S.length = 0
      · omega
      · obtain ⟨k, f, o, r, hk, h1, hst1, hq⟩ := store_at hF (F.S.length - 1) (by omega)
        have := (hI.sto k f o r h1 hst1).1 (hall k hk)
        omega
    have htake : F.S.take s = F.S := List.take_of_length_le hs
    refine hQ σ' β' a' w' hag0 b5 ⟨⟨hTf.size, hTf.slot, hTf.defers, hTf.pc⟩, ?_⟩
    show WOk W ρs σ' β' (F.st.own ++ blks (conts F.N F.S)) F.st.lists w'
    rw [b1, b2]
    have hW0 : WOk W ρs σ' β' st.own st.lists { w with drawn := w.drawn + 1 } := hw0.agree sc2 sc3 hag0 hσ0 hI.agr
    have hlen : (blks (conts F.N F.S)).length = F.N.length := by unfold blks; rw [List.length_map, conts_length]
    refine hW0.extend hI.mem (fun i t cs hi => ?_) (fun i hi => ?_) (fun i j hi hj e => ?_)
    · have hlt := lt_of_get hi
      rw [hlen] at hlt
      obtain ⟨k, f, o, r, hk, h1, hn, hN⟩ := alloc_at hF i hlt
      unfold blks at hi
      rw [List.getElem?_map] at hi
      cases hc : (conts F.N F.S)[i]? with
      | none => rw [hc] at hi; cases hi
      | some y =>
        obtain ⟨kd, t', cs'⟩ := y
        rw [hc] at hi
        cases hi
        have := hI.blk k f o r kd t cs h1 hN (hall k hk) (by rw [htake, hn]; exact hc)
        rwa [hn] at this
    · rw [hlen] at hi
      obtain ⟨k, f, o, r, hk, h1, hn, hN⟩ := alloc_at hF i hi
      have := hI.ge k f o r h1 hN (hall k hk)
      rwa [hn] at this
    · rw [hlen] at hi hj
      obtain ⟨k, f, o, r, hk, h1, hn, hN⟩ := alloc_at hF i hi
      obtain ⟨k', f', o', r', hk', h1', hn', hN'⟩ := alloc_at hF j hj
      have := hI.inj k f o r k' f' o' r' h1 hN (hall k hk) h1' hN' (hall k' hk') (by rw [hn, hn']; exact e)
      omega
  · refine ⟨by simp, hT0.size, hT0.defers, fun t _ => rfl, fun j f o r d h1 hj => ?_, Below.refl _ _, fun j f o r kd t cs h1 hn hj => ?_, fun j f o r h1 hn hj => ?_, fun j f o r h1 hn hj => ?_, fun j f o r j' f' o' r' h1 hn hj => ?_, fun j f o r h1 hs => ?_, agree_refl _ _, fun j o hoj hj => ?_, fun j f o r h1 hj => ?_⟩
    · rw [hrep] at hj; cases hj
    · rw [hrep] at hj; cases hj
    · rw [hrep] at hj; cases hj
    · rw [hrep] at hj; cases hj
    · rw [hrep] at hj; cases hj
    · rw [hrep]
      exact ⟨fun h => (by cases h), fun h => by omega⟩
    · rw [hrep] at hj; cases hj
    · rw [hrep] at hj; cases hj
end
end Go.Vg

/- Code and functions: the conditions suffice. -/
namespace Go.Vg
open Go.RowKit
set_option linter.unusedVariables false
set_option linter.unusedSimpArgs false

/-! ### Loops -/

theorem least_nat {p : Nat → Prop} (h : ∃ n, p n) : ∃ n, p n ∧ ∀ m, p m → n ≤ m := by
  obtain ⟨n, hn⟩ := h
  induction n using Nat.strongRecOn with
  | _ n ih =>
    by_cases hm : ∃ m, m < n ∧ p m
    · obtain ⟨m, h1, h2⟩ := hm
      exact ih m h1 h2
    · exact ⟨n, hn, fun m h1 => by
        rcases Nat.lt_or_ge m n with h2 | h2
        · exact absurd ⟨m, h2, h1⟩ hm
        · exact h2⟩

open Classical in
theorem wp_loop_rel {P : Program} {c : Code} {Q : Exit → Act → World → Prop} {a : Act} {w : World} (I : Nat → Act → World → Prop) {n0 : Nat} (h0 : I n0 a w)
    (round : ∀ n a w, I n a w → c.wp P (Exit.then (fun a' w' => ∃ m, m < n ∧ I m a' w') Q) a w) : (Code.loop c).wp P Q a w := by
  let μ : Act → World → Nat := fun a w => if h : ∃ n, I n a w then (least_nat h).choose else 0
  have hμ : ∀ a w, (∃ n, I n a w) → I (μ a w) a w ∧ ∀ m, I m a w → μ a w ≤ m := by
    intro a w h
    have := (least_nat h).choose_spec
    simp only [μ, dif_pos h]
    exact this
  refine wp_loop (fun a w => ∃ n, I n a w) μ ⟨n0, h0⟩ fun a w hI => ?_
  have h1 := hμ a w hI
  refine Code.wp_mono ?_ (round _ a w h1.1)
  intro e a' w' hq
  cases e with
  | normal =>
    obtain ⟨m, h2, h3⟩ := hq
    exact ⟨⟨m, h3⟩, Nat.lt_of_le_of_lt ((hμ a' w' ⟨m, h3⟩).2 m h3) h2⟩
  | _ => exact hq

section
variable {ρ ρT : Env} {σ σT : Nat → Value} {β : Nat → Nat} {n M : Nat}

theorem sameC_ok {T c : CV} {l : List Ax} (h : sameC n M T c = some l) (ha : agree n ρ ρT) (has : agree n σ σT) : l = [] ∧ T.val ρT σT β = c.val ρ σ β := by
  unfold sameC at h
  split at h
  · rename_i hc
    cases h
    simp only [Bool.and_eq_true] at hc
    have := CV.eqb_eq hc.1
    subst this
    exact ⟨rfl, cv_agree ha has (agree_refl M β) hc.2⟩
  · cases h

/-- What the variables from j on are. -/
def Fills (ρ : Env) (σ : Nat → Value) (β : Nat → Nat) (ρT : Env) (σT : Nat → Value) (j : Nat) (l : List Ax) : Prop :=
  ∀ i ax, l[i]? = some ax → ρT (j + i) = ax.ev ρ ∧ σT (j + i) = ax.slv ρ σ β

theorem Fills.left {j : Nat} {l r : List Ax} (h : Fills ρ σ β ρT σT j (l ++ r)) : Fills ρ σ β ρT σT j l :=
  fun i ax hi => h i ax (by rw [List.getElem?_append_left (lt_of_get hi)]; exact hi)
theorem Fills.right {j : Nat} {l r : List Ax} (h : Fills ρ σ β ρT σT j (l ++ r)) : Fills ρ σ β ρT σT (j + l.length) r := fun i ax hi => by
  have := h (l.length + i) ax (by rw [List.getElem?_append_right (by omega)]; simpa using hi)
  rwa [← Nat.add_assoc] at this

theorem instC_ok {j : Nat} {T c : CV} {l : List Ax} (h : instC n M j T c = some l) (ha : agree n ρ ρT) (has : agree n σ σT) (hE : Fills ρ σ β ρT σT j l) :
    T.val ρT σT β = c.val ρ σ β := by
  unfold instC at h
  split at h
  · rename_i k i k' e
    split at h
    · split at h
      · rename_i hc
        cases h
        simp only [Bool.and_eq_true] at hc
        have h1 := Nat.eq_of_beq_eq_true hc.1
        have h2 := (hE 0 _ rfl).1
        rw [Nat.add_zero, ← h1] at h2
        simp only [CV.val, Ex.int_v, h2, Ax.ev, Leaf.int, kindNo_inj hc.2]
      · cases h
    · exact (sameC_ok h ha has).2
  · rename_i i e
    split at h
    · split at h
      · rename_i hc
        cases h
        have h1 := Nat.eq_of_beq_eq_true hc
        have h2 := (hE 0 _ rfl).1
        rw [Nat.add_zero, ← h1] at h2
        simp only [CV.val, Ex.bool_v, h2, Ax.ev, Leaf.bool]
      · cases h
    · exact (sameC_ok h ha has).2
  · rename_i i
    split at h
    · split at h
      · rename_i hc
        cases h
        have h1 := Nat.eq_of_beq_eq_true hc
        have h2 := (hE 0 _ rfl).2
        rw [Nat.add_zero, ← h1] at h2
        simp only [CV.val, h2, Ax.slv, asSl]
      · cases h
    · exact (sameC_ok h ha has).2
  · rename_i i q
    split at h
    · split at h
      · rename_i hc
        cases h
        have h1 := Nat.eq_of_beq_eq_true hc
        have h2 := (hE 0 _ rfl).2
        rw [Nat.add_zero, ← h1] at h2
        simp only [CV.val, h2, Ax.slv, asSl_asSl]
      · cases h
    · exact (sameC_ok h ha has).2
  · exact (sameC_ok h ha has).2

theorem holds_nil (ρ : Env) : Gd.holds ρ [] := fun p hp => by simp at hp

theorem instT_ok {j : Nat} {T x : Gd × SV} {l : List Ax} (h : instT n M j T x = some l) (ha : agree n ρ ρT) (has : agree n σ σT) (hE : Fills ρ σ β ρT σT j l)
    {v : Value} (hx : SlotOk ρ σ β x v) : SlotOk ρT σT β T v := by
  unfold instT at h
  split at h
  · exact .inl rfl
  · rename_i c
    split at h
    · rename_i c'
      rcases hx with hx | hx | hx
      · cases hx
      · refine .inr (.inl ⟨holds_nil _, ?_⟩)
        rw [hx.2]
        exact (instC_ok h ha has hE).symm
      · exact absurd (holds_nil _) hx.1
    · cases h
  · split at h
    · rename_i hc
      cases h
      simp only [Bool.and_eq_true] at hc
      have h1 : T = x := Prod.ext (allEq_eq pairEq_eq hc.1.1.1) (SV.eqb_eq hc.1.1.2)
      subst h1
      rcases hx with hx | hx | hx
      · exact .inl hx
      · exact .inr (.inl ⟨(gd_agree ha hc.1.2).2 hx.1, by rw [sv_agree ha has (agree_refl M β) hc.2]; exact hx.2⟩)
      · exact .inr (.inr ⟨fun hh => hx.1 ((gd_agree ha hc.1.2).1 hh), hx.2⟩)
    · cases h

theorem instTs_ok {xs : List (Nat × (Gd × SV))} : ∀ {Ts : List (Nat × (Gd × SV))} {j : Nat} {l : List Ax}, instTs n M xs j Ts = some l → agree n ρ ρT → agree n σ σT → Fills ρ σ β ρT σT j l →
    ∀ (t : Nat) T, getT Ts t = some T → ∃ x, getT xs t = some x ∧ ∀ v, SlotOk ρ σ β x v → SlotOk ρT σT β T v
  | [], j, l, h, _, _, _ => fun t T ht => by simp [getT] at ht
  | (u, T) :: Ts, j, l, h, ha, has, hE => by
    simp only [instTs] at h
    split at h
    · cases h
    · rename_i x hx
      split at h
      · cases h
      · rename_i l1 h1
        split at h
        · cases h
        · rename_i r hr
          cases h
          have h3 := instTs_ok hr ha has hE.right
          intro t T' ht
          simp only [getT] at ht
          split at ht
          · rename_i hut
            cases ht
            rw [← Nat.eq_of_beq_eq_true hut]
            exact ⟨x, hx, fun v hv => instT_ok h1 ha has hE.left hv⟩
          · exact h3 t T' ht

theorem instCs_ok : ∀ {Ts xs : List CV} {j : Nat} {l : List Ax}, instCs n M j Ts xs = some l → agree n ρ ρT → agree n σ σT → Fills ρ σ β ρT σT j l →
    Ts.map (CV.val ρT σT β) = xs.map (CV.val ρ σ β)
  | [], [], j, l, h, _, _, _ => rfl
  | T :: Ts, x :: xs, j, l, h, ha, has, hE => by
    simp only [instCs] at h
    split at h
    · cases h
    · rename_i l1 h1
      split at h
      · cases h
      · rename_i r hr
        cases h
        have h3 := instCs_ok hr ha has hE.right
        simp only [List.map_cons, h3, instC_ok h1 ha has hE.left]
  | [], _ :: _, _, _, h, _, _, _ => by simp [instCs] at h
  | _ :: _, [], _, _, h, _, _, _ => by simp [instCs] at h

theorem instOwn_ok : ∀ {Ts xs : List (TypeId × List CV)} {j : Nat} {l : List Ax}, instOwn n M j Ts xs = some l → agree n ρ ρT → agree n σ σT → Fills ρ σ β ρT σT j l →
    Ts.length ≤ xs.length ∧ ∀ (k : Nat) (t : TypeId) (cs : List CV), Ts[k]? = some (t, cs) → ∃ cs', xs[k]? = some (t, cs') ∧ cs.map (CV.val ρT σT β) = cs'.map (CV.val ρ σ β)
  | [], _, j, l, h, _, _, _ => ⟨by simp, fun k t cs hk => by simp at hk⟩
  | (t, a) :: Ts, (u, b) :: xs, j, l, h, ha, has, hE => by
    simp only [instOwn] at h
    split at h
    · rename_i htu
      have htu := Nat.eq_of_beq_eq_true htu
      subst htu
      split at h
      · cases h
      · rename_i l1 h1
        split at h
        · cases h
        · rename_i r hr
          cases h
          obtain ⟨h2, h3⟩ := instOwn_ok hr ha has hE.right
          refine ⟨by simpa using h2, fun k t' cs hk => ?_⟩
          cases k with
          | zero => simp at hk; obtain ⟨rfl, rfl⟩ := hk; exact ⟨b, rfl, instCs_ok h1 ha has hE.left⟩
          | succ k => simp at hk; simpa using h3 k t' cs hk
    · cases h
  | _ :: _, [], _, _, h, _, _, _ => by simp [instOwn] at h

theorem kinds_fits : ∀ {ks : List LK} {l : List Ax}, kindsOk ks l = true → fits ks (l.map (Ax.ev ρ)) ∧ l.length = ks.length := by
  intro ks
  induction ks with
  | nil =>
    intro l h
    cases l with
    | nil => exact ⟨trivial, rfl⟩
    | cons _ _ => simp [kindsOk] at h
  | cons k ks ih =>
    intro l h
    cases l with
    | nil => cases k <;> simp [kindsOk] at h
    | cons x l =>
      cases k <;> cases x <;> simp only [kindsOk, Bool.false_eq_true] at h <;> (obtain ⟨h1, h2⟩ := ih h; exact ⟨h1, by simp [h2]⟩)

theorem fits_length : ∀ {ks : List LK} {xs : List Leaf}, fits ks xs → xs.length = ks.length := by
  intro ks
  induction ks with
  | nil =>
    intro xs h
    cases xs with
    | nil => rfl
    | cons _ _ => simp [fits] at h
  | cons k ks ih =>
    intro xs h
    cases xs with
    | nil => cases k <;> simp [fits] at h
    | cons x xs =>
      cases k <;> cases x <;> simp only [fits] at h <;> simp [ih h]

theorem hasL_mem {x : St} {l : Nat} {ek : List EK} (h : hasL x l ek = true) : (l, ek) ∈ x.lists := by
  simp only [hasL, List.any_eq_true, Bool.and_eq_true] at h
  obtain ⟨q, hq, h10, h11⟩ := h
  have h12 := Nat.eq_of_beq_eq_true h10
  have h13 := allEq_eq EK.eqb_eq h11
  have : (l, ek) = q := Prod.ext h12 h13
  rw [this]; exact hq

/-- A state that is an instance of the template. -/
theorem inst_ok {W w : World} {kinds : List LK} {T x : St} {vals : List Ax} (h : inst n kinds T x = some vals) {a : Act} (hR : Rel W ρ σ β x a w) {ρ0 : Env} (ha : agree n ρ0 ρ)
    (hpc : Gd.holds ρ0 T.pc) (hpcs : Gd.scp n T.pc = true) :
    fits kinds (vals.map (Ax.ev ρ)) ∧ ∃ σT, Rel W (push ρ0 n (vals.map (Ax.ev ρ))) σT β T a w := by
  unfold inst at h
  split at h
  · rename_i hl
    simp only [Bool.and_eq_true] at hl
    split at h
    · cases h
    · rename_i l h1
      split at h
      · cases h
      · rename_i r h2
        split at h
        · rename_i hk
          cases h
          simp only [Bool.and_eq_true] at hk
          obtain ⟨h3, h4⟩ := kinds_fits (ρ := ρ) hk.1
          let ρT : Env := push ρ0 n ((l ++ r).map (Ax.ev ρ))
          let σT : Nat → Value := fun m => if m < n then σ m else ((l ++ r).map (Ax.slv ρ σ β)).getD (m - n) undef
          have haT : agree n ρ ρT := fun m hm => (agree_push ρ0 n _ m hm).trans (ha m hm).symm
          have hasT : agree n σ σT := fun m hm => by simp [σT, hm]
          have hE : Fills ρ σ β ρT σT n (l ++ r) := fun i ax hi => by
            refine ⟨?_, ?_⟩
            · simp only [ρT, push]
              rw [if_neg (by omega), Nat.add_sub_cancel_left, List.getD_eq_getElem?_getD, List.getElem?_map, hi]
              rfl
            · simp only [σT]
              rw [if_neg (by omega), Nat.add_sub_cancel_left, List.getD_eq_getElem?_getD, List.getElem?_map, hi]
              rfl
          have h6 := instTs_ok h1 haT hasT hE.left
          obtain ⟨h7, h8⟩ := instOwn_ok h2 haT hasT hE.right
          obtain ⟨hT, hw⟩ := hR
          -- where each list of the template comes from
          have src : ∀ p, p ∈ T.lists → (∃ q, (q, p.2) ∈ x.lists ∧ (ρT p.1).lv = (ρ q).lv ∧ σT p.1 = σ q ∧ (p.1 < n → q = p.1) ∧ (n ≤ p.1 → n ≤ q)) ∨
              (n ≤ p.1 ∧ (ρT p.1).lv = nilLV ∧ σT p.1 = .slice none 0 0) := fun p hp => by
            have hg := List.all_eq_true.1 hk.2 p hp
            unfold groInst at hg
            split at hg
            · rename_i hlt
              have hlt := blt_lt hlt
              exact .inl ⟨p.1, hasL_mem hg, by rw [haT p.1 hlt], hasT p.1 hlt, fun _ => rfl, fun h => by omega⟩
            · rename_i hlt
              have hge : n ≤ p.1 := by
                rcases Nat.lt_or_ge p.1 n with h | h
                · exact absurd (by unfold Nat.blt; exact Nat.ble_eq_true_of_le h) hlt
                · exact h
              simp only [Bool.and_eq_true] at hg
              obtain ⟨_, hg⟩ := hg
              split at hg
              · rename_i hax
                have h9 := hE _ _ hax
                rw [show n + (p.1 - n) = p.1 by omega] at h9
                exact .inr ⟨hge, by rw [h9.1]; rfl, by rw [h9.2]; rfl⟩
              · rename_i q hax
                simp only [Bool.and_eq_true] at hg
                have h9 := hE _ _ hax
                rw [show n + (p.1 - n) = p.1 by omega] at h9
                have hm := hasL_mem hg.2
                refine .inl ⟨q, hm, by rw [h9.1]; rfl, ?_, fun h => by omega, fun _ => Nat.le_of_ble_eq_true hg.1⟩
                rw [h9.2]
                exact reads_asSl (hw.lists _ hm)
              · cases hg
          refine ⟨h3, σT, ⟨by rw [hT.size, Nat.eq_of_beq_eq_true hl.1], fun t g sv ht => ?_, hT.defers, (gd_agree (agree_push ρ0 n _) hpcs).2 hpc⟩, ?_⟩
          · obtain ⟨y, h9, h10⟩ := h6 t (g, sv) ht
            exact h10 _ (hT.slot t y.1 y.2 h9)
          · refine ⟨hw.below, fun k t cs hk => ?_, fun j k hj hk e => hw.inj j k (by omega) (by omega) e, fun k hk => hw.ge k (by omega), fun p hp => ?_, fun i t K hm he => ?_, fun p q hp hq hg hne => ?_⟩
            · obtain ⟨cs', h9, h10⟩ := h8 k t cs hk
              rw [h10]
              exact hw.own k t cs' h9
            · show reads w T.own.length β p.2 (ρT p.1).lv (σT p.1)
              rcases src p hp with ⟨q, hq, e1, e2, _, _⟩ | ⟨_, e1, e2⟩
              · rw [e1, e2]
                obtain ⟨base, cap, h14, h15⟩ := hw.lists (q, p.2) hq
                refine ⟨base, cap, h14, ?_⟩
                rcases h15 with h15 | ⟨ad, h16, h17, h18, h19⟩
                · exact .inl h15
                · exact .inr ⟨ad, h16, h17, ⟨h18.1, fun k hk => h18.2 k (by omega)⟩, h19⟩
              · rw [e1, e2]
                exact ⟨none, 0, rfl, .inl rfl⟩
            · show GroOk W w T.own.length β t K (ρT i).lv (σT i)
              rcases src _ hm with ⟨q, hq, e1, e2, _, _⟩ | ⟨_, e1, e2⟩
              · simp only at e1 e2
                rw [e1, e2]
                obtain ⟨h9, h10⟩ := hw.gro q t K hq he
                exact ⟨h9, fun k hk => h10 k (by omega)⟩
              · simp only at e1 e2
                rw [e1, e2]
                exact ⟨World.ownsRow_nil _ _ _ _, fun k hk e => by cases e⟩
            · show ((ρT q.1).lv.len = 0 ∧ isGro q.2 = false) ∨ (σT p.1).ownBlock = none ∨ (σT p.1).ownBlock ≠ (σT q.1).ownBlock
              rcases src p hp with ⟨p', hp', e1, e2, e3, e4⟩ | ⟨e0, e1, e2⟩
              · rcases src q hq with ⟨q', hq', f1, f2, f3, f4⟩ | ⟨f0, f1, f2⟩
                · rw [e2, f1, f2]
                  refine hw.sep (p', p.2) (q', q.2) hp' hq' hg (fun e => ?_)
                  simp only at e
                  by_cases hpn : p.1 < n
                  · by_cases hqn : q.1 < n
                    · exact hne (by rw [← e3 hpn, ← f3 hqn, e])
                    · have := e3 hpn; have := f4 (by omega); omega
                  · by_cases hqn : q.1 < n
                    · have := f3 hqn; have := e4 (by omega); omega
                    · have h10 := Nat.le_of_ble_eq_true hl.2
                      have hpm : p ∈ T.lists.filter (fun p => Nat.ble n p.1) := List.mem_filter.2 ⟨hp, Nat.ble_eq_true_of_le (by omega)⟩
                      have hqm : q ∈ T.lists.filter (fun p => Nat.ble n p.1) := List.mem_filter.2 ⟨hq, Nat.ble_eq_true_of_le (by omega)⟩
                      match hf : T.lists.filter (fun p => Nat.ble n p.1) with
                      | [] => rw [hf] at hpm; simp at hpm
                      | [y] =>
                        rw [hf] at hpm hqm
                        simp only [List.mem_singleton] at hpm hqm
                        exact hne (by rw [hpm, hqm])
                      | y :: z :: zs => rw [hf] at h10; simp at h10
                · rw [e2, f2]
                  cases hb : (σ p').ownBlock with
                  | none => exact .inr (.inl rfl)
                  | some g => exact .inr (.inr (fun e => by cases e))
              · rw [e2]; exact .inr (.inl rfl)
        · cases h
  · cases h
end

def SExit.toExit : SExit → Exit
  | .normal => .normal
  | .exit id => .exit id
  | .ret => .ret

section
variable {P : Program} {G : World → Prop} {sig : List (Nat × List Sh × List Sh)} {anns : List Ann} {Γ : Cx} {W : World}

/-- What has to be known of what comes behind a piece of code. -/
def Behind (Γ : Cx) (W : World) (n : Nat) (ρ : Env) (K : SExit → St → Option Fm) (Q : Exit → Act → World → Prop) : Prop :=
  ∀ ex st' φ' ρ' σ' β' a' w', K ex st' = some φ' → φ'.holds Γ ρ' → agree n ρ ρ' → n ≤ st'.n → Rel W ρ' σ' β' st' a' w' → Q ex.toExit a' w'

theorem exec_ok (hm : P.follows .mixedOrders = true) (hst : Stable G) (hG : G W) (hΓ : SigOk P G sig Γ) : ∀ (c : Code) (st : St) (K : SExit → St → Option Fm) (φ : Fm), exec P sig anns c st K = some φ →
    ∀ (ρ : Env) (σ : Nat → Value) (β : Nat → Nat) (a : Act) (w : World) (Q : Exit → Act → World → Prop), φ.holds Γ ρ → Rel W ρ σ β st a w → Behind Γ W st.n ρ K Q → c.wp P Q a w := by
  intro c
  induction c with
  | skip =>
    intro st K φ h ρ σ β a w Q hφ hR hK
    simp only [exec] at h
    exact wp_skip (hK .normal st φ ρ σ β a w h hφ (agree_refl _ _) (Nat.le_refl _) hR)
  | exit id =>
    intro st K φ h ρ σ β a w Q hφ hR hK
    simp only [exec] at h
    exact wp_exit (hK (.exit id) st φ ρ σ β a w h hφ (agree_refl _ _) (Nat.le_refl _) hR)
  | ret =>
    intro st K φ h ρ σ β a w Q hφ hR hK
    simp only [exec] at h
    exact wp_ret (hK .ret st φ ρ σ β a w h hφ (agree_refl _ _) (Nat.le_refl _) hR)
  | region id ops draw =>
    intro st K φ h ρ σ β a w Q hφ hR hK
    simp only [exec] at h
    cases draw with
    | false =>
      simp only [Bool.false_eq_true, if_false] at h
      exact wp_region_list (seq_ok hst hG hΓ _ ops.toList st (K .normal) φ h ρ σ β a w hφ hR (fun st' φ' ρ' σ' β' a' w' h1 h2 h3 h4 h5 => hK .normal st' φ' ρ' σ' β' a' w' h1 h2 h3 h4 h5))
    | true =>
      simp only [if_true] at h
      split at h
      · rename_i st' its1 its hold
        split at hold
        · rename_i hlex
          split at hold
          · rename_i st1 its1' hops1
            split at hold
            · rename_i st'' its' hops
              cases hold
              split at h
              · rename_i ψ hψ
                cases h
                obtain ⟨h1, h2⟩ := wrap_holds hφ
                obtain ⟨h1', h2'⟩ := wrap_holds h2
                refine wp_region_tail (C := WOk W ρ σ β st.own st.lists) hm hlex (quietLen_le ops.toList) hR.2.drew ?_
                refine ops_draw hst hG hΓ (fun w w' hw hb => hw.call hb) ⟨w, hR.2⟩ _ st _ st1 hops1 ρ σ β a hR.1 (fun w hw => hw) h1 ?_
                intro σ1 a1 h3 h4 h5 h6 w1 hw1
                refine ops_ok hst hG hΓ _ st1 _ _ hops _ σ1 β a1 w1 ⟨h5, h6 w1 hw1⟩ h1' ?_
                intro σ' β' a' w' h7 h8 h9
                exact hK .normal _ ψ _ σ' β' a' w' hψ h2' (agree_trans h3 h7 h4) (Nat.le_trans h4 h8) h9
              · cases h
            · cases hold
          · cases hold
        · cases hold
      · split at h
        · rename_i st' its hops0
          split at hops0
          · rename_i hmix
            simp only [Bool.and_eq_true] at hmix
            split at h
            · rename_i ψ hψ
              cases h
              obtain ⟨h1, h2⟩ := wrap_holds hφ
              refine wp_region_mix (C := Mixed W ρ σ β (storeBlks P sig ops.toList st) st.own st.lists) hm hmix.1 hmix.2 ?_
              refine mix_ok (Γ := Γ) ops.toList st its st' hops0 a _ hR.1 hR.2.drew rfl rfl (fun k _ => rfl) h1 ?_
              intro a' w' h3 h4 h5 h6
              rw [h3] at h2
              exact hK .normal st' ψ ρ σ β a' w' hψ h2 (agree_refl _ _) (by rw [h4]; exact Nat.le_refl _) ⟨h5, h6⟩
            · cases h
          · cases hops0
        · split at h
          · rename_i hfree
            simp only [Bool.and_eq_true] at hfree
            split at h
            · rename_i f hf
              split at h
              · rename_i ψ hψ
                cases h
                obtain ⟨h1, h2⟩ := wrap_holds hφ
                refine wp_region_free hm hst hG hΓ hfree.1.1 hfree.1.2 hfree.2 hf h1 hR.1 hR.2 ?_
                intro σ' β' a' w' h3 h4 h5
                exact hK .normal _ ψ _ σ' β' a' w' hψ h2 h3 h4 h5
              · cases h
            · cases h
          · cases h
  | seq x y ihx ihy =>
    intro st K φ h ρ σ β a w Q hφ hR hK
    simp only [exec] at h
    refine wp_seq (ihx st _ φ h ρ σ β a w _ hφ hR ?_)
    intro ex st' φ' ρ' σ' β' a' w' h1 h2 h3 h4 h5
    cases ex with
    | normal =>
      exact ihy st' K φ' h1 ρ' σ' β' a' w' Q h2 h5 (fun ex2 st2 φ2 ρ2 σ2 β2 a2 w2 g1 g2 g3 g4 g5 => hK ex2 st2 φ2 ρ2 σ2 β2 a2 w2 g1 g2 (agree_trans h3 g3 h4) (Nat.le_trans h4 g4) g5)
    | exit id => exact hK (.exit id) st' φ' ρ' σ' β' a' w' h1 h2 h3 h4 h5
    | ret => exact hK .ret st' φ' ρ' σ' β' a' w' h1 h2 h3 h4 h5
  | cond c x y ihx ihy =>
    intro st K φ h ρ σ β a w Q hφ hR hK
    simp only [exec] at h
    split at h
    · rename_i hc
      have hv := cell_ok hR.1 (holds_nil ρ) hc
      exact wp_cond_true hv (ihx st K φ h ρ σ β a w Q hφ hR hK)
    · rename_i hc
      have hv := cell_ok hR.1 (holds_nil ρ) hc
      exact wp_cond_false hv (ihy st K φ h ρ σ β a w Q hφ hR hK)
    · rename_i e _ _ hc
      have hv := cell_ok hR.1 (holds_nil ρ) hc
      simp only [CV.val] at hv
      split at h
      · rename_i hp
        simp only [List.any_eq_true] at hp
        obtain ⟨q, hq, h1⟩ := hp
        have h2 := hR.1.pc q hq
        rw [← pairEq_eq h1, strip_bool] at h2
        rw [h2] at hv
        exact wp_cond_true hv (ihx st K φ h ρ σ β a w Q hφ hR hK)
      · split at h
        · rename_i hp
          simp only [List.any_eq_true] at hp
          obtain ⟨q, hq, h1⟩ := hp
          have h2 := hR.1.pc q hq
          rw [← pairEq_eq h1, strip_bool] at h2
          rw [h2] at hv
          exact wp_cond_false hv (ihy st K φ h ρ σ β a w Q hφ hR hK)
        · split at h
          · rename_i φ1 φ2 h1 h2
            cases h
            obtain ⟨h3, h4⟩ := hφ
            refine wp_cond_split hv (fun hb => ?_) (fun hb => ?_)
            · have h5 := (strip_bool ρ e true).2 hb
              exact ihx _ K φ1 h1 ρ σ β a w Q (h3 h5) ⟨⟨hR.1.size, hR.1.slot, hR.1.defers, fun p hp => by
                rcases List.mem_cons.1 hp with rfl | hp
                · exact h5
                · exact hR.1.pc p hp⟩, hR.2⟩ hK
            · have h5 := (strip_bool ρ e false).2 hb
              exact ihy _ K φ2 h2 ρ σ β a w Q (h4 h5) ⟨⟨hR.1.size, hR.1.slot, hR.1.defers, fun p hp => by
                rcases List.mem_cons.1 hp with rfl | hp
                · exact h5
                · exact hR.1.pc p hp⟩, hR.2⟩ hK
          · cases h
    · cases h
  | block id x ih =>
    intro st K φ h ρ σ β a w Q hφ hR hK
    simp only [exec] at h
    refine wp_block (ih st _ φ h ρ σ β a w _ hφ hR ?_)
    intro ex st' φ' ρ' σ' β' a' w' h1 h2 h3 h4 h5
    cases ex with
    | normal => exact hK .normal st' φ' ρ' σ' β' a' w' h1 h2 h3 h4 h5
    | exit id' =>
      simp only [SExit.toExit, Exit.inBlock]
      simp only at h1
      split at h1
      · rename_i hid
        rw [if_pos (Nat.eq_of_beq_eq_true hid)]
        exact hK .normal st' φ' ρ' σ' β' a' w' h1 h2 h3 h4 h5
      · rename_i hid
        rw [if_neg (fun e => hid (by rw [e]; exact Nat.beq_refl _))]
        exact hK (.exit id') st' φ' ρ' σ' β' a' w' h1 h2 h3 h4 h5
    | ret => exact hK .ret st' φ' ρ' σ' β' a' w' h1 h2 h3 h4 h5
  | loop body ih =>
    intro st K φ h ρ σ β a w Q hφ hR hK
    simp only [exec] at h
    split at h
    · cases h
    · rename_i key hkey
      split at h
      · cases h
      · rename_i ann hann
        split at h
        · cases h
        · rename_i tm ks gs htm
          split at h
          · cases h
          · rename_i ow ks' how
            split at h
            · rename_i init hinit
              split at h
              · rename_i hc
                simp only [Bool.and_eq_true] at hc
                split at h
                · rename_i ψ hψ
                  cases h
                  obtain ⟨hi, hb⟩ := hφ
                  have hctx : ∀ ρ', agree st.n ρ ρ' → ann.ctx.map ρ' = ann.ctx.map ρ := fun ρ' ha => List.map_congr_left fun m hm => ha m (blt_lt (List.all_eq_true.1 hc.2 m hm))
                  obtain ⟨hf0, σ0, hR0⟩ := inst_ok hinit hR (agree_refl st.n ρ) hR.1.pc hc.1
                  refine wp_loop_rel (fun m a w => ∃ xs σ' β', fits (ks ++ ks') xs ∧ Γ.inv key (ann.ctx.map ρ ++ xs) ∧ Γ.meas key (ann.ctx.map ρ ++ xs) = m ∧
                      Rel W (push ρ st.n xs) σ' β' { nt := st.nt, tmps := tm, own := ow, n := st.n + (ks ++ ks').length, lists := gs ++ st.lists, pc := st.pc } a w)
                    ⟨_, σ0, β, hf0, hi, rfl, hR0⟩ ?_
                  rintro m a1 w1 ⟨xs, σ1, β1, hf, hin, hme, hR1⟩
                  refine ih _ _ ψ hψ (push ρ st.n xs) σ1 β1 a1 w1 _ (hb xs hf hin) hR1 ?_
                  intro ex st' φ' ρ' σ' β' a' w' h1 h2 h3 h4 h5
                  have hag : agree st.n ρ ρ' := agree_trans (agree_push ρ st.n xs) h3 (Nat.le_add_right ..)
                  cases ex with
                  | normal =>
                    simp only at h1
                    split at h1
                    · rename_i vals hvals
                      cases h1
                      obtain ⟨g1, g2⟩ := h2
                      rw [hctx ρ' hag] at g1 g2
                      obtain ⟨hf2, σ2, hR2⟩ := inst_ok hvals h5 hag (ρ0 := ρ) hR.1.pc hc.1
                      have hxs : (List.range' st.n (st.n + (ks ++ ks').length - st.n)).map ρ' = xs := by
                        rw [Nat.add_sub_cancel_left]
                        apply List.ext_getElem
                        · simp [fits_length hf]
                        · intro i h6 h7
                          simp only [List.getElem_map, List.getElem_range', Nat.one_mul]
                          have h8 := fits_length hf
                          rw [h3 (st.n + i) (show st.n + i < st.n + (ks ++ ks').length by omega)]
                          unfold push
                          rw [if_neg (by omega), Nat.add_sub_cancel_left, List.getD_eq_getElem?_getD, List.getElem?_eq_getElem h7]
                          rfl
                      rw [hxs, hme] at g2
                      exact ⟨_, g2, _, σ2, β', hf2, g1, rfl, hR2⟩
                    · cases h1
                  | exit id => exact hK (.exit id) st' φ' ρ' σ' β' a' w' h1 h2 hag (Nat.le_trans (Nat.le_add_right ..) h4) h5
                  | ret => exact hK .ret st' φ' ρ' σ' β' a' w' h1 h2 hag (Nat.le_trans (Nat.le_add_right ..) h4) h5
                · cases h
              · cases h
            · cases h
  | rangeFunc _ _ _ _ => intro st K φ h; simp [exec] at h
  | scope _ _ => intro st K φ h; simp [exec] at h
  | label _ => intro st K φ h; simp [exec] at h
  | goto _ => intro st K φ h; simp [exec] at h
  | refuse _ => intro st K φ h; simp [exec] at h

end
end Go.Vg

/- A function does what its contract says, if its conditions hold. -/
namespace Go.Vg
open Go.RowKit
set_option linter.unusedVariables false
set_option linter.unusedSimpArgs false

section
variable {P : Program} {G : World → Prop} {sig : List (Nat × List Sh × List Sh)} {anns : List Ann}

theorem run_mapM_list {α γ : Type} {f : α → Sem γ} {w : World} : ∀ {l : List α} {r : List γ}, l.length = r.length → (∀ (i : Nat) x y, l[i]? = some x → r[i]? = some y → (f x).run P w = .ok y w) →
    (l.mapM f).run P w = .ok r w
  | [], [], _, _ => by simp
  | x :: l, y :: r, h, hf => by
    have h0 := hf 0 x y rfl rfl
    have ih := run_mapM_list (l := l) (r := r) (by simpa using h) (fun i a b ha hb => hf (i + 1) a b (by simpa using ha) (by simpa using hb))
    simp [List.mapM_cons, h0, ih]
  | [], _ :: _, h, _ => by simp at h
  | _ :: _, [], h, _ => by simp at h

def resOne (tmps : Array Value) : ResultVar → Sem Value
  | .tmp t => pure (tmps.getD t undef)
  | .cell a t => do loadVar t (← asAddr (tmps.getD a undef))
theorem results_eq (fn : Func) (tmps : Array Value) : results fn tmps = (do let vs ← fn.results.mapM (resOne tmps); pure (if h : vs.size = 1 then vs[0] else .tuple vs)) := by
  unfold results
  congr 1

def packV (vs : List Value) : Value := match vs with | [v] => v | vs => .tuple vs.toArray
theorem run_results {fn : Func} {tmps : Array Value} {w : World} {vs : List Value} (hl : fn.results.toList.length = vs.length)
    (h : ∀ (i : Nat) x y, fn.results.toList[i]? = some x → vs[i]? = some y →
      (resOne tmps x).run P w = .ok y w) :
    (results fn tmps).run P w = .ok (packV vs) w := by
  have h1 := run_mapM_list (P := P) (w := w) hl h
  rw [results_eq, Array.mapM_eq_mapM_toList]
  simp only [Sem.run_bind, Sem.run_map, h1, Result.andThen_ok]
  match vs with
  | [] => simp [packV]
  | [v] => simp [packV]
  | v :: v2 :: vs => simp [packV]

theorem ret_one {W : World} {ρ : Env} {σ : Nat → Value} {β : Nat → Nat} {st : St} {a : Act} {w : World} (hR : Rel W ρ σ β st a w) {s : Sh} {rv : ResultVar} {l : List Ax} (h : retOne P st s rv = some l)
    {E : Env} {S : Nat → Value} {n : Nat} (hE : ∀ (j : Nat) ax, l[j]? = some ax → E (n + j) = ax.ev ρ ∧ S (n + j) = ax.slv ρ σ β) :
    l.length = s.cells.length ∧ (resOne a.tmps rv).run P w = .ok ((resT n s).val E S β0) w ∧ ∀ p, p ∈ resLists n s.cells → reads w 0 β0 p.2 (E p.1).lv (S p.1) := by
  obtain ⟨hT, hw⟩ := hR
  unfold retOne at h
  split at h
  · rename_i t
    split at h
    · rename_i sv hsv
      obtain ⟨h1, h2, h3, hrd⟩ := argS_ok (E0 := fun _ => True) (ArgW.of hw) h (fun _ _ _ _ _ => trivial) hE
      have h4 := opnd_ok hT (holds_nil ρ) hsv
      rcases h4 with h4 | h4
      · exact absurd h4 h2
      · refine ⟨h1, ?_, hrd⟩
        rw [h3, ← h4]
        rfl
    · cases h
  · rename_i b t
    split at h
    · rename_i blk off ag z hc hag hz
      split at h
      · rename_i u cs hb
        split at h
        · rename_i r hr
          split at h
          · rename_i x hx
            obtain ⟨h1, h2, h3, hrd⟩ := argS_ok (E0 := fun _ => True) (ArgW.of hw) h (fun _ _ _ _ _ => trivial) hE
            have h4 := cell_ok hT (holds_nil ρ) hc
            simp only [CV.val, Act.eval] at h4
            have h5 := run_loadVar (P := P) (w := w) (ρ := ρ) (σ := σ) (β := β) hag hz (blk := β blk) (off := off) (cut_len hr) hx (fun j c hj => by
              rw [own_cell hw hb, cut_get hr hj]; rfl)
            refine ⟨h1, ?_, hrd⟩
            rw [h3]
            simp only [resOne, h4, asAddr, Sem.run_bind, Sem.run_pure, Result.andThen_ok, h5, SV.val]
          · cases h
        · cases h
      · cases h
    · cases h

theorem ret_all {W : World} {ρ : Env} {σ : Nat → Value} {β : Nat → Nat} {st : St} {a : Act} {w : World} (hR : Rel W ρ σ β st a w) {E : Env} {S : Nat → Value} : ∀ {ss : List Sh} {rs : List ResultVar} {l : List (List Ax)} {n : Nat},
    zipO (retOne P st) ss rs = some l → (∀ (j : Nat) ax, l.flatten[j]? = some ax → E (n + j) = ax.ev ρ ∧ S (n + j) = ax.slv ρ σ β) →
    (rs.length = ((resTs n ss).map (TV.val E S β0)).length ∧ ∀ (i : Nat) x y, rs[i]? = some x → ((resTs n ss).map (TV.val E S β0))[i]? = some y →
      (resOne a.tmps x).run P w = .ok y w) ∧ ∀ p, p ∈ resLists n (shCells ss) → reads w 0 β0 p.2 (E p.1).lv (S p.1)
  | [], [], l, n, h, _ => ⟨⟨rfl, fun i x y hx => by simp at hx⟩, fun p hp => by simp [shCells, resLists] at hp⟩
  | s :: ss, r :: rs, l, n, h, hE => by
    simp only [zipO] at h
    split at h
    · cases h
    · rename_i l1 h1
      split at h
      · cases h
      · rename_i l2 h2
        cases h
        have hE1 : ∀ (j : Nat) ax, l1[j]? = some ax → E (n + j) = ax.ev ρ ∧ S (n + j) = ax.slv ρ σ β := fun j ax hj => hE j ax (by
          rw [List.flatten_cons, List.getElem?_append_left (lt_of_get hj)]; exact hj)
        obtain ⟨h3, h4, hrd⟩ := ret_one hR h1 hE1
        obtain ⟨⟨h5, h6⟩, hrds⟩ := ret_all hR (n := n + s.cells.length) h2 (fun j ax hj => by
          have := hE (l1.length + j) ax (by rw [List.flatten_cons, List.getElem?_append_right (by omega)]; simpa using hj)
          rwa [h3, ← Nat.add_assoc] at this)
        refine ⟨⟨by simp [resTs] at h5 ⊢; exact h5, fun i x y hx hy => ?_⟩, fun p hp => ?_⟩
        rotate_left
        · have h7 : shCells (s :: ss) = s.cells ++ shCells ss := by simp [shCells]
          rw [h7, resLists_append] at hp
          rcases List.mem_append.1 hp with hp | hp
          · exact hrd p hp
          · exact hrds p hp
        cases i with
        | zero =>
          simp [resTs] at hx hy
          subst hx; subst hy
          exact h4
        | succ i =>
          simp [resTs] at hx hy
          exact h6 i x y (by simpa using hx) (by simpa using hy)
  | [], _ :: _, _, _, h, _ => by simp [zipO] at h
  | _ :: _, [], _, _, h, _ => by simp [zipO] at h

theorem resS_val (ss : List Sh) (E : Env) (S : Nat → Value) : (resS 0 ss).val E S β0 = packV ((resTs 0 ss).map (TV.val E S β0)) := by
  unfold resS packV
  split
  · rename_i x hx; rw [hx]; rfl
  · rename_i xs hne
    split
    · rename_i v hv
      cases hxs : resTs 0 ss with
      | nil => rw [hxs] at hv; simp at hv
      | cons y ys =>
        cases ys with
        | nil => exact absurd hxs (hne y)
        | cons _ _ => rw [hxs] at hv; simp at hv
    · rfl

theorem start_get : ∀ (xs : List TV) (k t : Nat) (g : Gd) (sv : SV), getT (number k xs) t = some (g, sv) → g = [] ∧ ∃ x, xs[t - k]? = some x ∧ k ≤ t ∧ sv = .tv x
  | [], k, t, g, sv, h => by simp [number, getT] at h
  | x :: xs, k, t, g, sv, h => by
    simp only [number, getT] at h
    split at h
    · rename_i hk
      have hk := Nat.eq_of_beq_eq_true hk
      subst hk
      cases h
      exact ⟨rfl, x, by simp, Nat.le_refl _, rfl⟩
    · obtain ⟨h1, y, h2, h3, h4⟩ := start_get xs (k + 1) t g sv h
      refine ⟨h1, y, ?_, by omega, h4⟩
      rw [show t - k = (t - (k + 1)) + 1 by omega]
      simpa using h2

theorem resTs_length : ∀ (ss : List Sh) (n : Nat), (resTs n ss).length = ss.length
  | [], _ => rfl
  | s :: ss, n => by simp [resTs, resTs_length ss (n + s.cells.length)]

/-- A slice that comes back lies in new blocks. -/
theorem ret_new {W w : World} {ρ : Env} {σ : Nat → Value} {β : Nat → Nat} {st : St} (hw : WOk W ρ σ β st.own st.lists w) {l : List Ax} (hl : l.all (retNew st) = true) {n : Nat} {ek : List EK} {x : LV}
    (h : reads w 0 β0 ek x ((l.map (Ax.slv ρ σ β)).getD n undef)) : readsNew W.heap.size w ek x ((l.map (Ax.slv ρ σ β)).getD n undef) := by
  obtain ⟨base, cap, h1, h2⟩ := h
  refine ⟨base, cap, h1, ?_⟩
  rcases h2 with h2 | ⟨ad, h3, h4, h6, h5⟩
  · exact .inl h2
  · refine .inr ⟨ad, h3, h4, ⟨?_, h6.1⟩, h5⟩
    rw [List.getD_eq_getElem?_getD, List.getElem?_map] at h1
    cases hax : l[n]? with
    | none => rw [hax] at h1; simp [undef] at h1
    | some ax =>
      rw [hax] at h1
      simp only [Option.map_some, Option.getD_some] at h1
      have h7 := List.all_eq_true.1 hl ax (List.mem_of_getElem? hax)
      cases ax with
      | i e => simp [Ax.slv, undef] at h1
      | b e => simp [Ax.slv, undef] at h1
      | l q =>
        simp only [retNew] at h7
        split at h7
        · rename_i ek' hq
          obtain ⟨T, he⟩ := isGro_eq h7
          have hm := listOf_mem hq
          have h8 := reads_asSl (hw.lists _ hm)
          have h9 := (hw.gro q T ek' hm he).1
          simp only [Ax.slv] at h1
          simp only at h8
          rw [h8] at h1
          exact (h9.lt ad.block (by rw [h1, h3]; rfl)).1
        · cases h7
      | c w' y cs =>
        cases y with
        | nilsl => simp [Ax.slv, CV.val, h3] at h1
        | _ => simp [retNew] at h7

/-- **The conditions suffice.** -/
theorem vcg_ok (hm : P.follows .mixedOrders = true) (hst : Stable G) {f : Nat} {fn : Func} (hf : P.funcs[f]? = some fn) (hc : (fn.name == "runtime.NumGoroutine") = false) {C : Ctr} {φ : Fm}
    (h : vcg P sig anns fn C.params C.res = some φ)
    (hφ : ∀ ls, C.pre ls → ∃ Γ : Cx, SigOk P G sig Γ ∧ (∀ rs, Γ.post rs → rs = C.fn ls) ∧ φ.holds Γ (envOf ls)) : C.Sound P G f := by
  unfold vcg at h
  split at h
  · cases h
  · rename_i c hbody
    split at h
    · cases h
    · rename_i hng
      refine ⟨⟨fn, hf, hc, by rw [hbody]; rfl⟩, fun ls S w hG hpre hreads => ?_⟩
      obtain ⟨Γ, hΓ, hpost, hh⟩ := hφ ls hpre
      refine calls_of_wp hf hbody (exec_ok (W := w) hm hst hG hΓ c _ _ φ h (envOf ls) S β0 _ w _ hh ⟨?_, ?_⟩ ?_)
      · refine ⟨by simp [startSt, resTs_length], fun t g sv ht => ?_, rfl, fun p hp => by simp [startSt] at hp⟩
        obtain ⟨h1, x, h2, _, h3⟩ := start_get _ 0 t g sv ht
        rw [Nat.sub_zero] at h2
        refine .inr (.inl ⟨by rw [h1]; exact holds_nil _, ?_⟩)
        subst h3
        have hlt : t < (((resTs 0 C.params).map (TV.val (envOf ls) S β0)).toArray).size := by simp; exact lt_of_get h2
        rw [Array.getD_eq_getD_getElem?, Array.getElem?_append_left hlt]
        simp [h2, SV.val]
      · exact ⟨Below.refl _ _, fun k t cs hk => by simp [startSt] at hk, fun j k hj => by simp [startSt] at hj, fun k hk => by simp [startSt] at hk, fun p hp => hreads p hp, fun l T K hm he => by
          have h1 : (resLists 0 (shCells C.params)).any (fun p => isGro p.2) = false := by simpa using hng
          have h2 := List.any_eq_false.1 h1 _ hm
          exact absurd (isGro_of he) h2, fun p q hp hq hg hne => by
          have h1 : (resLists 0 (shCells C.params)).any (fun p => isGro p.2) = false := by simpa using hng
          have h2 := List.any_eq_false.1 h1 _ hp
          exact absurd hg h2⟩
      · intro ex st' φ' ρ' σ' β' a' w' h1 h2 h3 h4 h5
        have key : ∀ l, retAll P st' C.res fn.results.toList = some l → l.all (retNew st') = true → Γ.post (l.map (Ax.ev ρ')) →
            a'.defers = [] ∧ ∃ v, (results fn a'.tmps).run P w' = .ok v w' ∧ (Below w.heap.size w w' ∧ ∃ v', Ending.returned v = .returned v' ∧ ResOk w.heap.size w' C.res (C.fn ls) v') := by
          intro l hl hnew hp
          unfold retAll at hl
          split at hl
          · rename_i ll hll
            cases hl
            have h6 := hpost _ hp
            have hE : ∀ (j : Nat) ax, ll.flatten[j]? = some ax → envOf (ll.flatten.map (Ax.ev ρ')) (0 + j) = ax.ev ρ' ∧ (ll.flatten.map (Ax.slv ρ' σ' β')).getD (0 + j) undef = ax.slv ρ' σ' β' := fun j ax hj => by
              rw [Nat.zero_add]
              exact ⟨by unfold envOf; rw [List.getD_eq_getElem?_getD, List.getElem?_map, hj]; rfl, by rw [List.getD_eq_getElem?_getD, List.getElem?_map, hj]; rfl⟩
            obtain ⟨⟨h7, h8⟩, hrd⟩ := ret_all (P := P) h5 (E := envOf (ll.flatten.map (Ax.ev ρ'))) (S := fun n => (ll.flatten.map (Ax.slv ρ' σ' β')).getD n undef) (n := 0) hll hE
            have h9 := run_results (P := P) (fn := fn) (tmps := a'.tmps) h7 h8
            refine ⟨h5.1.defers, _, h9, h5.2.below, _, rfl, ?_⟩
            rw [← resS_val, ← h6]
            exact ⟨_, rfl, fun p hp => ret_new h5.2 hnew (hrd p hp)⟩
          · cases hl
        cases ex with
        | exit id => simp at h1
        | normal =>
          simp only at h1
          split at h1
          · rename_i l hl
            split at h1
            · rename_i hnew
              cases h1
              obtain ⟨h6, v, h7, h8⟩ := key l hl hnew h2
              exact ⟨h6, v, h7, h8⟩
            · cases h1
          · cases h1
        | ret =>
          simp only at h1
          split at h1
          · rename_i l hl
            split at h1
            · rename_i hnew
              cases h1
              obtain ⟨h6, v, h7, h8⟩ := key l hl hnew h2
              exact ⟨h6, v, h7, h8⟩
            · cases h1
          · cases h1

end
end Go.Vg

/- Tables of contracts, and how conditions are read. -/
namespace Go.Vg

def sigT (tbl : List (Nat × Ctr)) : List (Nat × List Sh × List Sh) := tbl.map fun x => (x.1, x.2.params, x.2.res)
def ctrT (tbl : List (Nat × Ctr)) (f : Nat) : Ctr := match tbl.find? (fun x => Nat.beq x.1 f) with
  | some x => x.2
  | none => ⟨[], [], fun _ => False, fun _ => []⟩
def AllSound (P : Program) (G : World → Prop) : List (Nat × Ctr) → Prop
  | [] => True
  | x :: l => x.2.Sound P G x.1 ∧ AllSound P G l

theorem AllSound.mem {P : Program} {G : World → Prop} : ∀ {l : List (Nat × Ctr)}, AllSound P G l → ∀ x, x ∈ l → x.2.Sound P G x.1
  | [], _, x, hx => by simp at hx
  | y :: l, h, x, hx => by
    rcases List.mem_cons.1 hx with rfl | hx
    · exact h.1
    · exact h.2.mem x hx

theorem sigT_find (tbl : List (Nat × Ctr)) (f : Nat) : (sigT tbl).find? (fun x => Nat.beq x.1 f) = (tbl.find? (fun x => Nat.beq x.1 f)).map fun x => (x.1, x.2.params, x.2.res) := by
  unfold sigT
  rw [List.find?_map]
  rfl

theorem sigT_ok {P : Program} {G : World → Prop} {tbl : List (Nat × Ctr)} (h : AllSound P G tbl) {inv : Nat → List Leaf → Prop} {meas : Nat → List Leaf → Nat} {post : List Leaf → Prop} :
    SigOk P G (sigT tbl) ⟨ctrT tbl, inv, meas, post⟩ := by
  intro f ps rs hs
  unfold sigOf at hs
  rw [sigT_find] at hs
  simp only [ctrT]
  cases hx : tbl.find? (fun x => Nat.beq x.1 f) with
  | none => rw [hx] at hs; cases hs
  | some x =>
    rw [hx] at hs
    cases hs
    have h1 := h.mem x (List.mem_of_find?_eq_some hx)
    have h2 := List.find?_some hx
    have h3 := Nat.eq_of_beq_eq_true h2
    rw [h3] at h1
    exact ⟨rfl, rfl, h1⟩

/-- A function without loops. -/
theorem fn_ok {P : Program} {G : World → Prop} (hm : P.follows .mixedOrders = true) (hst : Stable G) (tbl : List (Nat × Ctr)) (anns : List Ann) {f : Nat} {fn : Func} (hf : P.funcs[f]? = some fn) (hc : (fn.name == "runtime.NumGoroutine") = false) {C : Ctr} (φ : Fm)
    (h : vcg P (sigT tbl) anns fn C.params C.res = some φ) (hs : AllSound P G tbl) (inv : List Leaf → Nat → List Leaf → Prop) (meas : List Leaf → Nat → List Leaf → Nat)
    (hφ : ∀ ls, C.pre ls → φ.holds ⟨ctrT tbl, inv ls, meas ls, fun rs => rs = C.fn ls⟩ (envOf ls)) : C.Sound P G f :=
  vcg_ok hm hst hf hc h fun ls hp => ⟨_, sigT_ok hs, fun _ h => h, hφ ls hp⟩

theorem gd_nil (ρ : Env) : Gd.holds ρ [] ↔ True := ⟨fun _ => trivial, fun _ => holds_nil ρ⟩
theorem gd_cons (ρ : Env) (e : Ex) (b : Bool) (g : Gd) : Gd.holds ρ ((e, b) :: g) ↔ e.bool ρ = b ∧ Gd.holds ρ g :=
  ⟨fun h => ⟨h (e, b) (List.mem_cons_self ..), fun p hp => h p (List.mem_cons_of_mem _ hp)⟩, fun h => holds_cons h.1 h.2⟩
theorem gd_one (ρ : Env) (e : Ex) (b : Bool) : Gd.holds ρ [(e, b)] ↔ e.bool ρ = b := by rw [gd_cons, gd_nil, and_true]

/-- Reading a variable, one by one. -/
def lk : List Leaf → Nat → Leaf
  | [], _ => .i 0
  | x :: _, 0 => x
  | _ :: xs, n + 1 => lk xs n
theorem envOf_lk (ls : List Leaf) : envOf ls = lk ls := by
  funext n
  induction ls generalizing n with
  | nil => rfl
  | cons x xs ih => cases n with
    | zero => rfl
    | succ n => exact ih n
theorem push_lk (ls rs : List Leaf) : push (lk ls) ls.length rs = lk (ls ++ rs) := by
  rw [← envOf_lk, ← envOf_lk]
  funext m
  unfold push envOf
  split
  · rename_i h; rw [List.getD_eq_getElem?_getD, List.getD_eq_getElem?_getD, List.getElem?_append_left h]
  · rename_i h; rw [List.getD_eq_getElem?_getD, List.getD_eq_getElem?_getD, List.getElem?_append_right (by omega)]

/-! ### Steps of a proof over the conditions -/

theorem vg_call {Γ : Cx} {ls : List Leaf} {f : Nat} {g : Gd} {args : List Ax} {n : Nat} {k : Fm} {C : Ctr} (hC : Γ.ctr f = C) (hn : ls.length = n) {xs : List Leaf}
    (ha : args.map (Ax.ev (lk ls)) = xs) (hpre : Gd.holds (lk ls) g → C.pre xs) (hk : ∀ rs, rs = C.fn xs → k.holds Γ (lk (ls ++ rs))) : Fm.holds Γ (.call f g args n k) (lk ls) := by
  subst hC; subst ha; subst hn
  refine ⟨hpre, ?_⟩
  rw [push_lk]
  exact hk _ rfl

theorem vg_loop {Γ : Cx} {ls : List Leaf} {key n : Nat} {ctx : List Nat} {init : List Ax} {kinds : List LK} {body : Fm} (hn : ls.length = n)
    (h0 : Γ.inv key (ctx.map (lk ls) ++ init.map (Ax.ev (lk ls)))) (hb : ∀ xs, fits kinds xs → Γ.inv key (ctx.map (lk ls) ++ xs) → body.holds Γ (lk (ls ++ xs))) :
    Fm.holds Γ (.loop key n ctx init kinds body) (lk ls) := by
  subst hn
  refine ⟨h0, fun xs hf hi => ?_⟩
  rw [push_lk]
  exact hb xs hf hi

theorem vg_app {Γ : Cx} {ls : List Leaf} {l : Ax} {e : List Ex} {n : Nat} {k : Fm} (hn : ls.length = n) {x : LV} {y : List Int} (hx : (l.ev (lk ls)).lv = x) (hy : e.map (Ex.int (lk ls)) = y)
    (hpre : (x.len : Int) < 1000000000) (hk : ∀ r, r = snoc x y → k.holds Γ (lk (ls ++ [.l r]))) : Fm.holds Γ (.app l e n k) (lk ls) := by
  subst hx; subst hy; subst hn
  refine ⟨hpre, ?_⟩
  rw [push_lk]
  exact hk _ rfl

theorem fits_i {ks : List LK} {xs : List Leaf} (h : fits (.i :: ks) xs) : ∃ (x : Int) (ys : List Leaf), xs = .i x :: ys ∧ fits ks ys := by
  match xs, h with
  | .i x :: ys, h => exact ⟨x, ys, rfl, h⟩
  | [], h => exact h.elim
  | .b _ :: _, h => exact h.elim
  | .l _ :: _, h => exact h.elim
theorem fits_l {ks : List LK} {xs : List Leaf} (h : fits (.l :: ks) xs) : ∃ (x : LV) (ys : List Leaf), xs = .l x :: ys ∧ fits ks ys := by
  match xs, h with
  | .l x :: ys, h => exact ⟨x, ys, rfl, h⟩
  | [], h => exact h.elim
  | .b _ :: _, h => exact h.elim
  | .i _ :: _, h => exact h.elim
theorem fits_b {ks : List LK} {xs : List Leaf} (h : fits (.b :: ks) xs) : ∃ (x : Bool) (ys : List Leaf), xs = .b x :: ys ∧ fits ks ys := by
  match xs, h with
  | .b x :: ys, h => exact ⟨x, ys, rfl, h⟩
  | [], h => exact h.elim
  | .i _ :: _, h => exact h.elim
  | .l _ :: _, h => exact h.elim
theorem fits_nil {xs : List Leaf} (h : fits [] xs) : xs = [] := by
  match xs, h with
  | [], _ => rfl
  | _ :: _, h => exact h.elim

theorem c_i {a b : Int} {xs ys : List Leaf} (h : a = b) (t : xs = ys) : Leaf.i a :: xs = Leaf.i b :: ys := by rw [h, t]
theorem c_l {a b : LV} {xs ys : List Leaf} (h : a = b) (t : xs = ys) : Leaf.l a :: xs = Leaf.l b :: ys := by rw [h, t]
theorem c_b {a b : Bool} {xs ys : List Leaf} (h : a = b) (t : xs = ys) : Leaf.b a :: xs = Leaf.b b :: ys := by rw [h, t]

/-- The numbers of a list, as a slice. -/
def lvOf (l : List Int) : LV := ⟨l.length, fun i c => if c = 0 then l.getD i 0 else 0, fun _ _ => false⟩
theorem lvOf_nil : nilLV = lvOf [] := by
  unfold nilLV lvOf
  congr 1
  funext i c
  simp
theorem snoc_of (l : List Int) (n : Int) : snoc (lvOf l) [n] = lvOf (l ++ [n]) := by
  unfold snoc lvOf
  simp only [List.length_append, List.length_cons, List.length_nil]
  congr 1
  funext i c
  by_cases hi : i = l.length
  · subst hi
    cases c with
    | zero => simp [List.getD]
    | succ c => simp [List.getD]
  · simp only [hi, if_false]
    by_cases hc : c = 0
    · simp only [hc, if_true]
      rcases Nat.lt_or_ge i l.length with h | h
      · rw [List.getD_eq_getElem?_getD, List.getD_eq_getElem?_getD, List.getElem?_append_left h]
      · rw [List.getD_eq_getElem?_getD, List.getD_eq_getElem?_getD, List.getElem?_eq_none h, List.getElem?_eq_none (by simp; omega)]
    · simp [hc]
theorem lvOf_len (l : List Int) : (lvOf l).len = l.length := rfl
theorem lvOf_gi (l : List Int) (i : Nat) : (lvOf l).gi i 0 = l.getD i 0 := by simp [lvOf]

theorem wrap_in {n : Int} (h : -9223372036854775808 ≤ n) (h2 : n < 9223372036854775808) : IntKind.wrap .i64 n = n := by
  unfold IntKind.wrap
  have e : IntKind.bits .i64 = 64 := rfl
  have e2 : IntKind.signed .i64 = true := rfl
  simp only [e, e2, Bool.true_and, decide_eq_true_eq]
  split <;> omega

end Go.Vg

/- From a contract to a row: any inputs of the parameters' types. -/
namespace Go.Vg
open Go.RowKit Go.ChangeShapes Go.WideShapes Go.ChangeAt Go.Deep
set_option linter.unusedVariables false
set_option linter.unusedSimpArgs false

/-! ### Types whose values are numbers and bools alone -/

def flatFs (P : Program) (g : TypeId → Option (List EK)) : Nat → List Field → Option (List EK)
  | _, [] => some []
  | off, f :: r => match g f.type with
    | none => none
    | some ks => if Nat.beq f.offset off && Nat.beq (P.cellsOf f.type) ks.length then
        match flatFs P g (off + ks.length) r with
        | some rs => some (ks ++ rs)
        | none => none
      else none
def flatT (P : Program) : Nat → TypeId → Option (List EK)
  | 0, _ => none
  | d + 1, t => match P.underlying t with
    | some .bool => some [.bool]
    | some (.int k) => some [.int k]
    | some (.struct fs) => match flatFs P (flatT P d) 0 fs.toList with
      | some ks => if Nat.beq (P.cellsOf t) ks.length then some ks else none
      | none => none
    | _ => none

def EK.has : EK → Value → Prop
  | .int k, v => ∃ n, v = .int k n ∧ (Lit.int k n).wf = true
  | .bool, v => ∃ b, v = .bool b
  | .gro _ _, _ => False

section
variable {H : Type} {enc : TypeId × Value → H} {P : Program} {w : World} {base : Nat} {spare : Nat → Bool} {held : Bool}

theorem flatFs_get {g : TypeId → Option (List EK)} : ∀ {fs : List Field} {off : Nat} {ks : List EK}, flatFs P g off fs = some ks → ∀ (i : Nat) K, ks[i]? = some K →
    ∃ (j : Nat) (f : Field) (kf : List EK) (c : Nat), fs[j]? = some f ∧ g f.type = some kf ∧ P.cellsOf f.type = kf.length ∧ kf[c]? = some K ∧ f.offset + c = off + i
  | [], off, ks, h, i, K, hi => by simp only [flatFs, Option.some.injEq] at h; subst h; simp at hi
  | f :: fs, off, ks, h, i, K, hi => by
    simp only [flatFs] at h
    split at h
    · cases h
    · rename_i kf hkf
      split at h
      · rename_i hc
        simp only [Bool.and_eq_true] at hc
        have h1 := Nat.eq_of_beq_eq_true hc.1
        have h2 := Nat.eq_of_beq_eq_true hc.2
        split at h
        · rename_i rs hrs
          cases h
          by_cases hlt : i < kf.length
          · rw [List.getElem?_append_left hlt] at hi
            exact ⟨0, f, kf, i, rfl, hkf, h2, hi, by omega⟩
          · rw [List.getElem?_append_right (by omega)] at hi
            obtain ⟨j, f', kf', c, h3, h4, h5, h6, h7⟩ := flatFs_get hrs (i - kf.length) K hi
            exact ⟨j + 1, f', kf', c, by simpa using h3, h4, h5, h6, by omega⟩
        · cases h
      · cases h

/-- What reads as data of such a type has cells of these kinds. -/
theorem trod_flat : ∀ (d : Nat) (t : TypeId) (ks : List EK), flatT P d t = some ks → ∀ (fuel : Nat) (cs : List Value) (x : DataW H × List MemPlace), DataW.trod enc P w base spare held fuel t cs = some x →
    cs.length = ks.length ∧ ∀ (i : Nat) K, ks[i]? = some K → ∃ v, cs[i]? = some v ∧ K.has v
  | 0, t, ks, h, _, _, _, _ => by simp [flatT] at h
  | d + 1, t, ks, h, fuel, cs, x, hx => by
    simp only [flatT] at h
    split at h
    · rename_i hu
      cases h
      obtain ⟨b, rfl, _⟩ := DataW.trod_bool hu hx
      refine ⟨rfl, fun i K hi => ?_⟩
      cases i with
      | zero => simp at hi; subst hi; exact ⟨_, rfl, b, rfl⟩
      | succ i => simp at hi
    · rename_i k hu
      cases h
      obtain ⟨n, rfl, _, hwf⟩ := DataW.trod_int hu hx
      refine ⟨rfl, fun i K hi => ?_⟩
      cases i with
      | zero => simp at hi; subst hi; exact ⟨_, rfl, n, rfl, hwf⟩
      | succ i => simp at hi
    · rename_i fs hu
      split at h
      · rename_i ks' hks
        split at h
        · rename_i hl
          cases h
          have hl := Nat.eq_of_beq_eq_true hl
          obtain ⟨xs, n, _, _, h1, h2, h3⟩ := DataW.trod_struct hu hx
          refine ⟨by rw [h1, hl], fun i K hi => ?_⟩
          obtain ⟨j, f, kf, c, h4, h5, h6, h7, h8⟩ := flatFs_get hks i K hi
          have h9 := h3 j f (by simpa using h4)
          have hj : j < xs.length := by
            rw [h2]
            have := lt_of_get h4
            simpa using this
          rw [List.getElem?_eq_getElem hj] at h9
          obtain ⟨h10, h11⟩ := trod_flat d f.type kf h5 n _ _ h9
          obtain ⟨v, h12, h13⟩ := h11 c K h7
          refine ⟨v, ?_, h13⟩
          rw [List.getElem?_take] at h12
          split at h12
          · rw [List.getElem?_drop, show f.offset + c = i by omega] at h12
            exact h12
          · cases h12
        · cases h
      · cases h
    · cases h
end

/-! ### Ranges -/

def LV.rng (ek : List EK) (x : LV) : Prop := x.len ≤ maxLen ∧ ∀ i c k, i < x.len → ek[c]? = some (.int k) → (Lit.int k (x.gi i c)).wf = true
def CK.rng : CK → Leaf → Prop
  | .int k, .i n => (Lit.int k n).wf = true
  | .bool, .b _ => True
  | .lst ek, .l x => x.rng ek
  | _, _ => False
def rngs : List CK → List Leaf → Prop
  | [], [] => True
  | c :: cs, l :: ls => c.rng l ∧ rngs cs ls
  | _, _ => False

theorem rngs_append : ∀ {a b : List CK} {x y : List Leaf}, rngs a x → rngs b y → rngs (a ++ b) (x ++ y)
  | [], b, [], y, _, h => h
  | c :: a, b, l :: x, y, h, h2 => ⟨h.1, rngs_append h.2 h2⟩
  | [], _, _ :: _, _, h, _ => h.elim
  | _ :: _, _, [], _, h, _ => h.elim

theorem wf_has {k : IntKind} {n : Int} (h : (Lit.int k n).wf = true) : k.min ≤ n ∧ n ≤ k.max := by
  simpa [Lit.wf] using h
theorem rngs_nil {ls : List Leaf} (h : rngs [] ls) : ls = [] := by
  cases ls with
  | nil => rfl
  | cons _ _ => exact h.elim
theorem rngs_i {cs : List CK} {ls : List Leaf} (h : rngs (.int .i64 :: cs) ls) : ∃ (n : Int) (r : List Leaf), ls = .i n :: r ∧ (-9223372036854775808 ≤ n ∧ n < 9223372036854775808) ∧ rngs cs r := by
  match ls, h with
  | .i n :: r, h =>
    refine ⟨n, r, rfl, ?_, h.2⟩
    have h1 : (Lit.int .i64 n).wf = true := h.1
    have h1 := wf_has h1
    have e1 : IntKind.min .i64 = -9223372036854775808 := by decide
    have e2 : IntKind.max .i64 = 9223372036854775807 := by decide
    rw [e1, e2] at h1
    omega
  | .b _ :: _, h => exact h.1.elim
  | .l _ :: _, h => exact h.1.elim
  | [], h => exact h.elim
theorem wf_u {n : Int} (h1 : (Lit.int .u64 n).wf = true) : 0 ≤ n ∧ n < 18446744073709551616 := by
  have h1 := wf_has h1
  have e1 : IntKind.min .u64 = 0 := by decide
  have e2 : IntKind.max .u64 = 18446744073709551615 := by decide
  rw [e1, e2] at h1
  omega
theorem rngs_u {cs : List CK} {ls : List Leaf} (h : rngs (.int .u64 :: cs) ls) : ∃ (n : Int) (r : List Leaf), ls = .i n :: r ∧ (0 ≤ n ∧ n < 18446744073709551616) ∧ rngs cs r := by
  match ls, h with
  | .i n :: r, h => exact ⟨n, r, rfl, wf_u h.1, h.2⟩
  | .b _ :: _, h => exact h.1.elim
  | .l _ :: _, h => exact h.1.elim
  | [], h => exact h.elim
theorem rngs_b {cs : List CK} {ls : List Leaf} (h : rngs (.bool :: cs) ls) : ∃ (n : Bool) (r : List Leaf), ls = .b n :: r ∧ True ∧ rngs cs r := by
  match ls, h with
  | .b n :: r, h => exact ⟨n, r, rfl, trivial, h.2⟩
  | .i _ :: _, h => exact h.1.elim
  | .l _ :: _, h => exact h.1.elim
  | [], h => exact h.elim
theorem rngs_l {ek : List EK} {cs : List CK} {ls : List Leaf} (h : rngs (.lst ek :: cs) ls) : ∃ (n : LV) (r : List Leaf), ls = .l n :: r ∧ n.rng ek ∧ rngs cs r := by
  match ls, h with
  | .l n :: r, h => exact ⟨n, r, rfl, h.1, h.2⟩
  | .i _ :: _, h => exact h.1.elim
  | .b _ :: _, h => exact h.1.elim
  | [], h => exact h.elim

/-! ### Parameters -/

def ekCk : List EK → List CK → Bool
  | [], [] => true
  | .int k :: es, .int j :: cs => keq k j && ekCk es cs
  | .bool :: es, .bool :: cs => ekCk es cs
  | _, _ => false
def paramOk (P : Program) (t : TypeId) : Sh → Bool
  | .one (.int k) => match P.underlying t with
    | some (.int j) => keq k j
    | _ => false
  | .one .bool => match P.underlying t with
    | some .bool => true
    | _ => false
  | .one (.lst ek) => match P.underlying t with
    | some (.slice e) => match flatT P 8 e with
      | some ks => allEq EK.eqb ks ek && Nat.blt 0 ek.length && Nat.beq (P.cellsOf e) ek.length
      | none => false
    | _ => false
  | .agg cs => match P.underlying t with
    | some (.struct _) => match flatT P 8 t with
      | some ks => ekCk ks cs
      | none => false
    | _ => false
  | .one .str => false
def paramsOk (P : Program) : List TypeId → List Sh → Bool
  | [], [] => true
  | t :: ts, s :: ss => paramOk P t s && paramsOk P ts ss
  | _, _ => false

/-- Leaves and slices' values stand for values. -/
def Stands (w : World) (ss : List Sh) (vs : List Value) (ls : List Leaf) (sv : List Value) : Prop :=
  ls.length = (shCells ss).length ∧ sv.length = (shCells ss).length ∧
  ∀ (n : Nat) (E : Env) (S : Nat → Value), (∀ (j : Nat) l, ls[j]? = some l → E (n + j) = l) → (∀ (j : Nat) v, sv[j]? = some v → S (n + j) = v) →
    (resTs n ss).map (TV.val E S β0) = vs ∧ ∀ p, p ∈ resLists n (shCells ss) → reads w 0 β0 p.2 (E p.1).lv (S p.1)

section
variable {H : Type} {enc : TypeId × Value → H} {P : Program} {w : World} {r : Reach} {b0 : Nat}

theorem agg_leaves : ∀ {ks : List EK} {cks : List CK} {cs : List Value}, ekCk ks cks = true → cs.length = ks.length → (∀ (i : Nat) K, ks[i]? = some K → ∃ v, cs[i]? = some v ∧ K.has v) →
    ∃ ls : List Leaf, ls.length = cks.length ∧ rngs cks ls ∧ hasLst cks = false ∧
      ∀ (n : Nat) (E : Env) (S : Nat → Value), (∀ (j : Nat) l, ls[j]? = some l → E (n + j) = l) → (resCs n cks).map (CV.val E S β0) = cs
  | [], [], cs, _, hl, _ => by
    have : cs = [] := by simpa using hl
    subst this
    exact ⟨[], rfl, trivial, rfl, fun _ _ _ _ => rfl⟩
  | K :: ks, ck :: cks, [], _, hl, _ => by simp at hl
  | K :: ks, ck :: cks, v :: cs, h, hl, hv => by
    obtain ⟨v', hv0, hk⟩ := hv 0 K rfl
    simp at hv0
    subst hv0
    have hrest : ∀ (i : Nat) K', ks[i]? = some K' → ∃ v, cs[i]? = some v ∧ K'.has v := fun i K' hi => by simpa using hv (i + 1) K' (by simpa using hi)
    cases K with
    | int k =>
      cases ck with
      | int j =>
        simp only [ekCk, Bool.and_eq_true] at h
        have hkj := kindNo_inj h.1
        subst hkj
        obtain ⟨ls, h1, h2, h3, h4⟩ := agg_leaves h.2 (by simpa using hl) hrest
        obtain ⟨m, rfl, hwf⟩ := hk
        refine ⟨.i m :: ls, by simp [h1], ⟨hwf, h2⟩, h3, fun n E S hE => ?_⟩
        simp only [resCs, List.map_cons]
        rw [h4 (n + 1) E S (fun j l hj => by have := hE (j + 1) l (by simpa using hj); rwa [show n + (j + 1) = n + 1 + j by omega] at this)]
        have h0 := hE 0 _ rfl
        simp only [Nat.add_zero] at h0
        simp [resC, CV.val, Ex.int_v, h0, Leaf.int]
      | bool => simp [ekCk] at h
      | lst _ => simp [ekCk] at h
      | str => simp [ekCk] at h
    | bool =>
      cases ck with
      | bool =>
        simp only [ekCk] at h
        obtain ⟨ls, h1, h2, h3, h4⟩ := agg_leaves h (by simpa using hl) hrest
        obtain ⟨m, rfl⟩ := hk
        refine ⟨.b m :: ls, by simp [h1], ⟨trivial, h2⟩, h3, fun n E S hE => ?_⟩
        simp only [resCs, List.map_cons]
        rw [h4 (n + 1) E S (fun j l hj => by have := hE (j + 1) l (by simpa using hj); rwa [show n + (j + 1) = n + 1 + j by omega] at this)]
        have h0 := hE 0 _ rfl
        simp only [Nat.add_zero] at h0
        simp [resC, CV.val, Ex.bool_v, h0, Leaf.bool]
      | int _ => simp [ekCk] at h
      | lst _ => simp [ekCk] at h
      | str => simp [ekCk] at h
    | gro _ _ => exact hk.elim
  | [], _ :: _, _, h, _, _ => by simp [ekCk] at h
  | K :: _, [], _, h, _, _ => by cases K <;> simp [ekCk] at h

def readLV (w : World) (a : Addr) (W len : Nat) : LV :=
  ⟨len, fun i c => match w.cell? ⟨a.block, a.off + (i * W + c), none⟩ with | some (.int _ n) => n | _ => 0,
    fun i c => match w.cell? ⟨a.block, a.off + (i * W + c), none⟩ with | some (.bool b) => b | _ => false⟩

/-- A slice that reads as data. -/
theorem slice_reads {e : TypeId} {t : TypeId} {ek : List EK} (hu : P.underlying t = some (.slice e)) (hf : flatT P 8 e = some ek) (h0 : 0 < ek.length) (hc : P.cellsOf e = ek.length)
    {v : Value} {d : DataW H} {p : List MemPlace} (hokv : ∃ a len cap, v = .slice a len cap) (h : DataW.Trod enc P w 0 (fun _ => true) true t v d p) : ∃ x : LV, x.rng ek ∧ reads w 0 β0 ek x v := by
  obtain ⟨a0, len0, cap0, rfl⟩ := hokv
  obtain ⟨fuel, hx⟩ := h
  rcases open_slice hu hx with ⟨hcs, _⟩ | ⟨a, len, cap, m, n, D, Pl, hcs, hb, hl, hm, hmm, hxx, hi⟩
  · simp only [Value.cells, List.cons.injEq, and_true] at hcs
    refine ⟨⟨0, fun _ _ => 0, fun _ _ => false⟩, ⟨Nat.zero_le _, fun i c k hi => by simp at hi⟩, a0, cap0, ?_, .inl rfl⟩
    cases hcs; rfl
  · have hcs' : some a = a0 ∧ len = len0 ∧ cap = cap0 := by
      simp only [Value.cells, List.cons.injEq, and_true, Value.slice.injEq] at hcs
      exact ⟨hcs.1.symm, hcs.2.1.symm, hcs.2.2.symm⟩
    obtain ⟨rfl, rfl, rfl⟩ := hcs'
    simp only [if_true] at hmm
    subst hmm
    have key : ∀ (i c : Nat) (K : EK), i < len → ek[c]? = some K → ∃ u, w.cell? ((a.add (i * P.cellsOf e)).add c) = some u ∧ K.has u := fun i c K hi' hK => by
      obtain ⟨cs', h1, h2⟩ := hi i (by omega)
      obtain ⟨_, h3, h4⟩ := World.cells?_some h1
      obtain ⟨h5, h6⟩ := trod_flat 8 e ek hf n cs' _ h2
      obtain ⟨u, h7, h8⟩ := h6 c K hK
      have hcl := lt_of_get hK
      exact ⟨u, by rw [h4 c (by omega)]; exact h7, h8⟩
    have hsp : len ≠ 0 → a.spot = none := fun hne => by
      have hK : ek[0]? = some ek[0] := List.getElem?_eq_getElem h0
      obtain ⟨u, h1, _⟩ := key 0 0 _ (by omega) hK
      rw [Nat.zero_mul, Addr.add_zero', Addr.add_zero'] at h1
      unfold World.cell? at h1
      split at h1
      · split at h1
        · cases h1
        · rename_i hs; simpa using hs
      · cases h1
    have hcell : ∀ (i c : Nat) (K : EK), i < len → ek[c]? = some K → ∃ u, w.cell? ⟨a.block, a.off + (i * ek.length + c), none⟩ = some u ∧ K.has u := fun i c K hi' hK => by
      obtain ⟨u, h1, h2⟩ := key i c K hi' hK
      refine ⟨u, ?_, h2⟩
      have hs := hsp (by omega)
      rw [hc] at h1
      have e1 : (a.add (i * ek.length)).add c = ⟨a.block, a.off + (i * ek.length + c), none⟩ := by
        rw [add_spot hs]
        rw [add_spot rfl]
        simp [Nat.add_assoc]
      rwa [e1] at h1
    refine ⟨readLV w a ek.length len, ⟨Nat.le_trans hl hm, fun i c k hi' hk => ?_⟩, some a, m, rfl, ?_⟩
    · obtain ⟨u, h1, nn, rfl, hwf⟩ := hcell i c _ hi' hk
      simp only [readLV, h1]
      exact hwf
    · by_cases hne : len = 0
      · exact .inl hne
      · right
        refine ⟨a, rfl, hsp hne, ⟨?_, fun k hk => by omega⟩, fun i c K hi' hK => ?_⟩
        · have hK : ek[0]? = some ek[0] := List.getElem?_eq_getElem h0
          obtain ⟨u, h1, _⟩ := hcell 0 0 _ (by omega) hK
          exact World.block_lt_of_cell? w ⟨a.block, a.off + (0 * ek.length + 0), none⟩ h1
        · obtain ⟨u, h1, h2⟩ := hcell i c K hi' hK
          rw [h1]
          cases K with
          | int k => obtain ⟨nn, rfl, _⟩ := h2; simp [EK.val, readLV, h1]
          | bool => obtain ⟨bb, rfl⟩ := h2; simp [EK.val, readLV, h1]
          | gro _ _ => exact h2.elim

theorem param_opens {t : TypeId} {s : Sh} (hp : paramOk P t s = true) {v : Value} {d : DataW H} {p : List MemPlace} (hv : Value.okWide P w r b0 t v) (h : DataW.Trod enc P w 0 (fun _ => true) true t v d p) :
    ∃ (ls : List Leaf) (sv : List Value), rngs s.cells ls ∧ ls.length = s.cells.length ∧ sv.length = s.cells.length ∧
      ∀ (n : Nat) (E : Env) (S : Nat → Value), (∀ (j : Nat) l, ls[j]? = some l → E (n + j) = l) → (∀ (j : Nat) u, sv[j]? = some u → S (n + j) = u) →
        (resT n s).val E S β0 = v ∧ ∀ p, p ∈ resLists n s.cells → reads w 0 β0 p.2 (E p.1).lv (S p.1) := by
  unfold paramOk at hp
  split at hp
  · rename_i k
    split at hp
    · rename_i j hu
      have hkj := kindNo_inj hp
      subst hkj
      obtain ⟨fuel, hx⟩ := h
      obtain ⟨n, h1, _, hwf⟩ := DataW.trod_int hu hx
      have hv1 : v = .int k n := by
        cases v <;> simp [Value.cells] at h1 <;> try (first | exact h1 | (obtain ⟨rfl, rfl⟩ := h1; rfl))
        simp only [Value.okWide, hu, Cell.okWide, Cell.ok] at hv
      subst hv1
      refine ⟨[.i n], [undef], ⟨hwf, trivial⟩, rfl, rfl, fun m E S hE hS => ⟨?_, fun p hp => by simp [Sh.cells, resLists] at hp⟩⟩
      have h0 := hE 0 _ rfl
      simp only [Nat.add_zero] at h0
      simp [resT, TV.val, resC, CV.val, Ex.int_v, h0, Leaf.int]
    · cases hp
  · split at hp
    · rename_i hu
      obtain ⟨fuel, hx⟩ := h
      obtain ⟨b, h1, _⟩ := DataW.trod_bool hu hx
      have hv1 : v = .bool b := by
        cases v <;> simp [Value.cells] at h1 <;> try (first | exact h1 | (subst h1; rfl))
        simp only [Value.okWide, hu, Cell.okWide, Cell.ok] at hv
      subst hv1
      refine ⟨[.b b], [undef], ⟨trivial, trivial⟩, rfl, rfl, fun m E S hE hS => ⟨?_, fun p hp => by simp [Sh.cells, resLists] at hp⟩⟩
      have h0 := hE 0 _ rfl
      simp only [Nat.add_zero] at h0
      simp [resT, TV.val, resC, CV.val, Ex.bool_v, h0, Leaf.bool]
    · cases hp
  · rename_i ek
    split at hp
    · rename_i e hu
      split at hp
      · rename_i ks hks
        simp only [Bool.and_eq_true] at hp
        have h1 := allEq_eq EK.eqb_eq hp.1.1
        subst h1
        obtain ⟨x, h2, h3⟩ := slice_reads hu hks (blt_lt hp.1.2) (Nat.eq_of_beq_eq_true hp.2) (okWide_slice hu hv) h
        refine ⟨[.l x], [v], ⟨h2, trivial⟩, rfl, rfl, fun m E S hE hS => ?_⟩
        have h0 := hE 0 _ rfl
        have h00 := hS 0 _ rfl
        simp only [Nat.add_zero] at h0 h00
        refine ⟨by simp only [resT, TV.val, resC, CV.val, h00]; exact reads_asSl h3, fun p hp => ?_⟩
        simp only [Sh.cells, resLists, List.mem_cons, List.not_mem_nil, or_false] at hp
        subst hp
        rw [h0, h00]
        exact h3
      · cases hp
    · cases hp
  · rename_i cs
    split at hp
    · rename_i fs hu
      split at hp
      · rename_i ks hks
        obtain ⟨us, rfl, hsz⟩ := okWide_struct hu hv
        obtain ⟨fuel, hx⟩ := h
        obtain ⟨h1, h2⟩ := trod_flat 8 t ks hks fuel _ _ hx
        obtain ⟨ls, h3, h4, h5, h6⟩ := agg_leaves hp h1 h2
        refine ⟨ls, List.replicate cs.length undef, h4, h3, by simp [Sh.cells], fun m E S hE hS => ⟨?_, fun p hp => by rw [show (Sh.agg cs).cells = cs from rfl, hasLst_lists h5] at hp; simp at hp⟩⟩
        simp only [resT, TV.val, h6 m E S hE, Value.cells]
      · cases hp
    · cases hp
  · cases hp

theorem params_open : ∀ {ts : List TypeId} {ss : List Sh} {vs : List Value} {ds : List (DataW H)} {p : List MemPlace}, paramsOk P ts ss = true →
    (∀ (j : Nat) t v, ts[j]? = some t → vs[j]? = some v → Value.okWide P w r b0 t v) → DataW.TrodAll enc P w 0 (fun _ => true) true ts vs ds p →
    ∃ ls sv, rngs (shCells ss) ls ∧ Stands w ss vs ls sv
  | [], [], vs, ds, p, _, _, h => by
    obtain ⟨rfl, _, _⟩ := trodAll_nil h
    exact ⟨[], [], trivial, rfl, rfl, fun _ _ _ _ _ => ⟨rfl, fun p hp => by simp [shCells, resLists] at hp⟩⟩
  | t :: ts, s :: ss, vs, ds, p, hp, hv, h => by
    simp only [paramsOk, Bool.and_eq_true] at hp
    obtain ⟨v, vs', d, ds', p', q', rfl, rfl, rfl, h1, h2⟩ := trodAll_cons h
    obtain ⟨ls1, sv1, h3, h4, h5, h6⟩ := param_opens hp.1 (hv 0 t v rfl rfl) h1
    obtain ⟨ls2, sv2, h7, h8, h9, h10⟩ := params_open hp.2 (fun j t' v' ht hv' => hv (j + 1) t' v' (by simpa using ht) (by simpa using hv')) h2
    have hsc : shCells (s :: ss) = s.cells ++ shCells ss := by simp [shCells]
    refine ⟨ls1 ++ ls2, sv1 ++ sv2, by rw [hsc]; exact rngs_append h3 h7, by rw [hsc]; simp [h4, h8], by rw [hsc]; simp [h5, h9], fun n E S hE hS => ?_⟩
    obtain ⟨g1, g2⟩ := h6 n E S (fun j l hj => hE j l (by rw [List.getElem?_append_left (lt_of_get hj)]; exact hj)) (fun j l hj => hS j l (by rw [List.getElem?_append_left (lt_of_get hj)]; exact hj))
    obtain ⟨g3, g4⟩ := h10 (n + s.cells.length) E S
      (fun j l hj => by
        have := hE (ls1.length + j) l (by rw [List.getElem?_append_right (by omega)]; simpa using hj)
        rwa [h4, ← Nat.add_assoc] at this)
      (fun j l hj => by
        have := hS (sv1.length + j) l (by rw [List.getElem?_append_right (by omega)]; simpa using hj)
        rwa [h5, ← Nat.add_assoc] at this)
    refine ⟨by simp [resTs, g1, g3], fun p hp => ?_⟩
    rw [hsc, resLists_append] at hp
    rcases List.mem_append.1 hp with hp | hp
    · exact g2 p hp
    · exact g4 p hp
  | [], _ :: _, _, _, _, hp, _, _ => by simp [paramsOk] at hp
  | _ :: _, [], _, _, _, hp, _, _ => by simp [paramsOk] at hp

/-- The arguments read behind the call as they read before. -/
theorem args_stay (hl : laidOutB P = true) : ∀ {ts : List TypeId} {vs : List Value} {ds : List (DataW H)} {p : List MemPlace} {w' : World}, (∀ t, t ∈ ts → P.readableRec t = true ∧ t < P.types.size) →
    DataW.TrodAll enc P w 0 (fun _ => true) true ts vs ds p → Below w.heap.size w w' → DataW.TrodAll enc P w' 0 (fun b => decide (b < w.heap.size)) true ts vs ds p
  | [], vs, ds, p, w', _, h, _ => by
    obtain ⟨rfl, rfl, rfl⟩ := trodAll_nil h
    exact rfl
  | t :: ts, vs, ds, p, w', ht, h, hb => by
    have hlt := DataW.TrodAll.lt h
    obtain ⟨v, vs', d, ds', p', q', rfl, rfl, rfl, h1, h2⟩ := trodAll_cons h
    obtain ⟨h3, h4⟩ := ht t (List.mem_cons_self ..)
    exact ⟨p', q', Below.trod hl h3 h4 h1 hb (fun x hx => hlt x (List.mem_append_left _ hx)), args_stay hl (fun t' h' => ht t' (List.mem_cons_of_mem _ h')) h2 hb, rfl⟩

theorem all_rd {ts : List TypeId} (h : ts.all (fun t => P.readableRec t && decide (t < P.types.size)) = true) : ∀ t, t ∈ ts → P.readableRec t = true ∧ t < P.types.size := by
  intro t ht
  have := List.all_eq_true.1 h t ht
  simpa using this

/-- **The step from a law's contract to its row.** -/
theorem law_calls (hl : laidOutB P = true) {G : World → Prop} {f : Nat} {fn : Func} {C : Ctr} (hs : C.Sound P G f) {s : ChangeSpec} {tb : TypeId} (hrt : fn.resultTypes = #[tb]) (hub : P.underlying tb = some .bool)
    (hpar : paramsOk P fn.params.toList C.params = true) (hres : C.res = [.one .bool]) (hrd : ∀ t, t ∈ fn.params.toList → P.readableRec t = true ∧ t < P.types.size)
    (hpre : ∀ ls, rngs (shCells C.params) ls → C.pre ls ∧ C.fn ls = [.b true]) (hvars : s.vars = [])
    (hsp : ∀ ds : List (DataW H), ds.length = fn.params.size → (s.fn H (ds ++ [])).results = [.lit (.bool true)] ∧ (s.fn H (ds ++ [])).args = ds ∧ (s.fn H (ds ++ [])).vars = [])
    {W : World} (hG : G W) {args : Array Value} {ds gs : List (DataW H)} {before : List MemPlace} (hval : ∀ (j : Nat) t v, fn.params[j]? = some t → args[j]? = some v → Value.okWide P W r b0 t v)
    (hW : DataW.Whole enc P fn.params.toList s.vars false W args.toList ds gs before) : Calls P f args W fun e W' => ∃ v, e = .returned v ∧ s.post enc P fn false true false false W args v W' := by
  have hW' := hW
  obtain ⟨p, q, hA, hV, rfl, hfz, hnd⟩ := hW
  rw [hvars] at hV
  obtain ⟨rfl, rfl⟩ := trodVars_none hV
  obtain ⟨ls, sv, h1, h2, h3, h4⟩ := params_open hpar (fun j t v ht hv => hval j t v (by simpa using ht) (by simpa using hv)) hA
  obtain ⟨h5, h6⟩ := h4 0 (envOf ls) (fun n => sv.getD n undef) (fun j l hj => by rw [Nat.zero_add]; unfold envOf; rw [List.getD_eq_getElem?_getD, hj]; rfl)
    (fun j v hj => by rw [Nat.zero_add, List.getD_eq_getElem?_getD, hj]; rfl)
  obtain ⟨h7, h8⟩ := hpre ls h1
  have h9 := hs.2 ls (fun n => sv.getD n undef) W hG h7 h6
  rw [h5] at h9
  have h10 : args.toList.toArray = args := by simp
  rw [h10] at h9
  have hlen : ds.length = fn.params.size := by
    have : ∀ (ts : List TypeId) (vs : List Value) (ds : List (DataW H)) (p : List MemPlace), DataW.TrodAll enc P W 0 (fun _ => true) true ts vs ds p → ds.length = ts.length := by
      intro ts
      induction ts with
      | nil => intro vs ds p h; obtain ⟨_, rfl, _⟩ := trodAll_nil h; rfl
      | cons t ts ih => intro vs ds p h; obtain ⟨v, vs', d, ds', p', q', rfl, rfl, rfl, _, h2⟩ := trodAll_cons h; simp [ih _ _ _ h2]
    simpa using this _ _ _ _ hA
  obtain ⟨g1, g2, g3⟩ := hsp ds hlen
  refine h9.mono ?_
  rintro e W' ⟨hb, v, rfl, S, hv, _⟩
  have hv2 : v = .bool true := by rw [hv, hres, h8]; rfl
  subst hv2
  refine ⟨_, rfl, ds, [], _, [], p, [], hW', ?_, ?_, ?_, hb.frame _, fun h => by cases h⟩
  · rw [g1, hrt]
    exact trodAll_mk1 (shut_bool hub _)
  · rw [g2]
    exact args_stay hl hrd hA hb
  · rw [g3, hvars]
    rfl
end
end Go.Vg

