/- A generator of verification conditions for plain Go code, run by the kernel, and its proof; the step from a contract to a row. Own work, for this seat. -/
import Derived.Test.YtchjajnhbipkmaaDoorVa
/- Memory behind a new block, a store, a call; regions. -/
namespace Go.Vg
open Go.RowKit
set_option linter.unusedVariables false
set_option linter.unusedSimpArgs false

section
variable {W : Base} {w w' : World} {ρ : Env} {σ : Nat → Value} {β : Nat → Nat} {O : List (TypeId × List CV)} {L : List (Nat × List EK)}

theorem TagOk.more {h0 : Array Obj} {k : Nat} {t : TypeId} {cs : List CV} (hs : TagOk h0 ρ β O k t cs) (M : List (TypeId × List CV)) : TagOk h0 ρ β (O ++ M) k t cs := by
  rcases hs with h1 | ⟨l, h1, h3, h4, h5⟩
  · exact .inl h1
  · exact .inr ⟨l, h1, h3, h4, fun i hi0 hi => by
      have := h5 i hi0 hi
      rw [List.getElem?_append_left (lt_of_get this)]
      exact this⟩
theorem TagOk.set {h0 : Array Obj} {k : Nat} {t : TypeId} {cs : List CV} (hs : TagOk h0 ρ β O k t cs) {b : Nat} {O' : List (TypeId × List CV)} (e : ∀ j, j ≠ b → O'[j]? = O[j]?)
    (hb : ∀ u, isTag u = true → O[b]? ≠ some (u, [])) : TagOk h0 ρ β O' k t cs := by
  rcases hs with h1 | ⟨l, h1, h3, h4, h5⟩
  · exact .inl h1
  · exact .inr ⟨l, h1, h3, h4, fun i hi0 hi => by
      have := h5 i hi0 hi
      rw [e _ (fun e' => hb _ (inert_tag t) (by rw [← e']; exact this))]
      exact this⟩
theorem WOk.alloc (hw : WOk W ρ σ β O L w) (t : TypeId) (htag : isTag t = false) (cs : List CV) {β' : Nat → Nat} (hb : Vg.agree O.length β β') (hn : β' O.length = w.heap.size)
    {n : Nat} (ho : ∀ x, x ∈ O → x.2.all (CV.scp n O.length) = true) (hc : cs.all (CV.scp n O.length) = true) :
    WOk W ρ σ β' (O ++ [(t, cs)]) L (w.alloc (.cells (cs.map (CV.val ρ σ β)).toArray t)) := by
  have hlen : (O ++ [(t, cs)]).length = O.length + 1 := by simp
  refine ⟨hw.below.then ((Below.refl w.heap.size w).alloc (Nat.le_refl _) _), fun k u ds hk ht => ?_, fun k u ds hk ht => ?_, fun j k hj hk e => ?_, fun k t' cs' hk hr => ?_, fun p hp => ?_, fun l T K hm he => ?_, fun i b hi => (hb i (Nat.lt_of_lt_of_le (lt_of_get hi) hw.slen)).trans (hw.self i b hi), by rw [hlen]; exact Nat.le_succ_of_le hw.slen, hw.sep⟩
  rotate_left
  · have hlt := lt_of_get hk
    rw [hlen] at hlt
    by_cases hko : k < O.length
    · rw [List.getElem?_append_left hko] at hk
      refine TagOk.more (((hw.obj k u ds hk ht).agree hko (ho (u, ds) (List.mem_of_getElem? hk)) (agree_refl n ρ) hb).frame hk ht (by simp) fun j u' ds' hj _ => ?_) _
      have hj' := lt_of_get hj
      rw [hb j hj', Below.heap_alloc _ _ _ (own_lt hw hj')]
    · have hke : k = O.length := by omega
      subst hke
      simp at hk
      obtain ⟨rfl, rfl⟩ := hk
      rw [htag] at ht; cases ht
  rotate_right
  · have hlt := lt_of_get hk
    rw [hlen] at hlt
    by_cases hko : k < O.length
    · rw [List.getElem?_append_left hko] at hk
      have h1 := own_lt hw hko
      rw [hb k hko, Below.heap_alloc _ _ _ h1, hw.own k u ds hk ht, cvs_agree (agree_refl n ρ) (agree_refl n σ) hb (ho (u, ds) (List.mem_of_getElem? hk))]
    · have hke : k = O.length := by omega
      subst hke
      simp at hk
      obtain ⟨rfl, rfl⟩ := hk
      rw [hn, cvs_agree (agree_refl n ρ) (agree_refl n σ) hb hc]
      show (w.heap.push _)[w.heap.size]? = _
      rw [Array.getElem?_push, if_pos rfl]
  · rw [hlen] at hj hk
    by_cases hjo : j < O.length <;> by_cases hko : k < O.length
    · rw [hb j hjo, hb k hko] at e; exact hw.inj j k hjo hko e
    · have hke : k = O.length := by omega
      subst hke
      rw [hb j hjo, hn] at e
      have := own_lt hw hjo
      omega
    · have hje : j = O.length := by omega
      subst hje
      rw [hb k hko, hn] at e
      have := own_lt hw hko
      omega
    · omega
  · have hlt := lt_of_get hk
    rw [hlen] at hlt
    by_cases hko : k < O.length
    · rw [List.getElem?_append_left hko] at hk
      rw [hb k hko]; exact hw.ge k t' cs' hk hr
    · have hke : k = O.length := by omega
      subst hke
      rw [hn]; exact .inl hw.below.size
  · obtain ⟨base, cap, h1, h2⟩ := hw.lists p hp
    refine ⟨base, cap, h1, ?_⟩
    rcases h2 with h2 | ⟨ad, h3, h4, h6, h5⟩
    · exact .inl h2
    · refine .inr ⟨ad, h3, h4, ⟨by have := h6.1; simp; omega, fun k hk => ?_⟩, fun i c K hi hK => ?_⟩
      · rw [hlen] at hk
        by_cases hko : k < O.length
        · rw [hb k hko]; exact h6.2 k hko
        · have hke : k = O.length := by omega
          subst hke
          rw [hn]
          have := h6.1
          omega
      · rw [World.cell?_alloc_lt w _ ⟨ad.block, ad.off + (i * p.snd.length + c), none⟩ h6.1]; exact h5 i c K hi hK
  · obtain ⟨h1, h2⟩ := hw.gro l T K hm he
    refine ⟨h1.alloc _, fun k hk e => ?_⟩
    rw [hlen] at hk
    by_cases hko : k < O.length
    · rw [hb k hko] at e; exact h2 k hko e
    · have hke : k = O.length := by omega
      subst hke
      rw [hn] at e
      have := (h1.lt _ e).2
      omega

theorem setAt_get {α : Type} : ∀ (l : List α) (n : Nat) (x : α) (k : Nat), (setAt l n x)[k]? = if k = n then (if n < l.length then some x else none) else l[k]?
  | [], n, x, k => by simp [setAt]
  | a :: as, 0, x, k => by cases k <;> simp [setAt]
  | a :: as, n + 1, x, k => by
    cases k with
    | zero => simp [setAt]
    | succ k => simp [setAt, setAt_get as n x k]
theorem setAt_length {α : Type} : ∀ (l : List α) (n : Nat) (x : α), (setAt l n x).length = l.length
  | [], n, x => by simp [setAt]
  | a :: as, 0, x => by simp [setAt]
  | a :: as, n + 1, x => by simp [setAt, setAt_length as n x]

theorem isRO_isTag {t : TypeId} (h : isRO t = true) : isTag t = true := by
  unfold isRO at h
  unfold isTag
  have := Nat.le_of_ble_eq_true h
  exact Nat.ble_eq_true_of_le (by omega)
theorem below_setRowX {X : List Nat} {w0 w : World} {b : Nat} (h : BelowX X w0 w) (hb : w0.heap.size ≤ b ∨ b ∈ X) (cs : Array Value) : BelowX X w0 (w.setRow b cs) :=
  ⟨h.os, h.tape, h.output, by rw [size_setRow]; exact h.size, fun j hj hX => by
    rw [setRow_other w b j cs (fun e => by
      rcases hb with hb | hb
      · omega
      · exact hX (by rw [e]; exact hb))]
    exact h.block j hj hX⟩
theorem WOk.store (hw : WOk W ρ σ β O L w) {b : Nat} {t : TypeId} {old cs : List CV} (hb : O[b]? = some (t, old)) (hbt : isTag t = false) :
    WOk W ρ σ β (setAt O b (t, cs)) L (w.setRow (β b) (cs.map (CV.val ρ σ β)).toArray) := by
  have hlt := lt_of_get hb
  refine ⟨below_setRowX hw.below (hw.ge b t old hb (by rw [← Bool.not_eq_true]; intro h; exact absurd (isRO_isTag h) (by rw [hbt]; simp))) _, fun k u ds hk ht => ?_, fun k u ds hk ht => ?_, fun j k hj hk e => ?_, fun k t' cs' hk hr => ?_, fun p hp => ?_, fun l T K hm he => ?_, hw.self, by rw [setAt_length]; exact hw.slen, hw.sep⟩
  · rw [setAt_get] at hk
    split at hk
    · rename_i hkb
      subst hkb
      try rw [if_pos hlt] at hk
      cases hk
      exact setRow_heap w (β k) _ _ _ _ (hw.own k t old hb hbt)
    · rename_i hkb
      rw [setRow_other w (β b) (β k) _ (fun e => hkb (hw.inj k b (lt_of_get hk) hlt e))]
      exact hw.own k u ds hk ht
  · rw [setAt_get] at hk
    split at hk
    · try rw [if_pos hlt] at hk
      cases hk
      rw [hbt] at ht; cases ht
    · refine TagOk.set (b := b) ((hw.obj k u ds hk ht).frame hk ht (by rw [size_setRow]; exact Nat.le_refl _) fun j u' ds' hj htj => ?_) (fun j hj => by rw [setAt_get, if_neg hj]) (fun v hv e => ?_)
      · have hjb : j ≠ b := fun e => by
          rw [e, hb] at hj
          cases hj
          rw [hbt] at htj; cases htj
        rw [setRow_other w (β b) (β j) _ (fun e => hjb (hw.inj j b (lt_of_get hj) hlt e))]
      · rw [hb] at e
        cases e
        rw [hv] at hbt
        cases hbt
  · rw [setAt_length] at hj hk; exact hw.inj j k hj hk e
  · rw [setAt_get] at hk
    split at hk
    · rename_i hkb
      try rw [if_pos hlt] at hk
      cases hk
      rw [hkb]
      exact hw.ge b t old hb hr
    · exact hw.ge k t' cs' hk hr
  · obtain ⟨base, cap, h1, h2⟩ := hw.lists p hp
    refine ⟨base, cap, h1, ?_⟩
    rcases h2 with h2 | ⟨ad, h3, h4, h6, h5⟩
    · exact .inl h2
    · refine .inr ⟨ad, h3, h4, ⟨by rw [size_setRow]; exact h6.1, fun k hk => h6.2 k (by rwa [setAt_length] at hk)⟩, fun i c K hi hK => ?_⟩
      rw [cell_setRow_other w (β b) _ ⟨ad.block, ad.off + (i * p.snd.length + c), none⟩ (h6.2 b hlt)]
      exact h5 i c K hi hK
  · obtain ⟨h1, h2⟩ := hw.gro l T K hm he
    refine ⟨ownsRow_block h1 (fun g hg => setRow_other w (β b) g _ (fun e => h2 b hlt (by rw [hg, e]))), fun k hk => h2 k (by rwa [setAt_length] at hk)⟩

/-- The lists that are left, where one was appended to. -/
def dropOld (old : Option Nat) (L : List (Nat × List EK)) : List (Nat × List EK) := match old with
  | some l => L.filter (fun p => !(Nat.beq p.1 l))
  | none => L
theorem dropOld_mem {old : Option Nat} {p : Nat × List EK} (h : p ∈ dropOld old L) : p ∈ L ∧ ∀ l, old = some l → p.1 ≠ l := by
  cases old with
  | none => exact ⟨h, fun l h => by cases h⟩
  | some l =>
    obtain ⟨h1, h2⟩ := List.mem_filter.1 h
    refine ⟨h1, fun l' h' e => ?_⟩
    cases h'
    rw [e, Nat.beq_refl] at h2
    cases h2

theorem WOk.app (hw : WOk W ρ σ β O L w) {n : Nat} {old : Option Nat} {t : TypeId} {ks : List IntKind} (hks : 0 < ks.length) (hold : ∀ l, old = some l → (l, gros t ks) ∈ L)
    {w1 : World} (h4 : w1.ownsRow W.heap.size t (gros t ks).length (σ n) (ρ n).lv.len (rowsOf (gros t ks) (ρ n).lv)) (hpos : 0 < (ρ n).lv.len)
    (h5 : w.grownBy w1 (oldV σ old).ownBlock) (h6 : (σ n).ownBlock = (oldV σ old).ownBlock ∨ (σ n).ownBlock = some w.heap.size) :
    WOk W ρ σ β O ((n, gros t ks) :: dropOld old L) w1 := by
  have hgr : groOf (gros t ks) = some t := gros_of hks
  have hge : ∀ g, (oldV σ old).ownBlock = some g → W.heap.size ≤ g ∧ g < w.heap.size := fun g hg => by
    cases old with
    | none => cases hg
    | some l => exact (hw.gro l t _ (hold l rfl) hgr).1.lt g hg
  have hnb : ∀ j, j < O.length → (oldV σ old).ownBlock ≠ some (β j) := fun j hj => by
    cases old with
    | none => intro e; cases e
    | some l => exact (hw.gro l t _ (hold l rfl) hgr).2 j hj
  have hkeep : ∀ p, p ∈ L → (∀ l, old = some l → p.1 ≠ l) → ((ρ p.1).lv.len = 0 ∧ isGro p.2 = false) ∨ (oldV σ old).ownBlock = none ∨ (oldV σ old).ownBlock ≠ (σ p.1).ownBlock := fun p hp hne => by
    cases old with
    | none => exact .inr (.inl rfl)
    | some l => exact hw.sep (l, gros t ks) p (hold l rfl) hp (isGro_gros hks) (fun e => hne l rfl e.symm)
  obtain ⟨g, cap, hform, hg1, hg2⟩ := h4.form hpos
  have hgb : (σ n).ownBlock = some g := by rw [hform]; rfl
  have hapart : ∀ j, j < O.length → g ≠ β j := fun j hj e => by
    rw [hgb] at h6
    rcases h6 with h6 | h6
    · exact hnb j hj (by rw [← h6, e])
    · cases h6
      have := own_lt hw hj
      omega
  refine ⟨⟨h5.os.trans hw.below.os, h5.tape.trans hw.below.tape, h5.output.trans hw.below.output, Nat.le_trans hw.below.size h5.size, fun j hj hX => ?_⟩, fun j u ds hj ht => ?_, fun j u ds hj ht => (hw.obj j u ds hj ht).frame hj ht h5.size fun i u' ds' hi _ => h5.block (β i) (own_lt hw (lt_of_get hi)) (fun e => hnb i (lt_of_get hi) e.symm), hw.inj, hw.ge, fun p hp => ?_, fun l T K hm he => ?_, hw.self, hw.slen, fun p q hp hq hg hne => ?_⟩
  · rw [h5.block j (Nat.lt_of_lt_of_le hj hw.below.size) (fun e => by have := (hge j e.symm).1; have e2 : W.heap.size = W.W.heap.size := rfl; omega)]
    exact hw.below.block j hj hX
  · have hlt := lt_of_get hj
    rw [h5.block (β j) (own_lt hw hlt) (fun e => hnb j hlt e.symm)]
    exact hw.own j u ds hj ht
  · rcases List.mem_cons.1 hp with rfl | hp
    · have hcap : (ρ n).lv.len ≤ cap := by
        rcases h4.2 with ⟨hv, _⟩ | ⟨g', cap', cur', hv, _, _, hnc, _⟩
        · rw [hform] at hv; cases hv
        · rw [hform] at hv
          cases hv
          exact hnc
      refine ⟨some ⟨g, 0, none⟩, ⟨cap, hcap⟩, hform, .inr ⟨⟨g, 0, none⟩, rfl, rfl, ⟨hg2, hapart⟩, fun i c K hi hK => ?_⟩⟩
      have hi' : i < (ρ n).lv.len := hi
      have h7 := h4.cells hgb (i * (gros t ks).length + c) _ (rowsOf_get hi' hK)
      rw [Addr.add_lit] at h7
      simpa using h7
    · obtain ⟨hp1, hp2⟩ := dropOld_mem hp
      obtain ⟨base, c, h1, h2⟩ := hw.lists p hp1
      refine ⟨base, c, h1, ?_⟩
      rcases h2 with h2 | ⟨ad, h3, h7, h8, h9⟩
      · exact .inl h2
      · rcases hkeep p hp1 hp2 with hk | hk
        · exact .inl hk.1
        · have hne : some ad.block ≠ (oldV σ old).ownBlock := fun e => by
            rcases hk with hk | hk
            · rw [hk] at e; cases e
            · exact hk (by rw [← e, h1, h3]; rfl)
          refine .inr ⟨ad, h3, h7, ⟨Nat.lt_of_lt_of_le h8.1 h5.size, h8.2⟩, fun i c K hi hK => ?_⟩
          exact h5.cell (h9 i c K hi hK) hne
  · rcases List.mem_cons.1 hm with hm | hm
    · cases hm
      rw [hgr] at he
      cases he
      exact ⟨h4, fun j hj e => hapart j hj (by rw [hgb] at e; exact Option.some.inj e)⟩
    · obtain ⟨hp1, hp2⟩ := dropOld_mem hm
      obtain ⟨h7, h8⟩ := hw.gro l T K hp1 he
      refine ⟨ownsRow_block h7 (fun g' hg' => h5.block g' (h7.lt g' hg').2 (fun e => ?_)), h8⟩
      rcases hkeep _ hp1 hp2 with hk | hk | hk
      · rw [isGro_of he] at hk; cases hk.2
      · rw [hk] at e; cases e
      · exact hk (by rw [← e]; exact hg'.symm)
  · rcases List.mem_cons.1 hp with rfl | hp
    · rcases List.mem_cons.1 hq with rfl | hq
      · exact absurd rfl hne
      · obtain ⟨hq1, hq2⟩ := dropOld_mem hq
        rcases h6 with h6 | h6
        · simp only [h6]; exact hkeep q hq1 hq2
        · by_cases hl : (ρ q.1).lv.len = 0 ∧ isGro q.2 = false
          · exact .inl hl
          · refine .inr (.inr fun e => ?_)
            simp only [h6] at e
            cases hgq : isGro q.2 with
            | true =>
              obtain ⟨T, he⟩ := isGro_eq hgq
              have h7 := hw.gro q.1 T q.2 hq1 he
              have := (h7.1.lt _ e.symm).2
              omega
            | false =>
              obtain ⟨base, c, h1, h2⟩ := hw.lists q hq1
              rcases h2 with h2 | ⟨ad, h3, h7, h8, h9⟩
              · exact hl ⟨h2, hgq⟩
              · rw [h1, h3] at e
                have e' : w.heap.size = ad.block := Option.some.inj e
                have := h8.1
                omega
    · obtain ⟨hp1, hp2⟩ := dropOld_mem hp
      rcases List.mem_cons.1 hq with rfl | hq
      · obtain ⟨T, he⟩ := isGro_eq hg
        have h7 := (hw.gro p.1 T p.2 hp1 he).1
        cases hb : (σ p.1).ownBlock with
        | none => exact .inr (.inl rfl)
        | some g' =>
          refine .inr (.inr fun e => ?_)
          have hlt := (h7.lt g' hb).2
          rcases h6 with h6 | h6
          · rcases hkeep p hp1 hp2 with hk | hk | hk
            · rw [hg] at hk; cases hk.2
            · simp only [h6, hk] at e; cases e
            · exact hk (by rw [hb, e, h6])
          · simp only [h6] at e
            have e' : g' = w.heap.size := Option.some.inj e
            omega
      · exact hw.sep p q hp1 (dropOld_mem hq).1 hg hne

theorem TOk.put {st : St} {a : Act} (hT : TOk ρ σ β st a) (dst : Option Tmp) {g : Gd} {sv : SV} {v : Value}
    (h : sv = .any ∨ (Gd.holds ρ g ∧ v = sv.val ρ σ β) ∨ (¬ Gd.holds ρ g ∧ v = undef)) : TOk ρ σ β (st.put dst (g, sv)) (a.put dst v) := by
  cases dst with
  | none => exact hT
  | some d =>
    by_cases hd : d < st.nt
    · have hb : Nat.blt d st.nt = true := by unfold Nat.blt; exact Nat.ble_eq_true_of_le hd
      have e : st.put (some d) (g, sv) = { st with tmps := (d, (g, sv)) :: st.tmps } := by simp only [St.put, hb]
      rw [e]
      refine ⟨by simp only [Act.put, Array.size_setIfInBounds, hT.size], fun t g' sv' ht => ?_, hT.defers, hT.pc⟩
      simp only [getT] at ht
      simp only [Act.put]
      split at ht
      · rename_i hdt
        have hdt := Nat.eq_of_beq_eq_true hdt
        subst hdt
        cases ht
        have h1 : (a.tmps.setIfInBounds d v).getD d undef = v := by
          rw [Array.getD_eq_getD_getElem?, Array.getElem?_setIfInBounds_self_of_lt (by rw [hT.size]; exact hd)]
          rfl
        rw [h1]
        exact h
      · rename_i hdt
        have h1 : (a.tmps.setIfInBounds d v).getD t undef = a.tmps.getD t undef := by
          rw [Array.getD_eq_getD_getElem?, Array.getD_eq_getD_getElem?, Array.getElem?_setIfInBounds_ne (fun e => by rw [e, Nat.beq_refl] at hdt; cases hdt)]
        rw [h1]
        exact hT.slot t g' sv' ht
    · have hb : Nat.blt d st.nt = false := by
        cases h2 : Nat.blt d st.nt
        · rfl
        · exact absurd (blt_lt h2) hd
      have e : st.put (some d) (g, sv) = st := by simp only [St.put, hb]
      have e2 : a.put (some d) v = a := by
        simp only [Act.put]
        rw [Array.setIfInBounds_eq_of_size_le (by rw [hT.size]; exact Nat.le_of_not_lt hd)]
      rw [e, e2]
      exact hT

theorem put_n (st : St) (dst : Option Tmp) (x : Gd × SV) : (st.put dst x).n = st.n ∧ (st.put dst x).own = st.own ∧ (st.put dst x).lists = st.lists ∧ (st.put dst x).pc = st.pc := by
  cases dst with
  | none => exact ⟨rfl, rfl, rfl, rfl⟩
  | some d => simp only [St.put]; split <;> exact ⟨rfl, rfl, rfl, rfl⟩

end

/-! ### Guards -/

section
variable {P : Program} {ρ : Env} {σ : Nat → Value} {β : Nat → Nat} {st : St} {a : Act}

theorem guard_ok {ops : Array Oper} (hT : TOk ρ σ β st a) {o : Oper} {g : Gd} (h : guardOf ops st o = some g) : (Region.wanted o (yielded ops a.tmps) = true ↔ Gd.holds ρ g) := by
  unfold guardOf at h
  unfold Region.wanted
  split at h
  · rename_i ho
    cases h
    rw [ho]
    exact ⟨fun _ p hp => by simp at hp, fun _ => rfl⟩
  · rename_i j want ho
    split at h
    · rename_i d hd
      split at h
      · rename_i gd e ht
        cases h
        rw [ho]
        simp only [beq_iff_eq]
        have hy : yielded ops a.tmps j = match a.tmps.getD d undef with | .bool b => some b | _ => none := by
          unfold yielded
          rw [hd]
          by_cases hlt : d < a.tmps.size
          · simp only [Option.bind_some, Array.getD_eq_getD_getElem?, Array.getElem?_eq_getElem hlt, Option.getD_some]
            cases a.tmps[d] <;> rfl
          · simp only [Option.bind_some, Array.getD_eq_getD_getElem?, Array.getElem?_eq_none (Nat.le_of_not_lt hlt), Option.getD_none, undef]
        rw [hy]
        rcases hT.slot d gd _ ht with h1 | ⟨h1, h2⟩ | ⟨h1, h2⟩
        · cases h1
        · rw [h2]
          simp only [SV.val, TV.val, CV.val]
          constructor
          · intro h3
            exact holds_cons (by simpa using h3) h1
          · intro h3
            have := h3 (e, want) (List.mem_cons_self ..)
            simpa using this
        · rw [h2]
          simp only [undef]
          constructor
          · intro h3; cases h3
          · intro h3; exact absurd (fun p hp => h3 p (List.mem_cons_of_mem _ hp)) h1
      · cases h
    · cases h

theorem dead_ok {g : Gd} (h : deadGd g = true) : ¬ Gd.holds ρ g := by
  intro hg
  simp only [deadGd, List.any_eq_true] at h
  obtain ⟨p, hp, h1⟩ := h
  have h2 := hg p hp
  split at h1
  · rename_i b hb
    rw [hb, Ex.bool_t] at h2
    have h3 := boolEq_eq h1
    rw [h2] at h3
    cases hp2 : p.2 <;> simp [hp2] at h3
  · cases h1

theorem thin_ok {g : Gd} : Gd.holds ρ (thinGd g) ↔ Gd.holds ρ g := by
  constructor
  · intro h p hp
    by_cases hf : (match p.1 with | .t b => !(boolEq b p.2) | _ => true) = true
    · exact h p (List.mem_filter.2 ⟨hp, hf⟩)
    · split at hf
      · rename_i b hb
        have : boolEq b p.2 = true := by simpa using hf
        rw [hb, Ex.bool_t, boolEq_eq this]
      · exact absurd rfl hf
  · intro h p hp
    exact h p (List.mem_filter.1 hp).1

theorem deadP_ok {st : St} (hpc : Gd.holds ρ st.pc) {g : Gd} (h : deadP st g = true) : ¬ Gd.holds ρ g := by
  unfold deadP at h
  rw [Bool.or_eq_true] at h
  rcases h with h | h
  · exact dead_ok h
  · intro hg
    obtain ⟨p, hp, h1⟩ := List.any_eq_true.1 h
    have h2 := knownIn_ok hpc h1
    have h3 := hg p hp
    simp only at h2
    rw [h3] at h2
    cases hb : p.2 <;> simp [hb] at h2
theorem thinP_ok {st : St} (hpc : Gd.holds ρ st.pc) {g : Gd} : Gd.holds ρ (thinP st g) ↔ Gd.holds ρ g := by
  rw [← thin_ok (g := g)]
  constructor
  · intro h p hp
    by_cases hf : knownIn st.pc p = true
    · exact knownIn_ok hpc hf
    · exact h p (List.mem_filter.2 ⟨hp, by simpa using hf⟩)
  · intro h p hp
    exact h p (List.mem_filter.1 hp).1

theorem isNil_holds {g : Gd} (h : isNil g = true) : Gd.holds ρ g := by
  cases g with
  | nil => exact fun p hp => by simp at hp
  | cons _ _ => simp [isNil] at h

theorem isT_ok {e : Ex} (h : isT e = true) : e.bool ρ = true := by
  unfold isT at h
  split at h
  · rfl
  · cases h

/-- What is known, and what is shown, is all that is needed. -/
theorem need_ok (hpc : Gd.holds ρ st.pc) {g : Gd} (hg : Gd.holds ρ g) {e : Ex} (h : ∀ x, x ∈ need st g e → x.bool ρ = true) : e.bool ρ = true := by
  unfold need at h
  split at h
  · rename_i ht; exact isT_ok ht
  · split at h
    · rename_i hk
      simp only [Bool.or_eq_true, List.any_eq_true] at hk
      rcases hk with ⟨q, hq, h1⟩ | ⟨q, hq, h1⟩
      · have := hpc q hq; rw [← pairEq_eq h1] at this; exact this
      · have := hg q hq; rw [← pairEq_eq h1] at this; exact this
    · exact h e (List.mem_singleton.2 rfl)

theorem needAll_ok (hpc : Gd.holds ρ st.pc) {g : Gd} (hg : Gd.holds ρ g) {obs : List Ex} (h : ∀ x, x ∈ needAll st g obs → x.bool ρ = true) : ∀ e, e ∈ obs → e.bool ρ = true :=
  fun e he => need_ok hpc hg fun x hx => h x (List.mem_flatten.2 ⟨_, List.mem_map.2 ⟨e, he, rfl⟩, hx⟩)

end
end Go.Vg

/- A region does what the run says. -/
namespace Go.Vg
open Go.RowKit
set_option linter.unusedVariables false
set_option linter.unusedSimpArgs false

/-! ### Results -/

section
variable {ρ ρ' : Env} {σ σ' : Nat → Value} {β β' : Nat → Nat}

theorem resC_shift {n k : Nat} (h1 : ρ' n = ρ k) (h2 : σ' n = σ k) (c : CK) : (resC n c).val ρ' σ' β' = (resC k c).val ρ σ β := by
  cases c <;> simp only [resC, CV.val, Ex.int_v, Ex.bool_v, h1, h2]
theorem resCs_shift : ∀ (cs : List CK) (n k : Nat), (∀ j, ρ' (n + j) = ρ (k + j)) → (∀ j, σ' (n + j) = σ (k + j)) → (resCs n cs).map (CV.val ρ' σ' β') = (resCs k cs).map (CV.val ρ σ β)
  | [], _, _, _, _ => rfl
  | c :: cs, n, k, h1, h2 => by
    have h3 := resC_shift (β := β) (β' := β') (h1 0) (h2 0) c
    have h4 := resCs_shift cs (n + 1) (k + 1) (fun j => by have := h1 (1 + j); rwa [← Nat.add_assoc, ← Nat.add_assoc] at this) (fun j => by have := h2 (1 + j); rwa [← Nat.add_assoc, ← Nat.add_assoc] at this)
    simp only [resCs, List.map_cons]
    rw [h4]
    congr 1
theorem resT_shift (s : Sh) (n k : Nat) (h1 : ∀ j, ρ' (n + j) = ρ (k + j)) (h2 : ∀ j, σ' (n + j) = σ (k + j)) : (resT n s).val ρ' σ' β' = (resT k s).val ρ σ β := by
  cases s with
  | one c => exact resC_shift (h1 0) (h2 0) c
  | agg cs => simp only [resT, TV.val, resCs_shift cs n k h1 h2 (β := β) (β' := β')]
theorem resTs_shift : ∀ (ss : List Sh) (n k : Nat), (∀ j, ρ' (n + j) = ρ (k + j)) → (∀ j, σ' (n + j) = σ (k + j)) → (resTs n ss).map (TV.val ρ' σ' β') = (resTs k ss).map (TV.val ρ σ β)
  | [], _, _, _, _ => rfl
  | s :: ss, n, k, h1, h2 => by
    have h3 := resT_shift s n k h1 h2 (β := β) (β' := β')
    have h4 := resTs_shift ss (n + s.cells.length) (k + s.cells.length) (fun j => by rw [Nat.add_assoc, Nat.add_assoc]; exact h1 _) (fun j => by rw [Nat.add_assoc, Nat.add_assoc]; exact h2 _)
    simp only [resTs, List.map_cons, h3, h4]
theorem resS_shift (ss : List Sh) (n k : Nat) (h1 : ∀ j, ρ' (n + j) = ρ (k + j)) (h2 : ∀ j, σ' (n + j) = σ (k + j)) : (resS n ss).val ρ' σ' β' = (resS k ss).val ρ σ β := by
  have h3 := resTs_shift ss n k h1 h2 (β := β) (β' := β')
  unfold resS
  cases ss with
  | nil => rfl
  | cons s ss =>
    cases ss with
    | nil => simpa [resTs, SV.val] using h3
    | cons s2 ss => simpa [resTs, SV.val] using h3

theorem resS_ne (n : Nat) (ss : List Sh) : resS n ss ≠ .any := by unfold resS; split <;> simp

theorem resLists_shift : ∀ (cs : List CK) (n k : Nat) (p : Nat × List EK), p ∈ resLists n cs → ∃ q, q ∈ resLists k cs ∧ p.2 = q.2 ∧ ∃ j, p.1 = n + j ∧ q.1 = k + j
  | [], _, _, p, h => by simp [resLists] at h
  | c :: cs, n, k, p, h => by
    have rest : p ∈ resLists (n + 1) cs → ∃ q, q ∈ resLists k (c :: cs) ∧ p.2 = q.2 ∧ ∃ j, p.1 = n + j ∧ q.1 = k + j := by
      intro h
      obtain ⟨q, h1, h2, j, h3, h4⟩ := resLists_shift cs (n + 1) (k + 1) p h
      refine ⟨q, ?_, h2, 1 + j, by omega, by omega⟩
      cases c <;> simp only [resLists, List.mem_cons] <;> first | exact h1 | exact .inr h1
    cases c with
    | lst ek =>
      simp only [resLists, List.mem_cons] at h
      rcases h with rfl | h
      · exact ⟨(k, ek), by simp [resLists], rfl, 0, rfl, rfl⟩
      · exact rest h
    | _ => exact rest (by simpa [resLists] using h)

theorem hasLst_lists {cs : List CK} (h : hasLst cs = false) (n : Nat) : resLists n cs = [] := by
  induction cs generalizing n with
  | nil => rfl
  | cons c cs ih =>
    simp only [hasLst, List.any_cons, Bool.or_eq_false_iff] at h
    cases c <;> first | (simp [refK] at h; done) | (simp only [resLists]; exact ih h.2 _)
end

/-- The contracts are those of the table, and true. -/
def SigOk (P : Program) (G : World → Prop) (sig : List (Nat × List Sh × List Sh)) (Γ : Cx) : Prop :=
  ∀ f ps rs, sigOf sig f = some (ps, rs) → (Γ.ctr f).params = ps ∧ (Γ.ctr f).res = rs ∧ (Γ.ctr f).Sound P G f

section
variable {P : Program} {G : World → Prop} {sig : List (Nat × List Sh × List Sh)} {Γ : Cx} {W : Base} {ρ : Env} {σ : Nat → Value} {β : Nat → Nat} {st : St} {a : Act} {g : Gd}

theorem run_enter {f : Nat} (hc : Callable P f) {c0 : Call} {o : Oper} (ho : o.op = .call c0) (hf : c0.callee = .value (.func f)) (w : World) :
    (execOp a.eval o).run P w = .ok (.enter f (c0.args.map a.eval)) w := by
  obtain ⟨fn, h1, h2, h3⟩ := hc
  have h2' : ¬ fn.name = "runtime.NumGoroutine" := by simpa using h2
  have h3' : ¬ fn.body = none := by intro e; rw [e] at h3; cases h3
  simp [execOp, ho, resolve, hf, Act.eval, Deferred.ofValue, invoke, callFunc, h1, h2', h3']

/-- A call, from the state's own slots. -/
theorem call_okE (hst : Stable G) (hΓ : SigOk P G sig Γ) (hT : TOk ρ σ β st a) (hg : Gd.holds ρ g) {f : Nat} {args : List Ax} {res : List Sh} {o : Oper}
    (hs : StepOk P sig W ρ σ β st g a o (.call f args res)) (hpre : (Γ.ctr f).pre (args.map (Ax.ev ρ))) {E0 : Nat → Prop} {w : World} (hA : ArgW E0 ρ σ β st.own st.lists w) (hGw : G w)
    (hin : ∀ c0, o.op = .call c0 → ∀ x, x ∈ c0.args.toList → ∀ y, st.opnd g x = some (.tv y) → InE E0 y.cells) :
    ∃ vs, (∀ w, (execOp a.eval o).run P w = .ok (.enter f vs) w) ∧ Calls P f vs w fun e w' => Below w.heap.size w w' ∧ ∃ v, e = .returned v ∧ ResOk w.heap.size w' res ((Γ.ctr f).fn (args.map (Ax.ev ρ))) v := by
  obtain ⟨ps, c0, h1, h0, h2, h3, h4⟩ := hs
  obtain ⟨h5, h6, hsnd⟩ := hΓ f ps res h1
  obtain ⟨h7, h8⟩ := hsnd.plain (by rw [h5, h6]; exact h0)
  unfold argsS at h4
  split at h4
  · rename_i l hl
    cases h4
    have hE : ∀ j ax, l.flatten[j]? = some ax → envOf (l.flatten.map (Ax.ev ρ)) (0 + j) = ax.ev ρ ∧ (l.flatten.map (Ax.slv ρ σ β)).getD (0 + j) undef = ax.slv ρ σ β := fun j ax hj => by
      rw [Nat.zero_add]
      exact ⟨by unfold envOf; rw [List.getD_eq_getElem?_getD, List.getElem?_map, hj]; rfl, by rw [List.getD_eq_getElem?_getD, List.getElem?_map, hj]; rfl⟩
    have h9 := args_ok hT hg hA (E := envOf (l.flatten.map (Ax.ev ρ))) (S := fun n => (l.flatten.map (Ax.slv ρ σ β)).getD n undef) (n := 0) hl (hin c0 h2) hE
    refine ⟨c0.args.map a.eval, run_enter h7 h2 h3, ?_⟩
    have h10 := h8 (l.flatten.map (Ax.ev ρ)) (fun n => (l.flatten.map (Ax.slv ρ σ β)).getD n undef) w hGw hpre (by rw [h5]; exact h9.2)
    rw [h5, h9.1, h6] at h10
    have h11 : (List.map a.eval c0.args.toList).toArray = c0.args.map a.eval := by rw [← Array.toList_map]
    rwa [h11] at h10
  · cases h4

theorem call_ok (hst : Stable G) (hG : GOk G W) (hΓ : SigOk P G sig Γ) (hT : TOk ρ σ β st a) (hg : Gd.holds ρ g) {f : Nat} {args : List Ax} {res : List Sh} {o : Oper}
    (hs : StepOk P sig W ρ σ β st g a o (.call f args res)) (hpre : (Γ.ctr f).pre (args.map (Ax.ev ρ))) {w : World} (hw : WOk W ρ σ β st.own st.lists w) :
    ∃ vs, (∀ w, (execOp a.eval o).run P w = .ok (.enter f vs) w) ∧ Calls P f vs w fun e w' => Below w.heap.size w w' ∧ ∃ v, e = .returned v ∧ ResOk w.heap.size w' res ((Γ.ctr f).fn (args.map (Ax.ev ρ))) v := by
  obtain ⟨ps, c0, h1, h0, h2, h3, h4⟩ := hs
  obtain ⟨h5, h6, hsnd⟩ := hΓ f ps res h1
  obtain ⟨h7, h8⟩ := hsnd.plain (by rw [h5, h6]; exact h0)
  unfold argsS at h4
  split at h4
  · rename_i l hl
    cases h4
    have hE : ∀ j ax, l.flatten[j]? = some ax → envOf (l.flatten.map (Ax.ev ρ)) (0 + j) = ax.ev ρ ∧ (l.flatten.map (Ax.slv ρ σ β)).getD (0 + j) undef = ax.slv ρ σ β := fun j ax hj => by
      rw [Nat.zero_add]
      exact ⟨by unfold envOf; rw [List.getD_eq_getElem?_getD, List.getElem?_map, hj]; rfl, by rw [List.getD_eq_getElem?_getD, List.getElem?_map, hj]; rfl⟩
    have h9 := args_ok hT hg (E0 := fun _ => True) (ArgW.of hw) (E := envOf (l.flatten.map (Ax.ev ρ))) (S := fun n => (l.flatten.map (Ax.slv ρ σ β)).getD n undef) (n := 0) hl (fun _ _ _ _ _ _ _ => trivial) hE
    refine ⟨c0.args.map a.eval, run_enter h7 h2 h3, ?_⟩
    have h10 := h8 (l.flatten.map (Ax.ev ρ)) (fun n => (l.flatten.map (Ax.slv ρ σ β)).getD n undef) w (hG w hw.below) hpre (by rw [h5]; exact h9.2)
    rw [h5, h9.1, h6] at h10
    have h11 : (List.map a.eval c0.args.toList).toArray = c0.args.map a.eval := by rw [← Array.toList_map]
    rwa [h11] at h10
  · cases h4

theorem resOk_fixed {B : Nat} {w' : World} {res : List Sh} {rs : List Leaf} {v : Value} (h : ResOk B w' res rs v) (hl : hasLst (shCells res) = false) :
    v = (resS 0 res).val (envOf rs) (fun _ => undef) β0 := by
  obtain ⟨S, h1, _⟩ := h
  rw [h1]
  have key : ∀ (cs : List CK) (n : Nat), hasLst cs = false → (resCs n cs).map (CV.val (envOf rs) S β0) = (resCs n cs).map (CV.val (envOf rs) (fun _ => undef) β0) := by
    intro cs
    induction cs with
    | nil => intro n _; rfl
    | cons c cs ih =>
      intro n hc
      simp only [hasLst, List.any_cons, Bool.or_eq_false_iff] at hc
      cases c <;> first | (simp [refK] at hc; done) | (simp only [resCs, List.map_cons, ih (n + 1) hc.2]; rfl)
  have keyT : ∀ (s : Sh) (n : Nat), hasLst s.cells = false → (resT n s).val (envOf rs) S β0 = (resT n s).val (envOf rs) (fun _ => undef) β0 := by
    intro s n hs
    cases s with
    | one c =>
      have := key [c] n hs
      simpa [resCs, resT, TV.val] using this
    | agg cs => simp only [resT, TV.val, key cs n hs]
  have keyTs : ∀ (ss : List Sh) (n : Nat), hasLst (shCells ss) = false → (resTs n ss).map (TV.val (envOf rs) S β0) = (resTs n ss).map (TV.val (envOf rs) (fun _ => undef) β0) := by
    intro ss
    induction ss with
    | nil => intro n _; rfl
    | cons s ss ih =>
      intro n hc
      have : hasLst s.cells = false ∧ hasLst (shCells ss) = false := by
        have h2 : shCells (s :: ss) = s.cells ++ shCells ss := by simp [shCells]
        rw [h2] at hc
        simpa [hasLst] using hc
      simp only [resTs, List.map_cons, keyT s n this.1, ih _ this.2]
  have h3 := keyTs res 0 hl
  unfold resS
  cases res with
  | nil => rfl
  | cons s ss =>
    cases ss with
    | nil => simpa [resTs, SV.val] using h3
    | cons s2 ss => simpa [resTs, SV.val] using h3

theorem its_ob {l : List Ex} (h : itsHold Γ (l.map (It.ob g)) ρ) : (Gd.holds ρ g → ∀ x, x ∈ l → x.bool ρ = true) := by
  induction l with
  | nil => exact fun _ x hx => by simp at hx
  | cons e l ih =>
    obtain ⟨h1, h2⟩ := h
    intro hg x hx
    rcases List.mem_cons.1 hx with rfl | hx
    · exact h1 hg
    · exact ih h2 hg x hx
theorem env_ob (l : List Ex) : itsEnv Γ (l.map (It.ob g)) ρ = ρ := by
  induction l with
  | nil => rfl
  | cons e l ih => exact ih

theorem TOk.pcAdd (hT : TOk ρ σ β st a) {l : List Ex} (h : ∀ x, x ∈ l → x.bool ρ = true) : TOk ρ σ β { st with pc := l.map (fun e => (e, true)) ++ st.pc } a :=
  ⟨hT.size, hT.slot, hT.defers, fun p hp => by
    rcases List.mem_append.1 hp with hp | hp
    · obtain ⟨e, he, rfl⟩ := List.mem_map.1 hp; exact h e he
    · exact hT.pc p hp⟩

/-- Slots and memory. -/
def Rel (W : Base) (ρ : Env) (σ : Nat → Value) (β : Nat → Nat) (st : St) (a : Act) (w : World) : Prop := TOk ρ σ β st a ∧ WOk W ρ σ β st.own st.lists w

/-- What goes on behind an operation. -/
def Goes (W : Base) (ρ : Env) (σ : Nat → Value) (β : Nat → Nat) (n : Nat) (ρ1 : Env) (st' : St) (K : Act → World → Prop) : Prop :=
  ∀ σ' β' a' w', agree n ρ ρ1 → n ≤ st'.n → Rel W ρ1 σ' β' st' a' w' → K a' w'

/-- A call of a function that writes to no object. -/
theorem call_core (hst : Stable G) (hG : GOk G W) (hΓ : SigOk P G sig Γ) {w : World} (hR : Rel W ρ σ β st a w) {o : Oper} {f : Nat} {args : List Ax} {res : List Sh} (hg : Gd.holds ρ g) (hs : StepOk P sig W ρ σ β st g a o (.call f args res))
    {st' : St} {its : List It} (h : applyStep false st g o.dst (.call f args res) = some (st', its)) (hits : itsHold Γ its ρ) :
    ∃ f vs, (execOp a.eval o).run P w = .ok (.enter f vs) w ∧ Calls P f vs w fun e w' => ∃ v, e = .returned v ∧ ∃ σ', agree st.n σ σ' ∧ agree st.n ρ (itsEnv Γ its ρ) ∧ st.n ≤ st'.n ∧ Rel W (itsEnv Γ its ρ) σ' β st' (a.put o.dst v) w' := by
  obtain ⟨hT, hw⟩ := hR
  simp only [applyStep] at h
  split at h
  · cases h
  · rename_i hngro
    split at h
    · cases h
    rename_i hc
    simp only [Option.some.injEq, Prod.mk.injEq] at h
    obtain ⟨h1, h2⟩ := h
    subst h1; subst h2
    simp only [Bool.or_eq_true, not_or, Bool.not_eq_true', Bool.not_eq_true, Bool.not_eq_false] at hc
    have hscp : st.scp st.n = true := by simpa using hc.1.2
    have hgscp : Gd.scp st.n g = true := by simpa using hc.2
    obtain ⟨vs, h3, h4⟩ := call_ok hst hG hΓ hT hg hs (hits.1 hg) hw
    refine ⟨_, vs, h3 w, h4.mono ?_⟩
    rintro e w' ⟨hb, v, rfl, S, hv, hl⟩
    refine ⟨v, rfl, ?_⟩
    obtain ⟨h5, h6, h7, h8⟩ := st_scp hscp
    let rs := (Γ.ctr f).fn (args.map (Ax.ev ρ))
    let ρ1 : Env := push ρ st.n rs
    let σ1 : Nat → Value := fun m => if m < st.n then σ m else S (m - st.n)
    have ha : agree st.n ρ ρ1 := agree_push ρ st.n rs
    have has : agree st.n σ σ1 := fun m hm => by simp [σ1, hm]
    have hsh1 : ∀ j, ρ1 (st.n + j) = envOf rs (0 + j) := fun j => by simp [ρ1, push, envOf, show ¬ st.n + j < st.n by omega]
    have hsh2 : ∀ j, σ1 (st.n + j) = S (0 + j) := fun j => by simp [σ1, show ¬ st.n + j < st.n by omega]
    have hv' : v = (resS st.n res).val ρ1 σ1 β := by rw [hv]; exact (resS_shift res st.n 0 hsh1 hsh2).symm
    have hw1 : WOk W ρ1 σ1 β st.own st.lists w' := (hw.call hb).agree h6 h7 ha has (agree_refl _ _)
    have hT1 : TOk ρ1 σ1 β st a := hT.agree hscp ha has (agree_refl _ _)
    refine ⟨σ1, has, ha, ?_, ?_, ?_⟩
    · simp
    · have := hT1.put o.dst (g := g) (sv := resS st.n res) (v := v) (.inr (.inl ⟨(gd_agree ha hgscp).2 hg, hv'⟩))
      exact ⟨this.size, this.slot, this.defers, this.pc⟩
    · have hown : (st.put o.dst (g, resS st.n res)).own = st.own ∧ (st.put o.dst (g, resS st.n res)).lists = st.lists := ⟨(put_n _ _ _).2.1, (put_n _ _ _).2.2.1⟩
      show WOk W ρ1 σ1 β (st.put o.dst (g, resS st.n res)).own (resLists st.n (shCells res) ++ (st.put o.dst (g, resS st.n res)).lists) w'
      rw [hown.1, hown.2]
      have hng : ∀ p, p ∈ resLists st.n (shCells res) → isGro p.2 = false := fun p hp => by
        have h1 : (resLists st.n (shCells res)).any (fun p => isGro p.2) = false := by simpa using hngro
        simpa using List.any_eq_false.1 h1 p hp
      refine ⟨hw1.below, hw1.own, hw1.obj, hw1.inj, hw1.ge, fun p hp => ?_, fun l T K hm he => ?_, hw1.self, hw1.slen, fun p q hp hq hg hne => ?_⟩
      rotate_left
      · rcases List.mem_append.1 hm with hm | hm
        · have := hng _ hm; rw [isGro_of he] at this; cases this
        · exact hw1.gro l T K hm he
      · have hp' : p ∈ st.lists := by
          rcases List.mem_append.1 hp with hp | hp
          · have := hng _ hp; rw [hg] at this; cases this
          · exact hp
        rcases List.mem_append.1 hq with hq | hq
        · obtain ⟨T, he⟩ := isGro_eq hg
          have h9 := (hw.gro p.1 T p.2 hp' he).1
          rw [has p.1 (h7 p hp')]
          cases hbl : (σ p.1).ownBlock with
          | none => exact .inr (.inl rfl)
          | some g' =>
            have hlt := (h9.lt g' hbl).2
            obtain ⟨q', hq', h10, j, h11, h12⟩ := resLists_shift (shCells res) st.n 0 q hq
            obtain ⟨base, cap, h13, h14⟩ := hl q' hq'
            rcases h14 with h14 | ⟨ad, h15, h16, h17, h18⟩
            · refine .inl ⟨?_, hng q hq⟩
              rw [h11, hsh1, ← h12]; exact h14
            · refine .inr (.inr fun e => ?_)
              rw [h11, hsh2, ← h12, h13, h15] at e
              have e' : g' = ad.block := Option.some.inj e
              have := h17.1
              omega
        · exact hw1.sep p q hp' hq hg hne
      rcases List.mem_append.1 hp with hp | hp
      · obtain ⟨q, hq, h9, j, h10, h11⟩ := resLists_shift (shCells res) st.n 0 p hp
        obtain ⟨base, cap, h12, h13⟩ := hl q hq
        rw [h9, h10, hsh1, hsh2, ← h11]
        refine ⟨base, cap, h12, ?_⟩
        rcases h13 with h13 | ⟨ad, h14, h15, h16, h17⟩
        · exact .inl h13
        · refine .inr ⟨ad, h14, h15, ⟨h16.2, fun k hk e => ?_⟩, h17⟩
          have := own_lt hw hk
          omega
      · exact hw1.lists p hp

theorem apply_ok (hst : Stable G) (hG : GOk G W) (hΓ : SigOk P G sig Γ) {w : World} (hR : Rel W ρ σ β st a w) {o : Oper} {s : Step} (hg : Gd.holds ρ g) (hs : StepOk P sig W ρ σ β st g a o s)
    {st' : St} {its : List It} (h : applyStep false st g o.dst s = some (st', its)) (hits : itsHold Γ its ρ) {next : Act → World → Prop} {Q : Exit → Act → World → Prop}
    (hk : Goes W ρ σ β st.n (itsEnv Γ its ρ) st' next) : o.wp P a w next Q := by
  obtain ⟨hT, hw⟩ := hR
  cases s with
  | pure v obs =>
    simp only [applyStep, Option.some.injEq, Prod.mk.injEq] at h
    obtain ⟨h1, h2⟩ := h
    subst h2
    have hl := its_ob hits hg
    have hob := needAll_ok hT.pc hg hl
    obtain ⟨val, h3, h4⟩ := hs hob
    unfold Oper.wp
    rw [h4 w hw]
    rw [Oper.upon_value]
    rw [env_ob] at hk
    have hT' : TOk ρ σ β (st.put o.dst (g, v)) (a.put o.dst val) := hT.put o.dst (by
      rcases h3 with h3 | h3
      · exact .inl h3
      · exact .inr (.inl ⟨hg, h3⟩))
    have hown : (st.put o.dst (g, v)).own = st.own ∧ (st.put o.dst (g, v)).lists = st.lists ∧ (st.put o.dst (g, v)).n = st.n := ⟨(put_n _ _ _).2.1, (put_n _ _ _).2.2.1, (put_n _ _ _).1⟩
    refine hk σ β _ _ (agree_refl _ _) ?_ ?_
    · subst h1; split <;> simp [hown.2.2]
    · subst h1
      split
      · refine ⟨?_, ?_⟩
        · exact TOk.pcAdd hT' hl
        · show WOk W ρ σ β (st.put o.dst (g, v)).own (st.put o.dst (g, v)).lists w
          rw [hown.1, hown.2.1]; exact hw
      · refine ⟨hT', ?_⟩
        rw [hown.1, hown.2.1]; exact hw
  | app old t k e =>
    obtain ⟨hn, hks, hold, hrun⟩ := hs
    simp only [applyStep] at h
    split at h
    · cases h
    · rename_i hc
      simp only [Option.some.injEq, Prod.mk.injEq] at h
      obtain ⟨h1, h2⟩ := h
      subst h1; subst h2
      simp only [Bool.false_or, Bool.or_eq_true, not_or, Bool.not_eq_true', Bool.not_eq_true, Bool.not_eq_false] at hc
      have hscp : st.scp st.n = true := by simpa using hc.1.2
      obtain ⟨h7, h8, h9, h10⟩ := st_scp hscp
      have hax : ((oldAx old).ev ρ).lv = oldLV ρ old := by cases old <;> rfl
      obtain ⟨hlen, _⟩ := hits
      simp only [It.holds] at hlen
      rw [hax] at hlen
      obtain ⟨v', w1, h3, h4, h5, h6⟩ := hrun w hw hlen
      have henv : itsEnv Γ [It.app (oldAx old) e st.n] ρ = push ρ st.n [.l (snoc (oldLV ρ old) (e.map (Ex.int ρ)))] := by
        simp only [itsEnv, It.env]
        rw [hax]
      rw [henv] at hk
      let ρ1 : Env := push ρ st.n [.l (snoc (oldLV ρ old) (e.map (Ex.int ρ)))]
      let σ1 : Nat → Value := fun m => if m < st.n then σ m else v'
      have ha : agree st.n ρ ρ1 := agree_push ρ st.n _
      have has : agree st.n σ σ1 := fun m hm => by simp [σ1, hm]
      have hρ : (ρ1 st.n).lv = snoc (oldLV ρ old) (e.map (Ex.int ρ)) := by simp [ρ1, push, Leaf.lv]
      have hσ : σ1 st.n = v' := by simp [σ1]
      have hoV : oldV σ1 old = oldV σ old := by
        cases old with
        | none => rfl
        | some l => exact has l (h9 _ (hold l rfl))
      unfold Oper.wp
      rw [h3, Oper.upon_value]
      have hw1 : WOk W ρ1 σ1 β st.own st.lists w := hw.agree h8 h9 ha has (agree_refl _ _)
      have hT1 : TOk ρ1 σ1 β st a := hT.agree hscp ha has (agree_refl _ _)
      have hw2 := hw1.app (n := st.n) hks hold (w1 := w1) (by rw [hρ, hσ]; exact h4) (by rw [hρ]; exact Nat.succ_pos _) (by rw [hoV]; exact h5) (by rw [hσ, hoV]; exact h6)
      have hval : v' = (SV.tv (.one (.lst st.n))).val ρ1 σ1 β := by
        obtain ⟨g, cap, hf, _, _⟩ := h4.form (Nat.succ_pos _)
        have e1 : asSl v' = v' := by rw [hf]; rfl
        show v' = asSl (σ1 st.n)
        rw [hσ, e1]
      refine hk σ1 β _ _ ha ?_ ⟨?_, ?_⟩
      · simp
      · have := hT1.put o.dst (g := g) (sv := .tv (.one (.lst st.n))) (v := v') (.inr (.inl ⟨isNil_holds hn, hval⟩))
        exact ⟨this.size, this.slot, this.defers, this.pc⟩
      · have hown : (st.put o.dst (g, .tv (.one (.lst st.n)))).own = st.own ∧ (st.put o.dst (g, .tv (.one (.lst st.n)))).lists = st.lists := ⟨(put_n _ _ _).2.1, (put_n _ _ _).2.2.1⟩
        show WOk W ρ1 σ1 β (st.put o.dst (g, .tv (.one (.lst st.n)))).own ((st.n, gros t k) :: dropOld old (st.put o.dst (g, .tv (.one (.lst st.n)))).lists) w1
        rw [hown.1, hown.2]
        exact hw2
  | call f args res =>
    obtain ⟨f', vs, h1, h2⟩ := call_core hst hG hΓ ⟨hT, hw⟩ hg hs h hits
    unfold Oper.wp
    rw [h1, Oper.upon_enter]
    refine h2.mono ?_
    rintro e w' ⟨v, rfl, σ', _, h3, h4, h5⟩
    exact hk σ' β _ _ h3 h4 h5
  | alloc t cs v =>
    obtain ⟨hn, htag, hne, hrun⟩ := hs
    simp only [applyStep] at h
    split at h
    · cases h
    · rename_i hc
      simp only [Option.some.injEq, Prod.mk.injEq] at h
      obtain ⟨h1, h2⟩ := h
      subst h1; subst h2
      simp only [Bool.false_or, Bool.or_eq_true, not_or, Bool.not_eq_true', Bool.not_eq_true, Bool.not_eq_false] at hc
      have hscp : st.scp st.n = true := by simpa using hc.1.2
      have hcs : cs.all (CV.scp st.n st.own.length) = true := by simpa using hc.2
      obtain ⟨h5, h6, h7, h8⟩ := st_scp hscp
      let β1 : Nat → Nat := fun k => if k = st.own.length then w.heap.size else β k
      have hb1 : agree st.own.length β β1 := fun m hm => by simp [β1, show m ≠ st.own.length by omega]
      have hbn : β1 st.own.length = w.heap.size := by simp [β1]
      unfold Oper.wp
      rw [hrun w hw β1 hbn, Oper.upon_value]
      have hT1 : TOk ρ σ β1 st a := hT.agree hscp (agree_refl _ _) (agree_refl _ _) hb1
      have hown : (st.put o.dst (g, v)).own = st.own ∧ (st.put o.dst (g, v)).lists = st.lists ∧ (st.put o.dst (g, v)).n = st.n := ⟨(put_n _ _ _).2.1, (put_n _ _ _).2.2.1, (put_n _ _ _).1⟩
      refine hk σ β1 _ _ (agree_refl _ _) ?_ ⟨?_, ?_⟩
      · simp [hown.2.2]
      · have := hT1.put o.dst (g := g) (sv := v) (v := v.val ρ σ β1) (.inr (.inl ⟨hg, rfl⟩))
        exact ⟨this.size, this.slot, this.defers, this.pc⟩
      · show WOk W ρ σ β1 (st.own ++ [(t, cs)]) (st.put o.dst (g, v)).lists _
        rw [hown.2.1]
        exact hw.alloc t htag cs hb1 hbn h6 hcs
  | store b off cs =>
    obtain ⟨hn, u, old, hb, htag, hrun⟩ := hs
    simp only [applyStep, hb, hn] at h
    simp only [Bool.not_true, Bool.or_self, Bool.false_eq_true, if_false, Option.some.injEq, Prod.mk.injEq] at h
    obtain ⟨h1, h2⟩ := h
    subst h1; subst h2
    unfold Oper.wp
    rw [hrun w (hw.own b u old hb htag), Oper.upon_skip]
    have hown : (st.put o.dst (g, .any)).own = st.own ∧ (st.put o.dst (g, .any)).lists = st.lists ∧ (st.put o.dst (g, .any)).n = st.n := ⟨(put_n _ _ _).2.1, (put_n _ _ _).2.2.1, (put_n _ _ _).1⟩
    refine hk σ β _ _ (agree_refl _ _) ?_ ⟨?_, ?_⟩
    · simp [hown.2.2]
    · have := hT.put o.dst (g := g) (sv := .any) (v := undef) (.inl rfl)
      exact ⟨this.size, this.slot, this.defers, this.pc⟩
    · show WOk W ρ σ β (setAt st.own b (u, layAt old off cs)) (st.put o.dst (g, .any)).lists _
      rw [hown.2.1]
      exact hw.store hb htag

/-- Where the guard does not hold. -/
theorem apply_not {dr : Bool} {w : World} (hR : Rel W ρ σ β st a w) {dst : Option Tmp} {s : Step} {o : Oper} (hg : ¬ Gd.holds ρ g)
    {st' : St} {its : List It} (h : applyStep dr st g dst s = some (st', its)) :
    agree st.n ρ (itsEnv Γ its ρ) ∧ st.n ≤ st'.n ∧ Rel W (itsEnv Γ its ρ) σ β st' (a.put dst undef) w := by
  obtain ⟨hT, hw⟩ := hR
  have hnil : ¬ isNil g = true := fun h => hg (isNil_holds h)
  cases s with
  | pure v obs =>
    simp only [applyStep, Option.some.injEq, Prod.mk.injEq] at h
    obtain ⟨h1, h2⟩ := h
    subst h2
    rw [if_neg hnil] at h1
    subst h1
    have hown : (st.put dst (g, v)).own = st.own ∧ (st.put dst (g, v)).lists = st.lists ∧ (st.put dst (g, v)).n = st.n := ⟨(put_n _ _ _).2.1, (put_n _ _ _).2.2.1, (put_n _ _ _).1⟩
    rw [env_ob]
    exact ⟨agree_refl _ _, by rw [hown.2.2]; exact Nat.le_refl _, hT.put dst (.inr (.inr ⟨hg, rfl⟩)), by rw [hown.1, hown.2.1]; exact hw⟩
  | app old t k e =>
    have hn2 : isNil g = false := by simpa using hnil
    simp [applyStep, hn2] at h
  | call f args res =>
    simp only [applyStep] at h
    split at h
    · cases h
    · split at h
      · cases h
      rename_i hc
      simp only [Option.some.injEq, Prod.mk.injEq] at h
      obtain ⟨h1, h2⟩ := h
      subst h1; subst h2
      have hc' : hasLst (shCells res) = false ∧ st.scp st.n = true ∧ Gd.scp st.n g = true := by
        have hn2 : isNil g = false := by simpa using hnil
        revert hc
        cases hasLst (shCells res) <;> cases st.scp st.n <;> cases Gd.scp st.n g <;> cases dr <;> simp [hn2]
      obtain ⟨hl, hscp, hgscp⟩ := hc'
      obtain ⟨h5, h6, h7, h8⟩ := st_scp hscp
      have ha : agree st.n ρ (push ρ st.n ((Γ.ctr f).fn (args.map (Ax.ev ρ)))) := agree_push _ _ _
      have hown : (st.put dst (g, resS st.n res)).own = st.own ∧ (st.put dst (g, resS st.n res)).lists = st.lists ∧ (st.put dst (g, resS st.n res)).n = st.n := ⟨(put_n _ _ _).2.1, (put_n _ _ _).2.2.1, (put_n _ _ _).1⟩
      refine ⟨ha, by simp, ?_, ?_⟩
      · have hT1 := hT.agree hscp ha (agree_refl st.n σ) (agree_refl st.own.length β)
        have := hT1.put dst (g := g) (sv := resS st.n res) (v := undef) (.inr (.inr ⟨fun hh => hg ((gd_agree ha hgscp).1 hh), rfl⟩))
        exact ⟨this.size, this.slot, this.defers, this.pc⟩
      · show WOk W _ σ β (st.put dst (g, resS st.n res)).own (resLists st.n (shCells res) ++ (st.put dst (g, resS st.n res)).lists) w
        rw [hown.1, hown.2.1, hasLst_lists hl, List.nil_append]
        exact hw.agree h6 h7 ha (agree_refl st.n σ) (agree_refl st.own.length β)
  | alloc t cs v =>
    have hn2 : isNil g = false := by simpa using hnil
    simp [applyStep, hn2] at h
  | store b off cs =>
    have hn2 : isNil g = false := by simpa using hnil
    simp [applyStep, hn2] at h

end
end Go.Vg

/- Objects: calls that write to them or make them, stores to them. -/
namespace Go.Vg
open Go.RowKit
set_option linter.unusedVariables false
set_option linter.unusedSimpArgs false

section
variable {W : Base} {w w' : World} {ρ : Env} {σ : Nat → Value} {β : Nat → Nat} {O : List (TypeId × List CV)} {L : List (Nat × List EK)}

/-- What is said of an object's blocks. -/
theorem obj_at (hw : WOk W ρ σ β O L w) {b l : Nat} {t : TypeId} (ht : isTag t = true) (hc : 0 < clsOf t) (hb : O[b]? = some (t, [.lst l])) :
    IsObj (clsOf t) w.heap (feetOf β b (clsOf t)) (ρ l).lv ∧ ∀ i, 0 < i → i ≤ feetN (clsOf t) → O[b + i]? = some (inertT t, []) := by
  rcases hw.obj b _ _ hb ht with ⟨h1, _⟩ | ⟨l', _, h2, h3, h4⟩
  · omega
  · cases h2
    exact ⟨h3, h4⟩

theorem feet_lt (hw : WOk W ρ σ β O L w) {b l : Nat} {t : TypeId} (ht : isTag t = true) (hc : 0 < clsOf t) (hb : O[b]? = some (t, [.lst l])) {i : Nat} (hi : i ≤ feetN (clsOf t)) : b + i < O.length := by
  rcases Nat.eq_zero_or_pos i with rfl | hi0
  · exact lt_of_get hb
  · exact lt_of_get ((obj_at hw ht hc hb).2 i hi0 hi)

/-- An object is written. -/
theorem WOk.omut (hw : WOk W ρ σ β O L w) {b l n : Nat} {t : TypeId} (htg : isTag t = true) (hc : 0 < clsOf t) (hro : isRO t = false) (hb : O[b]? = some (t, [.lst l])) (hx : BelowX (feetOf β b (clsOf t)) w w')
    (ho : IsObj (clsOf t) w'.heap (feetOf β b (clsOf t)) (ρ n).lv) : WOk W ρ σ β (setAt O b (t, [.lst n])) L w' := by
  have hlt := lt_of_get hb
  obtain ⟨_, hin⟩ := obj_at hw htg hc hb
  have key : ∀ k, k < O.length → β k ∈ feetOf β b (clsOf t) → ∃ i, i ≤ feetN (clsOf t) ∧ b + i = k := fun k hk hm => by
    obtain ⟨i, hi, e⟩ := mem_feet.1 hm
    exact ⟨i, hi, hw.inj _ _ (feet_lt hw htg hc hb hi) hk e⟩
  have hpl : ∀ k u ds, O[k]? = some (u, ds) → isTag u = false → β k ∉ feetOf β b (clsOf t) := fun k u ds hk hu hm => by
    obtain ⟨i, hi, rfl⟩ := key k (lt_of_get hk) hm
    rcases Nat.eq_zero_or_pos i with rfl | hi0
    · rw [Nat.add_zero, hb] at hk
      cases hk
      rw [htg] at hu; cases hu
    · rw [hin i hi0 hi] at hk
      cases hk
      rw [inert_tag t] at hu; cases hu
  have hfe : ∀ i, i ≤ feetN (clsOf t) → W.heap.size ≤ β (b + i) ∨ β (b + i) ∈ W.X := fun i hi => by
    rcases Nat.eq_zero_or_pos i with rfl | hi0
    · exact hw.ge _ _ _ hb hro
    · exact hw.ge _ _ _ (hin i hi0 hi) (by rw [inert_ro]; exact hro)
  refine ⟨⟨hx.os.trans hw.below.os, hx.tape.trans hw.below.tape, hx.output.trans hw.below.output, Nat.le_trans hw.below.size hx.size, fun j hj hX => ?_⟩, fun k u ds hk ht => ?_, fun k u ds hk ht => ?_, fun j k hj hk e => ?_, fun k u ds hk hr => ?_, fun p hp => ?_, fun l' T K hm he => ?_, hw.self, by rw [setAt_length]; exact hw.slen, hw.sep⟩
  · rw [hx.block j (Nat.lt_of_lt_of_le hj hw.below.size) (fun hm => ?_)]
    · exact hw.below.block j hj hX
    · obtain ⟨i, hi, e⟩ := mem_feet.1 hm
      have e2 : W.heap.size = W.W.heap.size := rfl
      rcases hfe i hi with h | h
      · omega
      · exact hX (by rw [← e]; exact h)
  · rw [setAt_get] at hk
    split at hk
    · try rw [if_pos hlt] at hk
      cases hk
      rw [htg] at ht; cases ht
    · rw [hx.block _ (own_lt hw (lt_of_get hk)) (hpl k u ds hk ht)]
      exact hw.own k u ds hk ht
  · rw [setAt_get] at hk
    split at hk
    · rename_i hkb
      try rw [if_pos hlt] at hk
      cases hk
      subst hkb
      refine .inr ⟨n, hc, rfl, ho, fun i hi0 hi => ?_⟩
      rw [setAt_get, if_neg (by omega)]
      exact hin i hi0 hi
    · rename_i hkb
      rcases hw.obj k u ds hk ht with ⟨h1, h2, h3⟩ | ⟨l2, h1, rfl, h4, h5⟩
      · exact .inl ⟨h1, h2, Nat.lt_of_lt_of_le h3 hx.size⟩
      · refine .inr ⟨l2, h1, rfl, h4.frame fun g hg => ?_, fun i hi0 hi => ?_⟩
        · obtain ⟨i2, hi2, rfl⟩ := mem_feet.1 hg
          have hk2 := feet_lt hw ht h1 hk hi2
          refine hx.block _ (own_lt hw hk2) fun hm => ?_
          obtain ⟨i, hi, e⟩ := key _ hk2 hm
          have c1 : ∀ j, 0 < j → j ≤ feetN (clsOf u) → b ≠ k + j := fun j hj0 hj e => by
            have := h5 j hj0 hj
            rw [← e, hb] at this
            simp at this
          have c2' : ∀ j, 0 < j → j ≤ feetN (clsOf t) → k ≠ b + j := fun j hj0 hj e => by
            have := hin j hj0 hj
            rw [← e, hk] at this
            simp at this
          rcases Nat.lt_trichotomy k b with hkb' | hkb' | hkb'
          · exact c1 (i2 - i) (by omega) (by omega) (by omega)
          · exact hkb hkb'
          · exact c2' (i - i2) (by omega) (by omega) (by omega)
        · have h6 := h5 i hi0 hi
          rw [setAt_get, if_neg (fun e => ?_)]
          · exact h6
          · rw [e, hb] at h6
            simp at h6
  · rw [setAt_length] at hj hk; exact hw.inj j k hj hk e
  · rw [setAt_get] at hk
    split at hk
    · rename_i hkb
      try rw [if_pos hlt] at hk
      cases hk
      rw [hkb]
      exact hw.ge b _ _ hb hr
    · exact hw.ge k u ds hk hr
  · obtain ⟨base, cap, h1, h2⟩ := hw.lists p hp
    refine ⟨base, cap, h1, ?_⟩
    rcases h2 with h2 | ⟨ad, h3, h4, h6, h5⟩
    · exact .inl h2
    · refine .inr ⟨ad, h3, h4, ⟨Nat.lt_of_lt_of_le h6.1 hx.size, fun k hk => h6.2 k (by rwa [setAt_length] at hk)⟩, fun i c' K hi hK => ?_⟩
      have h7 := hx.block ad.block h6.1 (fun hm => by
        obtain ⟨i, hi, e⟩ := mem_feet.1 hm
        exact h6.2 _ (feet_lt hw htg hc hb hi) e.symm)
      have h8 := h5 i c' K hi hK
      simp only [World.cell?, h7] at h8 ⊢
      exact h8
  · obtain ⟨h1, h2⟩ := hw.gro l' T K hm he
    refine ⟨ownsRow_block h1 (fun g hg => hx.block g (h1.lt g hg).2 fun hm => ?_), fun k hk => h2 k (by rwa [setAt_length] at hk)⟩
    obtain ⟨i, hi, e⟩ := mem_feet.1 hm
    exact h2 _ (feet_lt hw htg hc hb hi) (by rw [hg, e])

theorem newOwn_get {c n i : Nat} : (newOwn c n)[i]? = if i = 0 then some (tagB + c, [.lst n]) else if i ≤ feetN c then some (tagB, []) else none := by
  unfold newOwn
  cases i with
  | zero => rfl
  | succ i =>
    rw [List.getElem?_cons_succ, List.getElem?_replicate]
    simp only [Nat.succ_ne_zero, if_false]
    by_cases h : i < feetN c
    · rw [if_pos h, if_pos (by omega)]
    · rw [if_neg h, if_neg (by omega)]
theorem newOwn_length {c n : Nat} : (newOwn c n).length = feetN c + 1 := by unfold newOwn; simp

/-- An object that was made. -/
theorem WOk.onew {O2 : List (TypeId × List CV)} (hold : WOk W ρ σ β O L w) (hw : WOk W ρ σ β O2 L w') (hlen : O2.length = O.length)
    (hsc : ∀ x, x ∈ O2 → ∃ N, x.2.all (CV.scp N O2.length) = true) {c n : Nat} (hc : 0 < c) (hcr : c < roB) {F : List Nat} (hF : IsObj c w'.heap F (ρ n).lv) (hFl : F.length = feetN c + 1) (hnd : F.Nodup) (hge : ∀ b, b ∈ F → w.heap.size ≤ b)
    {β' : Nat → Nat} (hb : Vg.agree O2.length β β') (hβ : ∀ i, i ≤ feetN c → F[i]? = some (β' (O2.length + i))) : WOk W ρ σ β' (O2 ++ newOwn c n) L w' := by
  have hlO : (O2 ++ newOwn c n).length = O2.length + (feetN c + 1) := by simp [newOwn_length]
  have hfeet : feetOf β' O2.length c = F := by
    apply List.ext_getElem?
    intro i
    unfold feetOf
    rw [List.getElem?_map]
    rcases Nat.lt_or_ge i (feetN c + 1) with h | h
    · rw [List.getElem?_range h, hβ i (by omega)]; rfl
    · rw [List.getElem?_eq_none (by simpa using h), List.getElem?_eq_none (by omega)]; rfl
  have hold' : ∀ k, k < O2.length → β k < w.heap.size := fun k hk => own_lt hold (by omega)
  have hnew : ∀ i, i ≤ feetN c → β' (O2.length + i) ∈ F := fun i hi => List.mem_of_getElem? (hβ i hi)
  have split : ∀ k, k < (O2 ++ newOwn c n).length → k < O2.length ∨ ∃ i, i ≤ feetN c ∧ k = O2.length + i := fun k hk => by
    rw [hlO] at hk
    rcases Nat.lt_or_ge k O2.length with h | h
    · exact .inl h
    · exact .inr ⟨k - O2.length, by omega, by omega⟩
  refine ⟨hw.below, fun k t cs hk ht => ?_, fun k t cs hk ht => ?_, fun j k hj hk e => ?_, fun k u ds hk hr => ?_, fun p hp => ?_, fun l T K hm he => ?_, fun i b hi => (hb i (Nat.lt_of_lt_of_le (lt_of_get hi) hw.slen)).trans (hw.self i b hi), by rw [hlO]; exact Nat.le_trans hw.slen (Nat.le_add_right ..), hw.sep⟩
  · rcases split k (lt_of_get hk) with h | ⟨i, hi, rfl⟩
    · rw [List.getElem?_append_left h] at hk
      obtain ⟨N, hN⟩ := hsc (t, cs) (List.mem_of_getElem? hk)
      rw [hb k h, cvs_agree (agree_refl N ρ) (agree_refl N σ) hb hN]
      exact hw.own k t cs hk ht
    · rw [List.getElem?_append_right (by omega), Nat.add_sub_cancel_left, newOwn_get] at hk
      split at hk
      · cases hk; rw [isTag_tag c] at ht; cases ht
      · try rw [if_pos hi] at hk
        cases hk
        rw [show isTag tagB = true from isTag_tag 0] at ht; cases ht
  · rcases split k (lt_of_get hk) with h | ⟨i, hi, rfl⟩
    · rw [List.getElem?_append_left h] at hk
      obtain ⟨N, hN⟩ := hsc (t, cs) (List.mem_of_getElem? hk)
      exact ((hw.obj k t cs hk ht).agree h hN (agree_refl N ρ) hb).more _
    · rw [List.getElem?_append_right (by omega), Nat.add_sub_cancel_left, newOwn_get] at hk
      split at hk
      · rename_i hi0
        subst hi0
        cases hk
        rw [Nat.add_zero]
        refine .inr ⟨n, by rw [clsOf_tag hcr]; exact hc, rfl, by rw [clsOf_tag hcr, hfeet]; exact hF, fun j hj0 hj => ?_⟩
        rw [clsOf_tag hcr] at hj
        rw [List.getElem?_append_right (by omega), Nat.add_sub_cancel_left, newOwn_get, if_neg (by omega), if_pos hj]
        unfold inertT
        rw [isRO_tag hcr]
        rfl
      · try rw [if_pos hi] at hk
        cases hk
        exact .inl ⟨clsOf_tag (c := 0) (by decide), rfl, hF.lt _ (hnew i hi)⟩
  · rcases split j hj with h | ⟨i, hi, rfl⟩ <;> rcases split k hk with h' | ⟨i', hi', rfl⟩
    · rw [hb j h, hb k h'] at e; exact hw.inj j k h h' e
    · rw [hb j h] at e
      have := hge _ (hnew i' hi')
      have := hold' j h
      omega
    · rw [hb k h'] at e
      have := hge _ (hnew i hi)
      have := hold' k h'
      omega
    · have h1 := hβ i hi
      have h2 := hβ i' hi'
      rw [← e] at h2
      have := (List.getElem?_inj (by omega) hnd).1 (h1.trans h2.symm)
      omega
  · rcases split k (lt_of_get hk) with h | ⟨i, hi, rfl⟩
    · rw [List.getElem?_append_left h] at hk
      rw [hb k h]; exact hw.ge k u ds hk hr
    · exact .inl (Nat.le_trans hold.below.size (hge _ (hnew i hi)))
  · obtain ⟨base, cap, h1, h2⟩ := hw.lists p hp
    obtain ⟨base', cap', h1', h2'⟩ := hold.lists p hp
    refine ⟨base, cap, h1, ?_⟩
    rcases h2 with h2 | ⟨ad, h3, h4, h6, h5⟩
    · exact .inl h2
    · rcases h2' with h2' | ⟨ad', h3', _, h6', _⟩
      · exact .inl h2'
      · have e : ad' = ad := by
          rw [h1, h3, h3'] at h1'
          exact (Option.some.inj (Value.slice.inj h1').1).symm
        subst e
        refine .inr ⟨ad', h3, h4, ⟨h6.1, fun k hk => ?_⟩, h5⟩
        rcases split k hk with h | ⟨i, hi, rfl⟩
        · rw [hb k h]; exact h6.2 k h
        · intro e
          have := hge _ (hnew i hi)
          have := h6'.1
          omega
  · obtain ⟨h1, h2⟩ := hw.gro l T K hm he
    obtain ⟨h1', _⟩ := hold.gro l T K hm he
    refine ⟨h1, fun k hk e => ?_⟩
    rcases split k hk with h | ⟨i, hi, rfl⟩
    · rw [hb k h] at e; exact h2 k h e
    · have := hge _ (hnew i hi)
      have := (h1'.lt _ e).2
      omega
end

/-! ### A call -/

section
variable {P : Program} {G : World → Prop} {sig : List (Nat × List Sh × List Sh)} {Γ : Cx} {W : Base} {ρ : Env} {σ : Nat → Value} {β : Nat → Nat} {st : St} {a : Act} {g : Gd}

theorem oSelf_ok {c b u l : Nat} {x : Operand} (h : oSelf st g c x = some (b, u, l)) : st.cell g x = some (.ptr b 0) ∧ 0 < c ∧ isTag u = true ∧ isRO u = false ∧ clsOf u = c ∧ st.own[b]? = some (u, [.lst l]) := by
  unfold oSelf at h
  split at h
  · rename_i b' off hx
    split at h
    · rename_i u' l' hb
      split at h
      · rename_i hc
        cases h
        simp only [Bool.and_eq_true, Bool.not_eq_true'] at hc
        have h0 := Nat.eq_of_beq_eq_true hc.2
        have h1 := Nat.eq_of_beq_eq_true hc.1.1.2
        subst h0
        exact ⟨hx, blt_lt hc.1.2, hc.1.1.1.1, hc.1.1.1.2, h1, hb⟩
      · cases h
    · cases h
  · cases h

/-- What a call's operands say. -/
inductive OArgs (st : St) (g : Gd) (f : Nat) (rs : List Sh) (ps : List Sh) (xs : List Operand) : OS → Prop where
  | self {u b l : Nat} {x : Operand} {ps' : List Sh} {xs' : List Operand} {as : List Ax} (hp : ps = .one (.mut (clsOf u)) :: ps') (hx : xs = x :: xs') (h1 : st.cell g x = some (.ptr b 0)) (hc : 0 < clsOf u) (ht : isTag u = true) (hr : isRO u = false)
      (hb : st.own[b]? = some (u, [.lst l])) (ha : argsS st g ps' xs' = some as) : OArgs st g f rs ps xs ⟨f, some (b, u), .o l (.ptr b 0) :: as, rs⟩
  | none {as : List Ax} (hm : mutOf ps = none) (ha : argsS st g ps xs = some as) : OArgs st g f rs ps xs ⟨f, none, as, rs⟩
theorem oArgs_ok {f : Nat} {rs ps : List Sh} {xs : List Operand} {s : OS} (h : oArgs st g f rs ps xs = some s) : OArgs st g f rs ps xs s := by
  unfold oArgs at h
  split at h
  · split at h
    · rename_i b u l hs
      split at h
      · rename_i as ha
        cases h
        obtain ⟨h1, h2, h4, h5, rfl, h3⟩ := oSelf_ok hs
        exact .self rfl rfl h1 h2 h4 h5 h3 ha
      · cases h
    · cases h
  · rename_i ps' xs' hne
    split at h
    · rename_i as ha
      cases h
      refine .none ?_ ha
      unfold mutOf
      split
      · rename_i c r
        exfalso
        cases xs with
        | nil => simp [argsS, zipO] at ha
        | cons x xs => exact hne c r x xs rfl rfl
      · rfl
    · cases h
theorem oStep_ok {o : Oper} {s : OS} (h : oStep sig st g o = some s) : ∃ (c0 : Call) (ps : List Sh), o.op = .call c0 ∧ c0.callee = .value (.func s.f) ∧ sigOf sig s.f = some (ps, s.rs) ∧ (isC ps = false ∧ isO ps s.rs = true) ∧ isNil g = true ∧
    hasLstO s.rs = false ∧ newPos s.rs = true ∧ st.scp st.n = true ∧ OArgs st g s.f s.rs ps c0.args.toList s := by
  unfold oStep at h
  split at h
  · rename_i c0 ho
    split at h
    · rename_i f hf
      split at h
      · rename_i ps rs hs
        split at h
        · rename_i hc
          simp only [Bool.and_eq_true, Bool.not_eq_true'] at hc
          have h1 := oArgs_ok h
          have e1 : s.f = f ∧ s.rs = rs := by cases h1 <;> exact ⟨rfl, rfl⟩
          obtain ⟨e1, e2⟩ := e1
          rw [e1, e2]
          exact ⟨c0, ps, ho, hf, hs, ⟨hc.1.1.1.1.1, hc.1.1.1.1.2⟩, hc.1.1.1.2, hc.1.1.2, hc.1.2, hc.2, h1⟩
        · cases h
      · cases h
    · cases h
  · cases h

theorem argsS_len {ps : List Sh} {xs : List Operand} {as : List Ax} (h : argsS st g ps xs = some as) : True := trivial

theorem holds_nil' (ρ : Env) : Gd.holds ρ [] := fun p hp => by simp at hp
/-- What is known behind such a call of its result. -/
def OCond (st : St) (s : OS) (ρ1 : Env) (isnil : Bool) : Prop := match newOf s.rs with
  | some (_, nb) => (isnil = true → nb = true ∧ (ρ1 (oN st s)).lv.len = 0) ∧ (isnil = false → nb = true → (ρ1 (oN st s)).lv.len ≠ 0)
  | none => isnil = false

theorem packT_val (ts : List TV) : (packT ts).val ρ σ β = match ts.map (TV.val ρ σ β) with | [v] => v | vs => .tuple vs.toArray := by
  match ts with
  | [] => rfl
  | [x] => rfl
  | x :: y :: r => rfl
theorem resS_pack (n : Nat) (ss : List Sh) : resS n ss = packT (resTs n ss) := by
  unfold resS packT
  rfl

theorem newOf_eq {rs : List Sh} {c : Nat} {nb : Bool} (h : newOf rs = some (c, nb)) : ∃ rest, rs = .one (.new c nb) :: rest := by
  unfold newOf at h
  split at h
  · rename_i c' nb' r; cases h; exact ⟨r, rfl⟩
  · cases h
theorem oRes_plain {rs : List Sh} (h : newOf rs = none) (m n : Nat) (b : Bool) : oRes m n rs b = resS n rs := by
  unfold oRes
  split
  · simp [newOf] at h
  · rfl

/-- The arguments of such a call. -/
theorem o_args (hT : TOk ρ σ β st a) (hg : Gd.holds ρ g) {w : World} (hw : WOk W ρ σ β st.own st.lists w) {f : Nat} {rs ps : List Sh} {xs : List Operand} {s : OS} (h : OArgs st g f rs ps xs s) :
    ∃ F, (resTs 0 ps).map (TV.val (envOf (s.args.map (Ax.ev ρ))) (fun n => (s.args.map (Ax.slv ρ σ β)).getD n undef) β0) = xs.map a.eval ∧
      ParOk w (envOf (s.args.map (Ax.ev ρ))) (fun n => (s.args.map (Ax.slv ρ σ β)).getD n undef) 0 (shCells ps) ∧
      (match mutOf ps with | some c => objAt w c (envOf (s.args.map (Ax.ev ρ)) 0).lv ((s.args.map (Ax.slv ρ σ β)).getD 0 undef) F | none => F = []) ∧
      ((∃ b u l, s.self = some (b, u) ∧ mutOf ps = some (clsOf u) ∧ F = feetOf β b (clsOf u) ∧ 0 < clsOf u ∧ isTag u = true ∧ isRO u = false ∧ st.own[b]? = some (u, [.lst l])) ∨ (s.self = none ∧ mutOf ps = none ∧ F = [])) := by
  cases h with
  | @self u b l x ps' xs' as hp hx h1 hc htg hro hb ha =>
    subst hp; subst hx
    unfold argsS at ha
    split at ha
    · rename_i l' hl
      cases ha
      have hE : ∀ j ax, l'.flatten[j]? = some ax → envOf ((Ax.o l (.ptr b 0) :: l'.flatten).map (Ax.ev ρ)) (1 + j) = ax.ev ρ ∧ ((Ax.o l (.ptr b 0) :: l'.flatten).map (Ax.slv ρ σ β)).getD (1 + j) undef = ax.slv ρ σ β := fun j ax hj => by
        rw [Nat.add_comm 1 j]
        exact ⟨by unfold envOf; rw [List.getD_eq_getElem?_getD, List.getElem?_map, List.getElem?_cons_succ, hj]; rfl, by rw [List.getD_eq_getElem?_getD, List.getElem?_map, List.getElem?_cons_succ, hj]; rfl⟩
      have h9 := args_ok hT hg (E0 := fun _ => True) (ArgW.of hw) (E := envOf ((Ax.o l (.ptr b 0) :: l'.flatten).map (Ax.ev ρ))) (S := fun n => ((Ax.o l (.ptr b 0) :: l'.flatten).map (Ax.slv ρ σ β)).getD n undef) (n := 1) hl (fun _ _ _ _ _ _ _ => trivial) hE
      obtain ⟨r, hr⟩ := feetOf_head β b (clsOf u)
      have hxv := cell_ok hT hg h1
      refine ⟨feetOf β b (clsOf u), ?_, ⟨fun p hp => ?_, fun p hp => ?_, fun p hp => ?_⟩, ?_, .inl ⟨b, u, l, rfl, rfl, rfl, hc, htg, hro, hb⟩⟩
      · show _ :: _ = _ :: _
        rw [hxv]
        congr 1
        exact h9.1
      · exact h9.2.1 p (by simpa [shCells, Sh.cells, resLists] using hp)
      · exact h9.2.2.1 p (by simpa [shCells, Sh.cells, resObjs] using hp)
      · exact h9.2.2.2 p (by simpa [shCells, Sh.cells, resCells] using hp)
      · show objAt w (clsOf u) _ _ _
        exact ⟨β b, r, hr, rfl, (obj_at hw htg hc hb).1⟩
    · cases ha
  | @none as hm ha =>
    unfold argsS at ha
    split at ha
    · rename_i l' hl
      cases ha
      have hE : ∀ j ax, l'.flatten[j]? = some ax → envOf (l'.flatten.map (Ax.ev ρ)) (0 + j) = ax.ev ρ ∧ (l'.flatten.map (Ax.slv ρ σ β)).getD (0 + j) undef = ax.slv ρ σ β := fun j ax hj => by
        rw [Nat.zero_add]
        exact ⟨by unfold envOf; rw [List.getD_eq_getElem?_getD, List.getElem?_map, hj]; rfl, by rw [List.getD_eq_getElem?_getD, List.getElem?_map, hj]; rfl⟩
      have h9 := args_ok hT hg (E0 := fun _ => True) (ArgW.of hw) (E := envOf (l'.flatten.map (Ax.ev ρ))) (S := fun n => (l'.flatten.map (Ax.slv ρ σ β)).getD n undef) (n := 0) hl (fun _ _ _ _ _ _ _ => trivial) hE
      exact ⟨[], h9.1, h9.2, by rw [hm], .inr ⟨rfl, hm, rfl⟩⟩
    · cases ha

theorem o_core (hst : Stable G) (hG : GOk G W) (hΓ : SigOk P G sig Γ) {w : World} (hR : Rel W ρ σ β st a w) {o : Oper} {s : OS} (hs : oStep sig st g o = some s)
    (hpre : (Γ.ctr s.f).pre (s.args.map (Ax.ev ρ))) :
    ∃ f vs, (execOp a.eval o).run P w = .ok (.enter f vs) w ∧ Calls P f vs w fun e w' => ∃ v, e = .returned v ∧ ∃ isnil σ' β', agree st.n σ σ' ∧ agree st.own.length β β' ∧
      OCond st s (push ρ st.n ((Γ.ctr s.f).fn (s.args.map (Ax.ev ρ)))) isnil ∧ Rel W (push ρ st.n ((Γ.ctr s.f).fn (s.args.map (Ax.ev ρ)))) σ' β' (oSt st o.dst s isnil) (a.put o.dst v) w' := by
  obtain ⟨hT, hw⟩ := hR
  obtain ⟨c0, ps, ho, hf, hsig, ⟨hnc, hiso⟩, hnil, hlst, hnp, hscp, hargs⟩ := oStep_ok hs
  have hg : Gd.holds ρ g := isNil_holds hnil
  obtain ⟨e5, e6, hsnd⟩ := hΓ s.f ps s.rs hsig
  obtain ⟨hcall, hO⟩ := hsnd.obj (by rw [e5]; exact hnc) (by rw [e5, e6]; exact hiso)
  have harr : (List.map a.eval c0.args.toList).toArray = c0.args.map a.eval := by rw [← Array.toList_map]
  obtain ⟨F, v1, v2, v3, v4⟩ := o_args hT hg hw hargs
  have hGF : GOk G ⟨w, F, []⟩ := fun w2 h2 => hG w2 ⟨h2.os.trans hw.below.os, h2.tape.trans hw.below.tape, h2.output.trans hw.below.output, Nat.le_trans hw.below.size h2.size, fun k hk hX => by
    rw [h2.block k (Nat.lt_of_lt_of_le hk hw.below.size) (fun hm => ?_)]
    · exact hw.below.block k hk hX
    · rcases v4 with ⟨b, u, l, _, _, e, hc, htg, hro, hb⟩ | ⟨_, _, e⟩
      · have hm : k ∈ F := hm
        rw [e] at hm
        obtain ⟨i, hi, rfl⟩ := mem_feet.1 hm
        have hge : W.heap.size ≤ β (b + i) ∨ β (b + i) ∈ W.X := by
          rcases Nat.eq_zero_or_pos i with rfl | hi0
          · exact hw.ge _ _ _ hb hro
          · exact hw.ge _ _ _ ((obj_at hw htg hc hb).2 i hi0 hi) (by rw [inert_ro]; exact hro)
        have e2 : W.heap.size = W.W.heap.size := rfl
        rcases hge with h | h
        · omega
        · exact hX h
      · have hm : k ∈ F := hm
        rw [e] at hm
        simp at hm⟩
  have h10 := hO (s.args.map (Ax.ev ρ)) (fun n => (s.args.map (Ax.slv ρ σ β)).getD n undef) w F hGF hpre (by rw [e5]; exact v2) (by rw [e5]; exact v3)
  rw [e5, v1, harr, e6] at h10
  refine ⟨_, _, run_enter hcall ho hf w, h10.mono ?_⟩
  rintro e w' ⟨hbx, v, rfl, hres⟩
  refine ⟨v, rfl, ?_⟩
  obtain ⟨h5, h6, h7, h8⟩ := st_scp hscp
  let out := (Γ.ctr s.f).fn (s.args.map (Ax.ev ρ))
  have hout : out = (Γ.ctr s.f).fn (s.args.map (Ax.ev ρ)) := rfl
  let ρ1 : Env := push ρ st.n out
  have hoN : oN st s = st.n + mutN ps := by
    rcases v4 with ⟨b, u, l, hs1, hm, _⟩ | ⟨hs1, hm, _⟩ <;> simp [oN, mutN, hs1, hm]
  obtain ⟨S', hv, hnew⟩ := hres.val
  have hsh1 : ∀ j, ρ1 (oN st s + j) = envOf (out.drop (mutN ps)) (0 + j) := fun j => by
    simp only [ρ1, push, envOf, hoN]
    rw [if_neg (by omega), Nat.zero_add, List.getD_eq_getElem?_getD, List.getD_eq_getElem?_getD, List.getElem?_drop]
    congr 2
    omega
  let σ1 : Nat → Value := fun m => if m < oN st s then σ m else S' (m - oN st s)
  have hsh2 : ∀ j, σ1 (oN st s + j) = S' (0 + j) := fun j => by simp [σ1, show ¬ oN st s + j < oN st s by omega]
  have ha : agree st.n ρ ρ1 := agree_push ρ st.n out
  have has : agree st.n σ σ1 := fun m hm => by simp [σ1, show m < oN st s by omega]
  have hw1 : WOk W ρ1 σ1 β st.own st.lists w := hw.agree h6 h7 ha has (agree_refl _ _)
  have hw2 : WOk W ρ1 σ1 β (oOwn st s) st.lists w' := by
    rcases v4 with ⟨b, u, l, hs1, hm, rfl, hc, htg, hro, hb⟩ | ⟨hs1, hm, rfl⟩
    · have : oOwn st s = setAt st.own b (u, [.lst st.n]) := by unfold oOwn; rw [hs1]
      rw [this]
      refine hw1.omut htg hc hro hb hbx ?_
      have h9 := hres.self (clsOf u) hm
      have e9 : ρ1 st.n = envOf out 0 := by simp [ρ1, push, envOf]
      rw [e9]
      exact h9
    · have : oOwn st s = st.own := by unfold oOwn; rw [hs1]
      rw [this]
      exact hw1.call hbx.below
  have hlen : (oOwn st s).length = st.own.length := by
    unfold oOwn
    split
    · rw [setAt_length]
    · rfl
  have hsc2 : ∀ x, x ∈ oOwn st s → ∃ N, x.2.all (CV.scp N (oOwn st s).length) = true := fun x hx => by
    rw [hlen]
    unfold oOwn at hx
    split at hx
    · rename_i b u _
      obtain ⟨k, hk⟩ := List.getElem?_of_mem hx
      rw [setAt_get] at hk
      split at hk
      · split at hk
        · cases hk
          refine ⟨st.n + 1, ?_⟩
          simp [CV.scp, Nat.blt]
        · cases hk
      · exact ⟨st.n, h6 x (List.mem_of_getElem? hk)⟩
    · exact ⟨st.n, h6 x hx⟩
  have fin : ∀ isnil β1, agree st.own.length β β1 → OCond st s ρ1 isnil → v = (oRes st.own.length (oN st s) s.rs isnil).val ρ1 σ1 β1 →
      WOk W ρ1 σ1 β1 (oOwn st s ++ oNew s.rs (oN st s) isnil) st.lists w' → ∃ isnil σ' β', agree st.n σ σ' ∧ agree st.own.length β β' ∧ OCond st s ρ1 isnil ∧ Rel W ρ1 σ' β' (oSt st o.dst s isnil) (a.put o.dst v) w' := fun isnil β1 hb1 hcond hvv hww => by
    refine ⟨isnil, σ1, β1, has, hb1, hcond, ?_, ?_⟩
    · have hT1 : TOk ρ1 σ1 β1 st a := hT.agree hscp ha has hb1
      have := hT1.put o.dst (g := []) (sv := oRes st.own.length (oN st s) s.rs isnil) (v := v) (.inr (.inl ⟨holds_nil' _, hvv⟩))
      exact ⟨this.size, this.slot, this.defers, this.pc⟩
    · show WOk W ρ1 σ1 β1 (oOwn st s ++ oNew s.rs (oN st s) isnil) (st.put o.dst ([], oRes st.own.length (oN st s) s.rs isnil)).lists w'
      rw [(put_n _ _ _).2.2.1]
      exact hww
  cases hno : newOf s.rs with
  | none =>
    refine fin false β (agree_refl _ _) (by unfold OCond; rw [hno]) ?_ ?_
    · rw [oRes_plain hno, hv]
      exact (resS_shift s.rs (oN st s) 0 hsh1 hsh2).symm
    · unfold oNew
      rw [hno, List.append_nil]
      exact hw2
  | some cn =>
    obtain ⟨c, nb⟩ := cn
    obtain ⟨rest, hrs⟩ := newOf_eq hno
    have hc : 0 < c ∧ c < roB := by
      unfold newPos at hnp
      rw [hno] at hnp
      simp only [Bool.and_eq_true] at hnp
      exact ⟨blt_lt hnp.1, blt_lt hnp.2⟩
    have e0 : ρ1 (oN st s) = envOf (out.drop (mutN ps)) 0 := hsh1 0
    have hval : ∀ (β1 : Nat → Nat) (x : CV), x.val ρ1 σ1 β1 = asSl (S' 0) → v = (packT (.one x :: resTs (oN st s + 1) rest)).val ρ1 σ1 β1 := fun β1 x hx => by
      rw [hv, hrs, resS_pack, packT_val, packT_val]
      have h11 := resTs_shift (β := β0) (β' := β1) rest (oN st s + 1) (0 + 1) (fun j => by have := hsh1 (1 + j); rwa [← Nat.add_assoc, ← Nat.add_assoc] at this) (fun j => by have := hsh2 (1 + j); rwa [← Nat.add_assoc, ← Nat.add_assoc] at this)
      have h12 : (resTs 0 (.one (.new c nb) :: rest)).map (TV.val (envOf (out.drop (mutN ps))) S' β0) = (TV.one x :: resTs (oN st s + 1) rest).map (TV.val ρ1 σ1 β1) := by
        rw [List.map_cons, h11]
        show asSl (S' 0) :: _ = _ :: _
        rw [← hx]
        rfl
      rw [h12]
    rcases hnew c nb hno with ⟨hnb, hl0, hS0⟩ | ⟨hnn, F', hF, hFl, hnd, hge⟩
    · refine fin true β (agree_refl _ _) ?_ ?_ ?_
      · unfold OCond
        rw [hno]
        exact ⟨fun _ => ⟨hnb, by rw [e0]; exact hl0⟩, fun h => by cases h⟩
      · rw [hrs]
        exact hval β .nilp (by rw [hS0]; rfl)
      · unfold oNew
        rw [hno]
        simp only [if_true, List.append_nil]
        exact hw2
    · obtain ⟨b, r, hF1, hF2, hF3⟩ := hF
      let β1 : Nat → Nat := fun k => if k < st.own.length then β k else F'.getD (k - st.own.length) 0
      have hb1 : agree st.own.length β β1 := fun m hm => by simp [β1, hm]
      refine fin false β1 hb1 ?_ ?_ ?_
      · unfold OCond
        rw [hno]
        exact ⟨fun h => (by cases h), fun _ h => by rw [e0]; exact hnn h⟩
      · rw [hrs]
        refine hval β1 (.ptr st.own.length 0) ?_
        rw [hF2]
        simp [CV.val, β1, hF1, asSl]
      · unfold oNew
        rw [hno]
        simp only [Bool.false_eq_true, if_false]
        refine WOk.onew hw1 hw2 hlen hsc2 hc.1 hc.2 (by rw [e0]; exact hF3) hFl hnd hge (by rw [hlen]; exact hb1) (fun i hi => ?_)
        rw [hlen]
        simp only [β1]
        rw [if_neg (by omega), Nat.add_sub_cancel_left, List.getD_eq_getElem?_getD, List.getElem?_eq_getElem (by omega)]
        rfl

theorem o_call (hst : Stable G) (hG : GOk G W) (hΓ : SigOk P G sig Γ) {w : World} (hR : Rel W ρ σ β st a w) {o : Oper} {s : OS} (hs : oStep sig st g o = some s)
    (hpre : (Γ.ctr s.f).pre (s.args.map (Ax.ev ρ))) {next : Act → World → Prop} {Q : Exit → Act → World → Prop}
    (hk : ∀ isnil σ' β' a' w', OCond st s (push ρ st.n ((Γ.ctr s.f).fn (s.args.map (Ax.ev ρ)))) isnil → Rel W (push ρ st.n ((Γ.ctr s.f).fn (s.args.map (Ax.ev ρ)))) σ' β' (oSt st o.dst s isnil) a' w' → next a' w') :
    o.wp P a w next Q := by
  obtain ⟨f, vs, h1, h2⟩ := o_core hst hG hΓ hR hs hpre
  unfold Oper.wp
  rw [h1, Oper.upon_enter]
  refine h2.mono ?_
  rintro e w' ⟨v, rfl, isnil, σ', β', _, _, h3, h4⟩
  exact hk isnil σ' β' _ _ h3 h4

/-! ### A store to an object; a block that is taken for an object -/

theorem fitsK_vals {full : List CV} : ∀ {ks : List EK} {cs : List CV} (j : Nat), fitsK ks cs = true → (∀ i c, cs[i]? = some c → full[j + i]? = some c) → cs.map (CV.val ρ σ β) = flatVals j ks (cellsLV ρ 1 full)
  | [], [], _, _, _ => rfl
  | K :: ks, c :: cs, j, h, hf => by
    simp only [fitsK, Bool.and_eq_true] at h
    have h1 := hf 0 c rfl
    rw [Nat.add_zero] at h1
    have h2 := fitsK_vals (j + 1) h.2 (fun i c' hi => by
      have := hf (i + 1) c' (by simpa using hi)
      rwa [show j + (i + 1) = j + 1 + i by omega] at this)
    simp only [List.map_cons, flatVals, h2]
    congr 1
    have h3 : full.getD (j * 1 + 0) .nilp = c := by rw [Nat.mul_one, Nat.add_zero, List.getD_eq_getElem?_getD, h1]; rfl
    have h4 := h.1
    cases K with
    | int k =>
      cases c with
      | int k' e => simp only [ekFits] at h4; simp only [EK.val, cellsLV, h3, CV.intv, CV.val, kindNo_inj h4]
      | _ => simp [ekFits] at h4
    | bool =>
      cases c with
      | bool e => simp only [EK.val, cellsLV, h3, CV.boolv, CV.val]
      | _ => simp [ekFits] at h4
    | gro _ _ => simp [ekFits] at h4
  | [], _ :: _, _, h, _ => by simp [fitsK] at h
  | _ :: _, [], _, h, _ => by simp [fitsK] at h
theorem fitsK_vals0 {ks : List EK} {cs : List CV} (h : fitsK ks cs = true) : cs.map (CV.val ρ σ β) = flatVals 0 ks (cellsLV ρ 1 cs) :=
  fitsK_vals 0 h fun i c hi => by rw [Nat.zero_add]; exact hi
theorem fitsK_notElem : ∀ {ks : List EK} {cs : List CV}, fitsK ks cs = true → cs.all notElem = true
  | [], [], _ => rfl
  | K :: ks, c :: cs, h => by
    simp only [fitsK, Bool.and_eq_true] at h
    simp only [List.all_cons, fitsK_notElem h.2, Bool.and_true]
    cases K <;> cases c <;> simp [ekFits] at h <;> rfl
  | [], _ :: _, h => by simp [fitsK] at h
  | _ :: _, [], h => by simp [fitsK] at h
theorem fitsK_len : ∀ {ks : List EK} {cs : List CV}, fitsK ks cs = true → cs.length = ks.length
  | [], [], _ => rfl
  | K :: ks, c :: cs, h => by
    simp only [fitsK, Bool.and_eq_true] at h
    simp [fitsK_len h.2]
  | [], _ :: _, h => by simp [fitsK] at h
  | _ :: _, [], h => by simp [fitsK] at h

theorem flatVals_upd {ks : List EK} {x : LV} {e v : Int} {k : IntKind} (h : ks[e.toNat]? = some (.int k)) : flatVals 0 ks (x.upd e v) = (flatVals 0 ks x).set e.toNat (.int k v) := by
  apply List.ext_getElem?
  intro i
  rw [List.getElem?_set]
  cases hK : ks[i]? with
  | none =>
    have hi : ks.length ≤ i := List.getElem?_eq_none_iff.1 hK
    have he := lt_of_get h
    rw [List.getElem?_eq_none (by rw [flatVals_length]; exact hi), if_neg (by omega), List.getElem?_eq_none (by rw [flatVals_length]; exact hi)]
  | some K =>
    rw [flatVals_get 0 ks _ i K hK, flatVals_get 0 ks _ i K hK, Nat.zero_add]
    by_cases hie : e.toNat = i
    · subst hie
      rw [h] at hK
      cases hK
      rw [if_pos rfl, if_pos (by rw [flatVals_length]; exact lt_of_get h)]
      simp [EK.val, LV.upd]
    · rw [if_neg hie]
      cases K <;> simp [EK.val, LV.upd, Ne.symm hie]

theorem flatVals_updb {ks : List EK} {x : LV} {e : Int} {v : Bool} (h : ks[e.toNat]? = some .bool) : flatVals 0 ks (x.updb e v) = (flatVals 0 ks x).set e.toNat (.bool v) := by
  apply List.ext_getElem?
  intro i
  rw [List.getElem?_set]
  cases hK : ks[i]? with
  | none =>
    have hi : ks.length ≤ i := List.getElem?_eq_none_iff.1 hK
    have he := lt_of_get h
    rw [List.getElem?_eq_none (by rw [flatVals_length]; exact hi), if_neg (by omega), List.getElem?_eq_none (by rw [flatVals_length]; exact hi)]
  | some K =>
    rw [flatVals_get 0 ks _ i K hK, flatVals_get 0 ks _ i K hK, Nat.zero_add]
    by_cases hie : e.toNat = i
    · subst hie
      rw [h] at hK
      cases hK
      rw [if_pos rfl, if_pos (by rw [flatVals_length]; exact lt_of_get h)]
      simp [EK.val, LV.updb]
    · rw [if_neg hie]
      cases K <;> simp [EK.val, LV.updb, Ne.symm hie]

theorem flat_feet {c : Nat} {ks : List EK} (hk : flatK c = some ks) {h : Array Obj} {F : List Nat} {x : LV} (hs : IsObj c h F x) : ∃ b t, F = [b] ∧ h[b]? = some (.cells (flatVals 0 ks x).toArray t (0, 0)) := by
  unfold IsObj at hs
  rw [hk] at hs
  exact hs
theorem flat_one {c b : Nat} {β : Nat → Nat} {g : Nat} (h : feetOf β b c = [g]) : g = β b ∧ feetN c = 0 := by
  have h1 : (feetOf β b c).length = 1 := by rw [h]; rfl
  unfold feetOf at h1
  simp at h1
  obtain ⟨r, hr⟩ := feetOf_head β b c
  rw [h] at hr
  cases hr
  exact ⟨rfl, h1⟩

theorem u_rel {w : World} (hR : Rel W ρ σ β st a w) (hscp : st.scp st.n = true) {b l : Nat} {u : TypeId} {ks : List EK} (htg : isTag u = true) (hc : 0 < clsOf u) (hro : isRO u = false) (hk : flatK (clsOf u) = some ks) (hb : st.own[b]? = some (u, [.lst l])) {x : Leaf} {t : TypeId}
    {cells : List Value} (hcells : cells = flatVals 0 ks x.lv) (hw1 : (w.setRow (β b) cells.toArray).heap[β b]? = some (.cells cells.toArray t (0, 0))) (dst : Option Tmp) :
    Rel W (push ρ st.n [x]) σ β (uSt st dst b u) (a.put dst undef) (w.setRow (β b) cells.toArray) := by
  obtain ⟨hT, hw⟩ := hR
  obtain ⟨h5, h6, h7, h8⟩ := st_scp hscp
  have ha : agree st.n ρ (push ρ st.n [x]) := agree_push ρ st.n _
  refine ⟨?_, ?_⟩
  · have hT1 : TOk (push ρ st.n [x]) σ β st a := hT.agree hscp ha (agree_refl _ _) (agree_refl _ _)
    have := hT1.put dst (g := []) (sv := .any) (v := undef) (.inl rfl)
    exact ⟨this.size, this.slot, this.defers, this.pc⟩
  · show WOk W _ σ β (setAt st.own b (u, [.lst st.n])) (st.put dst ([], .any)).lists _
    rw [(put_n _ _ _).2.2.1]
    have hw' : WOk W (push ρ st.n [x]) σ β st.own st.lists w := hw.agree h6 h7 ha (agree_refl _ _) (agree_refl _ _)
    obtain ⟨g, t', hg, _⟩ := flat_feet hk (obj_at hw' htg hc hb).1
    obtain ⟨rfl, hf⟩ := flat_one hg
    refine hw'.omut htg hc hro hb ⟨rfl, rfl, rfl, by rw [size_setRow]; exact Nat.le_refl _, fun j hj hm => ?_⟩ ?_
    · rw [hg] at hm
      exact setRow_other w (β b) j _ (fun e => hm (by rw [e]; exact List.mem_singleton.2 rfl))
    · unfold IsObj
      rw [hk, hg]
      refine ⟨β b, t, rfl, ?_⟩
      rw [hw1, hcells]
      simp [push]

theorem putOne_ok {l : Nat} {ks : List EK} {off n m : Nat} {cs : List CV} {ax : Ax} (h : putOne l ks off n m cs = some ax) : ∃ k v, cs = [.int k v] ∧ ks[off]? = some (.int k) ∧ ax = .upd l (.i off) v := by
  unfold putOne at h
  split at h
  · rename_i k v
    split at h
    · rename_i k' hk
      split at h
      · rename_i hc
        simp only [Bool.and_eq_true] at hc
        cases h
        have := kindNo_inj hc.1
        subst this
        exact ⟨_, _, rfl, hk, rfl⟩
      · cases h
    · cases h
  · cases h
theorem u_store1 {w : World} (hR : Rel W ρ σ β st a w) {o : Oper} {b u : Nat} {ax : Ax} {obs : List Ex} (hs : uStep1 P st g o = some (b, u, ax, obs)) (hob : ∀ x, x ∈ obs → x.bool ρ = true)
    {next : Act → World → Prop} {Q : Exit → Act → World → Prop} (hk : ∀ w', Rel W (push ρ st.n [ax.ev ρ]) σ β (uSt st o.dst b u) (a.put o.dst undef) w' → next (a.put o.dst undef) w') : o.wp P a w next Q := by
  have hR0 := hR
  obtain ⟨hT, hw⟩ := hR
  unfold uStep1 at hs
  split at hs
  · rename_i t x y ho
    split at hs
    · rename_i hc0
      simp only [Bool.and_eq_true] at hc0
      have hg : Gd.holds ρ g := isNil_holds hc0.1
      split at hs
      · rename_i b' e k v hx hy hsz
        split at hs
        · rename_i u' l ks hb
          split at hs
          · rename_i k' hk'
            split at hs
            · rename_i hc
              cases hs
              simp only [Bool.and_eq_true, Bool.not_eq_true'] at hc
              obtain ⟨h1, h2, h3, h5⟩ := objOf_ok hb
              obtain ⟨t', h6⟩ := obj_cells hw hb
              have hkk := kindNo_inj hc.1.2
              subst hkk
              have o1 := hob (mkLe (.i 0) e) (by simp)
              have o2 := hob (.lt e (.i ks.length)) (by simp)
              rw [mkLe_bool, Ex.int_i] at o1
              rw [Ex.bool_lt, Ex.int_i] at o2
              have o1 := of_decide_eq_true o1
              have o2 := of_decide_eq_true o2
              have hlt : (e.int ρ).toNat < ks.length := by omega
              have hxv := cell_ok hT hg hx
              simp only [CV.val] at hxv
              obtain ⟨tv, h7, h8⟩ := opCells_ok hT hg hy
              have h9 := tv_cells (ρ := ρ) (σ := σ) (β := β) tv
              rw [← h8] at h9
              have hrow := run_storeCells_at P (β b) (e.int ρ).toNat t' [Value.int k (v.int ρ)] 0 (flatVals 0 ks (ρ l).lv).toArray w h6 (by simp [flatVals_length]; omega) (fun z hz => by rw [List.mem_singleton.1 hz]; rfl)
              have hset : (flatVals 0 ks (ρ l).lv).take ((e.int ρ).toNat + 0) ++ [Value.int k (v.int ρ)] ++ (flatVals 0 ks (ρ l).lv).drop ((e.int ρ).toNat + 0 + [Value.int k (v.int ρ)].length) = flatVals 0 ks (Leaf.l ((ρ l).lv.upd (e.int ρ) (v.int ρ))).lv := by
                show _ = flatVals 0 ks ((ρ l).lv.upd (e.int ρ) (v.int ρ))
                rw [flatVals_upd (uniK_get hk' hlt), List.set_eq_take_append_cons_drop, if_pos (by rw [flatVals_length]; exact hlt)]
                simp
              unfold Oper.wp
              have hrun : (execOp a.eval o).run P w = .ok .skip (w.setRow (β b) (flatVals 0 ks (Leaf.l ((ρ l).lv.upd (e.int ρ) (v.int ρ))).lv).toArray) := by
                rw [← hset]
                simp only [Nat.add_zero] at hrow ⊢
                simp [execOp, ho, Instr.storeAt, Instr.sureAddr, hxv, h7, storeVar, run_size hsz, h9, CV.val, hrow]
              rw [hrun, Oper.upon_skip]
              refine hk _ ?_
              exact u_rel hR0 hc0.2 h2 h3 hc.1.1 h5 h1 (x := .l ((ρ l).lv.upd (e.int ρ) (v.int ρ))) rfl (setRow_heap w (β b) _ _ _ _ h6) o.dst
            · cases hs
          · cases hs
        · cases hs
      · rename_i b' off cs s hx hy hsz
        split at hs
        · rename_i u' l ks hb
          split at hs
          · rename_i hc
            cases hs
            simp only [Bool.and_eq_true, Bool.not_eq_true'] at hc
            have hoff := Nat.eq_of_beq_eq_true hc.1.1.1.2
            subst hoff
            have hsl := Nat.eq_of_beq_eq_true hc.1.1.2
            obtain ⟨h1, h2, h3, h5⟩ := objOf_ok hb
            obtain ⟨t', h6⟩ := obj_cells hw hb
            have hxv := cell_ok hT hg hx
            simp only [CV.val] at hxv
            obtain ⟨tv, h7, h8⟩ := opCells_ok hT hg hy
            have h9 := tv_cells (ρ := ρ) (σ := σ) (β := β) tv
            rw [← h8] at h9
            have hlen := fitsK_len hc.1.2
            have hne := fitsK_notElem hc.1.2
            have hrow := run_storeCells_at P (β b) 0 t' (cs.map (CV.val ρ σ β)) 0 (flatVals 0 ks (ρ l).lv).toArray w h6 (by simp [flatVals_length]; omega) (fun z hz => by
              simp only [List.mem_map] at hz
              obtain ⟨c', hc', rfl⟩ := hz
              exact val_one (List.all_eq_true.1 hne c' hc'))
            have hset : (flatVals 0 ks (ρ l).lv).take (0 + 0) ++ cs.map (CV.val ρ σ β) ++ (flatVals 0 ks (ρ l).lv).drop (0 + 0 + (cs.map (CV.val ρ σ β)).length) = flatVals 0 ks (Leaf.l (cellsLV ρ 1 cs)).lv := by
              show _ = flatVals 0 ks (cellsLV ρ 1 cs)
              rw [← fitsK_vals0 (σ := σ) (β := β) hc.1.2, List.drop_of_length_le (by simp [flatVals_length]; omega)]
              simp
            unfold Oper.wp
            have hrun : (execOp a.eval o).run P w = .ok .skip (w.setRow (β b) (flatVals 0 ks (Leaf.l (cellsLV ρ 1 cs)).lv).toArray) := by
              rw [← hset]
              simp only [Nat.add_zero] at hrow ⊢
              simp [execOp, ho, Instr.storeAt, Instr.sureAddr, hxv, h7, storeVar, run_size hsz, h9, hsl, hrow]
            rw [hrun, Oper.upon_skip]
            refine hk _ ?_
            exact u_rel hR0 hc0.2 h2 h3 hc.1.1.1.1 h5 h1 (x := .l (cellsLV ρ 1 cs)) rfl (setRow_heap w (β b) _ _ _ _ h6) o.dst
          · split at hs
            · rename_i hc
              split at hs
              · rename_i ax' hax
                cases hs
                simp only [Bool.and_eq_true, Bool.not_eq_true'] at hc
                have hs1 := Nat.eq_of_beq_eq_true hc.2
                subst hs1
                obtain ⟨k, v, rfl, hkk, rfl⟩ := putOne_ok hax
                obtain ⟨h1, h2, h3, h5⟩ := objOf_ok hb
                obtain ⟨t', h6⟩ := obj_cells hw hb
                have hlt : off < ks.length := lt_of_get hkk
                have hxv := cell_ok hT hg hx
                simp only [CV.val] at hxv
                obtain ⟨tv, h7, h8⟩ := opCells_ok hT hg hy
                have h9 := tv_cells (ρ := ρ) (σ := σ) (β := β) tv
                rw [← h8] at h9
                have hrow := run_storeCells_at P (β b) off t' [Value.int k (v.int ρ)] 0 (flatVals 0 ks (ρ l).lv).toArray w h6 (by simp [flatVals_length]; omega) (fun z hz => by rw [List.mem_singleton.1 hz]; rfl)
                have hset : (flatVals 0 ks (ρ l).lv).take (off + 0) ++ [Value.int k (v.int ρ)] ++ (flatVals 0 ks (ρ l).lv).drop (off + 0 + [Value.int k (v.int ρ)].length) = flatVals 0 ks (Leaf.l ((ρ l).lv.upd (off : Int) (v.int ρ))).lv := by
                  show _ = flatVals 0 ks ((ρ l).lv.upd (off : Int) (v.int ρ))
                  rw [flatVals_upd (k := k) (by simpa using hkk), List.set_eq_take_append_cons_drop, if_pos (by rw [flatVals_length]; simpa using hlt)]
                  simp
                unfold Oper.wp
                have hrun : (execOp a.eval o).run P w = .ok .skip (w.setRow (β b) (flatVals 0 ks (Leaf.l ((ρ l).lv.upd (off : Int) (v.int ρ))).lv).toArray) := by
                  rw [← hset]
                  simp only [Nat.add_zero] at hrow ⊢
                  simp [execOp, ho, Instr.storeAt, Instr.sureAddr, hxv, h7, storeVar, run_size hsz, h9, CV.val, hrow]
                rw [hrun, Oper.upon_skip]
                refine hk _ ?_
                exact u_rel hR0 hc0.2 h2 h3 hc.1 h5 h1 (x := .l ((ρ l).lv.upd (off : Int) (v.int ρ))) rfl (setRow_heap w (β b) _ _ _ _ h6) o.dst
              · cases hs
            · cases hs
        · cases hs
      · cases hs
    · cases hs
  · cases hs

/-! ### A key of a map of an object turns -/

theorem map_upd {x : LV} {i j : Nat} {f d v f' d' : Int} (hi : i = 1 ∨ i = 2) (hj : j = 1 ∨ j = 2) (h1 : i64R f) (h2 : i64R d) (h3 : i64R f') (h4 : i64R d') :
    mapF (x.upd (keyI i f d) v) j f' d' = if j = i then updF (mapF x i) f d v f' d' else mapF x j f' d' := by
  have p1 := keyI_pos hi h1 h2
  have p2 := keyI_pos hj h3 h4
  unfold mapF LV.upd updF
  dsimp only
  by_cases h : j = i ∧ f' = f ∧ d' = d
  · obtain ⟨rfl, rfl, rfl⟩ := h
    rw [if_pos ⟨rfl, rfl⟩, if_pos rfl, if_pos ⟨rfl, rfl⟩]
  · rw [if_neg (fun hh => h ?_)]
    · split
      · rename_i hji
        subst hji
        rw [if_neg (fun hh => h ⟨rfl, hh⟩)]
      · rfl
    · have : keyI j f' d' = keyI i f d := by omega
      exact keyI_inj hj hi h3 h4 h1 h2 this
theorem upd_zero {x : LV} {i : Nat} {f d v : Int} (hi : i = 1 ∨ i = 2) (h1 : i64R f) (h2 : i64R d) : (x.upd (keyI i f d) v).gi 0 0 = x.gi 0 0 := by
  have p1 := keyI_pos hi h1 h2
  unfold LV.upd
  dsimp only
  rw [if_neg (by omega)]

theorem w_rel {w : World} (hR : Rel W ρ σ β st a w) (hscp : st.scp st.n = true) {b l i : Nat} {u : TypeId} (hr : risOf st b = some (u, l)) (hro : isRO u = false) (hi : i = 1 ∨ i = 2) {f d v : Int} (hf : i64R f) (hd : i64R d) {ob : Obj}
    (hm : MapAt (ChangeMaps.setBlock w (β (b + i)) ob).heap (β (b + i)) (updF (mapF (ρ l).lv i) f d v)) {st1 : St} {a1 : Act} (hT1 : TOk (push ρ st.n [.l ((ρ l).lv.upd (keyI i f d) v)]) σ β st1 a1)
    (ho1 : st1.own = setAt st.own b (u, [.lst st.n])) (hl1 : st1.lists = st.lists) :
    Rel W (push ρ st.n [.l ((ρ l).lv.upd (keyI i f d) v)]) σ β st1 a1 (ChangeMaps.setBlock w (β (b + i)) ob) := by
  obtain ⟨hT, hw⟩ := hR
  obtain ⟨h5, h6, h7, h8⟩ := st_scp hscp
  obtain ⟨g1, g2, g3⟩ := risOf_ok hr
  have ha : agree st.n ρ (push ρ st.n [.l ((ρ l).lv.upd (keyI i f d) v)]) := agree_push ρ st.n _
  refine ⟨hT1, ?_⟩
  rw [ho1, hl1]
  have hw' : WOk W (push ρ st.n [.l ((ρ l).lv.upd (keyI i f d) v)]) σ β st.own st.lists w := hw.agree h6 h7 ha (agree_refl _ _) (agree_refl _ _)
  have hobj := (obj_at hw g2 (by rw [g3]; decide) g1).1
  rw [g3] at hobj
  obtain ⟨hnd, t, hc, hm1, hm2⟩ := isObj4.1 hobj
  have hlt : β (b + i) < w.heap.size := by rcases hi with rfl | rfl; exact hm1.lt; exact hm2.lt
  have hother : ∀ k, k ≠ β (b + i) → (ChangeMaps.setBlock w (β (b + i)) ob).heap[k]? = w.heap[k]? := fun k hk => by
    unfold ChangeMaps.setBlock
    simp [Array.getElem?_setIfInBounds_ne (Ne.symm hk)]
  have n0 : β b ≠ β (b + 1) ∧ β b ≠ β (b + 2) ∧ β (b + 1) ≠ β (b + 2) := by
    rw [feet4] at hnd
    simp only [List.nodup_cons, List.mem_cons, List.not_mem_nil, or_false, not_or, not_false_eq_true, List.nodup_nil, and_true] at hnd
    exact ⟨hnd.1.1, hnd.1.2, hnd.2⟩
  refine hw'.omut g2 (by rw [g3]; decide) hro g1 ⟨rfl, rfl, rfl, by unfold ChangeMaps.setBlock; simp, fun j hj hm => hother j fun e => hm ?_⟩ ?_
  · rw [g3, feet4, e]
    rcases hi with rfl | rfl <;> simp
  · rw [g3]
    have hnew : (push ρ st.n [Leaf.l ((ρ l).lv.upd (keyI i f d) v)] st.n).lv = (ρ l).lv.upd (keyI i f d) v := by simp [push, Leaf.lv]
    rw [hnew]
    refine isObj4.2 ⟨hnd, t, ?_, ?_, ?_⟩
    · rw [upd_zero hi hf hd, hother _ (by rcases hi with rfl | rfl; exact n0.1; exact n0.2.1)]
      exact hc
    · rcases hi with rfl | rfl
      · obtain ⟨es, c, e1, e2⟩ := mapAt_iff.1 hm
        exact mapAt_iff.2 ⟨es, c, e1, e2.ext fun f' d' r1 r2 => by rw [map_upd (.inl rfl) (.inl rfl) hf hd r1 r2, if_pos rfl]⟩
      · obtain ⟨es, c, e1, e2⟩ := mapAt_iff.1 hm1
        exact mapAt_iff.2 ⟨es, c, by rw [hother _ n0.2.2]; exact e1, e2.ext fun f' d' r1 r2 => by rw [map_upd (.inr rfl) (.inl rfl) hf hd r1 r2, if_neg (by decide)]⟩
    · rcases hi with rfl | rfl
      · obtain ⟨es, c, e1, e2⟩ := mapAt_iff.1 hm2
        exact mapAt_iff.2 ⟨es, c, by rw [hother _ (Ne.symm n0.2.2)]; exact e1, e2.ext fun f' d' r1 r2 => by rw [map_upd (.inl rfl) (.inr rfl) hf hd r1 r2, if_neg (by decide)]⟩
      · obtain ⟨es, c, e1, e2⟩ := mapAt_iff.1 hm
        exact mapAt_iff.2 ⟨es, c, e1, e2.ext fun f' d' r1 r2 => by rw [map_upd (.inr rfl) (.inr rfl) hf hd r1 r2, if_pos rfl]⟩

theorem wAx_ok {t : TypeId} {b i : Nat} {f d e : Ex} {b' u : Nat} {ax : Ax} {obs : List Ex} (h : wAx P st t b i f d e = some (b', u, ax, obs)) :
    ∃ l, b' = b ∧ risOf st b = some (u, l) ∧ isRO u = false ∧ mapT P t = true ∧ (i = 1 ∨ i = 2) ∧ ax = .upd l (.key i f d) e ∧ obs = rngE f ++ rngE d := by
  unfold wAx at h
  split at h
  · rename_i u' l hr
    split at h
    · rename_i hc
      simp only [Bool.and_eq_true, Bool.not_eq_true', Bool.or_eq_true] at hc
      cases h
      refine ⟨l, rfl, hr, hc.1.1.1, hc.1.1.2, ?_, rfl, rfl⟩
      rcases hc.1.2 with h | h
      · exact .inl (Nat.eq_of_beq_eq_true h)
      · exact .inr (Nat.eq_of_beq_eq_true h)
    · cases h
  · cases h
theorem uSt_tok {x : Leaf} (hT : TOk ρ σ β st a) (hscp : st.scp st.n = true) (dst : Option Tmp) (b u : Nat) (v : Value) : TOk (push ρ st.n [x]) σ β (uSt st dst b u) (a.put dst v) := by
  have hT1 : TOk (push ρ st.n [x]) σ β st a := hT.agree hscp (agree_push ρ st.n _) (agree_refl _ _) (agree_refl _ _)
  have := hT1.put dst (g := []) (sv := .any) (v := v) (.inl rfl)
  exact ⟨this.size, this.slot, this.defers, this.pc⟩
theorem obs_rng {f d : Ex} (h : ∀ x, x ∈ rngE f ++ rngE d → x.bool ρ = true) : i64R (f.int ρ) ∧ i64R (d.int ρ) :=
  ⟨rng_ok fun e he => h e (List.mem_append_left _ he), rng_ok fun e he => h e (List.mem_append_right _ he)⟩
theorem ris_map {w : World} (hw : WOk W ρ σ β st.own st.lists w) {b l i : Nat} {u : TypeId} (hr : risOf st b = some (u, l)) (hi : i = 1 ∨ i = 2) : MapAt w.heap (β (b + i)) (mapF (ρ l).lv i) := by
  obtain ⟨_, _, h1, h2⟩ := ris_obj hw hr
  rcases hi with rfl | rfl
  · exact h1
  · exact h2

/-- A store to a place that is reckoned, of an object. -/
theorem x_store {w : World} (hR : Rel W ρ σ β st a w) (hscp : st.scp st.n = true) (hg : Gd.holds ρ g) {o : Oper} {t : TypeId} {x y : Operand} {b u l : Nat} {e : Ex} {cv : CV} {ks : List EK} (ho : o.op = .store t x y) (hx : st.cell g x = some (.aptr b e)) (hy : opCells st g y = some [cv]) (hsz : sizeT P t = some 1)
    (hb : objOf st b = some (u, l, ks)) (hro : isRO u = false) {lv : LV} (hlt : (e.int ρ).toNat < ks.length) (hne : notElem cv = true) (hlv : flatVals 0 ks lv = (flatVals 0 ks (ρ l).lv).set (e.int ρ).toNat (cv.val ρ σ β))
    {next : Act → World → Prop} {Q : Exit → Act → World → Prop} (hk : ∀ w', Rel W (push ρ st.n [.l lv]) σ β (uSt st o.dst b u) (a.put o.dst undef) w' → next (a.put o.dst undef) w') : o.wp P a w next Q := by
  have hR0 := hR
  obtain ⟨hT, hw⟩ := hR
  obtain ⟨h1, h2, h3, h5⟩ := objOf_ok hb
  obtain ⟨t', h6⟩ := obj_cells hw hb
  have hxv := cell_ok hT hg hx
  simp only [CV.val] at hxv
  obtain ⟨tv, h7, h8⟩ := opCells_ok hT hg hy
  have h9 := tv_cells (ρ := ρ) (σ := σ) (β := β) tv
  rw [← h8] at h9
  have hrow := run_storeCells_at P (β b) (e.int ρ).toNat t' [cv.val ρ σ β] 0 (flatVals 0 ks (ρ l).lv).toArray w h6 (by simp [flatVals_length]; omega) (fun z hz => by rw [List.mem_singleton.1 hz]; exact val_one hne)
  have hset : (flatVals 0 ks (ρ l).lv).take ((e.int ρ).toNat + 0) ++ [cv.val ρ σ β] ++ (flatVals 0 ks (ρ l).lv).drop ((e.int ρ).toNat + 0 + [cv.val ρ σ β].length) = flatVals 0 ks lv := by
    rw [hlv, List.set_eq_take_append_cons_drop, if_pos (by rw [flatVals_length]; exact hlt)]
    simp
  unfold Oper.wp
  have hrun : (execOp a.eval o).run P w = .ok .skip (w.setRow (β b) (flatVals 0 ks lv).toArray) := by
    rw [← hset]
    simp only [Nat.add_zero] at hrow ⊢
    simp [execOp, ho, Instr.storeAt, Instr.sureAddr, hxv, h7, storeVar, run_size hsz, h9, hrow]
  rw [hrun, Oper.upon_skip]
  refine hk _ ?_
  exact u_rel hR0 hscp h2 h3 hro h5 h1 (x := .l lv) rfl (setRow_heap w (β b) _ _ _ _ h6) o.dst

theorem uStep_nil {o : Oper} {r : Nat × Nat × Ax × List Ex} (hs : uStep P st g o = some r) : isNil g = true ∧ st.scp st.n = true := by
  unfold uStep at hs
  split at hs
  · rename_i r' h1
    unfold uStep1 at h1
    split at h1
    · split at h1
      · rename_i hc; simpa using hc
      · cases h1
    · cases h1
  · unfold wStep at hs
    split at hs
    · rename_i hc; simpa using hc
    · cases hs
theorem u_store {w : World} (hR : Rel W ρ σ β st a w) {o : Oper} {b u : Nat} {ax : Ax} {obs : List Ex} (hs : uStep P st g o = some (b, u, ax, obs)) (hob : ∀ x, x ∈ obs → x.bool ρ = true)
    {next : Act → World → Prop} {Q : Exit → Act → World → Prop} (hk : ∀ a' w', Rel W (push ρ st.n [ax.ev ρ]) σ β (uSt st o.dst b u) a' w' → next a' w') : o.wp P a w next Q := by
  obtain ⟨hnil, hscp⟩ := uStep_nil hs
  have hg : Gd.holds ρ g := isNil_holds hnil
  unfold uStep at hs
  split at hs
  · rename_i r' h1
    cases hs
    exact u_store1 hR h1 hob fun w' h => hk _ w' h
  · have hT := hR.1
    unfold wStep at hs
    split at hs
    · split at hs
      · rename_i t m k v ho
        split at hs
        · rename_i b0 i f d e hm hkc hv
          obtain ⟨l, rfl, hr, hro, hmt, hi, rfl, rfl⟩ := wAx_ok hs
          obtain ⟨hf, hd⟩ := obs_rng hob
          have hmv := cell_ok hT hg hm
          have hvv := cell_ok hT hg hv
          have hkv := opCells2 hT hg hkc
          simp only [CV.val] at hmv hvv
          obtain ⟨ob, hrun, hmap⟩ := run_put hmt (ris_map hR.2 hr hi) hf hd (e.int ρ)
          unfold Oper.wp
          have hrun2 : (execOp a.eval o).run P w = .ok .skip (ChangeMaps.setBlock w (β (b + i)) ob) := by
            simp [execOp, ho, hmv, hvv, hkv, hrun]
          rw [hrun2, Oper.upon_skip]
          exact hk _ _ (w_rel hR hscp hr hro hi hf hd hmap (uSt_tok hT hscp o.dst b u undef) rfl (put_n _ _ _).2.2.1)
        · cases hs
      · rename_i c0 ho
        split at hs
        · rename_i hcal
          split at hs
          · rename_i t t2 m k hty hargs
            split at hs
            · rename_i b0 i f d hm hkc
              obtain ⟨l, rfl, hr, hro, hmt, hi, rfl, rfl⟩ := wAx_ok hs
              obtain ⟨hf, hd⟩ := obs_rng hob
              have hmv := cell_ok hT hg hm
              have hkv := opCells2 hT hg hkc
              simp only [CV.val] at hmv
              obtain ⟨ob, hrun, hmap⟩ := run_del (ty := o.type) hmt (ris_map hR.2 hr hi) hf hd t2
              have h1 : c0.argTypes = #[t, t2] := by rw [← Array.toArray_toList (xs := c0.argTypes), hty]
              have h2 : c0.args = #[m, k] := by rw [← Array.toArray_toList (xs := c0.args), hargs]
              unfold Oper.wp
              have hrun2 : (execOp a.eval o).run P w = .ok (.value (.tuple #[])) (ChangeMaps.setBlock w (β (b + i)) ob) := by
                simp [execOp, ho, hcal, h1, h2, resolve, invoke, builtin, hmv, hkv, hrun]
              rw [hrun2, Oper.upon_value]
              exact hk _ _ (w_rel hR hscp hr hro hi hf hd hmap (uSt_tok hT hscp o.dst b u _) rfl (put_n _ _ _).2.2.1)
            · cases hs
          · cases hs
        · cases hs
      · rename_i t x y ho
        split at hs
        · rename_i b0 e cv hx hy hsz
          split at hs
          · rename_i u0 l ks hb
            split at hs
            · cases hs
            · rename_i hro
              have hro : isRO u0 = false := by simpa using hro
              split at hs
              · rename_i v
                split at hs
                · cases hs
                  have o1 := hob (mkLe (.i 0) e) (by simp)
                  have o2 := hob (.lt e (.i (intLen ks))) (by simp)
                  rw [mkLe_bool, Ex.int_i] at o1
                  rw [Ex.bool_lt, Ex.int_i] at o2
                  have o1 := of_decide_eq_true o1
                  have o2 := of_decide_eq_true o2
                  have hle := intLen_le ks
                  exact x_store hR hscp hg ho hx hy hsz hb hro (lv := (ρ l).lv.upd (e.int ρ) (v.int ρ)) (by omega) rfl (flatVals_upd (k := .i64) (intLen_get (by omega))) fun w' h => hk _ w' h
                · cases hs
              · rename_i v
                split at hs
                · rename_i hc
                  cases hs
                  simp only [Bool.and_eq_true] at hc
                  have o1 := hob (mkLe (.i (intLen ks)) e) (by simp)
                  have o2 := hob (.lt e (.i ks.length)) (by simp)
                  rw [mkLe_bool, Ex.int_i] at o1
                  rw [Ex.bool_lt, Ex.int_i] at o2
                  have o1 := of_decide_eq_true o1
                  have o2 := of_decide_eq_true o2
                  exact x_store hR hscp hg ho hx hy hsz hb hro (lv := (ρ l).lv.updb (e.int ρ) (v.bool ρ)) (by omega) rfl (flatVals_updb (allB_get hc.1 (by omega) (by omega))) fun w' h => hk _ w' h
                · cases hs
              · cases hs
          · cases hs
        · cases hs
      · cases hs
    · cases hs

theorem eval_put {d t : Nat} {v : Value} (hd : d < a.tmps.size) : (a.put (some d) v).eval (.tmp t) = if t = d then v else a.eval (.tmp t) := by
  show (a.tmps.setIfInBounds d v).getD t undef = if t = d then v else a.tmps.getD t undef
  rw [Array.getD_eq_getD_getElem?, Array.getD_eq_getD_getElem?]
  by_cases h : t = d
  · subst h
    rw [if_pos rfl, Array.getElem?_setIfInBounds_self_of_lt hd]
    rfl
  · rw [if_neg h, Array.getElem?_setIfInBounds_ne (Ne.symm h)]
theorem noG_wanted {o : Oper} (h : noG o = true) (ys : Nat → Bool) (ops : Array Oper) (a : Act) : Region.wanted o (yielded ops a.tmps) = true := by
  unfold noG at h
  split at h
  · rename_i hg
    simp [Region.wanted, hg]
  · cases h
theorem e_store {w : World} (hR : Rel W ρ σ β st a w) {o : Oper} {rest : List Oper} {d1 d2 b u : Nat} {ax : Ax} {obs : List Ex} (hs : eStep P st o rest = some (d1, d2, b, u, ax, obs)) (hob : ∀ x, x ∈ obs → x.bool ρ = true) {ops : Array Oper}
    (hwo : Region.wanted o (yielded ops a.tmps) = true) {Q : Exit → Act → World → Prop} (hk : ∀ a' w', Rel W (push ρ st.n [ax.ev ρ]) σ β (uSt ((st.put (some d1) ([], .any)).put (some d2) ([], .any)) ((rest[1]?).bind (·.dst)) b u) a' w' → wpList P ops Q (rest.drop 2) a' w') :
    wpList P ops Q (o :: rest) a w := by
  have hT := hR.1
  have hg : Gd.holds ρ [] := holds_nil' ρ
  unfold eStep at hs
  split at hs
  · rename_i t tm k d1' o2 o3 r ho hdst
    split at hs
    · rename_i e1 d2' t3 tm3 s3 tv ho2 hdst2 ho3
      split at hs
      · rename_i hc
        simp only [Bool.and_eq_true, Bool.not_eq_true'] at hc
        obtain ⟨⟨⟨hn2, hn3⟩, hscp⟩, htm⟩ := hc
        split at hs
        · rename_i b0 i f d e hm hkc hv
          split at hs
          · rename_i b' u' ax' obs' hwx
            cases hs
            obtain ⟨l, rfl, hr, hro, hmt, hi, rfl, rfl⟩ := wAx_ok hwx
            obtain ⟨hf, hd⟩ := obs_rng hob
            have hmv := cell_ok hT hg hm
            have hvv := cell_ok hT hg hv
            have hkv := opCells2 hT hg hkc
            simp only [CV.val] at hmv hvv
            unfold eTmps at htm
            simp only [Bool.and_eq_true, Bool.not_eq_true'] at htm
            obtain ⟨⟨⟨⟨⟨⟨⟨⟨⟨t1, t2⟩, t3'⟩, t4⟩, t5⟩, t6⟩, t7⟩, t8⟩, t9⟩, t10⟩ := htm
            have q1 := Nat.eq_of_beq_eq_true t1
            have q2 := Nat.eq_of_beq_eq_true t2
            have q3 := Nat.eq_of_beq_eq_true t3'
            have ne : ∀ {x y : Nat}, Nat.beq x y = false → x ≠ y := fun h e => by rw [e, Nat.beq_refl] at h; cases h
            have q4 := ne t4
            have q5 := ne t5
            have q6 := ne t6
            have q7 := ne t7
            have q8 := ne t8
            have q9 : d1 < a.tmps.size := by rw [hT.size]; exact blt_lt t9
            have q10 : d2 < a.tmps.size := by rw [hT.size]; exact blt_lt t10
            subst q1; subst q2; subst q3
            obtain ⟨ob, s, hrun, _, hnext⟩ := run_entry hmt (ris_map hR.2 hr hi) hf hd
            obtain ⟨ob', hrun2, hmap⟩ := hnext t3 (e.int ρ)
            unfold wpList
            rw [if_pos hwo]
            left
            unfold Oper.wp
            have r1 : (execOp a.eval o).run P w = .ok (.value (.tuple #[.int .i64 (mapF (ρ l).lv i (f.int ρ) (d.int ρ)), .int .i64 s])) (ChangeMaps.setBlock w (β (b + i)) ob) := by
              simp [execOp, ho, hmv, hkv, hrun]
            rw [r1, Oper.upon_value, hdst]
            unfold wpList
            rw [if_pos (noG_wanted hn2 (fun _ => true) ops _)]
            left
            unfold Oper.wp
            have v1 : (a.put (some e1) (.tuple #[.int .i64 (mapF (ρ l).lv i (f.int ρ) (d.int ρ)), .int .i64 s])).eval (.tmp e1) = .tuple #[.int .i64 (mapF (ρ l).lv i (f.int ρ) (d.int ρ)), .int .i64 s] := by
              rw [eval_put q9, if_pos rfl]
            have r2 : (execOp (a.put (some e1) (.tuple #[.int .i64 (mapF (ρ l).lv i (f.int ρ) (d.int ρ)), .int .i64 s])).eval o2).run P (ChangeMaps.setBlock w (β (b + i)) ob) = .ok (.value (.int .i64 s)) (ChangeMaps.setBlock w (β (b + i)) ob) := by
              simp [execOp, ho2, v1, Instr.extract]
            rw [r2, Oper.upon_value, hdst2]
            unfold wpList
            rw [if_pos (noG_wanted hn3 (fun _ => true) ops _)]
            left
            unfold Oper.wp
            have sz : (a.put (some e1) (.tuple #[.int .i64 (mapF (ρ l).lv i (f.int ρ) (d.int ρ)), .int .i64 s])).tmps.size = a.tmps.size := by simp [Act.put]
            generalize hA : a.put (some e1) (.tuple #[.int .i64 (mapF (ρ l).lv i (f.int ρ) (d.int ρ)), .int .i64 s]) = A at *
            have v2 : (A.put (some s3) (.int .i64 s)).eval (.tmp s3) = .int .i64 s := by rw [eval_put (by rw [sz]; exact q10), if_pos rfl]
            have v3 : (A.put (some s3) (.int .i64 s)).eval (.tmp tm) = .map (some (β (b + i))) := by
              rw [eval_put (by rw [sz]; exact q10), if_neg q6, ← hA, eval_put q9, if_neg q5]
              exact hmv
            have v4 : (A.put (some s3) (.int .i64 s)).eval (.tmp tv) = .int .i64 (e.int ρ) := by
              rw [eval_put (by rw [sz]; exact q10), if_neg q8, ← hA, eval_put q9, if_neg q7]
              exact hvv
            have r3 : (execOp (A.put (some s3) (.int .i64 s)).eval o3).run P (ChangeMaps.setBlock w (β (b + i)) ob) = .ok .skip (ChangeMaps.setBlock w (β (b + i)) ob') := by
              simp [execOp, ho3, v2, v3, v4, hrun2]
            rw [r3, Oper.upon_skip]
            refine hk _ _ ?_
            show Rel W _ σ β (uSt ((st.put (some e1) ([], .any)).put (some s3) ([], .any)) o3.dst b u) _ _
            have p1 := put_n st (some e1) ([], SV.any)
            have p2 := put_n (st.put (some e1) ([], SV.any)) (some s3) ([], SV.any)
            have T1 : TOk ρ σ β ((st.put (some e1) ([], .any)).put (some s3) ([], .any)) (A.put (some s3) (.int .i64 s)) := by
              rw [← hA]
              exact (hT.put (some e1) (.inl rfl)).put (some s3) (.inl rfl)
            have scp2 : ((st.put (some e1) ([], SV.any)).put (some s3) ([], SV.any)).scp st.n = true := by
              simp only [St.scp, p2.2.1, p1.2.1, p2.2.2.1, p1.2.2.1, p2.2.2.2, p1.2.2.2]
              simp only [St.scp, Bool.and_eq_true] at hscp
              simp only [Bool.and_eq_true]
              refine ⟨⟨⟨?_, hscp.1.1.2⟩, hscp.1.2⟩, hscp.2⟩
              have tput : ∀ (s : St) (d : Nat), (s.tmps.all fun x => Gd.scp st.n x.2.1 && x.2.2.scp st.n st.own.length) = true → ((s.put (some d) ([], SV.any)).tmps.all fun x => Gd.scp st.n x.2.1 && x.2.2.scp st.n st.own.length) = true := fun s d hh => by
                simp only [St.put]
                split
                · simp only [List.all_cons, hh, Bool.and_true]
                  rfl
                · exact hh
              exact tput _ _ (tput _ _ hscp.1.1.1)
            have e0 : (uSt ((st.put (some e1) ([], .any)).put (some s3) ([], .any)) o3.dst b u).own = setAt st.own b (u, [.lst st.n]) := by
              show setAt _ _ (u, [CV.lst ((st.put (some e1) ([], SV.any)).put (some s3) ([], SV.any)).n]) = _
              rw [p2.2.1, p1.2.1, p2.1, p1.1]
            have e2 : (uSt ((st.put (some e1) ([], .any)).put (some s3) ([], .any)) o3.dst b u).lists = st.lists := by
              show (((st.put (some e1) ([], SV.any)).put (some s3) ([], SV.any)).put o3.dst ([], .any)).lists = _
              rw [(put_n _ _ _).2.2.1, p2.2.2.1, p1.2.2.1]
            have hn : ((st.put (some e1) ([], SV.any)).put (some s3) ([], SV.any)).n = st.n := by rw [p2.1, p1.1]
            have T2 := uSt_tok (x := .l ((ρ l).lv.upd (keyI i (f.int ρ) (d.int ρ)) (e.int ρ))) T1 (by rw [hn]; exact scp2) o3.dst b u undef
            rw [hn] at T2
            exact w_rel hR hscp hr hro hi hf hd hmap T2 e0 e2
          · cases hs
        · cases hs
      · cases hs
    · cases hs
  · cases hs

theorem pack_ok {w : World} (hR : Rel W ρ σ β st a w) {b c : Nat} {st' : St} {ax : Ax} (h : packSt st b c = some (st', ax)) : Rel W (push ρ st.n [ax.ev ρ]) σ β st' a w ∧ st'.n = st.n + 1 := by
  obtain ⟨hT, hw⟩ := hR
  unfold packSt at h
  split at h
  · rename_i t cs hb
    split at h
    · cases h
    · rename_i ht
      have ht : isTag t = false := by simpa using ht
      split at h
      · rename_i ks hk
        split at h
        · rename_i hc
          cases h
          simp only [Bool.and_eq_true] at hc
          have hc0 := blt_lt hc.1.1.1.1
          have hcr := blt_lt hc.1.1.1.2
          have hf0 := Nat.eq_of_beq_eq_true hc.1.1.2
          have hscp := hc.2
          obtain ⟨h5, h6, h7, h8⟩ := st_scp hscp
          have ha : agree st.n ρ (push ρ st.n [Ax.ev ρ (.c 1 .nilp cs)]) := agree_push ρ st.n _
          have hT1 : TOk (push ρ st.n [Ax.ev ρ (.c 1 .nilp cs)]) σ β st a := hT.agree hscp ha (agree_refl _ _) (agree_refl _ _)
          have hw1 : WOk W (push ρ st.n [Ax.ev ρ (.c 1 .nilp cs)]) σ β st.own st.lists w := hw.agree h6 h7 ha (agree_refl _ _) (agree_refl _ _)
          have hlt := lt_of_get hb
          refine ⟨⟨⟨hT1.size, hT1.slot, hT1.defers, hT1.pc⟩, ?_⟩, rfl⟩
          show WOk W _ σ β (setAt st.own b (tagB + c, [.lst st.n])) st.lists w
          refine ⟨hw1.below, fun k u ds hk' hu => ?_, fun k u ds hk' hu => ?_, fun j k hj hk' e => ?_, fun k u ds hk' hr => ?_, fun p hp => ?_, fun l T K hm he => ?_, hw1.self, by rw [setAt_length]; exact hw1.slen, hw1.sep⟩
          · rw [setAt_get] at hk'
            split at hk'
            · try rw [if_pos hlt] at hk'
              cases hk'
              rw [isTag_tag c] at hu; cases hu
            · exact hw1.own k u ds hk' hu
          · rw [setAt_get] at hk'
            split at hk'
            · rename_i hkb
              try rw [if_pos hlt] at hk'
              cases hk'
              subst hkb
              refine .inr ⟨st.n, by rw [clsOf_tag hcr]; exact hc0, rfl, ?_, fun i hi0 hi => by rw [clsOf_tag hcr] at hi; omega⟩
              rw [clsOf_tag hcr]
              unfold IsObj
              rw [hk]
              refine ⟨β k, t, ?_, ?_⟩
              · unfold feetOf
                rw [hf0]
                rfl
              · rw [hw.own k t cs hb ht, fitsK_vals0 hc.1.2]
                simp [push, Ax.ev, Leaf.lv]
            · rename_i hkb
              refine TagOk.set (b := b) (hw1.obj k u ds hk' hu) (fun j hj => by rw [setAt_get, if_neg hj]) (fun v hv e => ?_)
              rw [hb] at e
              cases e
              rw [hv] at ht; cases ht
          · rw [setAt_length] at hj hk'; exact hw1.inj j k hj hk' e
          · rw [setAt_get] at hk'
            split at hk'
            · rename_i hkb
              try rw [if_pos hlt] at hk'
              cases hk'
              rw [hkb]
              exact hw1.ge b t cs hb (by rw [← Bool.not_eq_true]; intro h; exact absurd (isRO_isTag h) (by rw [ht]; simp))
            · exact hw1.ge k u ds hk' hr
          · rw [setAt_length]; exact hw1.lists p hp
          · rw [setAt_length]; exact hw1.gro l T K hm he
        · cases h
      · cases h
  · cases h

/-! ### A call that writes to a number within an object -/

theorem cArgs_ok {f : Nat} {rs ps : List Sh} {xs : List Operand} {s : CS} (h : cArgs st g f rs ps xs = some s) : ∃ k ps' x xs' cv e as, ps = .one (.mcell k) :: ps' ∧ xs = x :: xs' ∧ st.cell g x = some cv ∧
    cellOf st cv = some (s.b, s.u, s.l, e, k, s.e) ∧ isRO s.u = false ∧ argsS st g ps' xs' = some as ∧ s.f = f ∧ s.rs = rs ∧ s.args = .p e cv :: as ∧ s.e.scp st.n = true := by
  unfold cArgs at h
  split at h
  · rename_i k ps' x xs'
    split at h
    · rename_i cv hx
      split at h
      · rename_i b u l e k' at_ hc
        split at h
        · rename_i hk
          simp only [Bool.and_eq_true, Bool.not_eq_true'] at hk
          split at h
          · rename_i as ha
            cases h
            have := kindNo_inj hk.1.1
            subst this
            exact ⟨k, ps', x, xs', cv, e, as, rfl, rfl, hx, hc, hk.1.2, ha, rfl, rfl, rfl, hk.2⟩
          · cases h
        · cases h
      · cases h
    · cases h
  · cases h


theorem resCs_scp {M : Nat} : ∀ (cs : List CK) (n N : Nat), n + cs.length ≤ N → (resCs n cs).all (CV.scp N M) = true
  | [], _, _, _ => rfl
  | c :: cs, n, N, h => by
    simp only [List.length_cons] at h
    have h1 : Nat.blt n N = true := by unfold Nat.blt; exact Nat.ble_eq_true_of_le (by omega)
    simp only [resCs, List.all_cons, resCs_scp cs (n + 1) N (by omega), Bool.and_true]
    cases c <;> simp only [resC, CV.scp, Ex.scp, h1]
theorem resS_scp {M : Nat} (res : List Sh) (n : Nat) : (resS n res).scp (n + (shCells res).length) M = true := by
  have hT : ∀ (ss : List Sh) (n N : Nat), n + (shCells ss).length ≤ N → (resTs n ss).all (TV.scp N M) = true := by
    intro ss
    induction ss with
    | nil => intro n N _; rfl
    | cons s ss ih =>
      intro n N h
      have e : (shCells (s :: ss)).length = s.cells.length + (shCells ss).length := by simp [shCells]
      rw [e] at h
      simp only [resTs, List.all_cons, ih (n + s.cells.length) N (by omega), Bool.and_true]
      cases s with
      | one c => exact resCs_scp [c] n N (by simp [Sh.cells] at h ⊢; omega)
      | agg cs => exact resCs_scp cs n N (by simp only [Sh.cells] at h; omega)
  have h := hT res n _ (Nat.le_refl _)
  unfold resS
  split
  · rename_i x hx
    rw [hx] at h
    simpa [SV.scp] using h
  · exact h
theorem resS_fix {rs : List Sh} (hl : hasLst (shCells rs) = false) (n : Nat) (ρ : Env) (σ σ' : Nat → Value) (β : Nat → Nat) : (resS n rs).val ρ σ β = (resS n rs).val ρ σ' β := by
  have key : ∀ (cs : List CK) (n : Nat), hasLst cs = false → (resCs n cs).map (CV.val ρ σ β) = (resCs n cs).map (CV.val ρ σ' β) := by
    intro cs
    induction cs with
    | nil => intro n _; rfl
    | cons c cs ih =>
      intro n hc
      simp only [hasLst, List.any_cons, Bool.or_eq_false_iff] at hc
      cases c <;> first | (simp [refK] at hc; done) | (simp only [resCs, List.map_cons, ih (n + 1) hc.2]; rfl)
  have keyTs : ∀ (ss : List Sh) (n : Nat), hasLst (shCells ss) = false → (resTs n ss).map (TV.val ρ σ β) = (resTs n ss).map (TV.val ρ σ' β) := by
    intro ss
    induction ss with
    | nil => intro n _; rfl
    | cons s ss ih =>
      intro n hc
      have : hasLst s.cells = false ∧ hasLst (shCells ss) = false := by
        have h2 : shCells (s :: ss) = s.cells ++ shCells ss := by simp [shCells]
        rw [h2] at hc
        simpa [hasLst] using hc
      have h0 : (resT n s).val ρ σ β = (resT n s).val ρ σ' β := by
        cases s with
        | one c =>
          have := key [c] n this.1
          simpa [resCs, resT, TV.val] using this
        | agg cs => simp only [resT, TV.val, key cs n this.1]
      simp only [resTs, List.map_cons, h0, ih _ this.2]
  rw [resS_pack, packT_val, packT_val, keyTs rs n hl]

theorem c_call (hst : Stable G) (hG : GOk G W) (hΓ : SigOk P G sig Γ) {w : World} (hR : Rel W ρ σ β st a w) {o : Oper} {s : CS} (hs : cStep sig st g o = some s)
    (hpre : (Γ.ctr s.f).pre (s.args.map (Ax.ev ρ))) {next : Act → World → Prop} {Q : Exit → Act → World → Prop}
    (hk : ∀ a' w', Rel W (push (push ρ st.n ((Γ.ctr s.f).fn (s.args.map (Ax.ev ρ)))) (st.n + 1 + (shCells s.rs).length) [(Ax.upd s.l s.e (.v st.n)).ev (push ρ st.n ((Γ.ctr s.f).fn (s.args.map (Ax.ev ρ))))]) σ β (cSt st o.dst s) a' w' → next a' w') :
    isNil g = true ∧ o.wp P a w next Q := by
  obtain ⟨hT, hw⟩ := hR
  unfold cStep at hs
  split at hs
  · rename_i c0 ho
    split at hs
    · rename_i f hf
      split at hs
      · rename_i ps rs hsig
        split at hs
        · rename_i hc
          simp only [Bool.and_eq_true, Bool.not_eq_true'] at hc
          obtain ⟨k, ps', x, xs', cv, e, as, rfl, hxs, hx, hcell, hro, ha, hf2, hrs, hargs, hse⟩ := cArgs_ok hs
          obtain ⟨sf, sargs, srs, sb, su, sl, se⟩ := s
          simp only at hf2 hrs hargs hse hcell hro hpre hk
          subst hf2; subst hrs; subst hargs
          refine ⟨hc.1.1, ?_⟩
          have hg : Gd.holds ρ g := isNil_holds hc.1.1
          have hscp := hc.2
          obtain ⟨e5, e6, hsnd⟩ := hΓ _ _ _ hsig
          obtain ⟨hcall, hC⟩ := hsnd.cell (by rw [e5]; rfl)
          obtain ⟨ks, ho1, ho2, ho3, ho4⟩ := cellOf_spec (σ := σ) (β := β) hcell hT.pc
          obtain ⟨t, hcells⟩ := obj_cells hw ho1
          obtain ⟨g1, g2, g3, g5⟩ := objOf_ok ho1
          have hxv := cell_ok hT hg hx
          unfold argsS at ha
          split at ha
          · rename_i l' hl
            cases ha
            have hE : ∀ j ax, l'.flatten[j]? = some ax → envOf ((Ax.p e cv :: l'.flatten).map (Ax.ev ρ)) (1 + j) = ax.ev ρ ∧ ((Ax.p e cv :: l'.flatten).map (Ax.slv ρ σ β)).getD (1 + j) undef = ax.slv ρ σ β := fun j ax hj => by
              rw [Nat.add_comm 1 j]
              exact ⟨by unfold envOf; rw [List.getD_eq_getElem?_getD, List.getElem?_map, List.getElem?_cons_succ, hj]; rfl, by rw [List.getD_eq_getElem?_getD, List.getElem?_map, List.getElem?_cons_succ, hj]; rfl⟩
            have h9 := args_ok hT hg (E0 := fun _ => True) (ArgW.of hw) (E := envOf ((Ax.p e cv :: l'.flatten).map (Ax.ev ρ))) (S := fun n => ((Ax.p e cv :: l'.flatten).map (Ax.slv ρ σ β)).getD n undef) (n := 1) hl (fun _ _ _ _ _ _ _ => trivial) hE
            have harr : (List.map a.eval c0.args.toList).toArray = c0.args.map a.eval := by rw [← Array.toList_map]
            have hvals : (resTs 0 (.one (.mcell k) :: ps')).map (TV.val (envOf ((Ax.p e cv :: l'.flatten).map (Ax.ev ρ))) (fun n => ((Ax.p e cv :: l'.flatten).map (Ax.slv ρ σ β)).getD n undef) β0) = c0.args.toList.map a.eval := by
              rw [hxs]
              show _ :: _ = _ :: _
              rw [hxv]
              congr 1
              · show asSl (cv.val ρ σ β) = cv.val ρ σ β
                rw [ho4]; rfl
              · exact h9.1
            have h10 := hC ((Ax.p e cv :: l'.flatten).map (Ax.ev ρ)) (fun n => ((Ax.p e cv :: l'.flatten).map (Ax.slv ρ σ β)).getD n undef) w (β sb) (se.int ρ).toNat (flatVals 0 ks (ρ sl).lv) t k (hG w hw.below) hpre
              (by
                rw [e5]
                refine ⟨fun p hp => ?_, fun p hp => ?_, fun p hp => ?_⟩
                · exact h9.2.1 p (by simpa [shCells, Sh.cells, resLists] using hp)
                · exact h9.2.2.1 p (by simpa [shCells, Sh.cells, resObjs] using hp)
                · exact h9.2.2.2 p (by simpa [shCells, Sh.cells, resCells] using hp))
              (by rw [e5]; rfl) ho4 hcells (by
                rw [flatVals_get 0 ks _ _ _ ho2, Nat.zero_add]
                show some (Value.int k ((ρ sl).lv.gi (se.int ρ).toNat 0)) = some (Value.int k (e.int ρ))
                rw [ho3])
            rw [e5, e6, hvals, harr] at h10
            unfold Oper.wp
            rw [run_enter hcall ho hf w, Oper.upon_enter]
            refine h10.mono ?_
            rintro ee w' ⟨⟨hbx, hheap⟩, v, rfl, hv⟩
            obtain ⟨h5, h6, h7, h8⟩ := st_scp hscp
            generalize hout : (Γ.ctr sf).fn (List.map (Ax.ev ρ) (Ax.p e cv :: l'.flatten)) = out at *
            let ρ1 : Env := push ρ st.n out
            let n1 := st.n + 1 + (shCells srs).length
            let ρ2 : Env := push ρ1 n1 [(Ax.upd sl se (.v st.n)).ev ρ1]
            have ha1 : agree st.n ρ ρ1 := agree_push ρ st.n out
            have ha2 : agree n1 ρ1 ρ2 := agree_push ρ1 n1 _
            have ha : agree st.n ρ ρ2 := agree_trans ha1 ha2 (by show st.n ≤ st.n + 1 + _; omega)
            have hlo : sl < st.n := by
              have := h6 _ (List.mem_of_getElem? g1)
              simp only [List.all_cons, List.all_nil, Bool.and_true, CV.scp] at this
              exact blt_lt this
            have hw1 : WOk W ρ2 σ β st.own st.lists w := hw.agree h6 h7 ha (agree_refl _ _) (agree_refl _ _)
            have hT1 : TOk ρ2 σ β st a := hT.agree hscp ha (agree_refl _ _) (agree_refl _ _)
            have e0 : ρ1 st.n = envOf out 0 := by simp [ρ1, push, envOf]
            have el : ρ1 sl = ρ sl := ha1 _ hlo
            have ee1 : se.int ρ1 = se.int ρ := int_agree ha1 hse
            have hnew : ρ2 n1 = .l ((ρ sl).lv.upd (se.int ρ) (envOf out 0).int) := by
              show push ρ1 n1 _ n1 = _
              simp [push, Ax.ev, el, ee1, Ex.int_v, e0]
            refine hk _ w' ⟨?_, ?_⟩
            · have hsh1 : ∀ j, ρ1 (st.n + 1 + j) = envOf (out.drop 1) (0 + j) := fun j => by
                simp only [ρ1, push, envOf]
                rw [if_neg (by omega), Nat.zero_add, List.getD_eq_getElem?_getD, List.getD_eq_getElem?_getD, List.getElem?_drop]
                congr 2
                omega
              have hval : v = (resS (st.n + 1) srs).val ρ2 σ β := by
                have hs1 : (resS (st.n + 1) srs).val ρ2 σ β = (resS (st.n + 1) srs).val ρ1 σ β := sv_agree (n := n1) (m := 0) ha2 (agree_refl _ _) (fun m hm => by omega) (resS_scp srs (st.n + 1))
                rw [hv, hs1, resS_fix hc.1.2 (st.n + 1) ρ1 σ (fun _ => undef) β]
                exact (resS_shift srs (st.n + 1) 0 hsh1 (fun j => rfl)).symm
              have := hT1.put o.dst (g := []) (sv := resS (st.n + 1) srs) (v := v) (.inr (.inl ⟨holds_nil' _, hval⟩))
              exact ⟨this.size, this.slot, this.defers, this.pc⟩
            · show WOk W ρ2 σ β (setAt st.own sb (su, [.lst n1])) (st.put o.dst ([], resS (st.n + 1) srs)).lists w'
              rw [(put_n _ _ _).2.2.1]
              have hobj := (obj_at hw1 g2 g3 g1).1
              obtain ⟨gg, tt, hgg, _⟩ := flat_feet g5 hobj
              obtain ⟨hge, hfz⟩ := flat_one hgg
              refine hw1.omut g2 g3 hro g1 (by rw [hgg, hge]; exact hbx) ?_
              unfold IsObj
              rw [g5, hgg, hge]
              refine ⟨β sb, t, rfl, ?_⟩
              rw [hheap, hnew]
              show _ = some (Obj.cells (flatVals 0 ks ((ρ sl).lv.upd (se.int ρ) (envOf out 0).int)).toArray t (0, 0))
              rw [flatVals_upd ho2]
          · cases ha
        · cases hs
      · cases hs
    · cases hs
  · cases hs
end
end Go.Vg

/- Regions, code, functions: the conditions suffice. -/
namespace Go.Vg
open Go.RowKit
set_option linter.unusedVariables false
set_option linter.unusedSimpArgs false

section
variable {P : Program} {G : World → Prop} {sig : List (Nat × List Sh × List Sh)} {Γ : Cx} {W : Base}

theorem Rel.dead {ρ : Env} {σ : Nat → Value} {β : Nat → Nat} {st : St} {a : Act} {w : World} (hR : Rel W ρ σ β st a w) (dst : Option Tmp) :
    Rel W ρ σ β (st.put dst ([], .any)) (a.put dst undef) w := by
  have hown : (st.put dst ([], SV.any)).own = st.own ∧ (st.put dst ([], SV.any)).lists = st.lists := ⟨(put_n _ _ _).2.1, (put_n _ _ _).2.2.1⟩
  exact ⟨hR.1.put dst (.inl rfl), by rw [hown.1, hown.2]; exact hR.2⟩
theorem Rel.deadG {ρ : Env} {σ : Nat → Value} {β : Nat → Nat} {st : St} {a : Act} {w : World} (hR : Rel W ρ σ β st a w) (dst : Option Tmp) {g : Gd} {sv : SV} (hg : ¬ Gd.holds ρ g) :
    Rel W ρ σ β (st.put dst (g, sv)) (a.put dst undef) w := by
  have hown : (st.put dst (g, sv)).own = st.own ∧ (st.put dst (g, sv)).lists = st.lists := ⟨(put_n _ _ _).2.1, (put_n _ _ _).2.2.1⟩
  exact ⟨hR.1.put dst (.inr (.inr ⟨hg, rfl⟩)), by rw [hown.1, hown.2]; exact hR.2⟩
theorem ops_ok (hst : Stable G) (hG : GOk G W) (hΓ : SigOk P G sig Γ) {ops : Array Oper} {Q : Exit → Act → World → Prop} : ∀ (l : List Oper) (st : St) (its : List It) (st' : St), execOps P sig false ops l st = some (st', its) →
    ∀ (ρ : Env) (σ : Nat → Value) (β : Nat → Nat) (a : Act) (w : World), Rel W ρ σ β st a w → itsHold Γ its ρ → Goes W ρ σ β st.n (itsEnv Γ its ρ) st' (fun a' w' => Q .normal a' w') → wpList P ops Q l a w
  | [], st, its, st', h, ρ, σ, β, a, w, hR, hits, hk => by
    simp only [execOps, Option.some.injEq, Prod.mk.injEq] at h
    obtain ⟨h1, h2⟩ := h
    subst h1; subst h2
    exact hk σ β a w (agree_refl _ _) (Nat.le_refl _) hR
  | o :: l, st, its, st', h, ρ, σ, β, a, w, hR, hits, hk => by
    simp only [execOps] at h
    split at h
    · cases h
    · rename_i g0 hg0
      have hwant := guard_ok hR.1 hg0
      split at h
      · rename_i hd
        have hnw : ¬ Region.wanted o (yielded ops a.tmps) = true := fun hh => dead_ok hd (hwant.1 hh)
        unfold wpList
        rw [if_neg hnw]
        have hp := put_n st o.dst ([], SV.any)
        exact ops_ok hst hG hΓ l _ its st' h ρ σ β _ w (hR.dead o.dst) hits (fun σ' β' a' w' h1 h2 h3 => hk σ' β' a' w' (by rwa [hp.1] at h1) (by rwa [hp.1] at h2) h3)
      · split at h
        · cases h
        · rename_i s hs
          split at h
          · cases h
          · rename_i st1 its1 ha
            split at h
            · cases h
            · rename_i st2 its2 hr
              cases h
              obtain ⟨hi1, hi2⟩ := itsHold_append hits
              rw [itsEnv_append] at hk
              unfold wpList
              by_cases hg : Gd.holds ρ (thinGd g0)
              · rw [if_pos (hwant.2 (thin_ok.1 hg))]
                refine .inl (apply_ok hst hG hΓ hR hg (step_ok hR.1 hg hs) ha hi1 ?_)
                intro σ1 β1 a1 w1 h1 h2 h3
                exact ops_ok hst hG hΓ l st1 its2 st' hr _ σ1 β1 a1 w1 h3 hi2 (fun σ' β' a' w' h4 h5 h6 => hk σ' β' a' w' (agree_trans h1 h4 h2) (Nat.le_trans h2 h5) h6)
              · rw [if_neg (fun hh => hg (thin_ok.2 (hwant.1 hh)))]
                obtain ⟨h1, h2, h3⟩ := apply_not (Γ := Γ) hR (o := o) hg ha
                exact ops_ok hst hG hΓ l st1 its2 st' hr _ σ β _ w h3 hi2 (fun σ' β' a' w' h4 h5 h6 => hk σ' β' a' w' (agree_trans h1 h4 h2) (Nat.le_trans h2 h5) h6)

theorem TOk.more {ρ : Env} {σ : Nat → Value} {β : Nat → Nat} {st : St} {a : Act} (hT : TOk ρ σ β st a) {p : Ex × Bool} (h : p.1.bool ρ = p.2) : TOk ρ σ β { st with pc := p :: st.pc } a :=
  ⟨hT.size, hT.slot, hT.defers, fun q hq => by
    rcases List.mem_cons.1 hq with rfl | hq
    · exact h
    · exact hT.pc q hq⟩
theorem seq_ok (hst : Stable G) (hG : GOk G W) (hΓ : SigOk P G sig Γ) {ops : Array Oper} {Q : Exit → Act → World → Prop} : ∀ (n : Nat) (l : List Oper) (st : St) (K : St → Option Fm) (φ : Fm), execSeq P sig ops n l st K = some φ →
    ∀ (ρ : Env) (σ : Nat → Value) (β : Nat → Nat) (a : Act) (w : World), φ.holds Γ ρ → Rel W ρ σ β st a w →
    (∀ st' φ' ρ' σ' β' a' w', K st' = some φ' → φ'.holds Γ ρ' → agree st.n ρ ρ' → st.n ≤ st'.n → Rel W ρ' σ' β' st' a' w' → Q .normal a' w') → wpList P ops Q l a w := by
  intro n
  induction n with
  | zero =>
    intro l st K φ h ρ σ β a w hφ hR hk
    cases l with
    | nil =>
      simp only [execSeq] at h
      exact hk st φ ρ σ β a w h hφ (agree_refl _ _) (Nat.le_refl _) hR
    | cons o l => simp [execSeq] at h
  | succ n ih =>
    intro l st K φ h ρ σ β a w hφ hR hk
    cases l with
    | nil =>
      simp only [execSeq] at h
      exact hk st φ ρ σ β a w h hφ (agree_refl _ _) (Nat.le_refl _) hR
    | cons o l =>
      simp only [execSeq] at h
      split at h
      · cases h
      · rename_i g0 hg0
        have hwant := guard_ok hR.1 hg0
        split at h
        · rename_i hd
          have hnw : ¬ Region.wanted o (yielded ops a.tmps) = true := fun hh => deadP_ok hR.1.pc hd (hwant.1 hh)
          unfold wpList
          rw [if_neg hnw]
          have hp := put_n st o.dst (g0, SV.tv (.one (.bool (.t false))))
          exact ih l _ K φ h ρ σ β _ w hφ (hR.deadG o.dst (deadP_ok hR.1.pc hd)) (fun st' φ' ρ' σ' β' a' w' h1 h2 h3 h4 h5 => hk st' φ' ρ' σ' β' a' w' h1 h2 (by rwa [hp.1] at h3) (by rwa [hp.1] at h4) h5)
        · split at h
          · rename_i s hs
            obtain ⟨_, _, _, _, _, _, hnil, _, _, _, _⟩ := oStep_ok hs
            have hg : Gd.holds ρ (thinP st g0) := isNil_holds hnil
            unfold wpList
            rw [if_pos (hwant.2 ((thinP_ok hR.1.pc).1 hg))]
            have hle : st.n ≤ oN st s := by unfold oN; split <;> omega
            have hput : ∀ b, (oSt st o.dst s b).n = oN st s + (shCells s.rs).length := fun _ => rfl
            split at h
            · rename_i c hno
              split at h
              · rename_i φ1 φ2 e1 e2
                cases h
                obtain ⟨hp, h3, h4⟩ := hφ
                refine .inl (o_call hst hG hΓ hR hs (hp (holds_nil' ρ)) ?_)
                intro isnil σ' β' a' w' hc hR'
                unfold OCond at hc
                rw [hno] at hc
                have hag := agree_push ρ st.n ((Γ.ctr s.f).fn (s.args.map (Ax.ev ρ)))
                cases isnil with
                | true =>
                  have hb : (Ex.eq (.len (oN st s)) (.i 0)).bool (push ρ st.n ((Γ.ctr s.f).fn (s.args.map (Ax.ev ρ)))) = true := by
                    rw [Ex.bool_eq, Ex.int_len, Ex.int_i, (hc.1 rfl).2]; rfl
                  exact ih l _ K φ1 e1 _ σ' β' a' w' (h3 hb) ⟨hR'.1.more hb, hR'.2⟩ (fun st' φ' ρ' σ' β' a' w' h5 h6 h7 h8 h9 => hk st' φ' ρ' σ' β' a' w' h5 h6 (agree_trans hag h7 (by show st.n ≤ (oSt st o.dst s true).n; rw [hput]; omega)) (Nat.le_trans (by show st.n ≤ (oSt st o.dst s true).n; rw [hput]; omega) h8) h9)
                | false =>
                  have hb : (Ex.eq (.len (oN st s)) (.i 0)).bool (push ρ st.n ((Γ.ctr s.f).fn (s.args.map (Ax.ev ρ)))) = false := by
                    rw [Ex.bool_eq, Ex.int_len, Ex.int_i]
                    have := hc.2 rfl rfl
                    simp only [beq_eq_false_iff_ne, ne_eq]
                    omega
                  exact ih l _ K φ2 e2 _ σ' β' a' w' (h4 hb) ⟨hR'.1.more hb, hR'.2⟩ (fun st' φ' ρ' σ' β' a' w' h5 h6 h7 h8 h9 => hk st' φ' ρ' σ' β' a' w' h5 h6 (agree_trans hag h7 (by show st.n ≤ (oSt st o.dst s false).n; rw [hput]; omega)) (Nat.le_trans (by show st.n ≤ (oSt st o.dst s false).n; rw [hput]; omega) h8) h9)
              · cases h
            · rename_i hno
              split at h
              · rename_i φ1 e1
                cases h
                obtain ⟨hp, h3⟩ := hφ
                refine .inl (o_call hst hG hΓ hR hs (hp (holds_nil' ρ)) ?_)
                intro isnil σ' β' a' w' hc hR'
                have hag := agree_push ρ st.n ((Γ.ctr s.f).fn (s.args.map (Ax.ev ρ)))
                have hf : isnil = false := by
                  unfold OCond at hc
                  split at hc
                  · rename_i c nb hn
                    cases isnil with
                    | false => rfl
                    | true =>
                      have := (hc.1 rfl).1
                      subst this
                      exact absurd hn (hno c)
                  · exact hc
                subst hf
                exact ih l _ K φ1 e1 _ σ' β' a' w' h3 hR' (fun st' φ' ρ' σ' β' a' w' h5 h6 h7 h8 h9 => hk st' φ' ρ' σ' β' a' w' h5 h6 (agree_trans hag h7 (by rw [hput]; omega)) (Nat.le_trans (by rw [hput]; omega) h8) h9)
              · cases h
          · split at h
            · rename_i s hs
              split at h
              · rename_i φ1 e1
                cases h
                obtain ⟨hp, h3⟩ := hφ
                have hcc := fun next hk => c_call (Q := Q) (next := next) hst hG hΓ hR hs (hp (holds_nil' ρ)) hk
                have hnil : isNil (thinP st g0) = true := (hcc (fun _ _ => True) (fun _ _ _ => trivial)).1
                have hg : Gd.holds ρ (thinP st g0) := isNil_holds hnil
                unfold wpList
                rw [if_pos (hwant.2 ((thinP_ok hR.1.pc).1 hg))]
                refine .inl (hcc _ ?_).2
                intro a' w' hR'
                have hag1 := agree_push ρ st.n ((Γ.ctr s.f).fn (s.args.map (Ax.ev ρ)))
                have hag : agree st.n ρ _ := agree_trans hag1 (agree_push (push ρ st.n ((Γ.ctr s.f).fn (s.args.map (Ax.ev ρ)))) (st.n + 1 + (shCells s.rs).length) [(Ax.upd s.l s.e (.v st.n)).ev (push ρ st.n ((Γ.ctr s.f).fn (s.args.map (Ax.ev ρ))))]) (by omega)
                have hle : st.n ≤ (cSt st o.dst s).n := by show st.n ≤ st.n + 1 + (shCells s.rs).length + 1; omega
                exact ih l _ K φ1 e1 _ σ β _ w' h3 hR' (fun st' φ' ρ' σ' β' a' w' h5 h6 h7 h8 h9 => hk st' φ' ρ' σ' β' a' w' h5 h6 (agree_trans hag h7 hle) (Nat.le_trans hle h8) h9)
              · cases h
            · split at h
              · rename_i b u ax obs hs
                split at h
                · rename_i φ1 e1
                  cases h
                  have hnil : isNil (thinP st g0) = true := (uStep_nil hs).1
                  have hg : Gd.holds ρ (thinP st g0) := isNil_holds hnil
                  unfold wpList
                  rw [if_pos (hwant.2 ((thinP_ok hR.1.pc).1 hg))]
                  obtain ⟨hi1, hi2⟩ := wrap_holds hφ
                  have hob := needAll_ok hR.1.pc hg (its_ob hi1 hg)
                  rw [env_ob] at hi2
                  refine .inl (u_store hR hs hob ?_)
                  intro a' w' hR'
                  have hag := agree_push ρ st.n [ax.ev ρ]
                  exact ih l _ K φ1 e1 _ σ β a' w' hi2 hR' (fun st' φ' ρ' σ' β' a' w' h5 h6 h7 h8 h9 => hk st' φ' ρ' σ' β' a' w' h5 h6 (agree_trans hag h7 (show st.n ≤ st.n + 1 by omega)) (Nat.le_trans (show st.n ≤ st.n + 1 by omega) h8) h9)
                · cases h
              · split at h
                · rename_i st1 its1 hsa
                  split at h
                  · rename_i ψ hψ
                    cases h
                    obtain ⟨hi1, hi2⟩ := wrap_holds hφ
                    unfold stepApply at hsa
                    split at hsa
                    · cases hsa
                    · rename_i s hs
                      unfold wpList
                      by_cases hg : Gd.holds ρ (thinP st g0)
                      · rw [if_pos (hwant.2 ((thinP_ok hR.1.pc).1 hg))]
                        refine .inl (apply_ok hst hG hΓ hR hg (step_ok hR.1 hg hs) hsa hi1 ?_)
                        intro σ1 β1 a1 w1 h1 h2 h3
                        exact ih l st1 K ψ hψ _ σ1 β1 a1 w1 hi2 h3 (fun st' φ' ρ' σ' β' a' w' h4 h5 h6 h7 h8 => hk st' φ' ρ' σ' β' a' w' h4 h5 (agree_trans h1 h6 h2) (Nat.le_trans h2 h7) h8)
                      · rw [if_neg (fun hh => hg ((thinP_ok hR.1.pc).2 (hwant.1 hh)))]
                        obtain ⟨h1, h2, h3⟩ := apply_not (Γ := Γ) hR (o := o) hg hsa
                        exact ih l st1 K ψ hψ _ σ β _ w hi2 h3 (fun st' φ' ρ' σ' β' a' w' h4 h5 h6 h7 h8 => hk st' φ' ρ' σ' β' a' w' h4 h5 (agree_trans h1 h6 h2) (Nat.le_trans h2 h7) h8)
                  · cases h
                · split at h
                  · rename_i hgp
                    split at h
                    · rename_i d1 d2 b u ax obs hes
                      split at h
                      · rename_i φ1 e1
                        cases h
                        have hg : Gd.holds ρ (thinP st g0) := by rw [hgp]; exact holds_nil' ρ
                        obtain ⟨hi1, hi2⟩ := wrap_holds hφ
                        have hob := needAll_ok hR.1.pc hg (its_ob hi1 hg)
                        rw [env_ob] at hi2
                        refine e_store hR hes hob (hwant.2 ((thinP_ok hR.1.pc).1 hg)) ?_
                        intro a' w' hR'
                        have hag := agree_push ρ st.n [ax.ev ρ]
                        have hn2 : (uSt ((st.put (some d1) ([], SV.any)).put (some d2) ([], SV.any)) ((l[1]?).bind (·.dst)) b u).n = st.n + 1 := by
                          show ((st.put (some d1) ([], SV.any)).put (some d2) ([], SV.any)).n + 1 = _
                          rw [(put_n _ _ _).1, (put_n _ _ _).1]
                        exact ih (l.drop 2) _ K φ1 e1 _ σ β a' w' hi2 hR' (fun st' φ' ρ' σ' β' a' w' h5 h6 h7 h8 h9 => hk st' φ' ρ' σ' β' a' w' h5 h6 (agree_trans hag (by rw [hn2] at h7; exact h7) (by omega)) (by rw [hn2] at h8; omega) h9)
                      · cases h
                    · cases h
                  · rename_i p g1 hgp
                    split at h
                    · rename_i φ1 φ2 e1 e2
                      cases h
                      obtain ⟨h3, h4⟩ := hφ
                      by_cases hb : p.1.bool ρ = p.2
                      · have h5 := (strip_bool ρ p.1 p.2).2 hb
                        exact ih (o :: l) _ K φ1 e1 ρ σ β a w (h3 h5) ⟨hR.1.more h5, hR.2⟩ hk
                      · have h5 := (strip_bool ρ p.1 (!p.2)).2 (by cases h6 : p.2 <;> cases h7 : p.1.bool ρ <;> simp_all)
                        exact ih (o :: l) _ K φ2 e2 ρ σ β a w (h4 h5) ⟨hR.1.more h5, hR.2⟩ hk
                    · cases h

/-- An operation of a region that draws its order. -/
theorem draw_ok (hst : Stable G) (hG : GOk G W) (hΓ : SigOk P G sig Γ) {C : World → Prop} (hCb : ∀ w w', C w → Below w.heap.size w w' → C w') {ρ : Env} {σ : Nat → Value} {β : Nat → Nat} {st : St} {a : Act}
    (hT : TOk ρ σ β st a) (hC : ∀ w, C w → WOk W ρ σ β st.own st.lists w) (hne : ∃ w, C w) {g : Gd} (hg : Gd.holds ρ g) {o : Oper} {s : Step} (hs : StepOk P sig W ρ σ β st g a o s)
    {st' : St} {its : List It} (h : applyStep true st g o.dst s = some (st', its)) (hits : itsHold Γ its ρ) :
    ∃ v σ', (∀ w, C w → o.quietAt P a C w v) ∧ agree st.n ρ (itsEnv Γ its ρ) ∧ st.n ≤ st'.n ∧ TOk (itsEnv Γ its ρ) σ' β st' (a.put o.dst v) ∧
      ∀ w, C w → WOk W (itsEnv Γ its ρ) σ' β st'.own st'.lists w := by
  cases s with
  | pure v obs =>
    simp only [applyStep, Option.some.injEq, Prod.mk.injEq] at h
    obtain ⟨h1, h2⟩ := h
    subst h2
    have hl := its_ob hits hg
    have hob := needAll_ok hT.pc hg hl
    obtain ⟨val, h3, h4⟩ := hs hob
    have hp := put_n st o.dst (g, v)
    have hT' : TOk ρ σ β (st.put o.dst (g, v)) (a.put o.dst val) := hT.put o.dst (by
      rcases h3 with h3 | h3
      · exact .inl h3
      · exact .inr (.inl ⟨hg, h3⟩))
    rw [env_ob]
    refine ⟨val, σ, fun w hw => ?_, agree_refl _ _, ?_, ?_, fun w hw => ?_⟩
    · unfold Oper.quietAt
      rw [h4 w (hC w hw)]
      exact ⟨rfl, rfl⟩
    · subst h1; split <;> simp [hp.1]
    · subst h1
      split
      · exact TOk.pcAdd hT' hl
      · exact hT'
    · subst h1
      split
      · show WOk W ρ σ β (st.put o.dst (g, v)).own (st.put o.dst (g, v)).lists w
        rw [hp.2.1, hp.2.2.1]; exact hC w hw
      · rw [hp.2.1, hp.2.2.1]; exact hC w hw
  | app old t k e => simp [applyStep] at h
  | call f args res =>
    simp only [applyStep] at h
    split at h
    · cases h
    · split at h
      · cases h
      rename_i hc
      simp only [Option.some.injEq, Prod.mk.injEq] at h
      obtain ⟨h1, h2⟩ := h
      subst h1; subst h2
      have hc' : hasLst (shCells res) = false ∧ st.scp st.n = true ∧ Gd.scp st.n g = true := by
        revert hc
        cases hasLst (shCells res) <;> cases st.scp st.n <;> cases Gd.scp st.n g <;> simp
      obtain ⟨hlst, hscp, hgscp⟩ := hc'
      obtain ⟨h5, h6, h7, h8⟩ := st_scp hscp
      let rs := (Γ.ctr f).fn (args.map (Ax.ev ρ))
      let ρ1 : Env := push ρ st.n rs
      let σ1 : Nat → Value := fun m => if m < st.n then σ m else undef
      have ha : agree st.n ρ ρ1 := agree_push ρ st.n rs
      have has : agree st.n σ σ1 := fun m hm => by simp [σ1, hm]
      have hsh1 : ∀ j, ρ1 (st.n + j) = envOf rs (0 + j) := fun j => by simp [ρ1, push, envOf, show ¬ st.n + j < st.n by omega]
      have hsh2 : ∀ j, σ1 (st.n + j) = (fun _ => undef : Nat → Value) (0 + j) := fun j => by simp [σ1, show ¬ st.n + j < st.n by omega]
      have hv' : (resS 0 res).val (envOf rs) (fun _ => undef) β0 = (resS st.n res).val ρ1 σ1 β := (resS_shift res st.n 0 hsh1 hsh2).symm
      have hp := put_n st o.dst (g, resS st.n res)
      refine ⟨(resS 0 res).val (envOf rs) (fun _ => undef) β0, σ1, fun w hw => ?_, ha, by simp, ?_, fun w hw => ?_⟩
      · obtain ⟨vs, h3, h4⟩ := call_ok hst hG hΓ hT hg hs (hits.1 hg) (hC w hw)
        unfold Oper.quietAt
        rw [h3 w]
        refine ⟨rfl, h4.mono ?_⟩
        rintro e w' ⟨hb, v, rfl, hr⟩
        exact ⟨by rw [resOk_fixed hr hlst], hCb w w' hw hb⟩
      · have hT1 : TOk ρ1 σ1 β st a := hT.agree hscp ha has (agree_refl _ _)
        have := hT1.put o.dst (g := g) (sv := resS st.n res) (v := (resS 0 res).val (envOf rs) (fun _ => undef) β0) (.inr (.inl ⟨(gd_agree ha hgscp).2 hg, hv'⟩))
        exact ⟨this.size, this.slot, this.defers, this.pc⟩
      · show WOk W ρ1 σ1 β (st.put o.dst (g, resS st.n res)).own (resLists st.n (shCells res) ++ (st.put o.dst (g, resS st.n res)).lists) w
        rw [hp.2.1, hp.2.2.1, hasLst_lists hlst, List.nil_append]
        exact (hC w hw).agree h6 h7 ha has (agree_refl _ _)
  | alloc t cs v => simp [applyStep] at h
  | store b off cs => simp [applyStep] at h

theorem ops_draw (hst : Stable G) (hG : GOk G W) (hΓ : SigOk P G sig Γ) {C : World → Prop} (hCb : ∀ w w', C w → Below w.heap.size w w' → C w') (hne : ∃ w, C w) {ops : Array Oper} {Q : Act → Prop} :
    ∀ (l : List Oper) (st : St) (its : List It) (st' : St), execOps P sig true ops l st = some (st', its) →
    ∀ (ρ : Env) (σ : Nat → Value) (β : Nat → Nat) (a : Act), TOk ρ σ β st a → (∀ w, C w → WOk W ρ σ β st.own st.lists w) → itsHold Γ its ρ →
    (∀ σ' a', agree st.n ρ (itsEnv Γ its ρ) → st.n ≤ st'.n → TOk (itsEnv Γ its ρ) σ' β st' a' → (∀ w, C w → WOk W (itsEnv Γ its ρ) σ' β st'.own st'.lists w) → Q a') →
    wpQuiet P ops C Q l a
  | [], st, its, st', h, ρ, σ, β, a, hT, hC, hits, hk => by
    simp only [execOps, Option.some.injEq, Prod.mk.injEq] at h
    obtain ⟨h1, h2⟩ := h
    subst h1; subst h2
    exact hk σ a (agree_refl _ _) (Nat.le_refl _) hT hC
  | o :: l, st, its, st', h, ρ, σ, β, a, hT, hC, hits, hk => by
    simp only [execOps] at h
    split at h
    · cases h
    · rename_i g0 hg0
      have hwant := guard_ok hT hg0
      split at h
      · rename_i hd
        have hnw : ¬ Region.wanted o (yielded ops a.tmps) = true := fun hh => dead_ok hd (hwant.1 hh)
        unfold wpQuiet
        rw [if_neg hnw]
        have hp := put_n st o.dst ([], SV.any)
        refine ops_draw hst hG hΓ hCb hne l _ its st' h ρ σ β _ (hT.put o.dst (.inl rfl)) (fun w hw => ?_) hits (fun σ' a' h1 h2 h3 h4 => hk σ' a' (by rwa [hp.1] at h1) (by rwa [hp.1] at h2) h3 h4)
        rw [hp.2.1, hp.2.2.1]; exact hC w hw
      · split at h
        · cases h
        · rename_i s hs
          split at h
          · cases h
          · rename_i st1 its1 ha
            split at h
            · cases h
            · rename_i st2 its2 hr
              cases h
              obtain ⟨hi1, hi2⟩ := itsHold_append hits
              rw [itsEnv_append] at hk
              unfold wpQuiet
              by_cases hg : Gd.holds ρ (thinGd g0)
              · rw [if_pos (hwant.2 (thin_ok.1 hg))]
                obtain ⟨v, σ1, h0, h1, h2, h3, h4⟩ := draw_ok hst hG hΓ hCb hT hC hne hg (step_ok hT hg hs) ha hi1
                refine ⟨v, h0, ?_⟩
                exact ops_draw hst hG hΓ hCb hne l st1 its2 st' hr _ σ1 β _ h3 h4 hi2 (fun σ' a' h5 h6 h7 h8 => hk σ' a' (agree_trans h1 h5 h2) (Nat.le_trans h2 h6) h7 h8)
              · rw [if_neg (fun hh => hg (thin_ok.2 (hwant.1 hh)))]
                obtain ⟨w0, hw0⟩ := hne
                have h9 : ∃ σ1, agree st.n ρ (itsEnv Γ its1 ρ) ∧ st.n ≤ st1.n ∧ TOk (itsEnv Γ its1 ρ) σ1 β st1 (a.put o.dst undef) ∧ ∀ w, C w → WOk W (itsEnv Γ its1 ρ) σ1 β st1.own st1.lists w := by
                  obtain ⟨h1, h2, h3⟩ := apply_not (Γ := Γ) ⟨hT, hC w0 hw0⟩ (o := o) hg ha
                  exact ⟨σ, h1, h2, h3.1, fun w hw => (apply_not (Γ := Γ) ⟨hT, hC w hw⟩ (o := o) hg ha).2.2.2⟩
                obtain ⟨σ1, h1, h2, h3, h4⟩ := h9
                exact ops_draw hst hG hΓ hCb ⟨w0, hw0⟩ l st1 its2 st' hr _ σ1 β _ h3 h4 hi2 (fun σ' a' h5 h6 h7 h8 => hk σ' a' (agree_trans h1 h5 h2) (Nat.le_trans h2 h6) h7 h8)

end
end Go.Vg

/- Regions that draw their order and end in stores: one walk of the lexical order serves every order. -/
namespace Go.Vg
open Go.RowKit
set_option linter.unusedVariables false
set_option linter.unusedSimpArgs false

theorem edgeOn_spec {o : Oper} {j : Nat} (h : edgeOn o j = true) : ∃ e, e ∈ o.after ∧ Region.binds .any e = true ∧ e.on = j := by
  unfold edgeOn at h
  rw [List.any_eq_true] at h
  obtain ⟨e, he, h⟩ := h
  rw [Bool.and_eq_true] at h
  exact ⟨e, by simpa using he, h.1, Nat.eq_of_beq_eq_true h.2⟩
theorem edgesBelow_spec {o : Oper} {k : Nat} (h : edgesBelow o k = true) : ∀ e ∈ o.after, Region.binds .any e = true → e.on < k := by
  intro e he hb
  unfold edgesBelow at h
  have := List.all_eq_true.1 h e (by simpa using he)
  rw [hb] at this
  exact blt_lt (by simpa using this)
theorem dsts_mem : ∀ (l : List Oper) (k i d : Nat) (o : Oper), l[i]? = some o → o.dst = some d → (d, k + i) ∈ dsts l k
  | [], _, _, _, _, h, _ => by simp at h
  | x :: l, k, 0, d, o, h, hd => by
    simp only [List.getElem?_cons_zero, Option.some.injEq] at h
    subst h
    simp [dsts, hd]
  | x :: l, k, i + 1, d, o, h, hd => by
    have := dsts_mem l (k + 1) i d o (by simpa using h) hd
    rw [show k + 1 + i = k + (i + 1) by omega] at this
    unfold dsts
    split
    · exact List.mem_cons_of_mem _ this
    · exact this
theorem findD_mem : ∀ {l : List (Nat × Nat)} {d k : Nat}, distinctN l = true → (d, k) ∈ l → findD l d = some k
  | [], _, _, _, h => by simp at h
  | x :: l, d, k, hd, h => by
    simp only [distinctN, Bool.and_eq_true, Bool.not_eq_true', List.any_eq_false] at hd
    unfold findD
    rcases List.mem_cons.1 h with h | h
    · rw [← h]; simp
    · have h1 := hd.1 _ h
      have h2 : Nat.beq x.1 d = false := by
        cases h3 : Nat.beq x.1 d
        · rfl
        · exfalso
          apply h1
          have := Nat.eq_of_beq_eq_true h3
          show Nat.beq d x.1 = true
          rw [this]
          exact Nat.beq_refl _
      rw [h2]
      exact findD_mem hd.2 h
theorem lexAll_spec {ops : List Oper} {ds : List (Nat × Nat)} {m : Nat} : ∀ {l : List Oper} {k : Nat}, lexAll ops ds m k l = true → ∀ i o, l[i]? = some o → lexOp ops ds m (k + i) o = true
  | [], _, _, _, _, h => by simp at h
  | x :: l, k, h, 0, o, hi => by
    simp only [lexAll, Bool.and_eq_true] at h
    simp only [List.getElem?_cons_zero, Option.some.injEq] at hi
    subst hi
    exact h.1
  | x :: l, k, h, i + 1, o, hi => by
    simp only [lexAll, Bool.and_eq_true] at h
    have := lexAll_spec h.2 i o (by simpa using hi)
    rwa [show k + 1 + i = k + (i + 1) by omega] at this
theorem looksAt_looks {ops : Array Oper} {o : Oper} {t : Nat} (h : t ∈ o.looksAt ops) : t ∈ looks ops.toList o := by
  unfold Oper.looksAt at h
  unfold looks
  rw [List.mem_append] at h ⊢
  rcases h with h | h
  · exact .inl h
  · refine .inr ?_
    split at h
    · rename_i g b hg
      rw [hg]
      simp only [Array.getElem?_toList]
      generalize (ops[g]?.bind fun x => x.dst) = z at *
      cases z <;> simp at h ⊢
      exact h
    · simp at h

section
variable {P : Program} {ops : Array Oper} {C : World → Prop} {m : Nat}

theorem lexFast_spec (h : lexFast ops m = true) : Region.noSelect ops = true ∧ distinctN (dsts ops.toList 0) = true ∧ ∀ k o, ops[k]? = some o → lexOp ops.toList (dsts ops.toList 0) m k o = true := by
  simp only [lexFast, Bool.and_eq_true] at h
  refine ⟨h.1.1, h.1.2, fun k o ho => ?_⟩
  have := lexAll_spec h.2 k o (by simpa using ho)
  rwa [Nat.zero_add] at this
theorem lex_below (h : lexFast ops m = true) {k : Nat} {o : Oper} (ho : ops[k]? = some o) : ∀ e ∈ o.after, Region.binds .any e = true → e.on < k := by
  have := (lexFast_spec h).2.2 k o ho
  simp only [lexOp, Bool.and_eq_true] at this
  exact edgesBelow_spec this.1.1
theorem lex_looks (h : lexFast ops m = true) {k j : Nat} {o oj : Oper} (ho : ops[k]? = some o) (hj : ops[j]? = some oj) {t : Nat} (ht : t ∈ o.looksAt ops) (hd : oj.dst = some t) : (∃ e, e ∈ o.after ∧ Region.binds .any e = true ∧ e.on = j) ∨ (k < j ∧ ∃ e, e ∈ oj.after ∧ Region.binds .any e = true ∧ e.on = k) := by
  have hs := lexFast_spec h
  have := hs.2.2 k o ho
  simp only [lexOp, Bool.and_eq_true] at this
  have h1 := List.all_eq_true.1 this.1.2 t (looksAt_looks ht)
  have h2 := findD_mem hs.2.1 (dsts_mem ops.toList 0 j t oj (by simpa using hj) hd)
  rw [h2] at h1
  rw [Nat.zero_add] at h1
  dsimp only at h1
  rw [Bool.or_eq_true] at h1
  rcases h1 with h1 | h1
  · exact .inl (edgeOn_spec h1)
  · rw [Bool.and_eq_true] at h1
    have h3 : ops.toList[j]? = some oj := by simpa using hj
    rw [h3] at h1
    exact .inr ⟨blt_lt h1.1, edgeOn_spec h1.2⟩
theorem lex_dst (h : lexFast ops m = true) {k j : Nat} {o oj : Oper} (ho : ops[k]? = some o) (hj : ops[j]? = some oj) {t : Nat} (h1 : o.dst = some t) (h2 : oj.dst = some t) : k = j := by
  have hs := lexFast_spec h
  have h3 := findD_mem hs.2.1 (dsts_mem ops.toList 0 k t o (by simpa using ho) h1)
  have h4 := findD_mem hs.2.1 (dsts_mem ops.toList 0 j t oj (by simpa using hj) h2)
  rw [h3] at h4
  simpa using h4
theorem lex_tail (h : lexFast ops m = true) {k : Nat} {o : Oper} (ho : ops[k]? = some o) (hk : m ≤ k) : (∀ p, p < m → ∃ e, e ∈ o.after ∧ Region.binds .any e = true ∧ (e.on = p ∨ reachF ops.toList m e.on p = true)) ∧ (m < k → ∃ e, e ∈ o.after ∧ Region.binds .any e = true ∧ e.on = k - 1) := by
  have := (lexFast_spec h).2.2 k o ho
  simp only [lexOp, Bool.and_eq_true] at this
  have h1 := this.2
  rw [if_pos (Nat.ble_eq_true_of_le hk)] at h1
  simp only [Bool.and_eq_true] at h1
  refine ⟨fun p hp => ?_, fun hlt => ?_⟩
  · have h3 := List.all_eq_true.1 h1.1 p (List.mem_range.2 hp)
    unfold edgeUp at h3
    rw [Bool.or_eq_true] at h3
    rcases h3 with h3 | h3
    · obtain ⟨e, he, hb, h4⟩ := edgeOn_spec h3
      exact ⟨e, he, hb, .inl h4⟩
    · rw [List.any_eq_true] at h3
      obtain ⟨e, he, h4⟩ := h3
      rw [Bool.and_eq_true] at h4
      exact ⟨e, by simpa using he, h4.1, .inr h4.2⟩
  have h2 := h1.2
  rw [Bool.or_eq_true] at h2
  rcases h2 with h2 | h2
  · have := Nat.eq_of_beq_eq_true h2; omega
  · exact edgeOn_spec h2

/-- What has come up has come up behind all that it waits for. -/
def Closed (ops : Array Oper) (listed : Array Bool) : Prop := ∀ j oj, ops[j]? = some oj → listed.getD j false = true → ∀ e ∈ oj.after, Region.binds .any e = true → listed.getD e.on false = true
theorem Closed.reach {listed : Array Bool} (hc : Closed ops listed) : ∀ (n k p : Nat), reachF ops.toList n k p = true → listed.getD k false = true → listed.getD p false = true
  | 0, _, _, h, _ => by cases h
  | n + 1, k, p, h, hk => by
    unfold reachF at h
    split at h
    · rename_i o ho
      rw [List.any_eq_true] at h
      obtain ⟨e, he, h1⟩ := h
      simp only [Bool.and_eq_true, Bool.or_eq_true] at h1
      have h2 := hc k o (by simpa using ho) hk e (by simpa using he) h1.1
      rcases h1.2 with h3 | h3
      · rw [← Nat.eq_of_beq_eq_true h3]; exact h2
      · exact hc.reach n e.on p h3 h2
    · cases h
theorem Closed.step {listed : Array Bool} (hc : Closed ops listed) {i : Nat} {oi : Oper} (hi : ops[i]? = some oi) (hall : ∀ e ∈ oi.after, Region.binds .any e = true → listed.getD e.on false = true) : Closed ops (listed.setIfInBounds i true) := by
  have mono : ∀ p, listed.getD p false = true → (listed.setIfInBounds i true).getD p false = true := fun p hp => by
    by_cases h : i = p
    · subst h
      rcases Nat.lt_or_ge i listed.size with h' | h'
      · simp [h']
      · simp [h'] at hp
    · rw [getD_set_ne false h]; exact hp
  intro j oj hj hl e he hb
  by_cases hij : i = j
  · subst hij
    rw [hi] at hj
    cases hj
    exact mono _ (hall e he hb)
  · rw [getD_set_ne false hij] at hl
    exact mono _ (hc j oj hj hl e he hb)

/-- How many of the first m have not come up. -/
def unl (m : Nat) (listed : Array Bool) : Nat := (List.range m).countP fun i => !listed.getD i true

theorem countP_one {p q : Nat → Bool} {i : Nat} : ∀ {l : List Nat}, l.Nodup → i ∈ l → p i = true → q i = false → (∀ j, j ≠ i → q j = p j) → l.countP q + 1 = l.countP p
  | [], _, h, _, _, _ => by simp at h
  | x :: l, hn, h, hp, hq, hr => by
    rw [List.nodup_cons] at hn
    rcases List.mem_cons.1 h with h | h
    · subst h
      have : l.countP q = l.countP p := by
        apply List.countP_congr
        intro j hj
        rw [hr j (fun e => hn.1 (e ▸ hj))]
      rw [List.countP_cons_of_neg (by simp [hq]), List.countP_cons_of_pos hp, this]
    · have hx : x ≠ i := fun e => hn.1 (e ▸ h)
      have := countP_one hn.2 h hp hq hr
      rw [List.countP_cons, List.countP_cons, hr x hx]
      omega
theorem unl_set {listed : Array Bool} {i : Nat} (hi : i < m) (h : listed.getD i true = false) : unl m (listed.setIfInBounds i true) + 1 = unl m listed := by
  refine countP_one List.nodup_range (List.mem_range.2 hi) (by rw [h]; rfl) ?_ (fun j hj => ?_)
  · have hlt : i < listed.size := by
      rcases Nat.lt_or_ge i listed.size with h' | h'
      · exact h'
      · simp [Array.getElem?_eq_none h'] at h
    simp [Array.getElem?_setIfInBounds_self_of_lt hlt]
  · rw [getD_set_ne true (Ne.symm hj)]
theorem unl_pos {listed : Array Bool} {i : Nat} (hi : i < m) (h : listed.getD i true = false) : 0 < unl m listed := by
  unfold unl
  rw [List.countP_pos_iff]
  exact ⟨i, List.mem_range.2 hi, by rw [h]; rfl⟩

/-- Whatever order is picked among the first m. -/
def wpAnyM (P : Program) (ops : Array Oper) (C : World → Prop) (m : Nat) (T : Act → Prop) : Nat → Array Bool → Act → Prop
  | 0, _, a => T a
  | fuel + 1, listed, a => Region.ready .any ops listed ≠ [] ∧ ∀ i ∈ Region.ready .any ops listed, i < m → qOp P ops C i (wpAnyM P ops C m T fuel (listed.setIfInBounds i true)) a

theorem wpAnyM_first {T : Act → Prop} {i : Nat} {oi : Oper} {v : Value} (him : i < m) (hi : ops[i]? = some oi) (hsel : ∀ (j : Nat) (o : Oper) cs b, ops[j]? = some o → o.op ≠ .select cs b) :
    ∀ (fuel : Nat) (listed : Array Bool) (a : Act), unl m listed = fuel + 1 →
      (∀ j oj, ops[j]? = some oj → j ≠ i → listed.getD j true = false → (∀ e ∈ oj.after, Region.binds .any e = true → e.on ≠ i) → oi.apart ops oj = true) →
      i ∈ Region.ready .any ops listed → YieldsIn P ops C oi v a →
      wpAnyM P ops C m T fuel (listed.setIfInBounds i true) (a.put oi.dst v) → wpAnyM P ops C m T (fuel + 1) listed a := by
  intro fuel
  induction fuel with
  | zero =>
    intro listed a hu _ hr hy H
    refine ⟨fun h => (by rw [h] at hr; cases hr), fun j hj hjm => ?_⟩
    by_cases hji : j = i
    · subst hji; exact hy.qOp hi H
    · exfalso
      have h1 := unl_set him (mem_ready.1 hr).1
      have h2 := unl_pos (listed := listed.setIfInBounds i true) hjm (by rw [getD_set_ne true (Ne.symm hji)]; exact (mem_ready.1 hj).1)
      omega
  | succ fuel ih =>
    intro listed a hu hfree hr hy H
    refine ⟨fun h => (by rw [h] at hr; cases hr), fun j hj hjm => ?_⟩
    by_cases hji : j = i
    · subst hji; exact hy.qOp hi H
    · have h1 := H.2 j (ready_mono hj hji) hjm
      obtain ⟨hjun, oj, hoj, hall⟩ := mem_ready.1 hj
      have hnot : ∀ e ∈ oj.after, Region.binds .any e = true → e.on ≠ i := fun e he hb heq => by
        have h1 := hall e he hb
        have h0 := (mem_ready.1 hr).1
        rw [heq] at h1
        rcases Nat.lt_or_ge i listed.size with h' | h'
        · simp [h'] at h0 h1; rw [h0] at h1; cases h1
        · simp [Array.getElem?_eq_none h'] at h1
      have h2 := qOp_put hoj (hfree j oj hoj hji hjun hnot) (fun cs b => hsel i oi cs b hi) (fun cs b => hsel j oj cs b hoj) hy h1
      have hfree' : ∀ k ok, ops[k]? = some ok → k ≠ i → (listed.setIfInBounds j true).getD k true = false →
          (∀ e ∈ ok.after, Region.binds .any e = true → e.on ≠ i) → oi.apart ops ok = true := fun k ok hk hki hun hno => by
        refine hfree k ok hk hki ?_ hno
        by_cases hjk : j = k
        · subst hjk; exact hjun
        · rw [getD_set_ne true hjk] at hun; exact hun
      have hu' := unl_set hjm hjun
      refine qOp_mono (fun a' h3 => ih (listed.setIfInBounds j true) a' (by omega) hfree' (ready_mono hr (Ne.symm hji)) h3.1 ?_) h2
      rw [Array.setIfInBounds_comm _ _ hji]
      exact h3.2

/-- The first k have come up, and no other. -/
def LI (ops : Array Oper) (k : Nat) (listed : Array Bool) : Prop := listed.size = ops.size ∧ ∀ j, j < ops.size → listed[j]? = some (decide (j < k))
theorem LI.getD {k : Nat} {listed : Array Bool} (h : LI ops k listed) {j : Nat} (hj : j < ops.size) (d : Bool) : listed.getD j d = decide (j < k) := by
  have h1 := h.2 j hj
  have h2 : j < listed.size := by rw [h.1]; exact hj
  rw [Array.getElem?_eq_getElem h2] at h1
  rw [Array.getD, dif_pos h2]
  simpa using h1
theorem LI.start : LI ops 0 (Array.replicate ops.size false) := ⟨by simp, fun j hj => by simp [hj]⟩
theorem LI.step {k : Nat} {listed : Array Bool} (h : LI ops k listed) (hk : k < ops.size) : LI ops (k + 1) (listed.setIfInBounds k true) := by
  refine ⟨by simp [h.1], fun j hj => ?_⟩
  by_cases hjk : k = j
  · subst hjk
    rw [Array.getElem?_setIfInBounds_self_of_lt (by rw [h.1]; exact hk)]
    simp
  · rw [Array.getElem?_setIfInBounds_ne hjk, h.2 j hj]
    congr 1
    apply decide_eq_decide.2
    omega
theorem get_lt {k : Nat} {o : Oper} (h : ops[k]? = some o) : k < ops.size := by
  rcases Nat.lt_or_ge k ops.size with h' | h'
  · exact h'
  · simp [Array.getElem?_eq_none h'] at h
theorem LI.ready {k : Nat} {listed : Array Bool} (h : LI ops k listed) (hl : lexFast ops m = true) {o : Oper} (ho : ops[k]? = some o) : k ∈ Region.ready .any ops listed := by
  have hk := get_lt ho
  rw [mem_ready]
  refine ⟨by rw [h.getD hk]; simp, o, ho, fun e he hb => ?_⟩
  have := lex_below hl ho e he hb
  rw [h.getD (by omega)]
  simpa using this
theorem LI.free {k : Nat} {listed : Array Bool} (h : LI ops k listed) (hl : lexFast ops m = true) {o : Oper} (ho : ops[k]? = some o) :
    ∀ j oj, ops[j]? = some oj → j ≠ k → listed.getD j true = false → (∀ e ∈ oj.after, Region.binds .any e = true → e.on ≠ k) → o.apart ops oj = true := by
  intro j oj hj hjk hun hno
  rw [h.getD (get_lt hj)] at hun
  have hjk2 : k < j := by have : ¬ j < k := by simpa using hun
                          omega
  unfold Oper.apart
  rw [Bool.and_eq_true]
  constructor
  · split
    · rename_i d hd
      rw [Bool.and_eq_true]
      constructor
      · rw [Bool.not_eq_true', ← Bool.not_eq_true]
        intro hc
        rcases lex_looks hl hj ho (by simpa using hc) hd with ⟨e, he, hb, h1⟩ | ⟨h1, _⟩
        · exact hno e he hb h1
        · omega
      · rw [bne_iff_ne]
        intro hc
        exact hjk (lex_dst hl hj ho hc hd)
    · rfl
  · split
    · rename_i d hd
      rw [Bool.not_eq_true', ← Bool.not_eq_true]
      intro hc
      rcases lex_looks hl ho hj (by simpa using hc) hd with ⟨e, he, hb, h1⟩ | ⟨_, e, he, hb, h1⟩
      · have := lex_below hl ho e he hb
        omega
      · exact hno e he hb h1
    · rfl

theorem LI.unl {k : Nat} {listed : Array Bool} (h : LI ops k listed) (hk : k ≤ m) (hm : m ≤ ops.size) : unl m listed = m - k := by
  unfold Vg.unl
  have h1 : (List.range m).countP (fun i => !listed.getD i true) = (List.range m).countP (fun i => decide (k ≤ i)) := by
    apply List.countP_congr
    intro i hi
    rw [h.getD (by have := List.mem_range.1 hi; omega)]
    simp
  rw [h1]
  clear h1 hm
  induction m with
  | zero => simp
  | succ n ih =>
    rw [List.range_succ, List.countP_append]
    by_cases hkn : k ≤ n
    · rw [ih hkn]
      simp [hkn]
      omega
    · have : k = n + 1 := by omega
      subst this
      have : (List.range n).countP (fun i => decide (n + 1 ≤ i)) = 0 := by
        rw [List.countP_eq_zero]
        intro i hi
        have := List.mem_range.1 hi
        simp; omega
      rw [this]
      simp
theorem wpAnyM_lex {T : Act → Prop} (hl : lexFast ops m = true) (hm : m ≤ ops.size) : ∀ (fuel k : Nat) (listed : Array Bool) (a : Act), k + fuel = m → LI ops k listed →
    wpQuiet P ops C T ((ops.toList.drop k).take fuel) a → wpAnyM P ops C m T fuel listed a
  | 0, _, _, _, _, _, h => by simpa [wpQuiet, wpAnyM] using h
  | fuel + 1, k, listed, a, hk, hL, h => by
    have hk2 : k < ops.size := by omega
    obtain ⟨o, ho⟩ : ∃ o, ops[k]? = some o := ⟨ops[k], Array.getElem?_eq_getElem hk2⟩
    have hd : ops.toList.drop k = o :: ops.toList.drop (k + 1) := by
      rw [List.drop_eq_getElem_cons (by simpa using hk2)]
      congr 1
      have := ho
      rw [Array.getElem?_eq_getElem hk2] at this
      simpa using this
    rw [hd, List.take_succ_cons] at h
    have hst : qOp P ops C k (wpQuiet P ops C T ((ops.toList.drop (k + 1)).take fuel)) a := by unfold qOp; simp only [ho]; exact h
    obtain ⟨v, hy, hK⟩ := yieldsIn_of_qOp ho hst
    exact wpAnyM_first (by omega) ho (Region.noSelect_spec (lexFast_spec hl).1) fuel listed a (by rw [hL.unl (by omega) hm]; omega) (hL.free hl ho) (hL.ready hl ho) hy
      (wpAnyM_lex hl hm fuel (k + 1) _ _ (by omega) (hL.step hk2) hK)

/-- The tail: one order. -/
theorem wpAny_tail {Q : Exit → Act → World → Prop} (hl : lexFast ops m = true) : ∀ (fuel k : Nat) (listed : Array Bool) (a : Act) (w : World), k + fuel = ops.size → m ≤ k → LI ops k listed →
    wpList P ops Q (ops.toList.drop k) a w → wpAny P .any ops Q fuel listed a w
  | 0, k, listed, a, w, hk, hmk, hL, h => by
    refine ⟨?_, ?_⟩
    · apply List.eq_nil_iff_forall_not_mem.2
      intro j hj
      obtain ⟨hun, o, ho, _⟩ := mem_ready.1 hj
      rw [hL.getD (get_lt ho)] at hun
      have := get_lt ho
      simp at hun
      omega
    · rw [List.drop_of_length_le (by simp; omega)] at h
      exact h
  | fuel + 1, k, listed, a, w, hk, hmk, hL, h => by
    have hk2 : k < ops.size := by omega
    obtain ⟨o, ho⟩ : ∃ o, ops[k]? = some o := ⟨ops[k], Array.getElem?_eq_getElem hk2⟩
    have hd : ops.toList.drop k = o :: ops.toList.drop (k + 1) := by
      rw [List.drop_eq_getElem_cons (by simpa using hk2)]
      congr 1
      have := ho
      rw [Array.getElem?_eq_getElem hk2] at this
      simpa using this
    rw [hd] at h
    have hr := hL.ready hl ho
    refine ⟨fun h0 => absurd (h0 ▸ hr) (by simp), fun j hj => ?_⟩
    have hjk : j = k := by
      obtain ⟨hun, oj, hoj, hall⟩ := mem_ready.1 hj
      have hjs := get_lt hoj
      rw [hL.getD hjs] at hun
      have h1 : ¬ j < k := by simpa using hun
      rcases Nat.lt_or_ge k j with h2 | h2
      · exfalso
        obtain ⟨e, he, hb, h3⟩ := (lex_tail hl hoj (by omega)).2 (by omega)
        have h4 := hall e he hb
        rw [h3, hL.getD (by omega)] at h4
        have : j - 1 < k := by simpa using h4
        omega
      · omega
    subst hjk
    unfold wpOp
    simp only [ho]
    unfold wpList at h
    split
    · rename_i hw
      rw [if_pos hw] at h
      exact h.imp (Oper.wp_mono fun a' w' => wpAny_tail hl fuel (j + 1) _ a' w' (by omega) (by omega) (hL.step hk2)) id
    · rename_i hw
      rw [if_neg hw] at h
      exact wpAny_tail hl fuel (j + 1) _ _ w (by omega) (by omega) (hL.step hk2) h

/-- From the one to the other. -/
theorem wpAny_of_M {Q : Exit → Act → World → Prop} {T : Act → Prop} {r : Nat} (hl : lexFast ops m = true) (hms : m ≤ ops.size)
    (hT : ∀ a w listed, C w → T a → LI ops m listed → wpAny P .any ops Q r listed a w) : ∀ (fuel : Nat) (listed : Array Bool) (a : Act) (w : World), C w → unl m listed = fuel →
    listed.size = ops.size → Closed ops listed → (∀ j, m ≤ j → j < ops.size → listed[j]? = some false) → wpAnyM P ops C m T fuel listed a → wpAny P .any ops Q (fuel + r) listed a w
  | 0, listed, a, w, hw, hu, hs, hcl, ht, h => by
    rw [Nat.zero_add]
    refine hT a w listed hw h ⟨hs, fun j hj => ?_⟩
    rcases Nat.lt_or_ge j m with h1 | h1
    · have h2 : listed.getD j true = true := by
        cases hc : listed.getD j true
        · have := unl_pos h1 hc; omega
        · rfl
      have h3 : j < listed.size := by omega
      rw [Array.getElem?_eq_getElem h3]
      rw [Array.getD, dif_pos h3] at h2
      simpa [h1] using h2
    · rw [ht j h1 hj]
      simp; omega
  | fuel + 1, listed, a, w, hw, hu, hs, hcl, ht, h => by
    rw [show fuel + 1 + r = (fuel + r) + 1 by omega]
    refine ⟨fun h0 => absurd h0 h.1, fun i hi => ?_⟩
    obtain ⟨hun, oi, hoi, hall⟩ := mem_ready.1 hi
    have him : i < m := by
      rcases Nat.lt_or_ge i m with h1 | h1
      · exact h1
      · exfalso
        have h2 : unl m listed = 0 := by
          unfold unl
          rw [List.countP_eq_zero]
          intro p hp
          obtain ⟨e, he, hb, h3⟩ := (lex_tail hl hoi h1).1 p (List.mem_range.1 hp)
          have h4 := hall e he hb
          have h4 : listed.getD p false = true := by
            rcases h3 with h3 | h3
            · rw [h3] at h4; exact h4
            · exact hcl.reach m e.on p h3 h4
          have h5 : p < listed.size := by have := List.mem_range.1 hp; omega
          rw [Array.getD, dif_pos h5] at h4
          rw [Array.getD, dif_pos h5, h4]
          simp
        omega
    refine wpOp_of_qOp hw (fun a' w' hw' hk => ?_) (h.2 i hi him)
    have h6 := unl_set him hun
    refine wpAny_of_M hl hms hT fuel _ a' w' hw' (by omega) (by simp [hs]) (hcl.step hoi hall) (fun j h1 h2 => ?_) hk
    rw [Array.getElem?_setIfInBounds_ne (by omega)]
    exact ht j h1 h2

/-- **A region that draws its order**: its first m operations are quiet, the rest waits for all of them, and for one another. -/
theorem wp_region_tail {id : Nat} {Q : Exit → Act → World → Prop} {a : Act} {w : World} (hm : P.follows .mixedOrders = true) (hl : lexFast ops m = true) (hms : m ≤ ops.size) (hC : C { w with drawn := w.drawn + 1 })
    (h : wpQuiet P ops C (fun a' => ∀ w', C w' → wpList P ops Q (ops.toList.drop m) a' w') (ops.toList.take m) a) : (Code.region id ops true).wp P Q a w := by
  refine wp_region_any hm ?_
  have h1 := wpAnyM_lex hl hms m 0 (Array.replicate ops.size false) a (by omega) LI.start (by simpa using h)
  have h2 := wpAny_of_M (Q := Q) (r := ops.size - m) hl hms (fun a w listed hw ht hL => wpAny_tail hl (ops.size - m) m listed a w (by omega) (Nat.le_refl _) hL (ht w hw)) m _ a _ hC (by rw [LI.start.unl (Nat.zero_le _) hms]; omega)
    (by simp) (fun j oj hj hl => by simp [get_lt hj] at hl) (fun j _ hj => by simp [hj]) h1
  rwa [show m + (ops.size - m) = ops.size by omega] at h2

theorem quietLen_le : ∀ l : List Oper, quietLen l ≤ l.length
  | [] => Nat.le_refl _
  | o :: l => by
    have := quietLen_le l
    unfold quietLen
    split <;> simp <;> omega
end
end Go.Vg

/- Regions that draw their order, of plain operations and stores: one walk of the lexical order serves every order. -/
namespace Go.Vg
open Go.RowKit
set_option linter.unusedVariables false
set_option linter.unusedSimpArgs false

section
variable {P : Program} {ops : Array Oper} {C : World → Prop}

/-- An operation comes up: a store; or one that yields one value in every world of the class, and leaves the world alone. -/
def stepS (P : Program) (ops : Array Oper) (C : World → Prop) (j : Nat) (K : Act → World → Prop) (a : Act) (w : World) : Prop :=
  match ops[j]? with
  | none => False
  | some o => if Region.wanted o (yielded ops a.tmps) = true then
      (if isStore o = true then ∃ w', (execOp a.eval o).run P w = .ok .skip w' ∧ K (a.put o.dst undef) w'
       else ∃ v, (∀ w, C w → (execOp a.eval o).run P w = .ok (.value v) w) ∧ K (a.put o.dst v) w)
    else K (a.put o.dst undef) w

def wpAnyS (P : Program) (ops : Array Oper) (C : World → Prop) (Q : Act → World → Prop) : Nat → Array Bool → Act → World → Prop
  | 0, listed, a, w => C w ∧ Region.ready .any ops listed = [] ∧ Q a w
  | fuel + 1, listed, a, w => C w ∧ Region.ready .any ops listed ≠ [] ∧ ∀ i ∈ Region.ready .any ops listed, stepS P ops C i (wpAnyS P ops C Q fuel (listed.setIfInBounds i true)) a w

theorem wpAnyS_C {Q : Act → World → Prop} {fuel : Nat} {listed : Array Bool} {a : Act} {w : World} (h : wpAnyS P ops C Q fuel listed a w) : C w := by
  cases fuel <;> exact h.1

theorem wpAny_of_S {Q : Act → World → Prop} {Q' : Exit → Act → World → Prop} (hQ : ∀ a w, Q a w → Q' .normal a w) : ∀ (fuel : Nat) (listed : Array Bool) (a : Act) (w : World),
    wpAnyS P ops C Q fuel listed a w → wpAny P .any ops Q' fuel listed a w
  | 0, _, _, _, h => ⟨h.2.1, hQ _ _ h.2.2⟩
  | fuel + 1, listed, a, w, h => ⟨fun h0 => absurd h0 h.2.1, fun i hi => by
      have h1 := h.2.2 i hi
      unfold stepS at h1
      unfold wpOp
      split
      · rename_i ho; rw [ho] at h1; exact h1.elim
      · rename_i o ho
        rw [ho] at h1
        simp only at h1
        split
        · rename_i hw
          rw [if_pos hw] at h1
          left
          unfold Oper.wp
          split at h1
          · obtain ⟨w', h2, h3⟩ := h1
            rw [h2, Oper.upon_skip]
            exact wpAny_of_S hQ fuel _ _ _ h3
          · obtain ⟨v, h2, h3⟩ := h1
            rw [h2 w h.1, Oper.upon_value]
            exact wpAny_of_S hQ fuel _ _ _ h3
        · rename_i hw
          rw [if_neg hw] at h1
          exact wpAny_of_S hQ fuel _ _ _ h1⟩

/-- In every world of the class it yields v. -/
def YieldsS (P : Program) (ops : Array Oper) (C : World → Prop) (o : Oper) (v : Value) (a : Act) : Prop :=
  (Region.wanted o (yielded ops a.tmps) = true ∧ isStore o = false ∧ ∀ w, C w → (execOp a.eval o).run P w = .ok (.value v) w) ∨ (Region.wanted o (yielded ops a.tmps) = false ∧ v = undef)

theorem YieldsS.step {i : Nat} {o : Oper} {v : Value} {a : Act} {w : World} (hi : ops[i]? = some o) (hy : YieldsS P ops C o v a) {K : Act → World → Prop} (h : K (a.put o.dst v) w) : stepS P ops C i K a w := by
  unfold stepS
  simp only [hi]
  rcases hy with ⟨hw, hs, hv⟩ | ⟨hw, rfl⟩
  · rw [if_pos hw, if_neg (by rw [hs]; decide)]; exact ⟨v, hv, h⟩
  · rw [if_neg (by rw [hw]; decide)]; exact h

theorem stepS_mono {j : Nat} {K K' : Act → World → Prop} {a : Act} {w : World} (h : ∀ a w, K a w → K' a w) (hs : stepS P ops C j K a w) : stepS P ops C j K' a w := by
  unfold stepS at *
  split
  · rename_i ho; rw [ho] at hs; exact hs
  · rename_i o ho
    rw [ho] at hs
    simp only at hs
    split
    · rename_i hw
      rw [if_pos hw] at hs
      split
      · rename_i hst
        rw [if_pos hst] at hs
        obtain ⟨w', h1, h2⟩ := hs
        exact ⟨w', h1, h _ _ h2⟩
      · rename_i hst
        rw [if_neg hst] at hs
        obtain ⟨v, h1, h2⟩ := hs
        exact ⟨v, h1, h _ _ h2⟩
    · rename_i hw
      rw [if_neg hw] at hs
      exact h _ _ hs

/-- One operation 'oj', apart from 'oi'. -/
theorem stepS_put {j : Nat} {oi oj : Oper} {v : Value} (hj : ops[j]? = some oj) (hap : oi.apart ops oj = true)
    (hsi : ∀ cs b, oi.op ≠ .select cs b) (hsj : ∀ cs b, oj.op ≠ .select cs b) {K : Act → World → Prop} {a : Act} {w : World} (h : stepS P ops C j K (a.put oi.dst v) w) :
    stepS P ops C j (fun a' w' => (∃ u, a' = a.put oj.dst u) ∧ K (a'.put oi.dst v) w') a w := by
  obtain ⟨h1, h2, h3⟩ := Oper.apart_spec hap
  unfold stepS at *
  simp only [hj] at *
  rw [wanted_put oj a oi.dst v h1, execOp_put oj hsj a oi.dst v h1] at h
  split
  · rename_i hw
    rw [if_pos hw] at h
    split
    · rename_i hst
      rw [if_pos hst] at h
      obtain ⟨w', h4, h5⟩ := h
      exact ⟨w', h4, ⟨_, rfl⟩, by rw [← Act.put_comm a v undef h2]; exact h5⟩
    · rename_i hst
      rw [if_neg hst] at h
      obtain ⟨u, h4, h5⟩ := h
      exact ⟨u, h4, ⟨_, rfl⟩, by rw [← Act.put_comm a v u h2]; exact h5⟩
  · rename_i hw
    rw [if_neg hw] at h
    exact ⟨⟨_, rfl⟩, by rw [← Act.put_comm a v undef h2]; exact h⟩

theorem YieldsS.put {oi oj : Oper} {v u : Value} {a : Act} (hap : oi.apart ops oj = true) (hsi : ∀ cs b, oi.op ≠ .select cs b) (hy : YieldsS P ops C oi v a) : YieldsS P ops C oi v (a.put oj.dst u) := by
  obtain ⟨_, _, h3⟩ := Oper.apart_spec hap
  unfold YieldsS at *
  rw [wanted_put oi a oj.dst u h3, execOp_put oi hsi a oj.dst u h3]
  exact hy

/-- A plain operation that may come up now may be taken first. -/
theorem pure_first {Q : Act → World → Prop} {i : Nat} {oi : Oper} {v : Value} (hi : ops[i]? = some oi) (hsel : ∀ (j : Nat) (o : Oper) cs b, ops[j]? = some o → o.op ≠ .select cs b) :
    ∀ (fuel : Nat) (listed : Array Bool) (a : Act) (w : World),
      (∀ j oj, ops[j]? = some oj → j ≠ i → listed.getD j true = false → (∀ e ∈ oj.after, Region.binds .any e = true → e.on ≠ i) → oi.apart ops oj = true) →
      i ∈ Region.ready .any ops listed → YieldsS P ops C oi v a →
      wpAnyS P ops C Q fuel (listed.setIfInBounds i true) (a.put oi.dst v) w → wpAnyS P ops C Q (fuel + 1) listed a w := by
  intro fuel
  induction fuel with
  | zero =>
    intro listed a w _ hr hy H
    refine ⟨wpAnyS_C H, fun h => (by rw [h] at hr; cases hr), fun j hj => ?_⟩
    by_cases hji : j = i
    · subst hji; exact hy.step hi H
    · have := ready_mono hj hji
      rw [H.2.1] at this
      cases this
  | succ fuel ih =>
    intro listed a w hfree hr hy H
    refine ⟨wpAnyS_C H, fun h => (by rw [h] at hr; cases hr), fun j hj => ?_⟩
    by_cases hji : j = i
    · subst hji; exact hy.step hi H
    · have h1 := H.2.2 j (ready_mono hj hji)
      obtain ⟨hjun, oj, hoj, hall⟩ := mem_ready.1 hj
      have hnot : ∀ e ∈ oj.after, Region.binds .any e = true → e.on ≠ i := fun e he hb heq => by
        have h1 := hall e he hb
        have h0 := (mem_ready.1 hr).1
        rw [heq] at h1
        rcases Nat.lt_or_ge i listed.size with h' | h'
        · simp [h'] at h0 h1; rw [h0] at h1; cases h1
        · simp [Array.getElem?_eq_none h'] at h1
      have hap := hfree j oj hoj hji hjun hnot
      have h2 := stepS_put hoj hap (fun cs b => hsel i oi cs b hi) (fun cs b => hsel j oj cs b hoj) h1
      have hfree' : ∀ k ok, ops[k]? = some ok → k ≠ i → (listed.setIfInBounds j true).getD k true = false →
          (∀ e ∈ ok.after, Region.binds .any e = true → e.on ≠ i) → oi.apart ops ok = true := fun k ok hk hki hun hno => by
        refine hfree k ok hk hki ?_ hno
        by_cases hjk : j = k
        · subst hjk; exact hjun
        · rw [getD_set_ne true hjk] at hun; exact hun
      refine stepS_mono (fun a' w' h3 => ?_) h2
      obtain ⟨⟨u, rfl⟩, h3⟩ := h3
      refine ih (listed.setIfInBounds j true) _ w' hfree' (ready_mono hr (Ne.symm hji)) (hy.put hap (fun cs b => hsel i oi cs b hi)) ?_
      rw [Array.setIfInBounds_comm _ _ hji]
      exact h3

/-- The next store, where it may come up, may be taken first. -/
theorem store_first {Q : Act → World → Prop} {i : Nat} {oi : Oper} (hi : ops[i]? = some oi) (hst : isStore oi = true) (hsel : ∀ (j : Nat) (o : Oper) cs b, ops[j]? = some o → o.op ≠ .select cs b) :
    ∀ (fuel : Nat) (listed : Array Bool) (a : Act) (w w1 : World),
      (∀ j oj, ops[j]? = some oj → j ≠ i → listed.getD j true = false → (∀ e ∈ oj.after, Region.binds .any e = true → e.on ≠ i) → oi.apart ops oj = true) →
      (∀ j oj, ops[j]? = some oj → j ≠ i → isStore oj = true → listed.getD j true = false → ∃ e, e ∈ oj.after ∧ Region.binds .any e = true ∧ e.on = i) →
      i ∈ Region.ready .any ops listed → C w → Region.wanted oi (yielded ops a.tmps) = true → (execOp a.eval oi).run P w = .ok .skip w1 →
      wpAnyS P ops C Q fuel (listed.setIfInBounds i true) (a.put oi.dst undef) w1 → wpAnyS P ops C Q (fuel + 1) listed a w := by
  have own : ∀ (K : Act → World → Prop) (a : Act) (w w1 : World), Region.wanted oi (yielded ops a.tmps) = true → (execOp a.eval oi).run P w = .ok .skip w1 → K (a.put oi.dst undef) w1 → stepS P ops C i K a w := by
    intro K a w w1 hw hrun hK
    unfold stepS
    simp only [hi]
    rw [if_pos hw, if_pos hst]
    exact ⟨w1, hrun, hK⟩
  intro fuel
  induction fuel with
  | zero =>
    intro listed a w w1 _ _ hr hC hw hrun H
    refine ⟨hC, fun h => (by rw [h] at hr; cases hr), fun j hj => ?_⟩
    by_cases hji : j = i
    · subst hji; exact own _ _ _ _ hw hrun H
    · have := ready_mono hj hji
      rw [H.2.1] at this
      cases this
  | succ fuel ih =>
    intro listed a w w1 hfree hord hr hC hw hrun H
    refine ⟨hC, fun h => (by rw [h] at hr; cases hr), fun j hj => ?_⟩
    by_cases hji : j = i
    · subst hji; exact own _ _ _ _ hw hrun H
    · have h1 := H.2.2 j (ready_mono hj hji)
      obtain ⟨hjun, oj, hoj, hall⟩ := mem_ready.1 hj
      have hnot : ∀ e ∈ oj.after, Region.binds .any e = true → e.on ≠ i := fun e he hb heq => by
        have h1 := hall e he hb
        have h0 := (mem_ready.1 hr).1
        rw [heq] at h1
        rcases Nat.lt_or_ge i listed.size with h' | h'
        · simp [h'] at h0 h1; rw [h0] at h1; cases h1
        · simp [Array.getElem?_eq_none h'] at h1
      have hap := hfree j oj hoj hji hjun hnot
      have hnst : isStore oj = false := by
        cases hc : isStore oj
        · rfl
        · obtain ⟨e, he, hb, h4⟩ := hord j oj hoj hji hc hjun
          exact absurd h4 (hnot e he hb)
      have h2 := stepS_put hoj hap (fun cs b => hsel i oi cs b hi) (fun cs b => hsel j oj cs b hoj) h1
      have hfree' : ∀ k ok, ops[k]? = some ok → k ≠ i → (listed.setIfInBounds j true).getD k true = false →
          (∀ e ∈ ok.after, Region.binds .any e = true → e.on ≠ i) → oi.apart ops ok = true := fun k ok hk hki hun hno => by
        refine hfree k ok hk hki ?_ hno
        by_cases hjk : j = k
        · subst hjk; exact hjun
        · rw [getD_set_ne true hjk] at hun; exact hun
      have hord' : ∀ k ok, ops[k]? = some ok → k ≠ i → isStore ok = true → (listed.setIfInBounds j true).getD k true = false → ∃ e, e ∈ ok.after ∧ Region.binds .any e = true ∧ e.on = i := fun k ok hk hki hs hun => by
        refine hord k ok hk hki hs ?_
        by_cases hjk : j = k
        · subst hjk; exact hjun
        · rw [getD_set_ne true hjk] at hun; exact hun
      obtain ⟨_, _, h3⟩ := Oper.apart_spec hap
      have go : ∀ u, wpAnyS P ops C Q fuel ((listed.setIfInBounds i true).setIfInBounds j true) ((a.put oj.dst u).put oi.dst undef) w1 → wpAnyS P ops C Q (fuel + 1) (listed.setIfInBounds j true) (a.put oj.dst u) w := fun u H' => by
        refine ih (listed.setIfInBounds j true) _ w w1 hfree' hord' (ready_mono hr (Ne.symm hji)) hC ?_ ?_ ?_
        · rw [wanted_put oi a oj.dst u h3]; exact hw
        · rw [execOp_put oi (fun cs b => hsel i oi cs b hi) a oj.dst u h3]; exact hrun
        · rw [Array.setIfInBounds_comm _ _ hji]; exact H'
      unfold stepS at h2 ⊢
      simp only [hoj] at h2 ⊢
      split
      · rename_i hwj
        rw [if_pos hwj, if_neg (by rw [hnst]; decide)] at h2
        rw [if_neg (by rw [hnst]; decide)]
        obtain ⟨u, h4, _, h5⟩ := h2
        exact ⟨u, h4, go u h5⟩
      · rename_i hwj
        rw [if_neg hwj] at h2
        exact go undef h2.2

/-- One order. -/
def seqS (P : Program) (ops : Array Oper) (C : World → Prop) (Q : Act → World → Prop) : List Oper → Act → World → Prop
  | [], a, w => C w ∧ Q a w
  | o :: rest, a, w => C w ∧ ((isStore o = true ∧ Region.wanted o (yielded ops a.tmps) = true ∧ ∃ w1, (execOp a.eval o).run P w = .ok .skip w1 ∧ seqS P ops C Q rest (a.put o.dst undef) w1) ∨
      ∃ v, YieldsS P ops C o v a ∧ seqS P ops C Q rest (a.put o.dst v) w)

theorem storeOrd_spec (h : storeOrd ops = true) {i j : Nat} {oi oj : Oper} (hi : ops[i]? = some oi) (hj : ops[j]? = some oj) (hij : i < j) (hsi : isStore oi = true) (hsj : isStore oj = true) :
    ∃ e, e ∈ oj.after ∧ Region.binds .any e = true ∧ e.on = i := by
  have h1 := List.all_eq_true.1 h j (List.mem_range.2 (get_lt hj))
  simp only [hj, hsj, Bool.not_true, Bool.false_or] at h1
  have h2 := List.all_eq_true.1 h1 i (List.mem_range.2 hij)
  simp only [hi, hsi, Bool.not_true, Bool.false_or] at h2
  exact edgeOn_spec h2

theorem wpAnyS_lex {Q : Act → World → Prop} (hl : lexFast ops ops.size = true) (ho : storeOrd ops = true) : ∀ (fuel k : Nat) (listed : Array Bool) (a : Act) (w : World), k + fuel = ops.size → LI ops k listed →
    seqS P ops C Q (ops.toList.drop k) a w → wpAnyS P ops C Q fuel listed a w
  | 0, k, listed, a, w, hk, hL, h => by
    rw [List.drop_of_length_le (by simp; omega)] at h
    refine ⟨h.1, ?_, h.2⟩
    apply List.eq_nil_iff_forall_not_mem.2
    intro j hj
    obtain ⟨hun, o, ho', _⟩ := mem_ready.1 hj
    rw [hL.getD (get_lt ho')] at hun
    have := get_lt ho'
    simp at hun
    omega
  | fuel + 1, k, listed, a, w, hk, hL, h => by
    have hk2 : k < ops.size := by omega
    obtain ⟨o, ho'⟩ : ∃ o, ops[k]? = some o := ⟨ops[k], Array.getElem?_eq_getElem hk2⟩
    have hd : ops.toList.drop k = o :: ops.toList.drop (k + 1) := by
      rw [List.drop_eq_getElem_cons (by simpa using hk2)]
      congr 1
      have := ho'
      rw [Array.getElem?_eq_getElem hk2] at this
      simpa using this
    rw [hd] at h
    have hns := Region.noSelect_spec (lexFast_spec hl).1
    rcases h with ⟨hC, ⟨hst, hw, w1, hrun, hrest⟩ | ⟨v, hy, hrest⟩⟩
    · refine store_first ho' hst hns fuel listed a w w1 (hL.free hl ho') (fun j oj hj hjk hsj hun => ?_) (hL.ready hl ho') hC hw hrun (wpAnyS_lex hl ho fuel (k + 1) _ _ w1 (by omega) (hL.step hk2) hrest)
      rw [hL.getD (get_lt hj)] at hun
      have hkj : k < j := by
        have : ¬ j < k := by simpa using hun
        omega
      exact storeOrd_spec ho ho' hj hkj hst hsj
    · exact pure_first ho' hns fuel listed a w (hL.free hl ho') (hL.ready hl ho') hy (wpAnyS_lex hl ho fuel (k + 1) _ _ w (by omega) (hL.step hk2) hrest)

/-- **A region that draws its order**: plain operations and stores. -/
theorem wp_region_mix {id : Nat} {Q : Exit → Act → World → Prop} {a : Act} {w : World} (hm : P.follows .mixedOrders = true) (hl : lexFast ops ops.size = true) (ho : storeOrd ops = true)
    (h : seqS P ops C (fun a w => Q .normal a w) ops.toList a { w with drawn := w.drawn + 1 }) : (Code.region id ops true).wp P Q a w := by
  refine wp_region_any hm ?_
  exact wpAny_of_S (fun _ _ h => h) _ _ _ _ (wpAnyS_lex hl ho ops.size 0 _ a _ (by omega) LI.start (by simpa using h))
end

/-! ### What the run says of such a region -/

section
variable {P : Program} {sig : List (Nat × List Sh × List Sh)} {Γ : Cx} {W : Base} {ρ : Env} {σ : Nat → Value} {β : Nat → Nat}

theorem step_own {B : List Nat} {st : St} {o : Oper} {O' : List (TypeId × List CV)} (hB : ∀ k, memN k B = false → O'[k]? = st.own[k]?) (h : mixOp B st o = true) :
    stepOp P sig { st with own := O' } [] o = stepOp P sig st [] o := by
  unfold mixOp at h
  split at h
  · rename_i t x ho
    split at h
    · rename_i b off hx
      have hx' : St.cell { st with own := O' } [] x = some (.ptr b off) := hx
      have e := hB b (by simpa using h)
      have e2 : objOf { st with own := O' } b = objOf st b := by
        unfold objOf
        simp only [e]
      have e3 : risOf { st with own := O' } b = risOf st b := by
        unfold risOf
        simp only [e]
      simp only [stepOp, stepOp1, stepM, ho, hx, hx']
      cases isAggT P t with
      | none => rfl
      | some ag => cases ag <;> (cases sizeT P t with
        | none => rfl
        | some s => simp only [e, e2, e3])
    · rename_i l w e off hx
      have hx' : St.cell { st with own := O' } [] x = some (.elem l w e off) := hx
      have hl : listOf { st with own := O' } l = listOf st l := rfl
      simp only [stepOp, stepOp1, stepM, ho, hx, hx']
      cases isAggT P t with
      | none => rfl
      | some ag => cases ag <;> (cases sizeT P t with
        | none => rfl
        | some s => rfl)
    · cases h
  all_goals first | (rename_i ho; simp only [stepOp, stepOp1, stepM, ho]; rfl) | (rename_i x ho; simp only [stepOp, stepOp1, stepM, ho]; rfl) | (rename_i x y ho; simp only [stepOp, stepOp1, stepM, ho]; rfl) | (rename_i x y z ho; simp only [stepOp, stepOp1, stepM, ho]; rfl) | cases h

/-- The class: all is known but what some own blocks hold. -/
def Mixed (W : Base) (ρ : Env) (σ : Nat → Value) (β : Nat → Nat) (B : List Nat) (O0 : List (TypeId × List CV)) (L : List (Nat × List EK)) (w : World) : Prop :=
  ∃ O', O'.length = O0.length ∧ (∀ k, memN k B = false → O'[k]? = O0[k]?) ∧ WOk W ρ σ β O' L w

theorem mix_ok {B : List Nat} {O0 : List (TypeId × List CV)} {L : List (Nat × List EK)} {ops : Array Oper} {Q : Act → World → Prop} : ∀ (l : List Oper) (st : St) (its : List It) (st' : St), execMix P sig B l st = some (st', its) →
    ∀ (a : Act) (w : World), TOk ρ σ β st a → WOk W ρ σ β st.own st.lists w → st.lists = L → st.own.length = O0.length → (∀ k, memN k B = false → st.own[k]? = O0[k]?) → itsHold Γ its ρ →
    (∀ a' w', itsEnv Γ its ρ = ρ → st'.n = st.n → TOk ρ σ β st' a' → WOk W ρ σ β st'.own st'.lists w' → Q a' w') → seqS P ops (Mixed W ρ σ β B O0 L) Q l a w
  | [], st, its, st', h, a, w, hT, hw, hL, hlen, hB, hits, hk => by
    simp only [execMix, Option.some.injEq, Prod.mk.injEq] at h
    obtain ⟨h1, h2⟩ := h
    subst h1; subst h2
    exact ⟨⟨st.own, hlen, hB, hL ▸ hw⟩, hk a w rfl rfl hT hw⟩
  | o :: l, st, its, st', h, a, w, hT, hw, hL, hlen, hB, hits, hk => by
    simp only [execMix] at h
    have hC : Mixed W ρ σ β B O0 L w := ⟨st.own, hlen, hB, hL ▸ hw⟩
    split at h
    · cases h
    · rename_i hgd
      have hwant : Region.wanted o (yielded ops a.tmps) = true := by simp [Region.wanted, hgd]
      split at h
      · rename_i v obs hs
        split at h
        · rename_i hc
          simp only [Bool.and_eq_true, Bool.not_eq_true'] at hc
          split at h
          · rename_i st1 its1 ha
            split at h
            · rename_i st2 its2 hr
              cases h
              obtain ⟨hi1, hi2⟩ := itsHold_append hits
              have henv := fun (ρ' : Env) => itsEnv_append (Γ := Γ) (x := its1) (y := its2) (ρ := ρ)
              simp only [applyStep, Option.some.injEq, Prod.mk.injEq] at ha
              obtain ⟨h1, h2⟩ := ha
              subst h2
              have hob := needAll_ok hT.pc (holds_nil' ρ) (its_ob hi1 (holds_nil' ρ))
              have e1 : itsEnv Γ ((needAll st [] obs).map (It.ob [])) ρ = ρ := env_ob _
              rw [e1] at hi2
              have hvne : v ≠ .any := fun e => by rw [e] at hc; simp [notAny] at hc
              have hrun : ∀ w', Mixed W ρ σ β B O0 L w' → (execOp a.eval o).run P w' = .ok (.value (v.val ρ σ β)) w' := by
                rintro w' ⟨O', hl', hB', hw'⟩
                have hT' : TOk ρ σ β { st with own := O' } a := ⟨hT.size, hT.slot, hT.defers, hT.pc⟩
                have hs' : stepOp P sig { st with own := O' } [] o = some (.pure v obs) := (step_own (fun k hk => by rw [hB' k hk, hB k hk]) hc.1.2).trans hs
                obtain ⟨val, hv, hr'⟩ := step_ok (W := W) hT' (holds_nil' ρ) hs' hob
                rcases hv with hv | hv
                · exact absurd hv hvne
                · have := hr' w' (by show WOk W ρ σ β O' st.lists w'; rw [hL]; exact hw')
                  rw [this, hv]
              refine ⟨hC, .inr ⟨v.val ρ σ β, .inl ⟨hwant, hc.2, hrun⟩, ?_⟩⟩
              have hp := put_n st o.dst ([], v)
              have hT' : TOk ρ σ β (st.put o.dst ([], v)) (a.put o.dst (v.val ρ σ β)) := hT.put o.dst (.inr (.inl ⟨holds_nil' ρ, rfl⟩))
              have hst1 : TOk ρ σ β st1 (a.put o.dst (v.val ρ σ β)) ∧ st1.own = st.own ∧ st1.lists = st.lists ∧ st1.n = st.n := by
                subst h1
                split
                · exact ⟨TOk.pcAdd hT' (its_ob hi1 (holds_nil' ρ)), hp.2.1, hp.2.2.1, hp.1⟩
                · exact ⟨hT', hp.2.1, hp.2.2.1, hp.1⟩
              obtain ⟨t1, t2, t3, t4⟩ := hst1
              refine mix_ok l st1 its2 st' hr _ w t1 (by rw [t2, t3]; exact hw) (by rw [t3]; exact hL) (by rw [t2]; exact hlen) (fun k hk => by rw [t2]; exact hB k hk) hi2 (fun a' w' h3 h4 h5 h6 => hk a' w' ?_ ?_ h5 h6)
              · rw [itsEnv_append, e1, h3]
              · rw [h4, t4]
            · cases h
          · cases h
        · cases h
      · rename_i b off cs hs
        split at h
        · rename_i hc
          simp only [Bool.and_eq_true] at hc
          split at h
          · rename_i st1 its1 ha
            split at h
            · rename_i st2 its2 hr
              cases h
              obtain ⟨hn, u, old, hb, htag, hrun⟩ := step_ok (W := W) hT (holds_nil' ρ) hs
              simp only [applyStep, hb, hn] at ha
              simp only [Bool.not_true, Bool.or_self, Bool.false_eq_true, if_false, Option.some.injEq, Prod.mk.injEq] at ha
              obtain ⟨h1, h2⟩ := ha
              subst h1; subst h2
              have hp := put_n st o.dst ([], SV.any)
              refine ⟨hC, .inl ⟨hc.2, hwant, _, hrun w (hw.own b u old hb htag), ?_⟩⟩
              have hT' := hT.put o.dst (g := []) (sv := .any) (v := undef) (.inl rfl)
              refine mix_ok l _ its2 st' hr _ _ ⟨hT'.size, hT'.slot, hT'.defers, hT'.pc⟩ ?_ ?_ ?_ ?_ hits (fun a' w' h3 h4 h5 h6 => hk a' w' h3 ?_ h5 h6)
              · show WOk W ρ σ β (setAt st.own b (u, layAt old off cs)) (st.put o.dst ([], .any)).lists _
                rw [hp.2.2.1]
                exact hw.store hb htag
              · show (st.put o.dst ([], .any)).lists = L
                rw [hp.2.2.1]; exact hL
              · show (setAt st.own b (u, layAt old off cs)).length = O0.length
                rw [setAt_length]; exact hlen
              · intro k hk
                show (setAt st.own b (u, layAt old off cs))[k]? = O0[k]?
                rw [setAt_get, if_neg (fun e => by rw [e] at hk; rw [hk] at hc; cases hc.1)]
                exact hB k hk
              · rw [h4]; exact hp.1
            · cases h
          · cases h
        · cases h
      · cases h
end
end Go.Vg

/- Regions that draw their order, of plain operations and calls that come up in one order. -/
namespace Go.Vg
open Go.RowKit
set_option linter.unusedVariables false
set_option linter.unusedSimpArgs false

theorem Calls.sat {P : Program} {f : FuncId} {vs : Array Value} {w : World} {R : Ending → World → Prop} (h : Calls P f vs w R) : ∃ e w', R e w' := by
  obtain ⟨e, w', fr, h1, _⟩ := h []
  exact ⟨e, w', h1⟩

/-- What an operation of the chain does: a call that hands back a value; a value; nothing. -/
def Out (P : Program) (o : Oper) (a : Act) (w : World) (R : Value → World → Prop) : Prop :=
  (∃ f vs, (execOp a.eval o).run P w = .ok (.enter f vs) w ∧ Calls P f vs w fun e w' => ∃ v, e = .returned v ∧ R v w') ∨
  ∃ v w', ((execOp a.eval o).run P w = .ok (.value v) w' ∨ ((execOp a.eval o).run P w = .ok .skip w' ∧ v = undef)) ∧ R v w'
theorem Out.mono {P : Program} {o : Oper} {a : Act} {w : World} {R R' : Value → World → Prop} (h : Out P o a w R) (hr : ∀ v w', R v w' → R' v w') : Out P o a w R' := by
  rcases h with ⟨f, vs, h1, h2⟩ | ⟨v, w', h1, h2⟩
  · refine .inl ⟨f, vs, h1, h2.mono ?_⟩
    rintro e w' ⟨v, rfl, h3⟩
    exact ⟨v, rfl, hr v w' h3⟩
  · exact .inr ⟨v, w', h1, hr v w' h2⟩
theorem Out.sat {P : Program} {o : Oper} {a : Act} {w : World} {R : Value → World → Prop} (h : Out P o a w R) : ∃ v w', R v w' := by
  rcases h with ⟨f, vs, _, h2⟩ | ⟨v, w', _, h2⟩
  · obtain ⟨e, w', v, _, h3⟩ := Calls.sat h2
    exact ⟨v, w', h3⟩
  · exact ⟨v, w', h2⟩

section
variable {P : Program} {ops : Array Oper} {ch : Oper → Bool} {last : Option Nat} {C : World → Prop}

/-- An operation comes up: a call; or one that yields one value in every world of the class, and leaves the world alone. -/
def stepX (P : Program) (ops : Array Oper) (ch : Oper → Bool) (last : Option Nat) (C : World → Prop) (j : Nat) (K : Act → World → Prop) (a : Act) (w : World) : Prop :=
  match ops[j]? with
  | none => False
  | some o => if Region.wanted o (yielded ops a.tmps) = true then
      (if ch o = true then Out P o a w fun v w' => (C w' ∨ some j = last) ∧ K (a.put o.dst v) w'
       else ∃ v, (∀ w, C w → (execOp a.eval o).run P w = .ok (.value v) w) ∧ K (a.put o.dst v) w)
    else K (a.put o.dst undef) w

def wpAnyX (P : Program) (ops : Array Oper) (ch : Oper → Bool) (last : Option Nat) (C : World → Prop) (Q : Act → World → Prop) : Nat → Array Bool → Act → World → Prop
  | 0, listed, a, w => Region.ready .any ops listed = [] ∧ Q a w
  | fuel + 1, listed, a, w => C w ∧ Region.ready .any ops listed ≠ [] ∧ ∀ i ∈ Region.ready .any ops listed, stepX P ops ch last C i (wpAnyX P ops ch last C Q fuel (listed.setIfInBounds i true)) a w

theorem wpAny_of_X {Q : Act → World → Prop} {Q' : Exit → Act → World → Prop} (hQ : ∀ a w, Q a w → Q' .normal a w) : ∀ (fuel : Nat) (listed : Array Bool) (a : Act) (w : World),
    wpAnyX P ops ch last C Q fuel listed a w → wpAny P .any ops Q' fuel listed a w
  | 0, _, _, _, h => ⟨h.1, hQ _ _ h.2⟩
  | fuel + 1, listed, a, w, h => ⟨fun h0 => absurd h0 h.2.1, fun i hi => by
      have h1 := h.2.2 i hi
      unfold stepX at h1
      unfold wpOp
      split
      · rename_i ho; rw [ho] at h1; exact h1.elim
      · rename_i o ho
        rw [ho] at h1
        simp only at h1
        split
        · rename_i hw
          rw [if_pos hw] at h1
          left
          unfold Oper.wp
          split at h1
          · rcases h1 with ⟨f, vs, h2, h3⟩ | ⟨v, w', h2 | ⟨h2, rfl⟩, _, h3⟩
            · rw [h2, Oper.upon_enter]
              refine h3.mono ?_
              rintro e w' ⟨v, rfl, _, h4⟩
              exact wpAny_of_X hQ fuel _ _ _ h4
            · rw [h2, Oper.upon_value]
              exact wpAny_of_X hQ fuel _ _ _ h3
            · rw [h2, Oper.upon_skip]
              exact wpAny_of_X hQ fuel _ _ _ h3
          · obtain ⟨v, h2, h3⟩ := h1
            rw [h2 w h.1, Oper.upon_value]
            exact wpAny_of_X hQ fuel _ _ _ h3
        · rename_i hw
          rw [if_neg hw] at h1
          exact wpAny_of_X hQ fuel _ _ _ h1⟩

/-- In every world of the class it yields v. -/
def YieldsX (P : Program) (ops : Array Oper) (ch : Oper → Bool) (C : World → Prop) (o : Oper) (v : Value) (a : Act) : Prop :=
  (Region.wanted o (yielded ops a.tmps) = true ∧ ch o = false ∧ ∀ w, C w → (execOp a.eval o).run P w = .ok (.value v) w) ∨ (Region.wanted o (yielded ops a.tmps) = false ∧ v = undef)

theorem YieldsX.step {i : Nat} {o : Oper} {v : Value} {a : Act} {w : World} (hi : ops[i]? = some o) (hy : YieldsX P ops ch C o v a) {K : Act → World → Prop} (h : K (a.put o.dst v) w) : stepX P ops ch last C i K a w := by
  unfold stepX
  simp only [hi]
  rcases hy with ⟨hw, hs, hv⟩ | ⟨hw, rfl⟩
  · rw [if_pos hw, if_neg (by rw [hs]; decide)]; exact ⟨v, hv, h⟩
  · rw [if_neg (by rw [hw]; decide)]; exact h

theorem stepX_mono {j : Nat} {K K' : Act → World → Prop} {a : Act} {w : World} (hj : some j ≠ last) (hC : C w) (h : ∀ a w, C w → K a w → K' a w) (hs : stepX P ops ch last C j K a w) : stepX P ops ch last C j K' a w := by
  unfold stepX at *
  split
  · rename_i ho; rw [ho] at hs; exact hs
  · rename_i o ho
    rw [ho] at hs
    simp only at hs
    split
    · rename_i hw
      rw [if_pos hw] at hs
      split
      · rename_i hst
        rw [if_pos hst] at hs
        exact Out.mono hs fun v w' h4 => ⟨h4.1, h _ _ (h4.1.resolve_right hj) h4.2⟩
      · rename_i hst
        rw [if_neg hst] at hs
        obtain ⟨v, h1, h2⟩ := hs
        exact ⟨v, h1, h _ _ hC h2⟩
    · rename_i hw
      rw [if_neg hw] at hs
      exact h _ _ hC hs

/-- One operation 'oj', apart from 'oi'. -/
theorem stepX_put {j : Nat} {oi oj : Oper} {v : Value} (hj : ops[j]? = some oj) (hap : oi.apart ops oj = true)
    (hsj : ∀ cs b, oj.op ≠ .select cs b) {K : Act → World → Prop} {a : Act} {w : World} (h : stepX P ops ch last C j K (a.put oi.dst v) w) :
    stepX P ops ch last C j (fun a' w' => (∃ u, a' = a.put oj.dst u) ∧ K (a'.put oi.dst v) w') a w := by
  obtain ⟨h1, h2, h3⟩ := Oper.apart_spec hap
  unfold stepX at *
  simp only [hj] at *
  rw [wanted_put oj a oi.dst v h1] at h
  split
  · rename_i hw
    rw [if_pos hw] at h
    split
    · rename_i hst
      rw [if_pos hst] at h
      have h5 : Out P oj a w fun u w' => (C w' ∨ some j = last) ∧ K ((a.put oi.dst v).put oj.dst u) w' := by
        unfold Out at h ⊢
        rw [execOp_put oj hsj a oi.dst v h1] at h
        exact h
      exact Out.mono h5 fun u w' h6 => ⟨h6.1, ⟨_, rfl⟩, by rw [← Act.put_comm a v u h2]; exact h6.2⟩
    · rename_i hst
      rw [if_neg hst, execOp_put oj hsj a oi.dst v h1] at h
      obtain ⟨u, h4, h5⟩ := h
      exact ⟨u, h4, ⟨_, rfl⟩, by rw [← Act.put_comm a v u h2]; exact h5⟩
  · rename_i hw
    rw [if_neg hw] at h
    exact ⟨⟨_, rfl⟩, by rw [← Act.put_comm a v undef h2]; exact h⟩

theorem YieldsX.put {oi oj : Oper} {v u : Value} {a : Act} (hap : oi.apart ops oj = true) (hsi : ∀ cs b, oi.op ≠ .select cs b) (hy : YieldsX P ops ch C oi v a) : YieldsX P ops ch C oi v (a.put oj.dst u) := by
  obtain ⟨_, _, h3⟩ := Oper.apart_spec hap
  unfold YieldsX at *
  rw [wanted_put oi a oj.dst u h3, execOp_put oi hsi a oj.dst u h3]
  exact hy

theorem not_on {listed : Array Bool} {i : Nat} {oj : Oper} (hr : i ∈ Region.ready .any ops listed) (hall : ∀ e ∈ oj.after, Region.binds .any e = true → listed.getD e.on false = true) : ∀ e ∈ oj.after, Region.binds .any e = true → e.on ≠ i := fun e he hb heq => by
  have h1 := hall e he hb
  have h0 := (mem_ready.1 hr).1
  rw [heq] at h1
  rcases Nat.lt_or_ge i listed.size with h' | h'
  · simp [h'] at h0 h1; rw [h0] at h1; cases h1
  · simp [Array.getElem?_eq_none h'] at h1

/-- A plain operation that may come up now may be taken first. -/
theorem pureX_first {Q : Act → World → Prop} {i : Nat} {oi : Oper} {v : Value} (hlast : ∀ l, last = some l → l ≠ i → ∃ ol, ops[l]? = some ol ∧ ∃ e, e ∈ ol.after ∧ Region.binds .any e = true ∧ e.on = i) (hi : ops[i]? = some oi) (hsel : ∀ (j : Nat) (o : Oper) cs b, ops[j]? = some o → o.op ≠ .select cs b) :
    ∀ (fuel : Nat) (listed : Array Bool) (a : Act) (w : World),
      (∀ j oj, ops[j]? = some oj → j ≠ i → listed.getD j true = false → (∀ e ∈ oj.after, Region.binds .any e = true → e.on ≠ i) → oi.apart ops oj = true) →
      i ∈ Region.ready .any ops listed → C w → YieldsX P ops ch C oi v a →
      wpAnyX P ops ch last C Q fuel (listed.setIfInBounds i true) (a.put oi.dst v) w → wpAnyX P ops ch last C Q (fuel + 1) listed a w := by
  intro fuel
  induction fuel with
  | zero =>
    intro listed a w _ hr hC hy H
    refine ⟨hC, fun h => (by rw [h] at hr; cases hr), fun j hj => ?_⟩
    by_cases hji : j = i
    · subst hji; exact hy.step hi H
    · have := ready_mono hj hji
      rw [H.1] at this
      cases this
  | succ fuel ih =>
    intro listed a w hfree hr hC hy H
    refine ⟨hC, fun h => (by rw [h] at hr; cases hr), fun j hj => ?_⟩
    by_cases hji : j = i
    · subst hji; exact hy.step hi H
    · have h1 := H.2.2 j (ready_mono hj hji)
      obtain ⟨hjun, oj, hoj, hall⟩ := mem_ready.1 hj
      have hap := hfree j oj hoj hji hjun (not_on hr hall)
      have h2 := stepX_put hoj hap (fun cs b => hsel j oj cs b hoj) h1
      have hfree' : ∀ k ok, ops[k]? = some ok → k ≠ i → (listed.setIfInBounds j true).getD k true = false →
          (∀ e ∈ ok.after, Region.binds .any e = true → e.on ≠ i) → oi.apart ops ok = true := fun k ok hk hki hun hno => by
        refine hfree k ok hk hki ?_ hno
        by_cases hjk : j = k
        · subst hjk; exact hjun
        · rw [getD_set_ne true hjk] at hun; exact hun
      have hjl : some j ≠ last := fun e => by
        obtain ⟨ol, hol, e', he', hb', ho'⟩ := hlast j e.symm hji
        rw [hoj] at hol
        cases hol
        exact not_on hr hall e' he' hb' ho'
      refine stepX_mono hjl hC (fun a' w' hC' h3 => ?_) h2
      obtain ⟨⟨u, rfl⟩, h3⟩ := h3
      refine ih (listed.setIfInBounds j true) _ w' hfree' (ready_mono hr (Ne.symm hji)) hC' (hy.put hap (fun cs b => hsel i oi cs b hi)) ?_
      rw [Array.setIfInBounds_comm _ _ hji]
      exact h3

/-- The next one of the chain, where it may come up, may be taken first: all others of the chain wait for it. -/
theorem call_first {Q : Act → World → Prop} {i : Nat} {oi : Oper} (hi : ops[i]? = some oi) (hci : ch oi = true) (hsel : ∀ (j : Nat) (o : Oper) cs b, ops[j]? = some o → o.op ≠ .select cs b)
    (D : Nat → Prop) (hDi : ¬ D i) (hD : ∀ j, D j → ∀ oj, ops[j]? = some oj → ∃ e, e ∈ oj.after ∧ Region.binds .any e = true ∧ (e.on = i ∨ D e.on)) :
    ∀ (fuel : Nat) (listed : Array Bool) (a : Act) (w : World),
      (∀ j oj, ops[j]? = some oj → j ≠ i → listed.getD j true = false → (∀ e ∈ oj.after, Region.binds .any e = true → e.on ≠ i) → oi.apart ops oj = true) →
      (∀ j, D j → listed.getD j false = false) →
      (∀ j oj, ops[j]? = some oj → j ≠ i → ch oj = true → listed.getD j true = false → D j) →
      i ∈ Region.ready .any ops listed → C w → Region.wanted oi (yielded ops a.tmps) = true →
      Out P oi a w (fun v w' => (C w' ∨ some i = last) ∧ wpAnyX P ops ch last C Q fuel (listed.setIfInBounds i true) (a.put oi.dst v) w') → wpAnyX P ops ch last C Q (fuel + 1) listed a w := by
  have own : ∀ (K : Act → World → Prop) (a : Act) (w : World), Region.wanted oi (yielded ops a.tmps) = true →
      Out P oi a w (fun v w' => (C w' ∨ some i = last) ∧ K (a.put oi.dst v) w') → stepX P ops ch last C i K a w := by
    intro K a w hw hK
    unfold stepX
    simp only [hi]
    rw [if_pos hw, if_pos hci]
    exact hK
  intro fuel
  induction fuel with
  | zero =>
    intro listed a w _ _ _ hr hC hw H
    refine ⟨hC, fun h => (by rw [h] at hr; cases hr), fun j hj => ?_⟩
    by_cases hji : j = i
    · subst hji; exact own _ _ _ hw H
    · have := ready_mono hj hji
      obtain ⟨v, w', _, h1⟩ := Out.sat H
      rw [h1.1] at this
      cases this
  | succ fuel ih =>
    intro listed a w hfree hun hord hr hC hw H
    refine ⟨hC, fun h => (by rw [h] at hr; cases hr), fun j hj => ?_⟩
    by_cases hji : j = i
    · subst hji; exact own _ _ _ hw H
    · obtain ⟨hjun, oj, hoj, hall⟩ := mem_ready.1 hj
      have hnot := not_on hr hall
      have hap := hfree j oj hoj hji hjun hnot
      have hnD : ¬ D j := fun hDj => by
        obtain ⟨e, he, hb, h4⟩ := hD j hDj oj hoj
        rcases h4 with h4 | h4
        · exact hnot e he hb h4
        · have h5 := hall e he hb
          rw [hun _ h4] at h5
          cases h5
      have hnc : ch oj = false := by
        cases hc : ch oj
        · rfl
        · exact absurd (hord j oj hoj hji hc hjun) hnD
      have hfree' : ∀ k ok, ops[k]? = some ok → k ≠ i → (listed.setIfInBounds j true).getD k true = false →
          (∀ e ∈ ok.after, Region.binds .any e = true → e.on ≠ i) → oi.apart ops ok = true := fun k ok hk hki hun hno => by
        refine hfree k ok hk hki ?_ hno
        by_cases hjk : j = k
        · subst hjk; exact hjun
        · rw [getD_set_ne true hjk] at hun; exact hun
      have hun' : ∀ k, D k → (listed.setIfInBounds j true).getD k false = false := fun k hk => by
        have hjk : j ≠ k := fun e => hnD (e ▸ hk)
        rw [getD_set_ne false hjk]
        exact hun k hk
      have hord' : ∀ k ok, ops[k]? = some ok → k ≠ i → ch ok = true → (listed.setIfInBounds j true).getD k true = false → D k := fun k ok hk hki hs hun => by
        refine hord k ok hk hki hs ?_
        by_cases hjk : j = k
        · subst hjk; exact hjun
        · rw [getD_set_ne true hjk] at hun; exact hun
      obtain ⟨_, _, h3⟩ := Oper.apart_spec hap
      have go : ∀ u, Out P oi a w (fun v w' => (C w' ∨ some i = last) ∧ wpAnyX P ops ch last C Q fuel ((listed.setIfInBounds i true).setIfInBounds j true) ((a.put oj.dst u).put oi.dst v) w') → wpAnyX P ops ch last C Q (fuel + 1) (listed.setIfInBounds j true) (a.put oj.dst u) w := fun u H' => by
        refine ih (listed.setIfInBounds j true) _ w hfree' hun' hord' (ready_mono hr (Ne.symm hji)) hC ?_ ?_
        · rw [wanted_put oi a oj.dst u h3]; exact hw
        · have H2 : Out P oi a w (fun v w' => (C w' ∨ some i = last) ∧ wpAnyX P ops ch last C Q fuel ((listed.setIfInBounds j true).setIfInBounds i true) ((a.put oj.dst u).put oi.dst v) w') :=
            H'.mono fun v w' h => ⟨h.1, by rw [Array.setIfInBounds_comm _ _ hji]; exact h.2⟩
          unfold Out at H2 ⊢
          rw [execOp_put oi (fun cs b => hsel i oi cs b hi) a oj.dst u h3]
          exact H2
      -- what each outcome says of j
      have key : ∀ v w', wpAnyX P ops ch last C Q (fuel + 1) (listed.setIfInBounds i true) (a.put oi.dst v) w' → C w' ∧ stepX P ops ch last C j (fun a' w2 => (∃ u, a' = a.put oj.dst u) ∧ wpAnyX P ops ch last C Q fuel ((listed.setIfInBounds i true).setIfInBounds j true) (a'.put oi.dst v) w2) a w' := fun v w' h1 =>
        ⟨h1.1, stepX_put hoj hap (fun cs b => hsel j oj cs b hoj) (h1.2.2 j (ready_mono hj hji))⟩
      unfold stepX
      simp only [hoj]
      by_cases hwj : Region.wanted oj (yielded ops a.tmps) = true
      · rw [if_pos hwj, if_neg (by rw [hnc]; decide)]
        obtain ⟨v0, w0, _, h1⟩ := Out.sat H
        obtain ⟨hC0, h2⟩ := key v0 w0 h1
        unfold stepX at h2
        simp only [hoj] at h2
        rw [if_pos hwj, if_neg (by rw [hnc]; decide)] at h2
        obtain ⟨u, h4, _⟩ := h2
        refine ⟨u, h4, go u (H.mono fun v w' h5 => ⟨h5.1, ?_⟩)⟩
        obtain ⟨hC1, h6⟩ := key v w' h5.2
        unfold stepX at h6
        simp only [hoj] at h6
        rw [if_pos hwj, if_neg (by rw [hnc]; decide)] at h6
        obtain ⟨u', h7, _, h8⟩ := h6
        have : u = u' := by
          have h9 := h4 w' hC1
          rw [h7 w' hC1] at h9
          cases h9
          rfl
        subst this
        exact h8
      · rw [if_neg hwj]
        refine go undef (H.mono fun v w' h5 => ⟨h5.1, ?_⟩)
        obtain ⟨_, h6⟩ := key v w' h5.2
        unfold stepX at h6
        simp only [hoj] at h6
        rw [if_neg hwj] at h6
        exact h6.2

/-- One order. fin: behind the last one the class is asked for no more. -/
def seqX (P : Program) (ops : Array Oper) (ch : Oper → Bool) (fin : Bool) (C : World → Prop) (Q : Act → World → Prop) : List Oper → Act → World → Prop
  | [], a, w => Q a w
  | o :: rest, a, w => C w ∧ ((ch o = true ∧ Region.wanted o (yielded ops a.tmps) = true ∧ Out P o a w fun v w' => (C w' ∨ (fin = true ∧ rest = [])) ∧ seqX P ops ch fin C Q rest (a.put o.dst v) w') ∨
      ∃ v, YieldsX P ops ch C o v a ∧ seqX P ops ch fin C Q rest (a.put o.dst v) w)

theorem behindF_spec : ∀ (l : List Oper) (k : Nat) (acc : List Nat), (∀ m o, l[m]? = some o → ops[k + m]? = some o) → ∀ j, j ∈ behindF l k acc →
    j ∈ acc ∨ (k ≤ j ∧ ∃ oj, ops[j]? = some oj ∧ ∃ e, e ∈ oj.after ∧ Region.binds .any e = true ∧ e.on ∈ behindF l k acc)
  | [], k, acc, _, j, hj => .inl hj
  | o :: l, k, acc, hl, j, hj => by
    simp only [behindF] at hj ⊢
    have h0 := hl 0 o rfl
    have hl' : ∀ m o', l[m]? = some o' → ops[k + 1 + m]? = some o' := fun m o' hm => by
      have := hl (m + 1) o' (by simpa using hm)
      rwa [show k + (m + 1) = k + 1 + m by omega] at this
    have sub : ∀ (l : List Oper) (k : Nat) (acc : List Nat) (x : Nat), x ∈ acc → x ∈ behindF l k acc := by
      intro l
      induction l with
      | nil => intro k acc x hx; exact hx
      | cons o l ih =>
        intro k acc x hx
        simp only [behindF]
        refine ih _ _ _ ?_
        split
        · exact List.mem_cons_of_mem _ hx
        · exact hx
    rcases behindF_spec l (k + 1) _ hl' j hj with h1 | ⟨h1, h2⟩
    · by_cases hdep : depOn o acc = true
      · rw [if_pos hdep] at h1
        rcases List.mem_cons.1 h1 with rfl | h1
        · refine .inr ⟨Nat.le_refl _, o, h0, ?_⟩
          unfold depOn at hdep
          rw [List.any_eq_true] at hdep
          obtain ⟨e, he, h3⟩ := hdep
          simp only [Bool.and_eq_true, memN, List.any_eq_true] at h3
          obtain ⟨h3, x, hx, h4⟩ := h3
          refine ⟨e, by simpa using he, h3, ?_⟩
          rw [Nat.eq_of_beq_eq_true h4]
          refine sub _ _ _ _ ?_
          split
          · exact List.mem_cons_of_mem _ hx
          · exact hx
        · exact .inl h1
      · rw [if_neg hdep] at h1; exact .inl h1
    · exact .inr ⟨by omega, h2⟩

theorem chainOrd_spec (h : chainOrd ch ops = true) {i : Nat} {oi : Oper} (hi : ops[i]? = some oi) (hci : ch oi = true) :
    ∃ D : Nat → Prop, (∀ j, D j → i < j) ∧ (∀ j, D j → ∀ oj, ops[j]? = some oj → ∃ e, e ∈ oj.after ∧ Region.binds .any e = true ∧ (e.on = i ∨ D e.on)) ∧
      ∀ j oj, ops[j]? = some oj → ch oj = true → i < j → D j := by
  have h1 := List.all_eq_true.1 h i (List.mem_range.2 (get_lt hi))
  simp only [hi, hci, Bool.not_true, Bool.false_or] at h1
  have hl : ∀ m o, (ops.toList.drop (i + 1))[m]? = some o → ops[i + 1 + m]? = some o := fun m o hm => by
    rw [List.getElem?_drop] at hm
    simpa using hm
  have hs := behindF_spec (ops := ops) (ops.toList.drop (i + 1)) (i + 1) [i] hl
  refine ⟨fun j => j ∈ behindF (ops.toList.drop (i + 1)) (i + 1) [i] ∧ j ≠ i, fun j hj => ?_, fun j hj oj hoj => ?_, fun j oj hoj hcj hij => ?_⟩
  · rcases hs j hj.1 with h2 | ⟨h2, _⟩
    · exact absurd (List.mem_singleton.1 h2) hj.2
    · omega
  · rcases hs j hj.1 with h2 | ⟨h2, oj', hoj', e, he, hb, h3⟩
    · exact absurd (List.mem_singleton.1 h2) hj.2
    · rw [hoj] at hoj'
      cases hoj'
      refine ⟨e, he, hb, ?_⟩
      by_cases hei : e.on = i
      · exact .inl hei
      · exact .inr ⟨h3, hei⟩
  · have h2 := List.all_eq_true.1 h1 j (List.mem_range.2 (get_lt hoj))
    simp only [hoj, hcj, Bool.not_true, Bool.false_or, Bool.or_eq_true] at h2
    rcases h2 with h2 | h2
    · have := Nat.le_of_ble_eq_true h2; omega
    · simp only [memN, List.any_eq_true] at h2
      obtain ⟨x, hx, h3⟩ := h2
      rw [Nat.eq_of_beq_eq_true h3]
      refine ⟨hx, ?_⟩
      have := Nat.eq_of_beq_eq_true h3
      omega

/-- The last one waits for all others. -/
theorem endAll_spec (h : endAll ops = true) (hl : lexFast ops ops.size = true) : ∀ l, (some (ops.size - 1)) = some l → ∀ i oi, ops[i]? = some oi → l ≠ i → ∃ ol, ops[l]? = some ol ∧ ∃ e, e ∈ ol.after ∧ Region.binds .any e = true ∧ e.on = i := by
  intro l hl2 i oi hi hne
  cases hl2
  unfold endAll at h
  split at h
  · rename_i o ho
    have hlt := get_lt hi
    exact ⟨o, ho, edgeOn_spec (List.all_eq_true.1 h i (List.mem_range.2 (by omega)))⟩
  · cases h

theorem wpAnyX_lex {fin : Bool} {Q : Act → World → Prop} (hl : lexFast ops ops.size = true) (ho : chainOrd ch ops = true) (hfin : fin = true → endAll ops = true) (hlast : last = if fin = true then some (ops.size - 1) else none) :
    ∀ (fuel k : Nat) (listed : Array Bool) (a : Act) (w : World), k + fuel = ops.size → LI ops k listed →
    seqX P ops ch fin C Q (ops.toList.drop k) a w → wpAnyX P ops ch last C Q fuel listed a w
  | 0, k, listed, a, w, hk, hL, h => by
    rw [List.drop_of_length_le (by simp; omega)] at h
    refine ⟨?_, h⟩
    apply List.eq_nil_iff_forall_not_mem.2
    intro j hj
    obtain ⟨hun, o, ho', _⟩ := mem_ready.1 hj
    rw [hL.getD (get_lt ho')] at hun
    have := get_lt ho'
    simp at hun
    omega
  | fuel + 1, k, listed, a, w, hk, hL, h => by
    have hk2 : k < ops.size := by omega
    obtain ⟨o, ho'⟩ : ∃ o, ops[k]? = some o := ⟨ops[k], Array.getElem?_eq_getElem hk2⟩
    have hd : ops.toList.drop k = o :: ops.toList.drop (k + 1) := by
      rw [List.drop_eq_getElem_cons (by simpa using hk2)]
      congr 1
      have := ho'
      rw [Array.getElem?_eq_getElem hk2] at this
      simpa using this
    rw [hd] at h
    have hns := Region.noSelect_spec (lexFast_spec hl).1
    rcases h with ⟨hC, ⟨hst, hw, hout⟩ | ⟨v, hy, hrest⟩⟩
    · obtain ⟨D, hD1, hD2, hD3⟩ := chainOrd_spec ho ho' hst
      refine call_first ho' hst hns D (fun h => Nat.lt_irrefl _ (hD1 k h)) hD2 fuel listed a w (hL.free hl ho') (fun j hj => ?_) (fun j oj hj hjk hcj hun => ?_) (hL.ready hl ho') hC hw (hout.mono fun v w' h5 => ⟨?_, ?_⟩)
      · rcases Nat.lt_or_ge j ops.size with h' | h'
        · rw [hL.getD h']
          have := hD1 j hj
          simp; omega
        · simp [hL.1, h']
      · rw [hL.getD (get_lt hj)] at hun
        have hkj : k < j := by
          have : ¬ j < k := by simpa using hun
          omega
        exact hD3 j oj hj hcj hkj
      · rcases h5.1 with h6 | ⟨h6, h7⟩
        · exact .inl h6
        · refine .inr ?_
          rw [hlast, if_pos h6]
          have := congrArg List.length h7
          simp at this
          congr 1
          omega
      · exact wpAnyX_lex hl ho hfin hlast fuel (k + 1) _ _ w' (by omega) (hL.step hk2) h5.2
    · refine pureX_first (fun l hll hne => ?_) ho' hns fuel listed a w (hL.free hl ho') (hL.ready hl ho') hC hy (wpAnyX_lex hl ho hfin hlast fuel (k + 1) _ _ w (by omega) (hL.step hk2) hrest)
      cases fin with
      | false => rw [hlast] at hll; cases hll
      | true =>
        rw [hlast, if_pos rfl] at hll
        exact endAll_spec (hfin rfl) hl l hll k o ho' hne

/-- **A region that draws its order**: plain operations, and a chain in one order. -/
theorem wp_region_chain {fin : Bool} {id : Nat} {Q : Exit → Act → World → Prop} {a : Act} {w : World} (hm : P.follows .mixedOrders = true) (hl : lexFast ops ops.size = true) (ho : chainOrd ch ops = true) (hfin : fin = true → endAll ops = true)
    (h : seqX P ops ch fin C (fun a w => Q .normal a w) ops.toList a { w with drawn := w.drawn + 1 }) : (Code.region id ops true).wp P Q a w := by
  refine wp_region_any hm ?_
  exact wpAny_of_X (fun _ _ h => h) _ _ _ _ (wpAnyX_lex hl ho hfin rfl ops.size 0 _ a _ (by omega) LI.start (by simpa using h))
end

/-! ### What the run says of such a region -/

section
variable {P : Program} {G : World → Prop} {sig : List (Nat × List Sh × List Sh)} {Γ : Cx} {W : Base}

/-- The class: own blocks that are no objects hold what they held. -/
def CX (ρ0 : Env) (σ0 : Nat → Value) (β0 : Nat → Nat) (O0 : List (TypeId × List CV)) (w : World) : Prop :=
  (∀ (k : Nat) t cs, O0[k]? = some (t, cs) → isTag t = false → w.heap[β0 k]? = some (.cells (cs.map (CV.val ρ0 σ0 β0)).toArray t (0, 0))) ∧ ∀ k, k < O0.length → β0 k < w.heap.size

theorem inertO_get {O : List (TypeId × List CV)} {k : Nat} {t : TypeId} {cs : List CV} (h : (inertO O)[k]? = some (t, cs)) : ∃ t' cs', O[k]? = some (t', cs') ∧ ((isTag t' = true ∧ t = tagB ∧ cs = []) ∨ (isTag t' = false ∧ t = t' ∧ cs = cs')) := by
  unfold inertO at h
  rw [List.getElem?_map] at h
  cases e : O[k]? with
  | none => rw [e] at h; cases h
  | some x =>
    rw [e] at h
    simp only [Option.map_some, Option.some.injEq] at h
    refine ⟨x.1, x.2, rfl, ?_⟩
    cases ht : isTag x.1 with
    | true =>
      rw [if_pos ht] at h
      cases h
      exact .inl ⟨rfl, rfl, rfl⟩
    | false =>
      rw [if_neg (by rw [ht]; decide)] at h
      subst h
      exact .inr ⟨rfl, rfl, rfl⟩
theorem inertO_len {O : List (TypeId × List CV)} : (inertO O).length = O.length := by simp [inertO]

/-- What stays of the region's start. -/
structure InvX (n0 : Nat) (ρ0 : Env) (σ0 : Nat → Value) (β0 : Nat → Nat) (O0 : List (TypeId × List CV)) (ρ : Env) (σ : Nat → Value) (β : Nat → Nat) (st : St) : Prop where
  env : agree n0 ρ0 ρ
  slc : agree n0 σ0 σ
  blk : agree O0.length β0 β
  own : ∀ (k : Nat) t cs, O0[k]? = some (t, cs) → isTag t = false → st.own[k]? = some (t, cs)
  len : O0.length ≤ st.own.length
  n : n0 ≤ st.n

/-- The length of a slice. -/
theorem lenX_ok {ρ : Env} {σ : Nat → Value} {β : Nat → Nat} {st : St} {a : Act} {w : World} (hR : Rel W ρ σ β st a w) {g : Gd} (hg : Gd.holds ρ g) {o : Oper} {l : Nat} (h : lenX P st g o = some l) :
    ∀ w2, (execOp a.eval o).run P w2 = .ok (.value ((SV.tv (.one (.int .i64 (.len l)))).val ρ σ β)) w2 := by
  unfold lenX at h
  split at h
  · rename_i c0 ho
    split at h
    · rename_i hb
      split at h
      · rename_i t x ht hx0
        split at h
        · rename_i el l' hu hcell
          split at h
          · rename_i ek hl
            have hll : l' = l := by injection h
            subst hll
            intro w2
            obtain ⟨base, cap, h1, _⟩ := hR.2.lists _ (listOf_mem hl)
            have hxv : a.eval x = .slice base (ρ l').lv.len cap := by
              rw [cell_ok hR.1 hg hcell]
              simp only [CV.val]
              rw [h1]
              rfl
            have h1 : c0.argTypes = #[t] := by rw [← Array.toArray_toList (xs := c0.argTypes), ht]
            have h2 : c0.args = #[x] := by rw [← Array.toArray_toList (xs := c0.args), hx0]
            simp [execOp, ho, hb, h1, h2, resolve, invoke, builtin, Builtin.len_, run_underlying hu, hxv, goInt, SV.val, TV.val, CV.val, Ex.int_len]
          · cases h
        · cases h
      · cases h
    · cases h
  · cases h

section
variable {n0 : Nat} {ρ0 : Env} {σ0 : Nat → Value} {β0 : Nat → Nat} {O0 : List (TypeId × List CV)} (hsc : ∀ x, x ∈ O0 → x.2.all (CV.scp n0 O0.length) = true)
include hsc

theorem InvX.cx {ρ : Env} {σ : Nat → Value} {β : Nat → Nat} {st : St} {a : Act} {w : World} (hI : InvX n0 ρ0 σ0 β0 O0 ρ σ β st) (hR : Rel W ρ σ β st a w) : CX ρ0 σ0 β0 O0 w := by
  refine ⟨fun k t cs hk ht => ?_, fun k hk => ?_⟩
  · have h1 := hR.2.own k t cs (hI.own k t cs hk ht) ht
    rw [← hI.blk k (lt_of_get hk), h1, cvs_agree hI.env hI.slc hI.blk (hsc _ (List.mem_of_getElem? hk))]
  · rw [← hI.blk k hk]
    exact own_lt hR.2 (Nat.lt_of_lt_of_le hk hI.len)

theorem InvX.wok {ρ : Env} {σ : Nat → Value} {β : Nat → Nat} {st : St} {a : Act} {w w2 : World} (hI : InvX n0 ρ0 σ0 β0 O0 ρ σ β st) (hR : Rel W ρ σ β st a w) (hC : CX ρ0 σ0 β0 O0 w2) :
    WOk ⟨w2, (List.range O0.length).map β, []⟩ ρ σ β (inertO O0) [] w2 := by
  refine ⟨BelowX.refl _ _, fun k t cs hk ht => ?_, fun k t cs hk ht => ?_, fun j k hj hk e => ?_, fun k t cs hk hr => ?_, fun p hp => by simp at hp, fun l T K hm he => by simp at hm, fun i b hi => by simp at hi, Nat.zero_le _, fun p q hp => by simp at hp⟩
  · obtain ⟨t', cs', h1, ⟨h2, rfl, rfl⟩ | ⟨h2, rfl, rfl⟩⟩ := inertO_get hk
    · rw [show isTag tagB = true from isTag_tag 0] at ht; cases ht
    · rw [hI.blk k (lt_of_get h1), cvs_agree hI.env hI.slc hI.blk (hsc _ (List.mem_of_getElem? h1))]
      exact hC.1 k _ _ h1 h2
  · obtain ⟨t', cs', h1, ⟨h2, rfl, rfl⟩ | ⟨h2, rfl, rfl⟩⟩ := inertO_get hk
    · exact .inl ⟨clsOf_tag (c := 0) (by decide), rfl, by rw [hI.blk k (lt_of_get h1)]; exact hC.2 k (lt_of_get h1)⟩
    · rw [h2] at ht; cases ht
  · rw [inertO_len] at hj hk
    exact hR.2.inj j k (Nat.lt_of_lt_of_le hj hI.len) (Nat.lt_of_lt_of_le hk hI.len) e
  · have hlt := lt_of_get hk
    rw [inertO_len] at hlt
    exact .inr (List.mem_map.2 ⟨k, List.mem_range.2 hlt, rfl⟩)

theorem float_ok {ρ : Env} {σ : Nat → Value} {β : Nat → Nat} {st : St} {a : Act} {w : World} (hI : InvX n0 ρ0 σ0 β0 O0 ρ σ β st) (hR : Rel W ρ σ β st a w) {g : Gd} (hg : Gd.holds ρ g) {o : Oper} {v : SV} {obs : List Ex}
    (h : floatStep P sig O0 st g o = some (v, obs)) (hob : ∀ e, e ∈ obs → e.bool ρ = true) : ∀ w2, CX ρ0 σ0 β0 O0 w2 → (execOp a.eval o).run P w2 = .ok (.value (v.val ρ σ β)) w2 := by
  unfold floatStep at h
  split at h
  · rename_i v' obs' hs
    split at h
    · rename_i hv
      cases h
      intro w2 hC
      have hT' : TOk ρ σ β { st with own := inertO O0, lists := [] } a := ⟨hR.1.size, hR.1.slot, hR.1.defers, hR.1.pc⟩
      obtain ⟨val, h1, h2⟩ := step_ok (W := ⟨w2, (List.range O0.length).map β, []⟩) hT' hg hs hob
      rcases h1 with h1 | h1
      · rw [h1] at hv; cases hv
      · rw [h2 w2 (hI.wok hsc hR hC), h1]
    · cases h
  · cases h
  · split at h
    · rename_i l hl
      cases h
      intro w2 _
      exact lenX_ok hR hg hl w2
    · cases h
end

theorem wrapO_some {its : List It} {x : Option Fm} {φ : Fm} (h : wrapO its x = some φ) : ∃ ψ, x = some ψ ∧ φ = wrapItems its ψ := by
  cases x with
  | none => cases h
  | some ψ => cases h; exact ⟨ψ, rfl, rfl⟩

theorem chain_ok (hst : Stable G) (hG : GOk G W) (hΓ : SigOk P G sig Γ) {ops : Array Oper} {n0 : Nat} {ρ0 : Env} {σ0 : Nat → Value} {β0 : Nat → Nat} {O0 : List (TypeId × List CV)} (hsc : ∀ x, x ∈ O0 → x.2.all (CV.scp n0 O0.length) = true)
    {Q : Act → World → Prop} : ∀ (n : Nat) (l : List Oper) (st : St) (K : St → Option Fm) (φ : Fm), execX P sig ops O0 n l st K = some φ →
    ∀ (ρ : Env) (σ : Nat → Value) (β : Nat → Nat) (a : Act) (w : World), φ.holds Γ ρ → Rel W ρ σ β st a w → InvX n0 ρ0 σ0 β0 O0 ρ σ β st →
    (∀ st' φ' ρ' σ' β' a' w', K st' = some φ' → φ'.holds Γ ρ' → agree n0 ρ0 ρ' → n0 ≤ st'.n → Rel W ρ' σ' β' st' a' w' → Q a' w') → seqX P ops isCallF false (CX ρ0 σ0 β0 O0) Q l a w := by
  intro n
  induction n with
  | zero =>
    intro l st K φ h ρ σ β a w hφ hR hI hk
    cases l with
    | nil =>
      simp only [execX] at h
      exact hk st φ ρ σ β a w h hφ hI.env hI.n hR
    | cons o l => simp [execX] at h
  | succ n ih =>
    intro l st K φ h ρ σ β a w hφ hR hI hk
    cases l with
    | nil =>
      simp only [execX] at h
      exact hk st φ ρ σ β a w h hφ hI.env hI.n hR
    | cons o l =>
      have hC := hI.cx hsc hR
      simp only [execX] at h
      split at h
      · cases h
      · rename_i g0 hg0
        have hwant := guard_ok hR.1 hg0
        split at h
        · rename_i hd
          have hnw : Region.wanted o (yielded ops a.tmps) = false := by
            rw [← Bool.not_eq_true]
            exact fun hh => deadP_ok hR.1.pc hd (hwant.1 hh)
          have hp := put_n st o.dst (g0, SV.tv (.one (.bool (.t false))))
          refine ⟨hC, .inr ⟨undef, .inr ⟨hnw, rfl⟩, ?_⟩⟩
          exact ih l _ K φ h ρ σ β _ w hφ (hR.deadG o.dst (deadP_ok hR.1.pc hd)) ⟨hI.env, hI.slc, hI.blk, by rw [hp.2.1]; exact hI.own, by rw [hp.2.1]; exact hI.len, by rw [hp.1]; exact hI.n⟩ hk
        · generalize hxs : stepXs P sig O0 st (thinP st g0) o = xs at h
          cases xs with
          | bad => cases h
          | fork =>
            simp only at h
            unfold forkOn at h
            split at h
            · cases h
            · rename_i p g1 hgp
              split at h
              · rename_i φ1 φ2 e1 e2
                cases h
                obtain ⟨h3, h4⟩ := hφ
                by_cases hb : p.1.bool ρ = p.2
                · have h5 := (strip_bool ρ p.1 p.2).2 hb
                  exact ih (o :: l) _ K φ1 e1 ρ σ β a w (h3 h5) ⟨hR.1.more h5, hR.2⟩ ⟨hI.env, hI.slc, hI.blk, hI.own, hI.len, hI.n⟩ hk
                · have h5 := (strip_bool ρ p.1 (!p.2)).2 (by cases h6 : p.2 <;> cases h7 : p.1.bool ρ <;> simp_all)
                  exact ih (o :: l) _ K φ2 e2 ρ σ β a w (h4 h5) ⟨hR.1.more h5, hR.2⟩ ⟨hI.env, hI.slc, hI.blk, hI.own, hI.len, hI.n⟩ hk
              · cases h
          | ocall s =>
            simp only at h
            obtain ⟨ψ, e1, rfl⟩ := wrapO_some h
            have hs : oStep sig st (thinP st g0) o = some s ∧ notNilNew s.rs = true ∧ isCallF o = true := by
              unfold stepXs at hxs
              split at hxs
              · rename_i hcf
                split at hxs
                · rename_i s' hs
                  split at hxs
                  · rename_i hnn
                    cases hxs
                    exact ⟨hs, hnn, hcf⟩
                  · cases hxs
                · split at hxs
                  · split at hxs <;> cases hxs
                  · cases hxs
              · split at hxs
                · split at hxs <;> cases hxs
                · cases hxs
            obtain ⟨hs, hnn, hcf⟩ := hs
            obtain ⟨_, _, _, _, _, _, hnil, _, _, hscp, hargs⟩ := oStep_ok hs
            have hg : Gd.holds ρ (thinP st g0) := isNil_holds hnil
            obtain ⟨hp, h3⟩ := hφ
            obtain ⟨f, vs, h4, h5⟩ := o_core hst hG hΓ hR hs (hp (holds_nil' ρ))
            refine ⟨hC, .inl ⟨hcf, hwant.2 ((thinP_ok hR.1.pc).1 hg), .inl ⟨f, vs, h4, h5.mono ?_⟩⟩⟩
            rintro e w' ⟨v, rfl, isnil, σ', β', h6, h7, h8, h9⟩
            refine ⟨v, rfl, ?_⟩
            have hf : isnil = false := by
              unfold OCond at h8
              unfold notNilNew at hnn
              split at h8
              · rename_i c nb hn
                rw [hn] at hnn
                cases isnil with
                | false => rfl
                | true =>
                  rw [(h8.1 rfl).1] at hnn
                  cases hnn
              · exact h8
            subst hf
            have hag := agree_push ρ st.n ((Γ.ctr s.f).fn (s.args.map (Ax.ev ρ)))
            have hle : st.n ≤ oN st s := by unfold oN; split <;> omega
            have hI' : InvX n0 ρ0 σ0 β0 O0 (push ρ st.n ((Γ.ctr s.f).fn (s.args.map (Ax.ev ρ)))) σ' β' (oSt st o.dst s false) := by
             refine ⟨agree_trans hI.env hag hI.n, agree_trans hI.slc h6 hI.n, agree_trans hI.blk h7 hI.len, fun k t cs hk ht => ?_, ?_, ?_⟩
             · show (oOwn st s ++ oNew s.rs (oN st s) false)[k]? = some (t, cs)
               have h10 := hI.own k t cs hk ht
               have hlt := lt_of_get h10
               have hlen : (oOwn st s).length = st.own.length := by
                 unfold oOwn
                 split
                 · rw [setAt_length]
                 · rfl
               rw [List.getElem?_append_left (by rw [hlen]; exact hlt)]
               obtain ⟨F, _, _, _, v4⟩ := o_args hR.1 hg hR.2 hargs
               rcases v4 with ⟨b, u, l, hs1, _, _, hc, htg, hro, hb⟩ | ⟨hs1, _, _⟩
               · have e2 : oOwn st s = setAt st.own b (u, [.lst st.n]) := by unfold oOwn; rw [hs1]
                 rw [e2, setAt_get, if_neg (fun e => ?_)]
                 · exact h10
                 · rw [e, hb] at h10
                   cases h10
                   rw [htg] at ht; cases ht
               · have e2 : oOwn st s = st.own := by unfold oOwn; rw [hs1]
                 rw [e2]
                 exact h10
             · show O0.length ≤ (oOwn st s ++ oNew s.rs (oN st s) false).length
               have hlen : (oOwn st s).length = st.own.length := by
                 unfold oOwn
                 split
                 · rw [setAt_length]
                 · rfl
               rw [List.length_append, hlen]
               exact Nat.le_trans hI.len (Nat.le_add_right ..)
             · show n0 ≤ oN st s + (shCells s.rs).length
               have := hI.n
               omega
            exact ⟨.inl (hI'.cx hsc h9), ih l _ K ψ e1 _ σ' β' _ w' h3 h9 hI' hk⟩
          | pcall f args res st1 its =>
            simp only at h
            obtain ⟨ψ, e1, rfl⟩ := wrapO_some h
            have hs : isCallF o = true ∧ stepOp P sig st (thinP st g0) o = some (.call f args res) ∧ applyStep false st (thinP st g0) o.dst (.call f args res) = some (st1, its) := by
              unfold stepXs at hxs
              split at hxs
              · rename_i hcf
                split at hxs
                · split at hxs <;> cases hxs
                · split at hxs
                  · rename_i f' args' res' hcs
                    split at hxs
                    · rename_i hap
                      cases hxs
                      refine ⟨hcf, ?_, hap⟩
                      unfold callStep at hcs
                      split at hcs
                      · rename_i hs
                        cases hcs
                        exact hs
                      · cases hcs
                    · cases hxs
                  · cases hxs
              · split at hxs
                · split at hxs <;> cases hxs
                · cases hxs
            obtain ⟨hcf, hs, hap⟩ := hs
            obtain ⟨hi1, hi2⟩ := wrap_holds hφ
            have hst1 : st1.own = st.own := by
              simp only [applyStep] at hap
              split at hap
              · cases hap
              · split at hap
                · cases hap
                · simp only [Option.some.injEq, Prod.mk.injEq] at hap
                  rw [← hap.1]
                  exact (put_n _ _ _).2.1
            by_cases hg : Gd.holds ρ (thinP st g0)
            · obtain ⟨f', vs, h4, h5⟩ := call_core hst hG hΓ hR hg (step_ok hR.1 hg hs) hap hi1
              refine ⟨hC, .inl ⟨hcf, hwant.2 ((thinP_ok hR.1.pc).1 hg), .inl ⟨f', vs, h4, h5.mono ?_⟩⟩⟩
              rintro e w' ⟨v, rfl, σ', h6, h7, h8, h9⟩
              refine ⟨v, rfl, ?_⟩
              have hI' : InvX n0 ρ0 σ0 β0 O0 (itsEnv Γ its ρ) σ' β st1 := ⟨agree_trans hI.env h7 hI.n, agree_trans hI.slc h6 hI.n, hI.blk, by rw [hst1]; exact hI.own, by rw [hst1]; exact hI.len, Nat.le_trans hI.n h8⟩
              exact ⟨.inl (hI'.cx hsc h9), ih l _ K ψ e1 _ σ' β _ w' hi2 h9 hI' hk⟩
            · have hnw : Region.wanted o (yielded ops a.tmps) = false := by
                rw [← Bool.not_eq_true]
                exact fun hh => hg ((thinP_ok hR.1.pc).2 (hwant.1 hh))
              obtain ⟨h1, h2, h3⟩ := apply_not (Γ := Γ) hR (o := o) hg hap
              refine ⟨hC, .inr ⟨undef, .inr ⟨hnw, rfl⟩, ?_⟩⟩
              exact ih l _ K ψ e1 _ σ β _ w hi2 h3 ⟨agree_trans hI.env h1 hI.n, hI.slc, hI.blk, by rw [hst1]; exact hI.own, by rw [hst1]; exact hI.len, Nat.le_trans hI.n h2⟩ hk
          | float v obs st1 its =>
            simp only at h
            obtain ⟨ψ, e1, rfl⟩ := wrapO_some h
            have hs : isCallF o = false ∧ floatStep P sig O0 st (thinP st g0) o = some (v, obs) ∧ applyStep false st (thinP st g0) o.dst (.pure v obs) = some (st1, its) := by
              unfold stepXs at hxs
              split at hxs
              · split at hxs
                · split at hxs <;> cases hxs
                · split at hxs
                  · split at hxs <;> cases hxs
                  · cases hxs
              · rename_i hcf
                split at hxs
                · rename_i v' obs' hfs
                  split at hxs
                  · rename_i hap
                    cases hxs
                    exact ⟨by simpa using hcf, hfs, hap⟩
                  · cases hxs
                · cases hxs
            obtain ⟨hcf, hs, hap⟩ := hs
            obtain ⟨hi1, hi2⟩ := wrap_holds hφ
            simp only [applyStep, Option.some.injEq, Prod.mk.injEq] at hap
            obtain ⟨h1, h2⟩ := hap
            subst h2
            have hp := put_n st o.dst (thinP st g0, v)
            rw [env_ob] at hi2
            by_cases hg : Gd.holds ρ (thinP st g0)
            · have hl := its_ob hi1 hg
              have hob := needAll_ok hR.1.pc hg hl
              refine ⟨hC, .inr ⟨v.val ρ σ β, .inl ⟨hwant.2 ((thinP_ok hR.1.pc).1 hg), hcf, float_ok hsc hI hR hg hs hob⟩, ?_⟩⟩
              have hT' : TOk ρ σ β (st.put o.dst (thinP st g0, v)) (a.put o.dst (v.val ρ σ β)) := hR.1.put o.dst (.inr (.inl ⟨hg, rfl⟩))
              have hw' : WOk W ρ σ β (st.put o.dst (thinP st g0, v)).own (st.put o.dst (thinP st g0, v)).lists w := by rw [hp.2.1, hp.2.2.1]; exact hR.2
              refine ih l _ K ψ e1 _ σ β _ w hi2 ?_ ⟨hI.env, hI.slc, hI.blk, ?_, ?_, ?_⟩ hk
              · subst h1
                split
                · exact ⟨TOk.pcAdd hT' hl, hw'⟩
                · exact ⟨hT', hw'⟩
              · subst h1
                split
                · show ∀ k t cs, _ → _ → (st.put o.dst (thinP st g0, v)).own[k]? = _
                  rw [hp.2.1]; exact hI.own
                · rw [hp.2.1]; exact hI.own
              · subst h1
                split
                · show _ ≤ (st.put o.dst (thinP st g0, v)).own.length
                  rw [hp.2.1]; exact hI.len
                · rw [hp.2.1]; exact hI.len
              · subst h1
                split
                · show _ ≤ (st.put o.dst (thinP st g0, v)).n
                  rw [hp.1]; exact hI.n
                · rw [hp.1]; exact hI.n
            · have hnw : Region.wanted o (yielded ops a.tmps) = false := by
                rw [← Bool.not_eq_true]
                exact fun hh => hg ((thinP_ok hR.1.pc).2 (hwant.1 hh))
              have hnn : isNil (thinP st g0) = false := by
                cases e : isNil (thinP st g0) with
                | false => rfl
                | true => exact absurd (isNil_holds e) hg
              rw [hnn] at h1
              simp only [Bool.false_eq_true, if_false] at h1
              subst h1
              refine ⟨hC, .inr ⟨undef, .inr ⟨hnw, rfl⟩, ?_⟩⟩
              exact ih l _ K ψ e1 _ σ β _ w hi2 (hR.deadG o.dst hg) ⟨hI.env, hI.slc, hI.blk, by rw [hp.2.1]; exact hI.own, by rw [hp.2.1]; exact hI.len, by rw [hp.1]; exact hI.n⟩ hk

theorem calls_ok (hm : P.follows .mixedOrders = true) (hst : Stable G) (hG : GOk G W) (hΓ : SigOk P G sig Γ) {id : Nat} {ops : Array Oper} {st : St} {K : St → Option Fm} {φ : Fm} (h : execCalls P sig ops st K = some φ)
    {ρ : Env} {σ : Nat → Value} {β : Nat → Nat} {a : Act} {w : World} {Q : Exit → Act → World → Prop} (hφ : φ.holds Γ ρ) (hR : Rel W ρ σ β st a w)
    (hK : ∀ st' φ' ρ' σ' β' a' w', K st' = some φ' → φ'.holds Γ ρ' → agree st.n ρ ρ' → st.n ≤ st'.n → Rel W ρ' σ' β' st' a' w' → Q .normal a' w') : (Code.region id ops true).wp P Q a w := by
  unfold execCalls at h
  split at h
  · rename_i hc
    simp only [Bool.and_eq_true] at hc
    obtain ⟨_, h6, _, _⟩ := st_scp hc.2
    refine wp_region_chain (ch := isCallF) (fin := false) (C := CX ρ σ β st.own) hm hc.1.1 hc.1.2 (fun h => by cases h) ?_
    refine chain_ok hst hG hΓ (n0 := st.n) h6 _ ops.toList st K φ h ρ σ β a _ hφ ⟨hR.1, hR.2.drew⟩ ⟨agree_refl _ _, agree_refl _ _, agree_refl _ _, fun _ _ _ h _ => h, Nat.le_refl _, Nat.le_refl _⟩ ?_
    intro st' φ' ρ' σ' β' a' w' h1 h2 h3 h4 h5
    exact hK st' φ' ρ' σ' β' a' w' h1 h2 h3 h4 h5
  · cases h

/-! ### A region with a map's entry -/

theorem w_same {ρ : Env} {σ : Nat → Value} {β : Nat → Nat} {st : St} {w : World} (hw : WOk W ρ σ β st.own st.lists w) {b l i : Nat} {u : TypeId} (hr : risOf st b = some (u, l)) (hro : isRO u = false) (hi : i = 1 ∨ i = 2) {ob : Obj}
    (hm : MapAt (ChangeMaps.setBlock w (β (b + i)) ob).heap (β (b + i)) (mapF (ρ l).lv i)) : WOk W ρ σ β st.own st.lists (ChangeMaps.setBlock w (β (b + i)) ob) := by
  obtain ⟨g1, g2, g3⟩ := risOf_ok hr
  have hobj := (obj_at hw g2 (by rw [g3]; decide) g1).1
  rw [g3] at hobj
  obtain ⟨hnd, t, hc, hm1, hm2⟩ := isObj4.1 hobj
  have hother : ∀ k, k ≠ β (b + i) → (ChangeMaps.setBlock w (β (b + i)) ob).heap[k]? = w.heap[k]? := fun k hk => by
    unfold ChangeMaps.setBlock
    simp [Array.getElem?_setIfInBounds_ne (Ne.symm hk)]
  have n0 : β b ≠ β (b + 1) ∧ β b ≠ β (b + 2) ∧ β (b + 1) ≠ β (b + 2) := by
    rw [feet4] at hnd
    simp only [List.nodup_cons, List.mem_cons, List.not_mem_nil, or_false, not_or, not_false_eq_true, List.nodup_nil, and_true] at hnd
    exact ⟨hnd.1.1, hnd.1.2, hnd.2⟩
  have hset : setAt st.own b (u, [.lst l]) = st.own := by
    apply List.ext_getElem?
    intro k
    rw [setAt_get]
    split
    · rename_i hk
      subst hk
      rw [if_pos (lt_of_get g1), g1]
    · rfl
  have := hw.omut (n := l) (w' := ChangeMaps.setBlock w (β (b + i)) ob) g2 (by rw [g3]; decide) hro g1 ⟨rfl, rfl, rfl, by unfold ChangeMaps.setBlock; simp, fun j hj hm => hother j fun e => hm ?_⟩ ?_
  · rwa [hset] at this
  · rw [g3, feet4, e]
    rcases hi with rfl | rfl <;> simp
  · rw [g3]
    refine isObj4.2 ⟨hnd, t, ?_, ?_, ?_⟩
    · rw [hother _ (by rcases hi with rfl | rfl; exact n0.1; exact n0.2.1)]
      exact hc
    · rcases hi with rfl | rfl
      · exact hm
      · exact hm1.frame (hother _ n0.2.2)
    · rcases hi with rfl | rfl
      · exact hm2.frame (hother _ (Ne.symm n0.2.2))
      · exact hm

theorem pureE_ok {ep : Option EP} {st : St} {o : Oper} {v : SV} {obs : List Ex} {st1 : St} {its : List It} (h : pureE P sig ep st o = .pure v obs st1 its) :
    stepOp P sig st [] o = some (.pure v obs) ∧ notAny v = true ∧ isME o = false ∧ dstNot o ep = true ∧ applyStep false st [] o.dst (.pure v obs) = some (st1, its) := by
  unfold pureE at h
  split at h
  · rename_i v' obs' hs
    split at h
    · rename_i hc
      simp only [Bool.and_eq_true, Bool.not_eq_true'] at hc
      split at h
      · rename_i hap
        cases h
        exact ⟨hs, hc.1.1, hc.1.2, hc.2, hap⟩
      · cases h
    · cases h
  · cases h
theorem pureE_only {ep : Option EP} {st : St} {o : Oper} : (∃ v obs st1 its, pureE P sig ep st o = .pure v obs st1 its) ∨ pureE P sig ep st o = .bad := by
  unfold pureE
  split
  · split
    · split
      · exact .inl ⟨_, _, _, _, rfl⟩
      · exact .inr rfl
    · exact .inr rfl
  · exact .inr rfl

section
variable {ρ : Env} {σ : Nat → Value} {β : Nat → Nat} {O : List (TypeId × List CV)} {L : List (Nat × List EK)} {ops : Array Oper} {Q : Act → World → Prop} {n : Nat}

/-- A plain operation. -/
theorem pureE_go {ep : Option EP} {st : St} {o : Oper} {v : SV} {obs : List Ex} {st1 : St} {its : List It} (h : pureE P sig ep st o = .pure v obs st1 its) (hg : noG o = true) {a : Act} (hT : TOk ρ σ β st a) (hO : st.own = O) (hL : st.lists = L) (hn : st.n = n)
    {ψ : Fm} (hφ : (wrapItems its ψ).holds Γ ρ) :
    ψ.holds Γ ρ ∧ YieldsX P ops isME (WOk W ρ σ β O L) o (v.val ρ σ β) a ∧ TOk ρ σ β st1 (a.put o.dst (v.val ρ σ β)) ∧ st1.own = O ∧ st1.lists = L ∧ st1.n = n := by
  obtain ⟨hs, hv, hme, _, hap⟩ := pureE_ok h
  obtain ⟨hi1, hi2⟩ := wrap_holds hφ
  simp only [applyStep, Option.some.injEq, Prod.mk.injEq] at hap
  obtain ⟨h1, h2⟩ := hap
  subst h2
  rw [env_ob] at hi2
  have hl := its_ob hi1 (holds_nil' ρ)
  have hob := needAll_ok hT.pc (holds_nil' ρ) hl
  obtain ⟨val, h3, h4⟩ := step_ok (W := W) hT (holds_nil' ρ) hs hob
  have hval : val = v.val ρ σ β := by
    rcases h3 with h3 | h3
    · rw [h3] at hv; cases hv
    · exact h3
  have hp := put_n st o.dst ([], v)
  have hT' : TOk ρ σ β (st.put o.dst ([], v)) (a.put o.dst (v.val ρ σ β)) := hT.put o.dst (.inr (.inl ⟨holds_nil' ρ, rfl⟩))
  refine ⟨hi2, .inl ⟨noG_wanted hg (fun _ => true) ops a, hme, fun w hw => ?_⟩, ?_⟩
  · rw [h4 w (by rw [hO, hL]; exact hw), hval]
  · subst h1
    split
    · exact ⟨TOk.pcAdd hT' hl, by show (st.put o.dst ([], v)).own = O; rw [hp.2.1, hO], by show (st.put o.dst ([], v)).lists = L; rw [hp.2.2.1, hL], by show (st.put o.dst ([], v)).n = n; rw [hp.1, hn]⟩
    · exact ⟨hT', by rw [hp.2.1, hO], by rw [hp.2.2.1, hL], by rw [hp.1, hn]⟩

theorem eval_other {a : Act} {o : Oper} {t : Nat} {v : Value} (h : ∀ d, o.dst = some d → d ≠ t) : (a.put o.dst v).eval (.tmp t) = a.eval (.tmp t) := by
  cases hd : o.dst with
  | none => rfl
  | some d =>
    have hne := h d hd
    show (a.tmps.setIfInBounds d v).getD t undef = a.tmps.getD t undef
    rw [Array.getD_eq_getD_getElem?, Array.getD_eq_getD_getElem?, Array.getElem?_setIfInBounds_ne hne]
theorem dstNot_spec {o : Oper} {e : EP} (h : dstNot o (some e) = true) : (∀ d, o.dst = some d → d ≠ e.d1) ∧ ∀ d2, e.d2 = some d2 → ∀ d, o.dst = some d → d ≠ d2 := by
  unfold dstNot at h
  refine ⟨fun d hd => ?_, fun d2 hd2 d hd => ?_⟩
  · simp only [hd, Bool.and_eq_true, Bool.not_eq_true'] at h
    intro he
    have h1 := h.1
    rw [he, Nat.beq_refl] at h1
    cases h1
  · simp only [hd, hd2, Bool.and_eq_true, Bool.not_eq_true'] at h
    intro he
    have h1 := h.2
    rw [he, Nat.beq_refl] at h1
    cases h1

theorem stepE_some {e : EP} {st : St} {o : Oper} : stepE P sig (some e) st o = .bad ∨ noG o = true ∧ ((∃ e', mkStamp st e o = some e' ∧ stepE P sig (some e) st o = .stamp e') ∨ (∃ b u ax, mkStore P st e o = some (b, u, ax) ∧ stepE P sig (some e) st o = .store b u ax) ∨
    ∃ v obs st1 its, pureE P sig (some e) st o = .pure v obs st1 its ∧ stepE P sig (some e) st o = .pure v obs st1 its) := by
  unfold stepE
  split
  · rename_i hg
    simp only
    split
    · rename_i e' he; exact .inr ⟨hg, .inl ⟨e', he, rfl⟩⟩
    · split
      · rename_i b u ax hs; exact .inr ⟨hg, .inr (.inl ⟨b, u, ax, hs, rfl⟩)⟩
      · rcases pureE_only (P := P) (sig := sig) (ep := some e) (st := st) (o := o) with ⟨v, obs, st1, its, h⟩ | h
        · exact .inr ⟨hg, .inr (.inr ⟨v, obs, st1, its, h, h⟩)⟩
        · exact .inl h
  · exact .inl rfl
theorem stepE_none {st : St} {o : Oper} : stepE P sig none st o = .bad ∨ noG o = true ∧ ((∃ e obs, mkEntry P st o = some (e, obs) ∧ stepE P sig none st o = .entry e obs) ∨
    ∃ v obs st1 its, pureE P sig none st o = .pure v obs st1 its ∧ stepE P sig none st o = .pure v obs st1 its) := by
  unfold stepE
  split
  · rename_i hg
    simp only
    split
    · rename_i e obs he; exact .inr ⟨hg, .inl ⟨e, obs, he, rfl⟩⟩
    · rcases pureE_only (P := P) (sig := sig) (ep := none) (st := st) (o := o) with ⟨v, obs, st1, its, h⟩ | h
      · exact .inr ⟨hg, .inr ⟨v, obs, st1, its, h, h⟩⟩
      · exact .inl h
  · exact .inl rfl
theorem put_eval {st : St} {a : Act} {σ : Nat → Value} {β : Nat → Nat} {ρ : Env} (hT : TOk ρ σ β st a) {d : Nat} (hd : Nat.blt d st.nt = true) (v : Value) : (a.put (some d) v).eval (.tmp d) = v := by
  rw [eval_put (by rw [hT.size]; exact blt_lt hd), if_pos rfl]

theorem entry1_ok {w : World} (hw : WOk W ρ σ β O L w) {ep0 : EP} {u0 l0 : Nat} {ob : Obj} {x : Value} {s : Int} (hi : ep0.i = 1 ∨ ep0.i = 2) (hro : isRO u0 = false) (hf : i64R (ep0.f.int ρ)) (hd : i64R (ep0.d.int ρ))
    (hC1 : WOk W ρ σ β O L (ChangeMaps.setBlock w (β (ep0.b + ep0.i)) ob)) (hnext : ∀ t' v, ∃ o', (Instr.entryStore t' (.map (some (β (ep0.b + ep0.i)))) (.int .i64 s) (.int .i64 v)).run P (ChangeMaps.setBlock w (β (ep0.b + ep0.i)) ob) = .ok () (ChangeMaps.setBlock w (β (ep0.b + ep0.i)) o') ∧
      MapAt (ChangeMaps.setBlock w (β (ep0.b + ep0.i)) o').heap (β (ep0.b + ep0.i)) (updF (mapF (ρ l0).lv ep0.i) (ep0.f.int ρ) (ep0.d.int ρ) v)) :
    ∀ (l : List Oper) (ep : EP) (st : St) (K : St → Option Fm) (φ : Fm), execE P sig l (some ep) st K = some φ → (ep.t = ep0.t ∧ ep.b = ep0.b ∧ ep.i = ep0.i ∧ ep.f = ep0.f ∧ ep.d = ep0.d) →
    ∀ (a : Act), φ.holds Γ ρ → TOk ρ σ β st a → st.own = O → st.lists = L → st.n = n → risOf st ep0.b = some (u0, l0) → a.eval (.tmp ep.d1) = .tuple #[x, .int .i64 s] → (∀ d2, ep.d2 = some d2 → a.eval (.tmp d2) = .int .i64 s) →
    (∀ st' φ' ρ' a' w', K st' = some φ' → φ'.holds Γ ρ' → agree n ρ ρ' → n ≤ st'.n → Rel W ρ' σ β st' a' w' → Q a' w') → seqX P ops isME true (WOk W ρ σ β O L) Q l a (ChangeMaps.setBlock w (β (ep0.b + ep0.i)) ob) := by
  intro l
  induction l with
  | nil => intro ep st K φ h; simp [execE] at h
  | cons o l ih =>
    intro ep st K φ h hep a hφ hT hO hL hn hris hv1 hv2 hk
    obtain ⟨p1, p2, p3, p4, p5⟩ := hep
    rw [execE] at h
    rcases stepE_some (P := P) (sig := sig) (e := ep) (st := st) (o := o) with hb | ⟨hg, ⟨e', he, hb⟩ | ⟨b, u, ax, hs, hb⟩ | ⟨v, obs, st1, its, hp, hb⟩⟩
    · rw [hb] at h; cases h
    · rw [hb] at h
      simp only at h
      unfold mkStamp at he
      split at he
      · rename_i t1 e2 ho hdst
        split at he
        · rename_i hc
          cases he
          simp only [Bool.and_eq_true, Bool.not_eq_true'] at hc
          have q1 := Nat.eq_of_beq_eq_true hc.1.1
          subst q1
          have hput := put_n st o.dst ([], SV.any)
          have hrun : ∀ w2, (execOp a.eval o).run P w2 = .ok (.value (.int .i64 s)) w2 := fun w2 => by simp [execOp, ho, hv1, Instr.extract]
          have hne : e2 ≠ ep.d1 := fun e => by rw [e, Nat.beq_refl] at hc; simp at hc
          refine ⟨hC1, .inr ⟨.int .i64 s, .inl ⟨noG_wanted hg (fun _ => true) ops a, by simp [isME, ho], fun w2 _ => hrun w2⟩, ?_⟩⟩
          refine ih _ _ K φ h ⟨p1, p2, p3, p4, p5⟩ _ hφ (hT.put o.dst (.inl rfl)) (by rw [hput.2.1, hO]) (by rw [hput.2.2.1, hL]) (by rw [hput.1, hn]) (by unfold risOf at hris ⊢; rw [hput.2.1]; exact hris) ?_ ?_ hk
          · rw [eval_other (fun d hd => by rw [hdst] at hd; cases hd; exact hne)]
            exact hv1
          · intro d2 hd2
            cases hd2
            rw [hdst]
            exact put_eval hT hc.2 _
        · cases he
      · cases he
    · rw [hb] at h
      simp only at h
      split at h
      rotate_left
      · cases h
      rename_i hnil
      have hnil : l = [] := by cases l with | nil => rfl | cons _ _ => cases hnil
      subst hnil
      split at h
      rotate_left
      · cases h
      rename_i ψ hψ
      cases h
      unfold mkStore at hs
      split at hs
      · rename_i t3 m s' v' ho
        split at hs
        · rename_i d2 hd2
          split at hs
          · rename_i hc
            simp only [Bool.and_eq_true] at hc
            have q1 := Nat.eq_of_beq_eq_true hc.1
            subst q1
            split at hs
            · rename_i b' i' e hm hv
              split at hs
              · rename_i hc2
                simp only [Bool.and_eq_true] at hc2
                have q2 := Nat.eq_of_beq_eq_true hc2.1
                have q3 := Nat.eq_of_beq_eq_true hc2.2
                subst q2; subst q3
                split at hs
                · rename_i b0 u' ax' obs' hwx
                  cases hs
                  obtain ⟨l1, e1, hr, hro', hmt, hi', eax, eobs⟩ := wAx_ok hwx
                  subst e1
                  rw [p2] at hr
                  rw [hris] at hr
                  cases hr
                  subst eax
                  have hmv := cell_ok hT (holds_nil' ρ) hm
                  have hvv := cell_ok hT (holds_nil' ρ) hv
                  simp only [CV.val] at hmv hvv
                  rw [p2, p3] at hmv
                  obtain ⟨o', hrun, hmap⟩ := hnext t3 (e.int ρ)
                  have hsv := hv2 _ hd2
                  have hrun2 : (execOp a.eval o).run P (ChangeMaps.setBlock w (β (ep0.b + ep0.i)) ob) = .ok .skip (ChangeMaps.setBlock w (β (ep0.b + ep0.i)) o') := by
                    simp [execOp, ho, hmv, hvv, hsv, hrun]
                  refine ⟨hC1, .inl ⟨by simp [isME, ho], noG_wanted hg (fun _ => true) ops a, .inr ⟨undef, _, .inr ⟨hrun2, rfl⟩, .inr ⟨rfl, rfl⟩, ?_⟩⟩⟩
                  have hrel := w_rel (W := W) (w := w) (st := st) (a := a) (σ := σ) ⟨hT, by rw [hO, hL]; exact hw⟩ hc.2 hris hro hi hf hd hmap (uSt_tok hT hc.2 o.dst ep0.b u0 undef) rfl (put_n _ _ _).2.2.1
                  rw [p2] at hψ
                  rw [p3, p4, p5] at hφ
                  have hφ2 : ψ.holds Γ (push ρ st.n [.l ((ρ l0).lv.upd (keyI ep0.i (ep0.f.int ρ) (ep0.d.int ρ)) (e.int ρ))]) := hφ
                  exact hk _ ψ _ _ _ hψ hφ2 (by rw [← hn]; exact agree_push ρ st.n _) (by show n ≤ st.n + 1; omega) hrel
                · cases hs
              · cases hs
            · cases hs
          · cases hs
        · cases hs
      · cases hs
    · rw [hb] at h
      simp only at h
      obtain ⟨ψ, e1, rfl⟩ := wrapO_some h
      obtain ⟨h1, h2, h3, h4, h5, h6⟩ := pureE_go (W := W) (ops := ops) hp hg hT hO hL hn hφ
      obtain ⟨hdn1, hdn2⟩ := dstNot_spec (pureE_ok hp).2.2.2.1
      refine ⟨hC1, .inr ⟨_, h2, ?_⟩⟩
      refine ih ep st1 K ψ e1 ⟨p1, p2, p3, p4, p5⟩ _ h1 h3 h4 h5 h6 (by unfold risOf at hris ⊢; rw [h4, ← hO]; exact hris) ?_ ?_ hk
      · rw [eval_other (fun d hd => hdn1 d hd)]; exact hv1
      · intro d2 hd2
        rw [eval_other (fun d hd => hdn2 d2 hd2 d hd)]; exact hv2 d2 hd2

theorem entry0_ok {w : World} (hw : WOk W ρ σ β O L w) :
    ∀ (l : List Oper) (st : St) (K : St → Option Fm) (φ : Fm), execE P sig l none st K = some φ →
    ∀ (a : Act), φ.holds Γ ρ → TOk ρ σ β st a → st.own = O → st.lists = L → st.n = n →
    (∀ st' φ' ρ' a' w', K st' = some φ' → φ'.holds Γ ρ' → agree n ρ ρ' → n ≤ st'.n → Rel W ρ' σ β st' a' w' → Q a' w') → seqX P ops isME true (WOk W ρ σ β O L) Q l a w := by
  intro l
  induction l with
  | nil => intro st K φ h; simp [execE] at h
  | cons o l ih =>
    intro st K φ h a hφ hT hO hL hn hk
    rw [execE] at h
    rcases stepE_none (P := P) (sig := sig) (st := st) (o := o) with hb | ⟨hg, ⟨e, obs, he, hb⟩ | ⟨v, obs, st1, its, hp, hb⟩⟩
    · rw [hb] at h; cases h
    · rw [hb] at h
      simp only at h
      obtain ⟨ψ, e1, rfl⟩ := wrapO_some h
      obtain ⟨hi1, hi2⟩ := wrap_holds hφ
      rw [env_ob] at hi2
      have hob := needAll_ok hT.pc (holds_nil' ρ) (its_ob hi1 (holds_nil' ρ))
      unfold mkEntry at he
      split at he
      · rename_i t m k d1 ho hdst
        split at he
        · rename_i b i f d hm hkc
          split at he
          · rename_i b' u ax obs' hwx
            split at he
            · rename_i hlt
              cases he
              obtain ⟨l0, e2, hr, hro, hmt, hi, rfl, rfl⟩ := wAx_ok hwx
              subst e2
              obtain ⟨hf, hd⟩ := obs_rng hob
              have hmv := cell_ok hT (holds_nil' ρ) hm
              have hkv := opCells2 hT (holds_nil' ρ) hkc
              simp only [CV.val] at hmv
              have hw0 : WOk W ρ σ β st.own st.lists w := by rw [hO, hL]; exact hw
              obtain ⟨ob, s, hrun, hsame, hnext⟩ := run_entry hmt (ris_map hw0 hr hi) hf hd
              have hC1 := w_same hw0 hr hro hi hsame
              rw [hO, hL] at hC1
              have hrun2 : (execOp a.eval o).run P w = .ok (.value (.tuple #[.int .i64 (mapF (ρ l0).lv i (f.int ρ) (d.int ρ)), .int .i64 s])) (ChangeMaps.setBlock w (β (b' + i)) ob) := by
                simp [execOp, ho, hmv, hkv, hrun]
              have hput := put_n st o.dst ([], SV.any)
              refine ⟨hw, .inl ⟨by simp [isME, ho], noG_wanted hg (fun _ => true) ops a, .inr ⟨_, _, .inl hrun2, .inl hC1, ?_⟩⟩⟩
              refine entry1_ok (ep0 := ⟨t, b', i, f, d, d1, none⟩) (x := .int .i64 (mapF (ρ l0).lv i (f.int ρ) (d.int ρ))) hw hi hro hf hd hC1 hnext l _ _ K ψ e1 ⟨rfl, rfl, rfl, rfl, rfl⟩ _ hi2 (hT.put o.dst (.inl rfl)) (by rw [hput.2.1, hO]) (by rw [hput.2.2.1, hL]) (by rw [hput.1, hn])
                (by unfold risOf at hr ⊢; rw [hput.2.1]; exact hr) ?_ (fun d2 hd2 => by cases hd2) hk
              rw [hdst]
              exact put_eval hT hlt _
            · cases he
          · cases he
        · cases he
      · cases he
    · rw [hb] at h
      simp only at h
      obtain ⟨ψ, e1, rfl⟩ := wrapO_some h
      obtain ⟨h1, h2, h3, h4, h5, h6⟩ := pureE_go (W := W) (ops := ops) hp hg hT hO hL hn hφ
      exact ⟨hw, .inr ⟨_, h2, ih st1 K ψ e1 _ h1 h3 h4 h5 h6 hk⟩⟩
end

theorem entry_ok (hm : P.follows .mixedOrders = true) {id : Nat} {ops : Array Oper} {st : St} {K : St → Option Fm} {φ : Fm} (h : execEntry P sig ops st K = some φ)
    {ρ : Env} {σ : Nat → Value} {β : Nat → Nat} {a : Act} {w : World} {Q : Exit → Act → World → Prop} (hφ : φ.holds Γ ρ) (hR : Rel W ρ σ β st a w)
    (hK : ∀ st' φ' ρ' σ' β' a' w', K st' = some φ' → φ'.holds Γ ρ' → agree st.n ρ ρ' → st.n ≤ st'.n → Rel W ρ' σ' β' st' a' w' → Q .normal a' w') : (Code.region id ops true).wp P Q a w := by
  unfold execEntry at h
  split at h
  · rename_i hc
    simp only [Bool.and_eq_true] at hc
    refine wp_region_chain (ch := isME) (fin := true) (C := WOk W ρ σ β st.own st.lists) hm hc.1.1.1 hc.1.1.2 (fun _ => hc.1.2) ?_
    exact entry0_ok (Γ := Γ) (n := st.n) hR.2.drew ops.toList st K φ h a hφ hR.1 rfl rfl rfl (fun st' φ' ρ' a' w' h1 h2 h3 h4 h5 => hK st' φ' ρ' σ β a' w' h1 h2 h3 h4 h5)
  · cases h
end
end Go.Vg

