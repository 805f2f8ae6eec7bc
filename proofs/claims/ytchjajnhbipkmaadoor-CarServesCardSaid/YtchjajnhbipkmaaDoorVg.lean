/- A generator of verification conditions for plain Go code, run by the kernel, and its proof; the step from a contract to a row. Own work, for this seat. -/
import Derived.Test.YtchjajnhbipkmaaDoorVh
import Derived.Carry
import Derived.Deep.Slices
import Derived.ProofKit
import Derived.SizedLaws
import Derived.ChangeOld
/- Regions that draw their order, make blocks, call, and store to the new blocks. -/
namespace Go.Vg
open Go.RowKit
set_option linter.unusedVariables false
set_option linter.unusedSimpArgs false

/-! ### Stores to new blocks -/

def SlotOk (ρ : Env) (σ : Nat → Value) (β : Nat → Nat) (x : Gd × SV) (v : Value) : Prop :=
  x.2 = .any ∨ (Gd.holds ρ x.1 ∧ v = x.2.val ρ σ β) ∨ (¬ Gd.holds ρ x.1 ∧ v = undef)

abbrev NB := List (Bool × TypeId × List CV)

theorem setAt_append {α : Type} (N M : List α) {n : Nat} (x : α) (h : n < N.length) : setAt (N ++ M) n x = setAt N n x ++ M := by
  apply List.ext_getElem?
  intro k
  rw [setAt_get]
  by_cases hk : k < N.length
  · have h1 : (N ++ M)[k]? = N[k]? := List.getElem?_append_left hk
    have h2 : (setAt N n x ++ M)[k]? = (setAt N n x)[k]? := List.getElem?_append_left (by rw [setAt_length]; exact hk)
    rw [h1, h2, setAt_get]
    by_cases hkn : k = n
    · rw [if_pos hkn, if_pos hkn, if_pos (by simp; omega), if_pos h]
    · rw [if_neg hkn, if_neg hkn]
  · have h1 : (N ++ M)[k]? = M[k - N.length]? := List.getElem?_append_right (by omega)
    have h2 : (setAt N n x ++ M)[k]? = M[k - (setAt N n x).length]? := List.getElem?_append_right (by rw [setAt_length]; omega)
    rw [h1, h2, setAt_length, if_neg (by omega)]
theorem applyS_length (N : NB) (x : Nat × Nat × List CV) : (applyS N x).length = N.length := by
  unfold applyS; split
  · rw [setAt_length]
  · rfl
theorem applyS_append (N M : NB) {x : Nat × Nat × List CV} (h : x.1 < N.length) : applyS (N ++ M) x = applyS N x ++ M := by
  unfold applyS
  rw [List.getElem?_append_left h]
  split
  · rw [setAt_append _ _ _ h]
  · rfl
theorem conts_snoc (N : NB) (S : List (Nat × Nat × List CV)) (x : Nat × Nat × List CV) : conts N (S ++ [x]) = applyS (conts N S) x := by simp [conts, List.foldl_append]
theorem conts_length : ∀ (S : List (Nat × Nat × List CV)) (N : NB), (conts N S).length = N.length
  | [], _ => rfl
  | x :: S, N => by
    show (conts (applyS N x) S).length = _
    rw [conts_length S, applyS_length]
theorem conts_append : ∀ (S : List (Nat × Nat × List CV)) (N M : NB), (∀ x, x ∈ S → x.1 < N.length) → conts (N ++ M) S = conts N S ++ M
  | [], _, _, _ => rfl
  | x :: S, N, M, h => by
    show conts (applyS (N ++ M) x) S = conts (applyS N x) S ++ M
    rw [applyS_append N M (h x (List.mem_cons_self ..))]
    exact conts_append S _ M (fun y hy => by rw [applyS_length]; exact h y (List.mem_cons_of_mem _ hy))
theorem applyS_get (N : NB) (x : Nat × Nat × List CV) (i : Nat) : (applyS N x)[i]? = match N[i]? with
    | some (false, t, old) => if i = x.1 then some (false, t, layAt old x.2.1 x.2.2) else some (false, t, old)
    | o => o := by
  unfold applyS
  split
  · rename_i t old hx
    rw [setAt_get]
    by_cases hi : i = x.1
    · subst hi
      rw [if_pos rfl, if_pos (lt_of_get hx), hx]
      simp
    · rw [if_neg hi]
      cases hN : N[i]? with
      | none => rfl
      | some y =>
        obtain ⟨kd, t', o'⟩ := y
        cases kd <;> simp [hi]
  · rename_i hne
    cases hN : N[i]? with
    | none => rfl
    | some y =>
      obtain ⟨kd, t', o'⟩ := y
      cases kd with
      | true => rfl
      | false =>
        by_cases hi : i = x.1
        · subst hi; exact absurd hN (hne _ _)
        · simp [hi]
theorem conts_true : ∀ (S : List (Nat × Nat × List CV)) (N : NB) {i : Nat} {t : TypeId} {cs : List CV}, N[i]? = some (true, t, cs) → (conts N S)[i]? = some (true, t, cs)
  | [], _, _, _, _, h => h
  | x :: S, N, i, t, cs, h => conts_true S (applyS N x) (by rw [applyS_get, h])

/-! ### The run of such a region -/

section
variable {P : Program} {sig : List (Nat × List Sh × List Sh)} {ops : Array Oper} {st : St}

def At (P : Program) (sig : List (Nat × List Sh × List Sh)) (ops : Array Oper) (st : St) (k : Nat) (f : FS) (o : Oper) (r : FR) : Prop :=
  freeAt P sig ops st k = some f ∧ ops[k]? = some o ∧ freeStep P sig ops f o = some r

theorem freeAt_succ {k : Nat} {f' : FS} (h : freeAt P sig ops st (k + 1) = some f') : ∃ f o r, At P sig ops st k f o r ∧ f' = ⟨{ f.st.put o.dst r.x with n := r.n }, r.N, r.S, f.its ++ r.its, f.L ++ r.R, f.n0⟩ := by
  simp only [freeAt] at h
  split at h
  · cases h
  · rename_i f hf
    split at h
    · cases h
    · rename_i o ho
      split at h
      · cases h
      · rename_i r hr
        cases h
        exact ⟨f, o, r, ⟨hf, ho, hr⟩, rfl⟩
theorem freeAt_of {k : Nat} {f : FS} {o : Oper} {r : FR} (h : At P sig ops st k f o r) : freeAt P sig ops st (k + 1) = some ⟨{ f.st.put o.dst r.x with n := r.n }, r.N, r.S, f.its ++ r.its, f.L ++ r.R, f.n0⟩ := by
  obtain ⟨h1, h2, h3⟩ := h
  simp only [freeAt, h1, h2, h3]
theorem freeAt_le {m : Nat} {F : FS} (h : freeAt P sig ops st m = some F) : ∀ {k : Nat}, k ≤ m → ∃ f, freeAt P sig ops st k = some f := by
  induction m generalizing F with
  | zero => intro k hk; have : k = 0 := by omega
            subst this; exact ⟨F, h⟩
  | succ m ih =>
    intro k hk
    by_cases hkm : k = m + 1
    · subst hkm; exact ⟨F, h⟩
    · obtain ⟨f, o, r, ⟨h1, _, _⟩, _⟩ := freeAt_succ h
      exact ih h1 (by omega)
theorem At_of {m : Nat} {F : FS} (h : freeAt P sig ops st m = some F) {k : Nat} (hk : k < m) : ∃ f o r, At P sig ops st k f o r := by
  obtain ⟨f', hf'⟩ := freeAt_le h (show k + 1 ≤ m by omega)
  obtain ⟨f, o, r, h1, _⟩ := freeAt_succ hf'
  exact ⟨f, o, r, h1⟩
theorem At_same {k : Nat} {f f' : FS} {o o' : Oper} {r r' : FR} (h : At P sig ops st k f o r) (h' : At P sig ops st k f' o' r') : f = f' ∧ o = o' ∧ r = r' := by
  obtain ⟨h1, h2, h3⟩ := h
  obtain ⟨g1, g2, g3⟩ := h'
  rw [h1] at g1; cases g1
  rw [h2] at g2; cases g2
  rw [h3] at g3; cases g3
  exact ⟨rfl, rfl, rfl⟩

/-- What an operation's record says, whichever it is. -/
structure StepF (P : Program) (sig : List (Nat × List Sh × List Sh)) (ops : Array Oper) (f : FS) (o : Oper) (r : FR) (g : Gd) : Prop where
  guard : guardOf ops f.st o = some g
  gscp : Gd.scp f.st.n g = true
  kind : (isStore o = true ∧ isNil g = true ∧ r.x = (g, .any) ∧ r.n = f.st.n ∧ r.N = f.N ∧ r.its = [] ∧ ∃ b off cs t old, stepOp P sig { f.st with own := f.st.own ++ blks (conts f.N f.S) } g o = some (.store b off cs) ∧
        f.st.own.length ≤ b ∧ cs.all (CV.scp f.st.n f.st.own.length) = true ∧ (conts f.N f.S)[b - f.st.own.length]? = some (false, t, old) ∧ r.S = f.S ++ [(b - f.st.own.length, off, cs)]) ∨
    (isStore o = false ∧ r.S = f.S ∧
      ((∃ c args res, stepOp P sig { f.st with own := f.st.own ++ blks f.N, lists := namedL f g o ++ f.st.lists } g o = some (.call c args res) ∧ r.R = resLists f.st.n (shCells res) ∧ args.all (Ax.scp f.st.n (f.st.own.length + f.N.length)) = true ∧
          r.x = (g, resS f.st.n res) ∧ r.n = f.st.n + (shCells res).length ∧ r.N = f.N ∧ r.its = [.call c g args f.st.n]) ∨
       (∃ v obs, (stepOp P sig f.st g o = some (.pure v obs) ∨ (obs = [] ∧ ∃ l, lenNew P f g o = some l ∧ v = .tv (.one (.int .i64 (.len l))))) ∧ v.scp f.st.n f.st.own.length = true ∧ (needAll f.st g obs).all (Ex.scp f.st.n) = true ∧ r.x = (g, v) ∧ r.n = f.st.n ∧ r.N = f.N ∧ r.its = (needAll f.st g obs).map (It.ob g)) ∨
       (∃ t cs v v' kd, stepOp P sig f.st g o = some (.alloc t cs v) ∧ isNil g = true ∧ cs.all (CV.scp f.st.n f.st.own.length) = true ∧ newV f.st.own.length (f.st.own.length + f.N.length) v = some (v', kd) ∧ r.x = ([], v') ∧ r.n = f.st.n ∧ r.N = f.N ++ [(kd, t, cs)] ∧ r.its = [])))
  sL : isStore o = true → f.L = [] ∧ ∀ x, r.S = f.S ++ [x] → x.2.2.all (cvLow f.n0) = true
  rS : r.R ≠ [] → f.S = []
  rR : r.R = [] ∨ ∃ res, r.x = (g, resS f.st.n res) ∧ r.n = f.st.n + (shCells res).length ∧ r.R = resLists f.st.n (shCells res)
  lowx : svLow f.n0 r.x.2 = true ∨ ∃ res, r.x.2 = resS f.st.n res ∧ r.n = f.st.n + (shCells res).length
  lowN : ∀ kd t cs, r.N = f.N ++ [(kd, t, cs)] → cs.all (cvLow f.n0) = true ∧ r.R = []

theorem isNil_nil {α : Type} {l : List α} (h : isNil l = true) : l = [] := by
  cases l with
  | nil => rfl
  | cons _ _ => simp [isNil] at h
theorem snoc_ne {α : Type} {l : List α} {x : α} (h : l = l ++ [x]) : False := by
  have := congrArg List.length h
  simp at this
theorem snoc_inj {α : Type} {l : List α} {x y : α} (h : l ++ [x] = l ++ [y]) : x = y := by
  have := List.append_cancel_left h
  simpa using this
theorem newV_low {m n k : Nat} {v v' : SV} {kd : Bool} (h : newV m n v = some (v', kd)) : svLow k v' = true := by
  unfold newV at h
  split at h
  · split at h
    · cases h; rfl
    · cases h
  · split at h
    · cases h; rfl
    · cases h
  · cases h
theorem hasLst_nil : ∀ {cs : List CK} {n : Nat}, hasLst cs = false → resLists n cs = []
  | [], _, _ => rfl
  | c :: cs, n, h => by
    simp only [hasLst, List.any_cons, Bool.or_eq_false_iff] at h
    cases c <;> first | (simp [refK] at h; done) | exact hasLst_nil (n := n + 1) h.2

theorem stepF_of {f : FS} {o : Oper} {r : FR} (h : freeStep P sig ops f o = some r) : ∃ g, StepF P sig ops f o r g := by
  unfold freeStep at h
  split at h
  · cases h
  · rename_i g hg
    split at h
    · cases h
    · rename_i hscp
      have hscp : Gd.scp f.st.n g = true := by simpa using hscp
      split at h
      · rename_i hst
        split at h
        · rename_i b off cs hs
          split at h
          · rename_i hc
            cases h
            simp only [Bool.and_eq_true] at hc
            obtain ⟨hc, hcL, hcl⟩ := hc
            have h4 := hc.2
            unfold isBox at h4
            split at h4
            · rename_i t old hN
              exact ⟨g, hg, hscp, .inl ⟨hst, hc.1.1.1, rfl, rfl, rfl, rfl, b, off, cs, t, old, hs, Nat.le_of_ble_eq_true hc.1.1.2, hc.1.2, hN, rfl⟩,
                fun _ => ⟨isNil_nil hcL, fun x hx => by rw [← snoc_inj hx]; exact hcl⟩, fun h => absurd rfl h, .inl rfl, .inl rfl, fun kd t cs h => (snoc_ne h).elim⟩
            · cases h4
          · cases h
        · cases h
      · rename_i hst
        have hst : isStore o = false := by simpa using hst
        have hstf : isStore o = true → f.L = [] ∧ ∀ x, r.S = f.S ++ [x] → x.2.2.all (cvLow f.n0) = true := fun h => by rw [hst] at h; cases h
        split at h
        · split at h
          · rename_i c args res hs
            split at h
            · cases h
            · rename_i hc
              cases h
              simp only [Bool.or_eq_true, not_or, Bool.not_eq_true', Bool.not_eq_true, Bool.not_eq_false, Bool.and_eq_false_iff] at hc
              refine ⟨g, hg, hscp, .inr ⟨hst, rfl, .inl ⟨c, args, res, hs, rfl, by simpa using hc.2, rfl, rfl, rfl, rfl⟩⟩, hstf, fun h => ?_, .inr ⟨res, rfl, rfl, rfl⟩, .inr ⟨res, rfl, rfl⟩, fun kd t cs h => (snoc_ne h).elim⟩
              rcases hc.1 with h1 | h1
              · exact absurd (hasLst_nil h1) h
              · exact isNil_nil (by simpa using h1)
          · cases h
        · split at h
          · rename_i v obs hs
            split at h
            · rename_i hc
              cases h
              simp only [Bool.and_eq_true] at hc
              exact ⟨g, hg, hscp, .inr ⟨hst, rfl, .inr (.inl ⟨v, obs, .inl hs, hc.1.1, hc.1.2, rfl, rfl, rfl, rfl⟩)⟩, hstf, fun h => absurd rfl h, .inl rfl, .inl hc.2, fun kd t cs h => (snoc_ne h).elim⟩
            · cases h
          · rename_i t cs v hs
            split at h
            · rename_i hc
              split at h
              · rename_i v' kd hv
                cases h
                simp only [Bool.and_eq_true] at hc
                exact ⟨g, hg, hscp, .inr ⟨hst, rfl, .inr (.inr ⟨t, cs, v, v', kd, hs, hc.1.1, hc.1.2, hv, rfl, rfl, rfl, rfl⟩)⟩, hstf, fun h => absurd rfl h, .inl rfl, .inl (newV_low hv), fun kd t cs h => by
                  have := snoc_inj h
                  cases this
                  exact ⟨hc.2, rfl⟩⟩
              · cases h
            · cases h
          · rename_i hs
            split at h
            · rename_i l hl
              cases h
              have hlt : Nat.blt l f.st.n = true := by
                unfold lenNew at hl
                split at hl
                · split at hl
                  · split at hl
                    · split at hl
                      · split at hl
                        · rename_i hc
                          cases hl
                          simp only [Bool.and_eq_true] at hc
                          exact hc.2
                        · cases hl
                      · cases hl
                    · cases hl
                  · cases hl
                · cases hl
              exact ⟨g, hg, hscp, .inr ⟨hst, rfl, .inr (.inl ⟨_, [], .inr ⟨rfl, l, hl, rfl⟩, by simp [SV.scp, TV.scp, TV.cells, CV.scp, Ex.scp, hlt], rfl, rfl, rfl, rfl, rfl⟩)⟩, hstf, fun h => absurd rfl h, .inl rfl, .inl rfl, fun kd t cs h => (snoc_ne h).elim⟩
            · cases h
          · cases h

theorem freeAt_base : ∀ {k : Nat} {f : FS}, freeAt P sig ops st k = some f → f.st.own = st.own ∧ f.st.lists = st.lists ∧ f.st.nt = st.nt ∧ f.st.pc = st.pc ∧ st.n ≤ f.st.n ∧ (∀ x, x ∈ f.S → x.1 < f.N.length)
  | 0, f, h => by
    simp only [freeAt, Option.some.injEq] at h
    subst h
    exact ⟨rfl, rfl, rfl, rfl, Nat.le_refl _, fun x hx => by simp at hx⟩
  | k + 1, f', h => by
    obtain ⟨f, o, r, ⟨h1, h2, h3⟩, rfl⟩ := freeAt_succ h
    obtain ⟨b1, b2, b3, b4, b5, b6⟩ := freeAt_base h1
    obtain ⟨g, hs⟩ := stepF_of h3
    have hp := put_n f.st o.dst r.x
    have hnt : (f.st.put o.dst r.x).nt = f.st.nt := by
      cases hd : o.dst with
      | none => rfl
      | some d => simp only [St.put]; split <;> rfl
    have key : f.st.n ≤ r.n ∧ (∀ x, x ∈ r.S → x.1 < r.N.length) := by
      rcases hs.kind with ⟨_, _, _, e2, e3, _, b, off, cs, t, old, _, _, _, hN, e5⟩ | ⟨_, e1, ⟨c, args, res, _, _, _, _, e2, e3, _⟩ | ⟨v, obs, _, _, _, _, e2, e3, _⟩ | ⟨t, cs, v, v', kd, _, _, _, _, _, e2, e3, _⟩⟩
      · refine ⟨by omega, fun x hx => ?_⟩
        rw [e5] at hx
        rcases List.mem_append.1 hx with hx | hx
        · rw [e3]; exact b6 x hx
        · rw [List.mem_singleton.1 hx, e3]
          have := lt_of_get hN
          rw [conts_length] at this
          exact this
      · exact ⟨by omega, fun x hx => by rw [e3]; exact b6 x (e1 ▸ hx)⟩
      · exact ⟨by omega, fun x hx => by rw [e3]; exact b6 x (e1 ▸ hx)⟩
      · refine ⟨by omega, fun x hx => ?_⟩
        have := b6 x (e1 ▸ hx)
        rw [e3]; simp; omega
    exact ⟨hp.2.1.trans b1, hp.2.2.1.trans b2, hnt.trans b3, hp.2.2.2.trans b4, Nat.le_trans b5 key.1, key.2⟩

theorem freeAt_mono {k m : Nat} {f F : FS} (hk : freeAt P sig ops st k = some f) (hm : freeAt P sig ops st m = some F) (hkm : k ≤ m) :
    (∃ M, F.N = f.N ++ M) ∧ (∃ M, F.S = f.S ++ M) ∧ f.st.n ≤ F.st.n := by
  induction m generalizing F with
  | zero =>
    have : k = 0 := by omega
    subst this
    rw [hk] at hm; cases hm
    exact ⟨⟨[], by simp⟩, ⟨[], by simp⟩, Nat.le_refl _⟩
  | succ m ih =>
    by_cases hk' : k = m + 1
    · subst hk'
      rw [hk] at hm; cases hm
      exact ⟨⟨[], by simp⟩, ⟨[], by simp⟩, Nat.le_refl _⟩
    · obtain ⟨f', o, r, ⟨h1, h2, h3⟩, rfl⟩ := freeAt_succ hm
      obtain ⟨⟨M, e1⟩, ⟨M2, e2⟩, e3⟩ := ih h1 (by omega)
      obtain ⟨g, hs⟩ := stepF_of h3
      rcases hs.kind with ⟨_, _, _, q2, q3, _, b, off, cs, t, old, _, _, _, hN, q5⟩ | ⟨_, q1, ⟨c, args, res, _, _, _, _, q2, q3, _⟩ | ⟨v, obs, _, _, _, _, q2, q3, _⟩ | ⟨t, cs, v, v', kd, _, _, _, _, _, q2, q3, _⟩⟩
      · exact ⟨⟨M, by simp only [q3, e1]⟩, ⟨M2 ++ [(b - f'.st.own.length, off, cs)], by simp only [q5, e2, List.append_assoc]⟩, by simp only; omega⟩
      · exact ⟨⟨M, by simp only [q3, e1]⟩, ⟨M2, by simp only [q1, e2]⟩, by simp only; omega⟩
      · exact ⟨⟨M, by simp only [q3, e1]⟩, ⟨M2, by simp only [q1, e2]⟩, by simp only; omega⟩
      · exact ⟨⟨M ++ [(kd, t, cs)], by simp only [q3, e1, List.append_assoc]⟩, ⟨M2, by simp only [q1, e2]⟩, by simp only; omega⟩

theorem getT_put {s : St} {dst : Option Tmp} {x : Gd × SV} {t : Nat} {y : Gd × SV} (h : getT (s.put dst x).tmps t = some y) : (dst = some t ∧ t < s.nt ∧ y = x) ∨ ((dst ≠ some t ∨ ¬ t < s.nt) ∧ getT s.tmps t = some y) := by
  cases dst with
  | none => exact .inr ⟨.inl (by simp), h⟩
  | some d =>
    simp only [St.put] at h
    split at h
    · rename_i hd
      simp only [getT] at h
      split at h
      · rename_i hdt
        have := Nat.eq_of_beq_eq_true hdt
        subst this
        cases h
        exact .inl ⟨rfl, blt_lt hd, rfl⟩
      · rename_i hdt
        refine .inr ⟨.inl (fun e => ?_), h⟩
        cases e
        rw [Nat.beq_refl] at hdt; cases hdt
    · rename_i hd
      refine .inr ⟨?_, h⟩
      by_cases hdt : d = t
      · subst hdt
        right
        intro hlt
        have : Nat.blt d s.nt = true := by unfold Nat.blt; exact Nat.ble_eq_true_of_le hlt
        rw [hd] at this; cases this
      · exact .inl (fun e => hdt (Option.some.inj e))
theorem getT_filter {p : Nat → Bool} : ∀ {l : List (Nat × (Gd × SV))} {t : Nat} {y : Gd × SV}, getT (l.filter (fun x => p x.1)) t = some y → p t = true ∧ getT l t = some y
  | [], _, _, h => by simp [getT] at h
  | x :: l, t, y, h => by
    rw [List.filter_cons] at h
    split at h
    · rename_i hp
      simp only [getT] at h ⊢
      split at h
      · rename_i hb
        have := Nat.eq_of_beq_eq_true hb
        rw [this] at hp
        exact ⟨hp, h⟩
      · rename_i hb
        exact getT_filter h
    · rename_i hp
      obtain ⟨h1, h2⟩ := getT_filter h
      refine ⟨h1, ?_⟩
      simp only [getT]
      have : Nat.beq x.1 t = false := by
        cases hb : Nat.beq x.1 t
        · rfl
        · rw [Nat.eq_of_beq_eq_true hb] at hp
          exact absurd h1 hp
      rw [this]
      exact h2

theorem freeAt_slots : ∀ {k : Nat} {f : FS}, freeAt P sig ops st k = some f → ∀ t y, getT f.st.tmps t = some y →
    (getT st.tmps t = some y ∧ ∀ (j : Nat) (o : Oper), ops[j]? = some o → o.dst ≠ some t) ∨ ∃ j f' o r, j < k ∧ At P sig ops st j f' o r ∧ o.dst = some t ∧ t < st.nt ∧ r.x = y
  | 0, f, h, t, y, ht => by
    simp only [freeAt, Option.some.injEq] at h
    subst h
    obtain ⟨h1, h2⟩ := getT_filter (p := fun t => !(ops.toList.any fun o => match o.dst with | some d => Nat.beq d t | none => false)) ht
    refine .inl ⟨h2, fun j o ho hd => ?_⟩
    rw [Bool.not_eq_true', List.any_eq_false] at h1
    have := h1 o (by
      have := List.mem_of_getElem? (l := ops.toList) (i := j) (a := o) (by simpa using ho)
      exact this)
    rw [hd] at this
    exact this (Nat.beq_refl t)
  | k + 1, f', h, t, y, ht => by
    obtain ⟨f, o, r, hat, rfl⟩ := freeAt_succ h
    rcases getT_put ht with ⟨h1, h2, h3⟩ | ⟨_, h2⟩
    · exact .inr ⟨k, f, o, r, Nat.lt_succ_self k, hat, h1, by rw [← (freeAt_base hat.1).2.2.1]; exact h2, h3.symm⟩
    · rcases freeAt_slots hat.1 t y h2 with h3 | ⟨j, f1, o1, r1, hj, h4⟩
      · exact .inl h3
      · exact .inr ⟨j, f1, o1, r1, by omega, h4⟩

/-- A value that names no new block; or a new block itself. -/
theorem x_kind {k : Nat} {f : FS} {o : Oper} {r : FR} (h : At P sig ops st k f o r) :
    ((∀ (ρ : Env) (σ : Nat → Value) (β β' : Nat → Nat), agree st.own.length β β' → r.x.2.val ρ σ β' = r.x.2.val ρ σ β) ∧ (∀ y, r.x.2 = .tv y → ∀ b n, (CV.osl b n ∈ y.cells ∨ CV.ptr b n ∈ y.cells) → b < st.own.length) ∧ r.N = f.N) ∨
    (∃ kd t cs v, r.N = f.N ++ [(kd, t, cs)] ∧ cs.all (CV.scp f.st.n st.own.length) = true ∧ newV st.own.length (st.own.length + f.N.length) v = some (r.x.2, kd)) := by
  obtain ⟨b1, _⟩ := freeAt_base h.1
  obtain ⟨g, hs⟩ := stepF_of h.2.2
  rcases hs.kind with ⟨_, _, e1, _, e3, _⟩ | ⟨_, _, ⟨c, args, res, _, hl, _, e1, _, e3, _⟩ | ⟨v, obs, _, hscp, _, e1, _, e3, _⟩ | ⟨t, cs, v, v', kd, _, _, hcs, hv, e1, _, e3, _⟩⟩
  · left; rw [e1]; exact ⟨fun _ _ _ _ _ => rfl, fun y hy => (by cases hy), e3⟩
  · left; rw [e1]
    refine ⟨fun ρ σ β β' _ => resS_shift res _ _ (fun _ => rfl) (fun _ => rfl), fun y hy b n hm => ?_, e3⟩
    exfalso
    have hno : ∀ (cs : List CK) (n0 : Nat), ¬ (CV.osl b n ∈ resCs n0 cs ∨ CV.ptr b n ∈ resCs n0 cs) := by
      intro cs
      induction cs with
      | nil => intro n0 hm; simp [resCs] at hm
      | cons c cs ih =>
        intro n0 hm
        simp only [resCs, List.mem_cons] at hm
        rcases hm with (hm | hm) | (hm | hm)
        · cases c <;> simp [resC] at hm
        · exact ih _ (.inl hm)
        · cases c <;> simp [resC] at hm
        · exact ih _ (.inr hm)
    have hT : ∀ (s : Sh) (n0 : Nat), ¬ (CV.osl b n ∈ (resT n0 s).cells ∨ CV.ptr b n ∈ (resT n0 s).cells) := by
      intro s n0 hm
      cases s with
      | one c => exact hno [c] n0 (by simpa [resT, TV.cells, resCs] using hm)
      | agg cs => exact hno cs n0 (by simpa [resT, TV.cells] using hm)
    unfold resS at hy
    split at hy
    · rename_i x hx
      cases hy
      cases res with
      | nil => simp [resTs] at hx
      | cons s ss =>
        simp only [resTs, List.cons.injEq] at hx
        rw [← hx.1] at hm
        exact hT s _ hm
    · cases hy
  · left; rw [e1]
    rw [b1] at hscp
    refine ⟨fun ρ σ β β' ha => sv_agree (n := f.st.n) (agree_refl _ ρ) (agree_refl _ σ) ha hscp, fun y hy b n hm => ?_, e3⟩
    simp only at hy
    subst hy
    have hall : ∀ c, c ∈ y.cells → CV.scp f.st.n st.own.length c = true := List.all_eq_true.1 (by simpa [SV.scp, TV.scp] using hscp)
    rcases hm with hm | hm
    · have := hall _ hm; exact blt_lt this
    · have := hall _ hm; exact blt_lt this
  · right; rw [e1, b1] at *
    exact ⟨kd, t, cs, v, e3, hcs, hv⟩

theorem newV_spec {m n : Nat} {v v' : SV} {kd : Bool} (h : newV m n v = some (v', kd)) : (v = .tv (.one (.ptr m 0)) ∧ v' = .tv (.one (.ptr n 0)) ∧ kd = false) ∨ (∃ len, v = .tv (.one (.osl m len)) ∧ v' = .tv (.one (.osl n len)) ∧ kd = true) := by
  unfold newV at h
  split at h
  · split at h
    · rename_i hb; cases h; rw [Nat.eq_of_beq_eq_true hb]; exact .inl ⟨rfl, rfl, rfl⟩
    · cases h
  · split at h
    · rename_i hb; cases h; rw [Nat.eq_of_beq_eq_true hb]; exact .inr ⟨_, rfl, rfl, rfl⟩
    · cases h
  · cases h

/-- Cells that name no new block. -/
def NoNew (m : Nat) (cs : List CV) : Prop := ∀ (ρ : Env) (σ : Nat → Value) (β β' : Nat → Nat), agree m β β' → cs.map (CV.val ρ σ β') = cs.map (CV.val ρ σ β)
theorem noNew_scp {n m : Nat} {cs : List CV} (h : cs.all (CV.scp n m) = true) : NoNew m cs := fun ρ σ β β' ha => cvs_agree (agree_refl n ρ) (agree_refl n σ) ha h
theorem applyS_noNew {m : Nat} {N : NB} {x : Nat × Nat × List CV} (hN : ∀ (i : Nat) (kd : Bool) (t : TypeId) (cs : List CV), N[i]? = some (kd, t, cs) → NoNew m cs) (hx : NoNew m x.2.2) : ∀ (i : Nat) (kd : Bool) (t : TypeId) (cs : List CV), (applyS N x)[i]? = some (kd, t, cs) → NoNew m cs := by
  intro i kd t cs h
  rw [applyS_get] at h
  split at h
  · rename_i t' old hi
    split at h
    · cases h
      intro ρ σ β β' ha
      rw [layAt_map, layAt_map, hN i _ _ _ hi ρ σ β β' ha, hx ρ σ β β' ha]
    · cases h
      exact hN i _ _ _ hi
  · exact hN i _ _ _ h
theorem conts_noNew {m : Nat} : ∀ (S : List (Nat × Nat × List CV)) {N : NB}, (∀ (i : Nat) (kd : Bool) (t : TypeId) (cs : List CV), N[i]? = some (kd, t, cs) → NoNew m cs) → (∀ x, x ∈ S → NoNew m x.2.2) → ∀ (i : Nat) (kd : Bool) (t : TypeId) (cs : List CV), (conts N S)[i]? = some (kd, t, cs) → NoNew m cs
  | [], _, hN, _ => hN
  | x :: S, N, hN, hS => conts_noNew S (applyS_noNew hN (hS x (List.mem_cons_self ..))) (fun y hy => hS y (List.mem_cons_of_mem _ hy))
theorem conts_untouched : ∀ (S : List (Nat × Nat × List CV)) {N : NB} {i : Nat}, (∀ x, x ∈ S → x.1 ≠ i) → (conts N S)[i]? = N[i]?
  | [], _, _, _ => rfl
  | x :: S, N, i, h => by
    show (conts (applyS N x) S)[i]? = _
    rw [conts_untouched S (fun y hy => h y (List.mem_cons_of_mem _ hy)), applyS_get]
    cases hN : N[i]? with
    | none => rfl
    | some y =>
      obtain ⟨kd, t, o⟩ := y
      cases kd with
      | true => rfl
      | false => simp only; rw [if_neg (fun e => h x (List.mem_cons_self ..) e.symm)]
theorem freeAt_noNew : ∀ {k : Nat} {f : FS}, freeAt P sig ops st k = some f → (∀ (i : Nat) (kd : Bool) (t : TypeId) (cs : List CV), f.N[i]? = some (kd, t, cs) → NoNew st.own.length cs) ∧ ∀ x, x ∈ f.S → NoNew st.own.length x.2.2
  | 0, f, h => by
    simp only [freeAt, Option.some.injEq] at h
    subst h
    exact ⟨fun i kd t cs h => by simp at h, fun x hx => by simp at hx⟩
  | k + 1, f', h => by
    obtain ⟨f, o, r, hat, rfl⟩ := freeAt_succ h
    obtain ⟨h1, h2⟩ := freeAt_noNew hat.1
    obtain ⟨b1, _⟩ := freeAt_base hat.1
    obtain ⟨g, hs⟩ := stepF_of hat.2.2
    rcases hs.kind with ⟨_, _, _, _, e3, _, b, off, cs, t, old, _, _, hcs, _, e5⟩ | ⟨_, e1, hk⟩
    · refine ⟨fun i kd t cs hi => h1 i kd t cs (by rw [← e3]; exact hi), fun x hx => ?_⟩
      simp only [e5] at hx
      rcases List.mem_append.1 hx with hx | hx
      · exact h2 x hx
      · rw [List.mem_singleton.1 hx]
        rw [b1] at hcs
        exact noNew_scp hcs
    · refine ⟨?_, fun x hx => h2 x (by simp only [e1] at hx; exact hx)⟩
      rcases x_kind hat with ⟨_, _, e3⟩ | ⟨kd, t, cs, v, e3, hcs, _⟩
      · intro i kd t cs hi
        exact h1 i kd t cs (by simp only [e3] at hi; exact hi)
      · intro i kd' t' cs' hi
        simp only [e3] at hi
        by_cases hlt : i < f.N.length
        · rw [List.getElem?_append_left hlt] at hi; exact h1 i _ _ _ hi
        · rw [List.getElem?_append_right (by omega)] at hi
          have : i - f.N.length = 0 := by
            have := lt_of_get hi
            simp at this; omega
          rw [this] at hi
          simp at hi
          obtain ⟨_, _, rfl⟩ := hi
          exact noNew_scp hcs
/-! ### Slices that came back -/

theorem freeAt_n0 : ∀ {k : Nat} {f : FS}, freeAt P sig ops st k = some f → f.n0 = st.n
  | 0, f, h => by
    simp only [freeAt, Option.some.injEq] at h
    subst h
    rfl
  | k + 1, f', h => by
    obtain ⟨f, o, r, hat, rfl⟩ := freeAt_succ h
    have := freeAt_n0 hat.1
    exact this
theorem freeAt_L : ∀ {k : Nat} {f : FS}, freeAt P sig ops st k = some f → ∀ p, p ∈ f.L → ∃ j f1 o1 r1, j < k ∧ At P sig ops st j f1 o1 r1 ∧ p ∈ r1.R
  | 0, f, h, p, hp => by
    simp only [freeAt, Option.some.injEq] at h
    subst h
    simp at hp
  | k + 1, f', h, p, hp => by
    obtain ⟨f, o, r, hat, rfl⟩ := freeAt_succ h
    rcases List.mem_append.1 hp with hp | hp
    · obtain ⟨j, f1, o1, r1, hj, h1⟩ := freeAt_L hat.1 p hp
      exact ⟨j, f1, o1, r1, by omega, h1⟩
    · exact ⟨k, f, o, r, Nat.lt_succ_self k, hat, hp⟩
theorem resLists_rng : ∀ {cs : List CK} {n : Nat} {p : Nat × List EK}, p ∈ resLists n cs → n ≤ p.1 ∧ p.1 < n + cs.length
  | [], _, _, h => by simp [resLists] at h
  | c :: cs, n, p, h => by
    have rest : p ∈ resLists (n + 1) cs → n ≤ p.1 ∧ p.1 < n + (c :: cs).length := fun h => by
      have := resLists_rng h
      simp only [List.length_cons]
      omega
    cases c with
    | lst ek =>
      simp only [resLists, List.mem_cons] at h
      rcases h with rfl | h
      · simp
      · exact rest h
    | _ => exact rest h
theorem R_rng {j : Nat} {f : FS} {o : Oper} {r : FR} (h : At P sig ops st j f o r) {p : Nat × List EK} (hp : p ∈ r.R) : f.st.n ≤ p.1 ∧ p.1 < r.n := by
  obtain ⟨g, hs⟩ := stepF_of h.2.2
  rcases hs.rR with h1 | ⟨res, _, h2, h3⟩
  · rw [h1] at hp; simp at hp
  · rw [h3] at hp
    have := resLists_rng hp
    omega
theorem At_n_le {j k : Nat} {f f1 : FS} {o o1 : Oper} {r r1 : FR} (h : At P sig ops st j f o r) (h1 : At P sig ops st k f1 o1 r1) (hjk : j < k) : r.n ≤ f1.st.n :=
  (freeAt_mono (freeAt_of h) h1.1 (by omega)).2.2
/-- Two operations' own variables are apart. -/
theorem At_apart {j k : Nat} {f f1 : FS} {o o1 : Oper} {r r1 : FR} (h : At P sig ops st j f o r) (h1 : At P sig ops st k f1 o1 r1) (hjk : j ≠ k) : r.n ≤ f1.st.n ∨ r1.n ≤ f.st.n := by
  rcases Nat.lt_or_gt_of_ne hjk with hlt | hlt
  · exact .inl (At_n_le h h1 hlt)
  · exact .inr (At_n_le h1 h hlt)
theorem cvLow_val {m : Nat} {ρ : Env} {σ σ' : Nat → Value} {β : Nat → Nat} (hσ : ∀ l, l < m → σ' l = σ l) {c : CV} (h : cvLow m c = true) : CV.val ρ σ' β c = CV.val ρ σ β c := by
  cases c with
  | lst l => simp only [CV.val]; rw [hσ l (blt_lt h)]
  | elem l w e off => simp only [CV.val]; rw [hσ l (blt_lt h)]
  | _ => rfl
theorem cvsLow_val {m : Nat} {ρ : Env} {σ σ' : Nat → Value} {β : Nat → Nat} (hσ : ∀ l, l < m → σ' l = σ l) {cs : List CV} (h : cs.all (cvLow m) = true) : cs.map (CV.val ρ σ' β) = cs.map (CV.val ρ σ β) :=
  List.map_congr_left fun c hc => cvLow_val hσ (List.all_eq_true.1 h c hc)
theorem svLow_val {m : Nat} {ρ : Env} {σ σ' : Nat → Value} {β : Nat → Nat} (hσ : ∀ l, l < m → σ' l = σ l) {v : SV} (h : svLow m v = true) : v.val ρ σ' β = v.val ρ σ β := by
  have hT : ∀ x : TV, x.cells.all (cvLow m) = true → x.val ρ σ' β = x.val ρ σ β := fun x hx => by
    cases x with
    | one c =>
      simp only [TV.cells, List.all_cons, List.all_nil, Bool.and_true] at hx
      exact cvLow_val hσ hx
    | agg cs => simp only [TV.val]; rw [cvsLow_val hσ (cs := cs) hx]
  cases v with
  | any => rfl
  | tv x => exact hT x h
  | tup ts =>
    simp only [SV.val]
    rw [List.map_congr_left fun x hx => hT x (List.all_eq_true.1 h x hx)]
theorem resS_sig {ρ : Env} {σ σ' : Nat → Value} {β : Nat → Nat} {res : List Sh} {n : Nat} (hσ : ∀ l, n ≤ l → l < n + (shCells res).length → σ' l = σ l) : (resS n res).val ρ σ' β = (resS n res).val ρ σ β := by
  have key : ∀ (cs : List CK) (n : Nat), (∀ l, n ≤ l → l < n + cs.length → σ' l = σ l) → (resCs n cs).map (CV.val ρ σ' β) = (resCs n cs).map (CV.val ρ σ β) := by
    intro cs
    induction cs with
    | nil => intro n _; rfl
    | cons c cs ih =>
      intro n hc
      have h1 := ih (n + 1) (fun l h1 h2 => hc l (by omega) (by simp only [List.length_cons]; omega))
      have h0 := hc n (Nat.le_refl _) (by simp)
      simp only [resCs, List.map_cons, h1]
      congr 1
      cases c <;> first | rfl | simp only [resC, CV.val, h0]
  have keyT : ∀ (s : Sh) (n : Nat), (∀ l, n ≤ l → l < n + s.cells.length → σ' l = σ l) → (resT n s).val ρ σ' β = (resT n s).val ρ σ β := by
    intro s n hs
    cases s with
    | one c =>
      have := key [c] n hs
      simpa [resCs, resT, TV.val] using this
    | agg cs => simp only [resT, TV.val, key cs n hs]
  have keyTs : ∀ (ss : List Sh) (n : Nat), (∀ l, n ≤ l → l < n + (shCells ss).length → σ' l = σ l) → (resTs n ss).map (TV.val ρ σ' β) = (resTs n ss).map (TV.val ρ σ β) := by
    intro ss
    induction ss with
    | nil => intro n _; rfl
    | cons s ss ih =>
      intro n hc
      have h2 : (shCells (s :: ss)).length = s.cells.length + (shCells ss).length := by simp [shCells]
      rw [h2] at hc
      have e1 := ih (n + s.cells.length) (fun l h1 h2 => hc l (by omega) (by omega))
      have e2 := keyT s n (fun l h1 h2 => hc l h1 (by omega))
      simp only [resTs, List.map_cons, e1, e2]
  have h3 := keyTs res n hσ
  unfold resS
  cases res with
  | nil => rfl
  | cons s ss =>
    cases ss with
    | nil => simpa [resTs, SV.val] using h3
    | cons s2 ss => simpa [resTs, SV.val] using h3
/-- An operation's value looks at the old slices, and at its own. -/
theorem x_sig {k : Nat} {f : FS} {o : Oper} {r : FR} (h : At P sig ops st k f o r) {ρ : Env} {σ σ' : Nat → Value} {β : Nat → Nat} (h1 : ∀ l, l < st.n → σ' l = σ l) (h2 : ∀ l, f.st.n ≤ l → l < r.n → σ' l = σ l) : r.x.2.val ρ σ' β = r.x.2.val ρ σ β := by
  obtain ⟨g, hs⟩ := stepF_of h.2.2
  rcases hs.lowx with h3 | ⟨res, h3, h4⟩
  · rw [freeAt_n0 h.1] at h3
    exact svLow_val h1 h3
  · rw [h3]
    exact resS_sig (fun l h5 h6 => h2 l h5 (by omega))
/-- Cells that look at the old slices alone. -/
def SigIn (m : Nat) (cs : List CV) : Prop := ∀ (ρ : Env) (σ σ' : Nat → Value) (β : Nat → Nat), (∀ l, l < m → σ' l = σ l) → cs.map (CV.val ρ σ' β) = cs.map (CV.val ρ σ β)
theorem applyS_sigIn {m : Nat} {N : NB} {x : Nat × Nat × List CV} (hN : ∀ (i : Nat) (kd : Bool) (t : TypeId) (cs : List CV), N[i]? = some (kd, t, cs) → SigIn m cs) (hx : SigIn m x.2.2) : ∀ (i : Nat) (kd : Bool) (t : TypeId) (cs : List CV), (applyS N x)[i]? = some (kd, t, cs) → SigIn m cs := by
  intro i kd t cs h
  rw [applyS_get] at h
  split at h
  · rename_i t' old hi
    split at h
    · cases h
      intro ρ σ σ' β ha
      rw [layAt_map, layAt_map, hN i _ _ _ hi ρ σ σ' β ha, hx ρ σ σ' β ha]
    · cases h
      exact hN i _ _ _ hi
  · exact hN i _ _ _ h
theorem conts_sigIn {m : Nat} : ∀ (S : List (Nat × Nat × List CV)) {N : NB}, (∀ (i : Nat) (kd : Bool) (t : TypeId) (cs : List CV), N[i]? = some (kd, t, cs) → SigIn m cs) → (∀ x, x ∈ S → SigIn m x.2.2) → ∀ (i : Nat) (kd : Bool) (t : TypeId) (cs : List CV), (conts N S)[i]? = some (kd, t, cs) → SigIn m cs
  | [], _, hN, _ => hN
  | x :: S, N, hN, hS => conts_sigIn S (applyS_sigIn hN (hS x (List.mem_cons_self ..))) (fun y hy => hS y (List.mem_cons_of_mem _ hy))
theorem freeAt_sigIn : ∀ {k : Nat} {f : FS}, freeAt P sig ops st k = some f → (∀ (i : Nat) (kd : Bool) (t : TypeId) (cs : List CV), f.N[i]? = some (kd, t, cs) → SigIn st.n cs) ∧ ∀ x, x ∈ f.S → SigIn st.n x.2.2
  | 0, f, h => by
    simp only [freeAt, Option.some.injEq] at h
    subst h
    exact ⟨fun i kd t cs h => by simp at h, fun x hx => by simp at hx⟩
  | k + 1, f', h => by
    obtain ⟨f, o, r, hat, rfl⟩ := freeAt_succ h
    obtain ⟨h1, h2⟩ := freeAt_sigIn hat.1
    have hn0 := freeAt_n0 hat.1
    obtain ⟨g, hs⟩ := stepF_of hat.2.2
    rcases hs.kind with ⟨hst, _, _, _, e3, _, b, off, cs, t, old, _, _, hcs, _, e5⟩ | ⟨_, e1, hk⟩
    · refine ⟨fun i kd t cs hi => h1 i kd t cs (by rw [← e3]; exact hi), fun x hx => ?_⟩
      simp only [e5] at hx
      rcases List.mem_append.1 hx with hx | hx
      · exact h2 x hx
      · rw [List.mem_singleton.1 hx]
        have := (hs.sL hst).2 _ e5
        rw [hn0] at this
        exact fun ρ σ σ' β ha => cvsLow_val ha this
    · refine ⟨?_, fun x hx => h2 x (by simp only [e1] at hx; exact hx)⟩
      rcases x_kind hat with ⟨_, _, e3⟩ | ⟨kd, t, cs, v, e3, hcs, _⟩
      · intro i kd t cs hi
        exact h1 i kd t cs (by simp only [e3] at hi; exact hi)
      · intro i kd' t' cs' hi
        simp only [e3] at hi
        by_cases hlt : i < f.N.length
        · rw [List.getElem?_append_left hlt] at hi; exact h1 i _ _ _ hi
        · rw [List.getElem?_append_right (by omega)] at hi
          have : i - f.N.length = 0 := by
            have := lt_of_get hi
            simp at this; omega
          rw [this] at hi
          simp at hi
          obtain ⟨_, _, rfl⟩ := hi
          have := (hs.lowN _ _ _ e3).1
          rw [hn0] at this
          exact fun ρ σ σ' β ha => cvsLow_val ha this
/-- Where something is stored, no slice comes back. -/
theorem store_noR {j k : Nat} {f f1 : FS} {o o1 : Oper} {r r1 : FR} (h : At P sig ops st j f o r) (hst : isStore o = true) (h1 : At P sig ops st k f1 o1 r1) : r1.R = [] := by
  obtain ⟨g, hs⟩ := stepF_of h.2.2
  obtain ⟨g1, hs1⟩ := stepF_of h1.2.2
  rcases Nat.lt_trichotomy j k with hlt | hlt | hlt
  · apply Classical.byContradiction
    intro hne
    have e := hs1.rS hne
    obtain ⟨_, ⟨M, hM⟩, _⟩ := freeAt_mono (freeAt_of h) h1.1 (by omega)
    rcases hs.kind with ⟨_, _, _, _, _, _, b, off, cs, t, old, _, _, _, _, e5⟩ | ⟨hn, _⟩
    · simp only at hM
      rw [e, e5] at hM
      have := congrArg List.length hM
      simp at this
    · rw [hst] at hn; cases hn
  · subst hlt
    obtain ⟨rfl, rfl, rfl⟩ := At_same h h1
    rcases hs.rR with h3 | ⟨res, h3, _⟩
    · exact h3
    · rcases hs.kind with ⟨_, _, e1, _⟩ | ⟨hn, _⟩
      · rw [e1] at h3
        exact absurd (congrArg Prod.snd h3).symm (resS_ne _ _)
      · rw [hst] at hn; cases hn
  · have hL := (hs.sL hst).1
    apply Classical.byContradiction
    intro hne
    obtain ⟨p, hp⟩ := List.exists_mem_of_ne_nil _ hne
    have : p ∈ f.L := by
      have mono : ∀ {m : Nat} {F : FS}, freeAt P sig ops st m = some F → k + 1 ≤ m → p ∈ F.L := by
        intro m
        induction m with
        | zero => intro F _ hkm; omega
        | succ m ih =>
          intro F hF hkm
          obtain ⟨f2, o2, r2, hat2, rfl⟩ := freeAt_succ hF
          by_cases hkm2 : k = m
          · subst hkm2
            obtain ⟨rfl, rfl, rfl⟩ := At_same h1 hat2
            exact List.mem_append.2 (.inr hp)
          · exact List.mem_append.2 (.inl (ih hat2.1 (by omega)))
      exact mono h.1 (by omega)
    rw [hL] at this
    simp at this
end
end Go.Vg

/- Such a region does what its run says, whichever order is drawn. -/
namespace Go.Vg
open Go.RowKit
set_option linter.unusedVariables false
set_option linter.unusedSimpArgs false

section
variable {P : Program} {G : World → Prop} {sig : List (Nat × List Sh × List Sh)} {Γ : Cx} {W : Base} {ops : Array Oper} {st : St} {F : FS}
variable {ρ : Env} {σ : Nat → Value} {β : Nat → Nat} {a0 : Act} {w0 : World}

theorem alloc_at : ∀ {m : Nat} {F : FS}, freeAt P sig ops st m = some F → ∀ i, i < F.N.length → ∃ k f o r, k < m ∧ At P sig ops st k f o r ∧ f.N.length = i ∧ r.N.length = f.N.length + 1
  | 0, F, h, i, hi => by
    simp only [freeAt, Option.some.injEq] at h
    subst h
    simp at hi
  | m + 1, F', h, i, hi => by
    obtain ⟨f, o, r, hat, rfl⟩ := freeAt_succ h
    by_cases hif : i < f.N.length
    · obtain ⟨k, f1, o1, r1, hk, h1⟩ := alloc_at hat.1 i hif
      exact ⟨k, f1, o1, r1, by omega, h1⟩
    · rcases x_kind hat with ⟨_, _, e3⟩ | ⟨kd, t, cs, v, e3, _⟩
      · simp only [e3] at hi; omega
      · simp only [e3] at hi
        simp at hi
        exact ⟨m, f, o, r, Nat.lt_succ_self m, hat, by omega, by rw [e3]; simp⟩
theorem store_at : ∀ {m : Nat} {F : FS}, freeAt P sig ops st m = some F → ∀ q, q < F.S.length → ∃ k f o r, k < m ∧ At P sig ops st k f o r ∧ isStore o = true ∧ f.S.length = q
  | 0, F, h, q, hq => by
    simp only [freeAt, Option.some.injEq] at h
    subst h
    simp at hq
  | m + 1, F', h, q, hq => by
    obtain ⟨f, o, r, hat, rfl⟩ := freeAt_succ h
    by_cases hqf : q < f.S.length
    · obtain ⟨k, f1, o1, r1, hk, h1⟩ := store_at hat.1 q hqf
      exact ⟨k, f1, o1, r1, by omega, h1⟩
    · obtain ⟨g, hs⟩ := stepF_of hat.2.2
      rcases hs.kind with ⟨hst, _, _, _, _, _, b, off, cs, t, old, _, _, _, _, e5⟩ | ⟨_, e1, _⟩
      · simp only [e5] at hq
        simp at hq
        exact ⟨m, f, o, r, Nat.lt_succ_self m, hat, hst, by omega⟩
      · simp only [e1] at hq; omega

theorem its_step {f : FS} {o : Oper} {r : FR} (h : freeStep P sig ops f o = some r) (ρ' : Env) : agree f.st.n ρ' (itsEnv Γ r.its ρ') := by
  obtain ⟨g, hs⟩ := stepF_of h
  rcases hs.kind with ⟨_, _, _, _, _, e, _⟩ | ⟨_, _, ⟨c, args, res, _, _, _, _, _, _, e⟩ | ⟨v, obs, _, _, _, _, _, _, e⟩ | ⟨t, cs, v, v', kd, _, _, _, _, _, _, _, e⟩⟩
  · rw [e]; exact agree_refl _ _
  · rw [e]; exact agree_push _ _ _
  · rw [e, env_ob]; exact agree_refl _ _
  · rw [e]; exact agree_refl _ _
theorem its_prefix {k m : Nat} {f F : FS} (hk : freeAt P sig ops st k = some f) (hm : freeAt P sig ops st m = some F) (hkm : k ≤ m) :
    (∃ rest, F.its = f.its ++ rest) ∧ agree f.st.n (itsEnv Γ f.its ρ) (itsEnv Γ F.its ρ) := by
  induction m generalizing F with
  | zero =>
    have : k = 0 := by omega
    subst this
    rw [hk] at hm; cases hm
    exact ⟨⟨[], by simp⟩, agree_refl _ _⟩
  | succ m ih =>
    by_cases hk' : k = m + 1
    · subst hk'
      rw [hk] at hm; cases hm
      exact ⟨⟨[], by simp⟩, agree_refl _ _⟩
    · obtain ⟨f', o, r, hat, rfl⟩ := freeAt_succ hm
      obtain ⟨⟨rest, e1⟩, e2⟩ := ih hat.1 (by omega)
      refine ⟨⟨rest ++ r.its, by simp only [e1, List.append_assoc]⟩, ?_⟩
      show agree f.st.n _ (itsEnv Γ (f'.its ++ r.its) ρ)
      rw [itsEnv_append]
      exact agree_trans e2 (its_step hat.2.2 _) (freeAt_mono hk hat.1 (by omega)).2.2
theorem its_at {m : Nat} (hF : freeAt P sig ops st m = some F) (hits : itsHold Γ F.its ρ) {k : Nat} (hk : k < m) {f : FS} {o : Oper} {r : FR} (h : At P sig ops st k f o r) :
    itsHold Γ r.its (itsEnv Γ f.its ρ) ∧ agree r.n (itsEnv Γ r.its (itsEnv Γ f.its ρ)) (itsEnv Γ F.its ρ) ∧ agree f.st.n (itsEnv Γ f.its ρ) (itsEnv Γ F.its ρ) := by
  have h1 := freeAt_of h
  obtain ⟨⟨rest, e1⟩, e2⟩ := its_prefix (Γ := Γ) (ρ := ρ) h1 hF (by omega)
  rw [e1] at hits
  obtain ⟨h2, _⟩ := itsHold_append hits
  obtain ⟨_, h3⟩ := itsHold_append h2
  refine ⟨h3, ?_, (its_prefix (Γ := Γ) (ρ := ρ) h.1 hF (by omega)).2⟩
  have e3 : agree r.n (itsEnv Γ (f.its ++ r.its) ρ) (itsEnv Γ F.its ρ) := e2
  rwa [itsEnv_append] at e3

theorem resS_sigma {res : List Sh} (hl : hasLst (shCells res) = false) (n : Nat) (ρ : Env) (σ σ' : Nat → Value) (β : Nat → Nat) : (resS n res).val ρ σ β = (resS n res).val ρ σ' β := by
  have key : ∀ (cs : List CK) (n : Nat), hasLst cs = false → (resCs n cs).map (CV.val ρ σ β) = (resCs n cs).map (CV.val ρ σ' β) := by
    intro cs
    induction cs with
    | nil => intro n _; rfl
    | cons c cs ih =>
      intro n hc
      simp only [hasLst, List.any_cons, Bool.or_eq_false_iff] at hc
      cases c <;> first | (simp [refK] at hc; done) | (simp only [resCs, List.map_cons, ih (n + 1) hc.2]; rfl)
  have keyT : ∀ (s : Sh) (n : Nat), hasLst s.cells = false → (resT n s).val ρ σ β = (resT n s).val ρ σ' β := by
    intro s n hs
    cases s with
    | one c =>
      have := key [c] n hs
      simpa [resCs, resT, TV.val] using this
    | agg cs => simp only [resT, TV.val, key cs n hs]
  have keyTs : ∀ (ss : List Sh) (n : Nat), hasLst (shCells ss) = false → (resTs n ss).map (TV.val ρ σ β) = (resTs n ss).map (TV.val ρ σ' β) := by
    intro ss
    induction ss with
    | nil => intro n _; rfl
    | cons s ss ih =>
      intro n hc
      have : hasLst s.cells = false ∧ hasLst (shCells ss) = false := by
        have h2 : shCells (s :: ss) = s.cells ++ shCells ss := by simp [shCells]
        rw [h2] at hc
        simpa [hasLst] using hc
      simp only [resTs, List.map_cons, keyT s n this.1, ih _ this.2]
  have h3 := keyTs res n hl
  unfold resS
  cases res with
  | nil => rfl
  | cons s ss =>
    cases ss with
    | nil => simpa [resTs, SV.val] using h3
    | cons s2 ss => simpa [resTs, SV.val] using h3

/-! ### New blocks behind the old ones -/

theorem WOk.extend {w : World} {O M : List (TypeId × List CV)} {L : List (Nat × List EK)} (hw : WOk W ρ σ β O L w0) (hb : Below w0.heap.size w0 w) (h0 : ∀ (i : Nat) t cs, M[i]? = some (t, cs) → isTag t = false)
    (h1 : ∀ (i : Nat) t cs, M[i]? = some (t, cs) → w.heap[β (O.length + i)]? = some (.cells (cs.map (CV.val ρ σ β)).toArray t (0, 0)))
    (h2 : ∀ i, i < M.length → w0.heap.size ≤ β (O.length + i)) (h3 : ∀ i j, i < M.length → j < M.length → β (O.length + i) = β (O.length + j) → i = j) : WOk W ρ σ β (O ++ M) L w := by
  have hw' := hw.call hb
  have split : ∀ k, k < (O ++ M).length → k < O.length ∨ ∃ i, i < M.length ∧ k = O.length + i := fun k hk => by
    by_cases h : k < O.length
    · exact .inl h
    · exact .inr ⟨k - O.length, by simp at hk; omega, by omega⟩
  refine ⟨hw'.below, fun k t cs hk ht => ?_, fun k t cs hk ht => ?_, fun j k hj hk e => ?_, fun k u ds hk hr => ?_, fun p hp => ?_, fun l T K hm he => ?_, hw'.self, by rw [List.length_append]; exact Nat.le_trans hw'.slen (Nat.le_add_right ..), hw'.sep⟩
  · rcases split k (lt_of_get hk) with h | ⟨i, hi, rfl⟩
    · rw [List.getElem?_append_left h] at hk; exact hw'.own k t cs hk ht
    · rw [List.getElem?_append_right (by omega), Nat.add_sub_cancel_left] at hk; exact h1 i t cs hk
  · rcases split k (lt_of_get hk) with h | ⟨i, hi, rfl⟩
    · rw [List.getElem?_append_left h] at hk; exact (hw'.obj k t cs hk ht).more _
    · rw [List.getElem?_append_right (by omega), Nat.add_sub_cancel_left] at hk
      rw [h0 i t cs hk] at ht; cases ht
  · rcases split j hj with hj' | ⟨i, hi, rfl⟩ <;> rcases split k hk with hk' | ⟨i', hi', rfl⟩
    · exact hw'.inj j k hj' hk' e
    · have := own_lt hw hj'; have := h2 i' hi'; omega
    · have := own_lt hw hk'; have := h2 i hi; omega
    · rw [h3 i i' hi hi' e]
  · rcases split k (lt_of_get hk) with h | ⟨i, hi, rfl⟩
    · rw [List.getElem?_append_left h] at hk; exact hw'.ge k u ds hk hr
    · exact .inl (Nat.le_trans hw.below.size (h2 i hi))
  · have hr := hw'.lists p hp
    obtain ⟨base, cap, e1, e2⟩ := hr
    refine ⟨base, cap, e1, ?_⟩
    rcases e2 with e2 | ⟨ad, e3, e4, e5, e6⟩
    · exact .inl e2
    · by_cases hl0 : (ρ p.1).lv.len = 0
      · exact .inl hl0
      · refine .inr ⟨ad, e3, e4, ⟨e5.1, fun k hk => ?_⟩, e6⟩
        rcases split k hk with h | ⟨i, hi, rfl⟩
        · exact e5.2 k h
        · intro e
          obtain ⟨base', cap', f1, f2⟩ := hw.lists p hp
          rcases f2 with f2 | ⟨ad', f3, _, f5, _⟩
          · exact hl0 f2
          · rw [f1] at e1
            have eb := (Value.slice.inj e1).1
            rw [f3, e3] at eb
            cases eb
            have := f5.1; have := h2 i hi; omega
  · obtain ⟨g1, g2⟩ := hw'.gro l T K hm he
    refine ⟨g1, fun k hk => ?_⟩
    rcases split k hk with h | ⟨i, hi, rfl⟩
    · exact g2 k h
    · intro e
      have := ((hw.gro l T K hm he).1.lt _ e).2
      have := h2 i hi
      omega

/-! ### What holds, whatever has come up -/

structure InvB (P : Program) (sig : List (Nat × List Sh × List Sh)) (ops : Array Oper) (st : St) (F : FS) (ρs : Env) (σ : Nat → Value) (β : Nat → Nat) (a0 : Act) (w0 : World)
    (β' : Nat → Nat) (s : Nat) (listed : Array Bool) (a : Act) (w : World) : Prop where
  lsize : listed.size = ops.size
  asize : a.tmps.size = st.nt
  defers : a.defers = []
  init : ∀ t, (∀ (j : Nat) (o : Oper), ops[j]? = some o → o.dst ≠ some t) → a.tmps.getD t undef = a0.tmps.getD t undef
  slot : ∀ j f o r d, At P sig ops st j f o r → listed.getD j false = true → o.dst = some d → d < st.nt → SlotOk ρs σ β' r.x (a.tmps.getD d undef)
  mem : Below w0.heap.size w0 w
  blk : ∀ j f o r kd t cs, At P sig ops st j f o r → r.N.length = f.N.length + 1 → listed.getD j false = true → (conts F.N (F.S.take s))[f.N.length]? = some (kd, t, cs) →
    w.heap[β' (st.own.length + f.N.length)]? = some (.cells (cs.map (CV.val ρs σ β')).toArray t (0, 0))
  ge : ∀ j f o r, At P sig ops st j f o r → r.N.length = f.N.length + 1 → listed.getD j false = true → w0.heap.size ≤ β' (st.own.length + f.N.length)
  lt : ∀ j f o r, At P sig ops st j f o r → r.N.length = f.N.length + 1 → listed.getD j false = true → β' (st.own.length + f.N.length) < w.heap.size
  inj : ∀ j f o r j' f' o' r', At P sig ops st j f o r → r.N.length = f.N.length + 1 → listed.getD j false = true → At P sig ops st j' f' o' r' → r'.N.length = f'.N.length + 1 → listed.getD j' false = true →
    β' (st.own.length + f.N.length) = β' (st.own.length + f'.N.length) → f.N.length = f'.N.length
  sto : ∀ j f o r, At P sig ops st j f o r → isStore o = true → (listed.getD j false = true ↔ f.S.length < s)
  agr : agree st.own.length β β'
  closed : ∀ (j : Nat) (o : Oper), ops[j]? = some o → listed.getD j false = true → ∀ e, e ∈ o.after → Region.binds .any e = true → listed.getD e.on false = true
  lst : ∀ j f o r, At P sig ops st j f o r → listed.getD j false = true → Gd.holds ρs r.x.1 → ∀ p, p ∈ r.R → reads w 0 β0 p.2 (ρs p.1).lv (σ p.1)

open Classical in
noncomputable def slotVal (ρ : Env) (σ : Nat → Value) (β : Nat → Nat) (x : Gd × SV) : Value := if Gd.holds ρ x.1 then x.2.val ρ σ β else undef
theorem slotVal_ok {x : Gd × SV} : SlotOk ρ σ β x (slotVal ρ σ β x) := by
  unfold slotVal SlotOk
  by_cases h : Gd.holds ρ x.1
  · rw [if_pos h]; exact .inr (.inl ⟨h, rfl⟩)
  · rw [if_neg h]; exact .inr (.inr ⟨h, rfl⟩)

/-- The slots, with all that is to come up ahead of number k filled in. -/
noncomputable def fill (P : Program) (sig : List (Nat × List Sh × List Sh)) (ops : Array Oper) (st : St) (ρs : Env) (σ : Nat → Value) (β' : Nat → Nat) (listed : Array Bool) (a : Act) : Nat → Act
  | 0 => a
  | k + 1 => if listed.getD k false = true then fill P sig ops st ρs σ β' listed a k else match freeAt P sig ops st k, ops[k]? with
    | some f, some o => match freeStep P sig ops f o with
      | some r => (fill P sig ops st ρs σ β' listed a k).put o.dst (slotVal ρs σ β' r.x)
      | none => fill P sig ops st ρs σ β' listed a k
    | _, _ => fill P sig ops st ρs σ β' listed a k

variable {ρs : Env} {β' : Nat → Nat} {s : Nat} {listed : Array Bool} {a : Act} {w : World}

theorem fill_at {k : Nat} {f : FS} {o : Oper} {r : FR} (h : At P sig ops st k f o r) :
    fill P sig ops st ρs σ β' listed a (k + 1) = if listed.getD k false = true then fill P sig ops st ρs σ β' listed a k else (fill P sig ops st ρs σ β' listed a k).put o.dst (slotVal ρs σ β' r.x) := by
  obtain ⟨h1, h2, h3⟩ := h
  simp only [fill, h1, h2, h3]

theorem put_get_ne {a : Act} {dst : Option Tmp} {v : Value} {t : Nat} (h : dst ≠ some t) : (a.put dst v).tmps.getD t undef = a.tmps.getD t undef := by
  cases dst with
  | none => rfl
  | some d =>
    simp only [Act.put]
    rw [Array.getD_eq_getD_getElem?, Array.getD_eq_getD_getElem?, Array.getElem?_setIfInBounds_ne (fun e => h (by rw [e]))]
theorem put_get_eq {a : Act} {d : Tmp} {v : Value} (h : d < a.tmps.size) : (a.put (some d) v).tmps.getD d undef = v := by
  simp only [Act.put]
  rw [Array.getD_eq_getD_getElem?, Array.getElem?_setIfInBounds_self_of_lt h]
  rfl
theorem put_size {a : Act} {dst : Option Tmp} {v : Value} : (a.put dst v).tmps.size = a.tmps.size := by
  cases dst <;> simp [Act.put]
theorem put_defers {a : Act} {dst : Option Tmp} {v : Value} : (a.put dst v).defers = a.defers := by
  cases dst <;> rfl

/-- A slot that bears the value already. -/
theorem TOk.put_same {f : St} {ρ : Env} {σ : Nat → Value} {β : Nat → Nat} {a : Act} (hT : TOk ρ σ β f a) {dst : Option Tmp} {x : Gd × SV} (h : ∀ d, dst = some d → d < f.nt → SlotOk ρ σ β x (a.tmps.getD d undef)) : TOk ρ σ β (f.put dst x) a := by
  have hnt : (f.put dst x).nt = f.nt ∧ (f.put dst x).pc = f.pc := by
    cases dst with
    | none => exact ⟨rfl, rfl⟩
    | some d => simp only [St.put]; split <;> exact ⟨rfl, rfl⟩
  refine ⟨by rw [hnt.1]; exact hT.size, fun t g sv ht => ?_, hT.defers, by rw [hnt.2]; exact hT.pc⟩
  rcases getT_put ht with ⟨h1, h2, h3⟩ | ⟨_, h2⟩
  · have := h t h1 h2
    rw [← h3] at this
    exact this
  · exact hT.slot t g sv h2

theorem fill_get (hl : lexFast ops ops.size = true) : ∀ {k j : Nat} {oj : Oper} {d : Tmp}, ops[j]? = some oj → oj.dst = some d → k ≤ j → (fill P sig ops st ρs σ β' listed a k).tmps.getD d undef = a.tmps.getD d undef
  | 0, _, _, _, _, _, _ => rfl
  | k + 1, j, oj, d, hj, hd, hk => by
    have ih := fill_get hl hj hd (show k ≤ j by omega)
    unfold fill
    split
    · exact ih
    · split
      · rename_i f o _ ho
        split
        · rw [put_get_ne (fun e => ?_)]
          · exact ih
          · have := lex_dst hl ho hj e hd
            omega
        · exact ih
      · exact ih

theorem fill_tok (hl : lexFast ops ops.size = true) (hF : freeAt P sig ops st ops.size = some F) (hT0 : TOk ρs σ β' st a0) (hI : InvB P sig ops st F ρs σ β a0 w0 β' s listed a w) :
    ∀ {k : Nat} {f : FS}, freeAt P sig ops st k = some f → k ≤ ops.size → TOk ρs σ β' f.st (fill P sig ops st ρs σ β' listed a k)
  | 0, f, h, _ => by
    simp only [freeAt, Option.some.injEq] at h
    subst h
    refine ⟨hI.asize, fun t g sv ht => ?_, hI.defers, hT0.pc⟩
    rcases freeAt_slots (P := P) (sig := sig) (ops := ops) (st := st) (k := 0) rfl t (g, sv) ht with ⟨h1, h2⟩ | ⟨j, _, _, _, hj, _⟩
    · show SlotOk ρs σ β' (g, sv) (a.tmps.getD t undef)
      rw [hI.init t h2]
      exact hT0.slot t g sv h1
    · omega
  | k + 1, f', h, hk => by
    obtain ⟨f, o, r, hat, rfl⟩ := freeAt_succ h
    have ih := fill_tok hl hF hT0 hI hat.1 (by omega)
    rw [fill_at hat]
    have hnt := (freeAt_base hat.1).2.2.1
    by_cases hlk : listed.getD k false = true
    · rw [if_pos hlk]
      have := ih.put_same (dst := o.dst) (x := r.x) (fun d hd hdn => by
        rw [fill_get hl hat.2.1 hd (Nat.le_refl k)]
        exact hI.slot k f o r d hat hlk hd (by rw [← hnt]; exact hdn))
      exact ⟨this.size, this.slot, this.defers, this.pc⟩
    · rw [if_neg hlk]
      have := ih.put o.dst (g := r.x.1) (sv := r.x.2) (v := slotVal ρs σ β' r.x) slotVal_ok
      exact ⟨this.size, this.slot, this.defers, this.pc⟩

theorem fill_exec (hl : lexFast ops ops.size = true) {j : Nat} {oj : Oper} (hj : ops[j]? = some oj) (hr : j ∈ Region.ready .any ops listed) : ∀ {k : Nat}, k ≤ j →
    execOp (fill P sig ops st ρs σ β' listed a k).eval oj = execOp a.eval oj ∧ Region.wanted oj (yielded ops (fill P sig ops st ρs σ β' listed a k).tmps) = Region.wanted oj (yielded ops a.tmps)
  | 0, _ => ⟨rfl, rfl⟩
  | k + 1, hk => by
    have ih := fill_exec hl hj hr (show k ≤ j by omega)
    unfold fill
    split
    · exact ih
    · rename_i hlk
      split
      · rename_i f o _ ho
        split
        · have hno : ∀ d, o.dst = some d → d ∉ oj.looksAt ops := fun d hd hm => by
            have hlx := lex_looks hl hj ho hm hd
            obtain ⟨e, he, hb, h1⟩ := hlx.resolve_right (fun h => by omega)
            obtain ⟨_, o', ho', hall⟩ := mem_ready.1 hr
            rw [hj] at ho'; cases ho'
            have := hall e he hb
            rw [h1] at this
            exact hlk this
          have hns := Region.noSelect_spec (lexFast_spec hl).1
          rw [execOp_put oj (fun cs b => hns j oj cs b hj) _ o.dst _ hno, wanted_put oj _ o.dst _ hno]
          exact ih
        · exact ih
      · exact ih

theorem getD_set {listed : Array Bool} {j k : Nat} (hj : j < listed.size) : (listed.setIfInBounds j true).getD k false = if k = j then true else listed.getD k false := by
  by_cases h : k = j
  · subst h
    rw [if_pos rfl, Array.getD_eq_getD_getElem?, Array.getElem?_setIfInBounds_self_of_lt hj]
    rfl
  · rw [if_neg h, getD_set_ne false (Ne.symm h)]
end
end Go.Vg

/- Each operation that comes up keeps what holds; at the end all is as the run says. -/
namespace Go.Vg
open Go.RowKit
set_option linter.unusedVariables false
set_option linter.unusedSimpArgs false

section
variable {P : Program} {G : World → Prop} {sig : List (Nat × List Sh × List Sh)} {Γ : Cx} {W : Base} {ops : Array Oper} {st : St} {F : FS}
variable {ρ : Env} {σ : Nat → Value} {β : Nat → Nat} {a0 : Act} {w0 : World}

theorem opnd_tmp {s : St} {g : Gd} {x : Operand} {y : TV} (h : s.opnd g x = some (.tv y)) : (∃ t gd, x = .tmp t ∧ getT s.tmps t = some (gd, .tv y)) ∨ (∀ b n, ¬ (CV.osl b n ∈ y.cells ∨ CV.ptr b n ∈ y.cells)) := by
  unfold St.opnd at h
  cases x with
  | tmp t =>
    simp only at h
    split at h
    · rename_i gd sv ht
      split at h
      · cases h; exact .inl ⟨t, gd, rfl, ht⟩
      · split at h
        · cases h; exact .inl ⟨t, gd, rfl, ht⟩
        · cases h
    · cases h
  | const v =>
    right
    have hc : ∀ (v : Value) (c : CV), CV.ofCell v = some c → ∀ b n, ¬ (c = .osl b n ∨ c = .ptr b n) := by
      intro v c hv b n hbn
      unfold CV.ofCell at hv
      split at hv <;> cases hv <;> simp at hbn
    simp only [SV.ofConst] at h
    intro b n hm
    split at h
    · rename_i cs
      split at h
      · rename_i l hl
        cases h
        have key : ∀ (l : List Value) (r : List CV), mapO CV.ofCell l = some r → ∀ c, c ∈ r → ¬ (c = .osl b n ∨ c = .ptr b n) := by
          intro l
          induction l with
          | nil => intro r hr c hc; simp only [mapO, Option.some.injEq] at hr; subst hr; simp at hc
          | cons v l ih =>
            intro r hr c hcm
            simp only [mapO] at hr
            cases hx : CV.ofCell v with
            | none => simp [hx] at hr
            | some b' =>
              cases hl' : mapO CV.ofCell l with
              | none => simp [hx, hl'] at hr
              | some bs =>
                simp only [hx, hl', Option.some.injEq] at hr
                subst hr
                rcases List.mem_cons.1 hcm with e | e
                · rw [e]; exact hc v b' hx b n
                · exact ih bs hl' c e
        rcases hm with hm | hm
        · exact key _ _ hl _ hm (.inl rfl)
        · exact key _ _ hl _ hm (.inr rfl)
      · cases h
    · split at h
      · rename_i c hcc
        cases h
        have := hc _ _ hcc b n
        simp only [TV.cells, List.mem_singleton] at hm
        exact this (hm.imp Eq.symm Eq.symm)
      · cases h
  | global _ => cases h
  | func _ => cases h

theorem least_nat' {p : Nat → Prop} (h : ∃ n, p n) : ∃ n, p n ∧ ∀ m, p m → n ≤ m := by
  obtain ⟨n, hn⟩ := h
  induction n using Nat.strongRecOn with
  | _ n ih =>
    by_cases hm : ∃ m, m < n ∧ p m
    · obtain ⟨m, h1, h2⟩ := hm
      exact ih m h1 h2
    · exact ⟨n, hn, fun m h1 => by
        rcases Nat.lt_or_ge m n with h2 | h2
        · exact absurd ⟨m, h2, h1⟩ hm
        · exact h2⟩
theorem ax_agree {n m : Nat} {ρ ρ' : Env} (h : agree n ρ ρ') {x : Ax} (hx : x.scp n m = true) : x.ev ρ' = x.ev ρ := by
  cases x with
  | i e => simp only [Ax.ev]; rw [int_agree h hx]
  | b e => simp only [Ax.ev]; rw [bool_agree h hx]
  | l k => simp only [Ax.ev]; rw [h k (blt_lt hx)]
  | c w y cs =>
    simp only [Ax.scp, Bool.and_eq_true] at hx
    simp only [Ax.ev]
    have hi : ∀ c, c ∈ cs → CV.intv ρ' c = CV.intv ρ c ∧ CV.boolv ρ' c = CV.boolv ρ c := fun c hc => by
      have := List.all_eq_true.1 hx.2 c hc
      cases c <;> simp only [CV.scp] at this <;> simp only [CV.intv, CV.boolv, and_self, and_true, true_and]
      · exact int_agree h this
      · exact bool_agree h this
    have hg : ∀ (j : Nat), CV.intv ρ' (cs.getD j .nilp) = CV.intv ρ (cs.getD j .nilp) ∧ CV.boolv ρ' (cs.getD j .nilp) = CV.boolv ρ (cs.getD j .nilp) := fun j => by
      rw [List.getD_eq_getElem?_getD]
      cases hj : cs[j]? with
      | none => exact ⟨rfl, rfl⟩
      | some c => exact hi c (List.mem_of_getElem? hj)
    unfold cellsLV
    congr 2
    · funext i c; exact (hg _).1
    · funext i c; exact (hg _).2
  | o k y =>
    simp only [Ax.scp, Bool.and_eq_true] at hx
    simp only [Ax.ev]; rw [h k (blt_lt hx.1)]
  | v k => simp only [Ax.ev]; rw [h k (blt_lt hx)]
  | p e y =>
    simp only [Ax.scp, Bool.and_eq_true] at hx
    simp only [Ax.ev]; rw [int_agree h hx.1]
  | upd k e y =>
    simp only [Ax.scp, Bool.and_eq_true] at hx
    simp only [Ax.ev]; rw [h k (blt_lt hx.1.1), int_agree h hx.1.2, int_agree h hx.2]
  | updb k e y =>
    simp only [Ax.scp, Bool.and_eq_true] at hx
    simp only [Ax.ev]; rw [h k (blt_lt hx.1.1), int_agree h hx.1.2, bool_agree h hx.2]
theorem applyS_tags {N : List (Bool × TypeId × List CV)} (h : N.all noTag = true) (x : Nat × Nat × List CV) : (applyS N x).all noTag = true := by
  unfold applyS
  split
  · rename_i t old ho
    rw [List.all_eq_true] at h ⊢
    intro y hy
    obtain ⟨k, hk⟩ := List.getElem?_of_mem hy
    rw [setAt_get] at hk
    split at hk
    · split at hk
      · cases hk
        have := h _ (List.mem_of_getElem? ho)
        exact this
      · cases hk
    · exact h _ (List.mem_of_getElem? hk)
  · exact h
theorem conts_tags (S : List (Nat × Nat × List CV)) : ∀ (N : List (Bool × TypeId × List CV)), N.all noTag = true → (conts N S).all noTag = true := by
  induction S with
  | nil => intro N h; exact h
  | cons x S ih => intro N h; exact ih (applyS N x) (applyS_tags h x)
theorem blks_tags {N : List (Bool × TypeId × List CV)} (h : N.all noTag = true) {i : Nat} {t : TypeId} {cs : List CV} (hi : (blks N)[i]? = some (t, cs)) : isTag t = false := by
  unfold blks at hi
  rw [List.getElem?_map] at hi
  cases hc : N[i]? with
  | none => rw [hc] at hi; cases hi
  | some y =>
    rw [hc] at hi
    obtain ⟨kd, t', cs'⟩ := y
    cases hi
    have := List.all_eq_true.1 h _ (List.mem_of_getElem? hc)
    simpa [noTag] using this
theorem call_operand {c0 : Call} {x : Operand} (hx : x ∈ c0.args.toList) : x ∈ c0.operands := by
  unfold Call.operands
  have : x ∈ c0.args := by simpa using hx
  cases c0.callee <;> simp [this]

/-- The new block that an operand names was made by an operation that is waited for. -/
theorem slot_blocks (hl : lexFast ops ops.size = true) (hscp : st.scp st.n = true) {j : Nat} {f : FS} {o : Oper} {r : FR} (hat : At P sig ops st j f o r) {g : Gd} {x : Operand} (hx : x ∈ o.op.operands.toList) {y : TV}
    (hy : f.st.opnd g x = some (.tv y)) {b n : Nat} (hb : CV.osl b n ∈ y.cells ∨ CV.ptr b n ∈ y.cells) :
    b < st.own.length ∨ ∃ k f1 o1 r1 kd t cs, k < j ∧ At P sig ops st k f1 o1 r1 ∧ r1.N = f1.N ++ [(kd, t, cs)] ∧ b = st.own.length + f1.N.length ∧ (CV.osl b n ∈ y.cells → kd = true) ∧
      (∃ e, e ∈ o.after ∧ Region.binds .any e = true ∧ e.on = k) := by
  rcases opnd_tmp hy with ⟨t, gd, rfl, ht⟩ | hno
  · rcases freeAt_slots hat.1 t _ ht with ⟨h1, _⟩ | ⟨k, f1, o1, r1, hk, hat1, hd, _, hx1⟩
    · left
      obtain ⟨h4, _, _, _⟩ := st_scp hscp
      have h5 := (h4 (t, (gd, .tv y)) (getT_mem h1)).2
      have hall : ∀ c, c ∈ y.cells → CV.scp st.n st.own.length c = true := List.all_eq_true.1 (by simpa [SV.scp, TV.scp] using h5)
      rcases hb with hb | hb
      · have := hall _ hb; exact blt_lt this
      · have := hall _ hb; exact blt_lt this
    · have hedge : ∃ e, e ∈ o.after ∧ Region.binds .any e = true ∧ e.on = k := by
        refine (lex_looks hl hat.2.1 hat1.2.1 (t := t) ?_ hd).resolve_right (fun h => by omega)
        unfold Oper.looksAt
        rw [List.mem_append]
        exact .inl (List.mem_filterMap.2 ⟨.tmp t, hx, rfl⟩)
      rcases x_kind hat1 with ⟨_, h6, _⟩ | ⟨kd, ty, cs, v, e3, _, hv⟩
      · left
        exact h6 y (by rw [hx1]) b n hb
      · right
        rw [hx1] at hv
        simp only at hv
        rcases newV_spec hv with ⟨_, e5, e6⟩ | ⟨len, _, e5, e6⟩
        · cases e5
          simp only [TV.cells, List.mem_singleton, CV.ptr.injEq, reduceCtorEq, false_or] at hb
          exact ⟨k, f1, o1, r1, kd, ty, cs, hk, hat1, e3, hb.1, fun h => by simp [TV.cells] at h, hedge⟩
        · cases e5
          simp only [TV.cells, List.mem_singleton, CV.osl.injEq, reduceCtorEq, or_false] at hb
          exact ⟨k, f1, o1, r1, kd, ty, cs, hk, hat1, e3, hb.1, fun _ => e6, hedge⟩
  · exact absurd hb (hno b n)

theorem step_store {s : St} {g : Gd} {o : Oper} {b off : Nat} {cs : List CV} (hst : isStore o = true) (h : stepOp P sig s g o = some (.store b off cs)) : ∃ x, x ∈ o.op.operands.toList ∧ s.opnd g x = some (.tv (.one (.ptr b off))) := by
  unfold isStore at hst
  split at hst
  · rename_i t x y ho
    have h : stepOp1 P sig s g o = some (.store b off cs) := by
      unfold stepOp at h
      split at h
      · rename_i s' hs'
        rw [hs', h]
      · simp only [stepM, ho] at h
        cases h
    simp only [stepOp1, ho] at h
    split at h
    · rename_i b' off' cs' s' hx hy hs
      split at h
      · split at h
        · cases h
        split at h
        · cases h
          refine ⟨x, by rw [ho]; simp [Op.operands], ?_⟩
          unfold St.cell at hx
          split at hx
          · rename_i c hc; cases hx; exact hc
          · cases hx
        · cases h
      · cases h
    · cases h
  · cases hst

theorem alloc_uniq {j k : Nat} {f f1 : FS} {o o1 : Oper} {r r1 : FR} (h : At P sig ops st j f o r) (h1 : At P sig ops st k f1 o1 r1) (hj : r.N.length = f.N.length + 1) (hk : r1.N.length = f1.N.length + 1) (e : f.N.length = f1.N.length) : j = k := by
  rcases Nat.lt_trichotomy j k with hlt | hlt | hlt
  · obtain ⟨⟨M, hM⟩, _, _⟩ := freeAt_mono (freeAt_of h) h1.1 (by omega)
    have := congrArg List.length hM
    simp only [List.length_append] at this
    omega
  · exact hlt
  · obtain ⟨⟨M, hM⟩, _, _⟩ := freeAt_mono (freeAt_of h1) h.1 (by omega)
    have := congrArg List.length hM
    simp only [List.length_append] at this
    omega
theorem store_S {j : Nat} {f : FS} {o : Oper} {r : FR} (h : At P sig ops st j f o r) (hst : isStore o = true) : r.S.length = f.S.length + 1 := by
  obtain ⟨g, hs⟩ := stepF_of h.2.2
  rcases hs.kind with ⟨_, _, _, _, _, _, b, off, cs, t, old, _, _, _, _, e5⟩ | ⟨hn, _⟩
  · rw [e5]; simp
  · rw [hst] at hn; cases hn
theorem store_uniq {j k : Nat} {f f1 : FS} {o o1 : Oper} {r r1 : FR} (h : At P sig ops st j f o r) (h1 : At P sig ops st k f1 o1 r1) (hj : isStore o = true) (hk : isStore o1 = true) (e : f.S.length = f1.S.length) : j = k := by
  have e1 := store_S h hj
  have e2 := store_S h1 hk
  rcases Nat.lt_trichotomy j k with hlt | hlt | hlt
  · obtain ⟨_, ⟨M, hM⟩, _⟩ := freeAt_mono (freeAt_of h) h1.1 (by omega)
    have := congrArg List.length hM
    simp only [List.length_append] at this
    omega
  · exact hlt
  · obtain ⟨_, ⟨M, hM⟩, _⟩ := freeAt_mono (freeAt_of h1) h.1 (by omega)
    have := congrArg List.length hM
    simp only [List.length_append] at this
    omega

theorem noNew_of {j : Nat} {f : FS} {o : Oper} {r : FR} (hat : At P sig ops st j f o r) (hF : freeAt P sig ops st ops.size = some F) {kd : Bool} {t : TypeId} {cs : List CV} (hN : r.N = f.N ++ [(kd, t, cs)]) : NoNew st.own.length cs :=
  (freeAt_noNew (freeAt_of hat)).1 f.N.length kd t cs (by show r.N[f.N.length]? = _; rw [hN, List.getElem?_append_right (Nat.le_refl _), Nat.sub_self]; rfl)

variable {ρs : Env} {β' : Nat → Nat} {s : Nat} {listed : Array Bool} {a : Act} {w : World}

/-- An operation that makes no block and stores nothing. -/
theorem InvB.quiet (hI : InvB P sig ops st F ρs σ β a0 w0 β' s listed a w) (hl : lexFast ops ops.size = true) {j : Nat} {f : FS} {o : Oper} {r : FR} (hat : At P sig ops st j f o r) (hr : j ∈ Region.ready .any ops listed)
    (hN : r.N.length ≠ f.N.length + 1) (hst : isStore o = false) {u : Value} (hu : SlotOk ρs σ β' r.x u) {w' : World} (hw' : Below w.heap.size w w') (hR : Gd.holds ρs r.x.1 → ∀ p, p ∈ r.R → reads w' 0 β0 p.2 (ρs p.1).lv (σ p.1)) :
    InvB P sig ops st F ρs σ β a0 w0 β' s (listed.setIfInBounds j true) (a.put o.dst u) w' := by
  have hjl : j < listed.size := by rw [hI.lsize]; exact get_lt hat.2.1
  have hg := fun k => getD_set (k := k) hjl
  have ne : ∀ {k f1 o1 r1}, At P sig ops st k f1 o1 r1 → r1.N.length = f1.N.length + 1 → k ≠ j := fun h1 hn e => by
    subst e
    obtain ⟨rfl, rfl, rfl⟩ := At_same hat h1
    exact hN hn
  refine ⟨by simp [hI.lsize], by rw [put_size]; exact hI.asize, by rw [put_defers]; exact hI.defers, fun t ht => ?_, fun k f1 o1 r1 d h1 hk hd hdn => ?_, hI.mem.trans (hw'.mono hI.mem.size), fun k f1 o1 r1 kd t cs h1 hn hk hc => ?_, fun k f1 o1 r1 h1 hn hk => ?_, fun k f1 o1 r1 h1 hn hk => ?_,
    fun k f1 o1 r1 k' f2 o2 r2 h1 hn hk h2 hn' hk' e => ?_, fun k f1 o1 r1 h1 hs1 => ?_, hI.agr, fun k o1 ho1 hk e he hb => ?_, fun k f1 o1 r1 h1 hk hgd p hp => ?_⟩
  · rw [put_get_ne (ht j o hat.2.1)]; exact hI.init t ht
  · rw [hg] at hk
    by_cases hkj : k = j
    · subst hkj
      obtain ⟨rfl, rfl, rfl⟩ := At_same hat h1
      rw [hd, put_get_eq (by rw [hI.asize]; exact hdn)]
      exact hu
    · rw [if_neg hkj] at hk
      rw [put_get_ne (fun e => hkj (lex_dst hl h1.2.1 hat.2.1 hd e))]
      exact hI.slot k f1 o1 r1 d h1 hk hd hdn
  · rw [hg, if_neg (ne h1 hn)] at hk
    rw [hw'.block _ (hI.lt k f1 o1 r1 h1 hn hk)]
    exact hI.blk k f1 o1 r1 kd t cs h1 hn hk hc
  · rw [hg, if_neg (ne h1 hn)] at hk; exact hI.ge k f1 o1 r1 h1 hn hk
  · rw [hg, if_neg (ne h1 hn)] at hk; exact Nat.lt_of_lt_of_le (hI.lt k f1 o1 r1 h1 hn hk) hw'.size
  · rw [hg, if_neg (ne h1 hn)] at hk
    rw [hg, if_neg (ne h2 hn')] at hk'
    exact hI.inj k f1 o1 r1 k' f2 o2 r2 h1 hn hk h2 hn' hk' e
  · have hkj : k ≠ j := fun e => by
      subst e
      obtain ⟨rfl, rfl, rfl⟩ := At_same hat h1
      rw [hst] at hs1; cases hs1
    rw [hg, if_neg hkj]
    exact hI.sto k f1 o1 r1 h1 hs1
  · rw [hg] at hk ⊢
    by_cases hkj : k = j
    · subst hkj
      obtain ⟨_, o', ho', hall⟩ := mem_ready.1 hr
      rw [ho1] at ho'; cases ho'
      split
      · rfl
      · exact hall e he hb
    · rw [if_neg hkj] at hk
      split
      · rfl
      · exact hI.closed k o1 ho1 hk e he hb
  · rw [hg] at hk
    by_cases hkj : k = j
    · subst hkj
      obtain ⟨rfl, rfl, rfl⟩ := At_same hat h1
      exact hR hgd p hp
    · rw [if_neg hkj] at hk
      exact reads_below (hI.lst k f1 o1 r1 h1 hk hgd p hp) hw'

/-- An operation that makes a block. -/
theorem InvB.alloc (hI : InvB P sig ops st F ρs σ β a0 w0 β' s listed a w) (hl : lexFast ops ops.size = true) (hscp : st.scp st.n = true) (hF : freeAt P sig ops st ops.size = some F) {j : Nat} {f : FS} {o : Oper} {r : FR}
    (hat : At P sig ops st j f o r) (hr : j ∈ Region.ready .any ops listed) (hst : isStore o = false)
    {kd : Bool} {t : TypeId} {cs : List CV} {v : SV} (hN : r.N = f.N ++ [(kd, t, cs)]) (hv : newV st.own.length (st.own.length + f.N.length) v = some (r.x.2, kd)) (hx1 : r.x.1 = []) :
    ∃ β'', (∀ k, k ≠ st.own.length + f.N.length → β'' k = β' k) ∧ β'' (st.own.length + f.N.length) = w.heap.size ∧
      InvB P sig ops st F ρs σ β a0 w0 β'' s (listed.setIfInBounds j true) (a.put o.dst (r.x.2.val ρs σ β'')) (w.alloc (.cells (cs.map (CV.val ρs σ β')).toArray t)) := by
  have hjl : j < listed.size := by rw [hI.lsize]; exact get_lt hat.2.1
  have hjun : listed.getD j false = false := by
    have := (mem_ready.1 hr).1
    rw [Array.getD, dif_pos hjl] at this
    rw [Array.getD, dif_pos hjl, this]
  have hg := fun k => getD_set (k := k) hjl
  have hNl : r.N.length = f.N.length + 1 := by rw [hN]; simp
  let β'' : Nat → Nat := fun k => if k = st.own.length + f.N.length then w.heap.size else β' k
  have hb1 : ∀ k, k ≠ st.own.length + f.N.length → β'' k = β' k := fun k hk => by simp [β'', hk]
  have hb2 : β'' (st.own.length + f.N.length) = w.heap.size := by simp [β'']
  have hagr : agree st.own.length β' β'' := fun k hk => hb1 k (by omega)
  have other : ∀ {k f1 o1 r1}, At P sig ops st k f1 o1 r1 → r1.N.length = f1.N.length + 1 → k ≠ j → f1.N.length ≠ f.N.length := fun h1 hn hkj e => hkj (alloc_uniq h1 hat hn hNl e)
  have noNew := conts_noNew (m := st.own.length) (F.S.take s) (N := F.N) (freeAt_noNew hF).1 (fun x hx => (freeAt_noNew hF).2 x (List.mem_of_mem_take hx))
  refine ⟨β'', hb1, hb2, by simp [hI.lsize], by rw [put_size]; exact hI.asize, by rw [put_defers]; exact hI.defers, fun t ht => ?_, fun k f1 o1 r1 d h1 hk hd hdn => ?_, hI.mem.alloc hI.mem.size _, fun k f1 o1 r1 kd' t' cs' h1 hn hk hc => ?_, fun k f1 o1 r1 h1 hn hk => ?_, fun k f1 o1 r1 h1 hn hk => ?_,
    fun k f1 o1 r1 k' f2 o2 r2 h1 hn hk h2 hn' hk' e => ?_, fun k f1 o1 r1 h1 hs1 => ?_, agree_trans hI.agr hagr (Nat.le_refl _), fun k o1 ho1 hk e he hb => ?_, fun k f1 o1 r1 h1 hk hgd p hp => ?_⟩
  · rw [put_get_ne (ht j o hat.2.1)]; exact hI.init t ht
  · rw [hg] at hk
    by_cases hkj : k = j
    · subst hkj
      obtain ⟨rfl, rfl, rfl⟩ := At_same hat h1
      rw [hd, put_get_eq (by rw [hI.asize]; exact hdn)]
      exact .inr (.inl ⟨by rw [hx1]; exact holds_nil' ρs, rfl⟩)
    · rw [if_neg hkj] at hk
      rw [put_get_ne (fun e => hkj (lex_dst hl h1.2.1 hat.2.1 hd e))]
      have h2 := hI.slot k f1 o1 r1 d h1 hk hd hdn
      have hval : r1.x.2.val ρs σ β'' = r1.x.2.val ρs σ β' := by
        rcases x_kind h1 with ⟨h3, _⟩ | ⟨kd1, t1, cs1, v1, e3, _, hv1⟩
        · exact h3 ρs σ β' β'' hagr
        · have hne := other h1 (by rw [e3]; simp) hkj
          rcases newV_spec hv1 with ⟨_, e5, _⟩ | ⟨len, _, e5, _⟩
          · rw [e5]; simp only [SV.val, TV.val, CV.val]; rw [hb1 _ (by omega)]
          · rw [e5]; simp only [SV.val, TV.val, CV.val]; rw [hb1 _ (by omega)]
      unfold SlotOk at *
      rw [hval]
      exact h2
  · rw [hg] at hk
    by_cases hkj : k = j
    · subst hkj
      obtain ⟨rfl, rfl, rfl⟩ := At_same hat h1
      have hun : ∀ x, x ∈ F.S.take s → x.1 ≠ f.N.length := by
        intro x hx e
        obtain ⟨q, hq1, hq2⟩ := List.getElem_of_mem hx
        simp only [List.length_take] at hq1
        obtain ⟨k2, f2, o2, r2, hk2, h2, hst2, hq3⟩ := store_at hF q (by omega)
        have hlk2 := (hI.sto k2 f2 o2 r2 h2 hst2).2 (by omega)
        obtain ⟨g2, hs2⟩ := stepF_of h2.2.2
        rcases hs2.kind with ⟨_, _, _, _, _, _, b, off, cs2, t2, old, hstep, hble, _, hget, e5⟩ | ⟨hn2, _⟩
        · obtain ⟨_, ⟨M, hM⟩, _⟩ := freeAt_mono (freeAt_of h2) hF (by omega)
          simp only at hM
          have hxq : F.S[q]? = some (b - f2.st.own.length, off, cs2) := by
            rw [hM, e5, List.append_assoc, List.getElem?_append_right (by omega), hq3, Nat.sub_self]
            rfl
          rw [List.getElem_take] at hq2
          rw [List.getElem?_eq_getElem (by omega)] at hxq
          rw [← hq2, Option.some.inj hxq] at e
          simp only at e
          obtain ⟨xo, hxo, hopn⟩ := step_store hst2 hstep
          have hopn' : f2.st.opnd g2 xo = some (.tv (.one (.ptr b off))) := hopn
          have hb2' := (freeAt_base h2.1).1
          rcases slot_blocks hl hscp h2 hxo hopn' (b := b) (n := off) (.inr (by simp [TV.cells])) with hlt | ⟨k3, f3, o3, r3, kd3, t3, cs3, hk3, h3, e31, e32, _, e33⟩
          · rw [hb2'] at hble; omega
          · have : f3.N.length = f.N.length := by rw [hb2'] at e; omega
            have hk3j : k3 = k := alloc_uniq h3 hat (by rw [e31]; simp) hNl this
            obtain ⟨ed, he, hbn, heo⟩ := e33
            have := hI.closed k2 o2 h2.2.1 hlk2 ed he hbn
            rw [heo, hk3j, hjun] at this
            cases this
        · rw [hst2] at hn2; cases hn2
      have hFN : F.N[f.N.length]? = some (kd, t, cs) := by
        obtain ⟨⟨M, hM⟩, _, _⟩ := freeAt_mono (freeAt_of hat) hF (by have := get_lt hat.2.1; omega)
        simp only at hM
        rw [hM, hN, List.append_assoc, List.getElem?_append_right (Nat.le_refl _), Nat.sub_self]
        rfl
      rw [conts_untouched _ hun, hFN] at hc
      cases hc
      rw [hb2, noNew_of hat hF hN ρs σ β' β'' hagr]
      show (w.heap.push _)[w.heap.size]? = _
      rw [Array.getElem?_push, if_pos rfl]
    · rw [if_neg hkj] at hk
      have hne := other h1 hn hkj
      rw [hb1 _ (by omega), noNew _ _ _ _ hc ρs σ β' β'' hagr, Below.heap_alloc _ _ _ (hI.lt k f1 o1 r1 h1 hn hk)]
      exact hI.blk k f1 o1 r1 kd' t' cs' h1 hn hk hc
  · rw [hg] at hk
    by_cases hkj : k = j
    · subst hkj
      obtain ⟨rfl, rfl, rfl⟩ := At_same hat h1
      rw [hb2]; exact hI.mem.size
    · rw [if_neg hkj] at hk
      rw [hb1 _ (by have := other h1 hn hkj; omega)]
      exact hI.ge k f1 o1 r1 h1 hn hk
  · rw [hg] at hk
    have hsz : (w.alloc (.cells (cs.map (CV.val ρs σ β')).toArray t)).heap.size = w.heap.size + 1 := by simp
    by_cases hkj : k = j
    · subst hkj
      obtain ⟨rfl, rfl, rfl⟩ := At_same hat h1
      rw [hb2, hsz]; omega
    · rw [if_neg hkj] at hk
      rw [hb1 _ (by have := other h1 hn hkj; omega), hsz]
      have := hI.lt k f1 o1 r1 h1 hn hk
      omega
  · rw [hg] at hk hk'
    by_cases hkj : k = j
    · subst hkj
      obtain ⟨rfl, rfl, rfl⟩ := At_same hat h1
      by_cases hkj' : k' = k
      · subst hkj'
        obtain ⟨rfl, rfl, rfl⟩ := At_same hat h2
        rfl
      · rw [if_neg hkj'] at hk'
        rw [hb2, hb1 _ (by have := other h2 hn' hkj'; omega)] at e
        have := hI.lt k' f2 o2 r2 h2 hn' hk'
        omega
    · rw [if_neg hkj] at hk
      by_cases hkj' : k' = j
      · subst hkj'
        obtain ⟨rfl, rfl, rfl⟩ := At_same hat h2
        rw [hb2, hb1 _ (by have := other h1 hn hkj; omega)] at e
        have := hI.lt k f1 o1 r1 h1 hn hk
        omega
      · rw [if_neg hkj'] at hk'
        rw [hb1 _ (by have := other h1 hn hkj; omega), hb1 _ (by have := other h2 hn' hkj'; omega)] at e
        exact hI.inj k f1 o1 r1 k' f2 o2 r2 h1 hn hk h2 hn' hk' e
  · have hkj : k ≠ j := fun e => by
      subst e
      obtain ⟨rfl, rfl, rfl⟩ := At_same hat h1
      rw [hst] at hs1; cases hs1
    rw [hg, if_neg hkj]
    exact hI.sto k f1 o1 r1 h1 hs1
  · rw [hg] at hk ⊢
    by_cases hkj : k = j
    · subst hkj
      obtain ⟨_, o', ho', hall⟩ := mem_ready.1 hr
      rw [ho1] at ho'; cases ho'
      split
      · rfl
      · exact hall e he hb
    · rw [if_neg hkj] at hk
      split
      · rfl
      · exact hI.closed k o1 ho1 hk e he hb
  · rw [hg] at hk
    by_cases hkj : k = j
    · subst hkj
      obtain ⟨rfl, rfl, rfl⟩ := At_same hat h1
      obtain ⟨g1, hs1⟩ := stepF_of hat.2.2
      rw [(hs1.lowN _ _ _ hN).2] at hp
      simp at hp
    · rw [if_neg hkj] at hk
      exact reads_below (hI.lst k f1 o1 r1 h1 hk hgd p hp) ((Below.refl w.heap.size w).alloc (Nat.le_refl _) _)

/-- A store to a new block. -/
theorem InvB.store (hI : InvB P sig ops st F ρs σ β a0 w0 β' s listed a w) (hl : lexFast ops ops.size = true) (ho : storeOrd ops = true) (hscp : st.scp st.n = true) (hF : freeAt P sig ops st ops.size = some F) {j : Nat} {f : FS} {o : Oper} {r : FR}
    (hat : At P sig ops st j f o r) (hr : j ∈ Region.ready .any ops listed) {g : Gd} {b off : Nat} {cs old : List CV} {t : TypeId} (hst : isStore o = true) (hx : r.x = (g, .any)) (hN : r.N = f.N)
    (hstep : stepOp P sig { f.st with own := f.st.own ++ blks (conts f.N f.S) } g o = some (.store b off cs)) (hble : f.st.own.length ≤ b) (hget : (conts f.N f.S)[b - f.st.own.length]? = some (false, t, old)) (hS : r.S = f.S ++ [(b - f.st.own.length, off, cs)]) :
    w.heap[β' b]? = some (.cells (old.map (CV.val ρs σ β')).toArray t (0, 0)) ∧
      InvB P sig ops st F ρs σ β a0 w0 β' (s + 1) (listed.setIfInBounds j true) (a.put o.dst undef) (w.setRow (β' b) ((layAt old off cs).map (CV.val ρs σ β')).toArray) := by
  have hjl : j < listed.size := by rw [hI.lsize]; exact get_lt hat.2.1
  have hjs := get_lt hat.2.1
  have hjun : listed.getD j false = false := by
    have := (mem_ready.1 hr).1
    rw [Array.getD, dif_pos hjl] at this
    rw [Array.getD, dif_pos hjl, this]
  have hg := fun k => getD_set (k := k) hjl
  obtain ⟨_, o', ho', hall⟩ := mem_ready.1 hr
  rw [hat.2.1] at ho'; cases ho'
  obtain ⟨b1, _, _, _, _, b6⟩ := freeAt_base hat.1
  rw [b1] at hble hget hS
  have ne : ∀ {k f1 o1 r1}, At P sig ops st k f1 o1 r1 → r1.N.length = f1.N.length + 1 → k ≠ j := fun h1 hn e => by
    subst e
    obtain ⟨rfl, rfl, rfl⟩ := At_same hat h1
    rw [hN] at hn
    omega
  -- the block
  obtain ⟨xo, hxo, hopn⟩ := step_store hst hstep
  have hopn' : f.st.opnd g xo = some (.tv (.one (.ptr b off))) := hopn
  obtain ⟨k3, f3, o3, r3, kd3, t3, cs3, hk3, h3, e31, e32, _, ed, he, hbn, heo⟩ : ∃ k f1 o1 r1 kd t cs, k < j ∧ At P sig ops st k f1 o1 r1 ∧ r1.N = f1.N ++ [(kd, t, cs)] ∧ b = st.own.length + f1.N.length ∧ (CV.osl b off ∈ (TV.one (.ptr b off)).cells → kd = true) ∧
      (∃ e, e ∈ o.after ∧ Region.binds .any e = true ∧ e.on = k) := by
    rcases slot_blocks hl hscp hat hxo hopn' (b := b) (n := off) (.inr (by simp [TV.cells])) with hlt | h
    · omega
    · exact h
  have hl3 : listed.getD k3 false = true := by rw [← heo]; exact hall ed he hbn
  have hi : b - st.own.length = f3.N.length := by omega
  rw [hi] at hget hS
  -- how many stores came up
  have hsr : s = f.S.length := by
    have h1 : ¬ f.S.length < s := fun h => by
      have := (hI.sto j f o r hat hst).2 h
      rw [hjun] at this; cases this
    by_cases h0 : f.S.length = 0
    · omega
    · obtain ⟨k4, f4, o4, r4, hk4, h4, hst4, hq4⟩ := store_at hat.1 (f.S.length - 1) (by omega)
      obtain ⟨e4, he4, hb4, ho4⟩ := storeOrd_spec ho h4.2.1 hat.2.1 hk4 hst4 hst
      have := (hI.sto k4 f4 o4 r4 h4 hst4).1 (by rw [← ho4]; exact hall e4 he4 hb4)
      omega
  obtain ⟨⟨MN, hMN⟩, ⟨MS, hMS⟩, _⟩ := freeAt_mono (freeAt_of hat) hF (by omega)
  simp only at hMN hMS
  rw [hN] at hMN
  rw [hS, List.append_assoc] at hMS
  have htake : F.S.take s = f.S := by rw [hMS, hsr]; exact List.take_left
  have htake1 : F.S.take (s + 1) = f.S ++ [(f3.N.length, off, cs)] := by
    rw [hMS, ← List.append_assoc]
    have : s + 1 = (f.S ++ [(f3.N.length, off, cs)]).length := by simp [hsr]
    rw [this]; exact List.take_left
  have hconts : (conts F.N (F.S.take s))[f3.N.length]? = some (false, t, old) := by
    rw [htake, hMN, conts_append _ _ _ b6, List.getElem?_append_left (lt_of_get hget)]
    exact hget
  have hheap := hI.blk k3 f3 o3 r3 false t old h3 (by rw [e31]; simp) hl3 hconts
  rw [← e32] at hheap
  have hge := hI.ge k3 f3 o3 r3 h3 (by rw [e31]; simp) hl3
  rw [← e32] at hge
  refine ⟨hheap, by simp [hI.lsize], by rw [put_size]; exact hI.asize, by rw [put_defers]; exact hI.defers, fun t ht => ?_, fun k f1 o1 r1 d h1 hk hd hdn => ?_, below_setRow hI.mem hge _, fun k f1 o1 r1 kd' t' cs' h1 hn hk hc => ?_, fun k f1 o1 r1 h1 hn hk => ?_, fun k f1 o1 r1 h1 hn hk => ?_,
    fun k f1 o1 r1 k' f2 o2 r2 h1 hn hk h2 hn' hk' e => ?_, fun k f1 o1 r1 h1 hs1 => ?_, hI.agr, fun k o1 ho1 hk e he hb => ?_, fun k f1 o1 r1 h1 hk hgd p hp => (by rw [store_noR hat hst h1] at hp; simp at hp)⟩
  · rw [put_get_ne (ht j o hat.2.1)]; exact hI.init t ht
  · rw [hg] at hk
    by_cases hkj : k = j
    · subst hkj
      obtain ⟨rfl, rfl, rfl⟩ := At_same hat h1
      rw [hx]
      exact .inl rfl
    · rw [if_neg hkj] at hk
      rw [put_get_ne (fun e => hkj (lex_dst hl h1.2.1 hat.2.1 hd e))]
      exact hI.slot k f1 o1 r1 d h1 hk hd hdn
  · have hkj := ne h1 hn
    rw [hg, if_neg hkj] at hk
    rw [htake1, conts_snoc, ← htake, applyS_get] at hc
    simp only at hc
    by_cases hkk : f1.N.length = f3.N.length
    · have hkk3 : k = k3 := alloc_uniq h1 h3 hn (by rw [e31]; simp) hkk
      rw [hkk, hconts] at hc
      simp only [if_true, Option.some.injEq, Prod.mk.injEq] at hc
      obtain ⟨_, rfl, rfl⟩ := hc
      rw [hkk, ← e32]
      exact setRow_heap w (β' b) _ _ _ _ hheap
    · have hc' : (conts F.N (F.S.take s))[f1.N.length]? = some (kd', t', cs') := by
        cases hN1 : (conts F.N (F.S.take s))[f1.N.length]? with
        | none => rw [hN1] at hc; cases hc
        | some y =>
          rw [hN1] at hc
          obtain ⟨kdy, ty, oy⟩ := y
          cases kdy with
          | true => exact hc
          | false => simp only [if_neg hkk] at hc; exact hc
      rw [setRow_other w (β' b) _ _ (fun e => hkk (hI.inj k f1 o1 r1 k3 f3 o3 r3 h1 hn hk h3 (by rw [e31]; simp) hl3 (by rw [e, e32])))]
      exact hI.blk k f1 o1 r1 kd' t' cs' h1 hn hk hc'
  · have hkj := ne h1 hn
    rw [hg, if_neg hkj] at hk; exact hI.ge k f1 o1 r1 h1 hn hk
  · have hkj := ne h1 hn
    rw [hg, if_neg hkj] at hk; rw [size_setRow]; exact hI.lt k f1 o1 r1 h1 hn hk
  · have hkj := ne h1 hn
    have hkj' := ne h2 hn'
    rw [hg, if_neg hkj] at hk
    rw [hg, if_neg hkj'] at hk'
    exact hI.inj k f1 o1 r1 k' f2 o2 r2 h1 hn hk h2 hn' hk' e
  · rw [hg]
    by_cases hkj : k = j
    · subst hkj
      obtain ⟨rfl, rfl, rfl⟩ := At_same hat h1
      rw [if_pos rfl]
      exact ⟨fun _ => by omega, fun _ => rfl⟩
    · rw [if_neg hkj, hI.sto k f1 o1 r1 h1 hs1]
      have : f1.S.length ≠ s := fun e => hkj (store_uniq h1 hat hs1 hst (by omega))
      omega
  · rw [hg] at hk ⊢
    by_cases hkj : k = j
    · subst hkj
      rw [hat.2.1] at ho1; cases ho1
      split
      · rfl
      · exact hall e he hb
    · rw [if_neg hkj] at hk
      split
      · rfl
      · exact hI.closed k o1 ho1 hk e he hb

/-- Another choice of the slices that an operation is to give, ahead of its coming up. -/
theorem InvB.resig (hI : InvB P sig ops st F ρs σ β a0 w0 β' s listed a w) (hF : freeAt P sig ops st ops.size = some F) {j : Nat} {f : FS} {o : Oper} {r : FR} (hat : At P sig ops st j f o r) (hju : listed.getD j false = false) {σ' : Nat → Value}
    (hσ : ∀ l, l < f.st.n ∨ r.n ≤ l → σ' l = σ l) : InvB P sig ops st F ρs σ' β a0 w0 β' s listed a w := by
  have ne : ∀ {k}, listed.getD k false = true → j ≠ k := fun hk e => by rw [e, hk] at hju; cases hju
  have hst0 := (freeAt_base hat.1).2.2.2.2.1
  have hlow : ∀ l, l < st.n → σ' l = σ l := fun l hl => hσ l (.inl (by omega))
  have hown : ∀ {k f1 o1 r1}, At P sig ops st k f1 o1 r1 → listed.getD k false = true → ∀ l, f1.st.n ≤ l → l < r1.n → σ' l = σ l := fun h1 hk l h2 h3 => by
    rcases At_apart hat h1 (ne hk) with h | h
    · exact hσ l (.inr (by omega))
    · exact hσ l (.inl (by omega))
  have hsig := conts_sigIn (m := st.n) (F.S.take s) (N := F.N) (freeAt_sigIn hF).1 (fun x hx => (freeAt_sigIn hF).2 x (List.mem_of_mem_take hx))
  refine ⟨hI.lsize, hI.asize, hI.defers, hI.init, fun k f1 o1 r1 d h1 hk hd hdn => ?_, hI.mem, fun k f1 o1 r1 kd t cs h1 hn hk hc => ?_, hI.ge, hI.lt, hI.inj, hI.sto, hI.agr, hI.closed, fun k f1 o1 r1 h1 hk hgd p hp => ?_⟩
  · have h2 := hI.slot k f1 o1 r1 d h1 hk hd hdn
    unfold SlotOk at *
    rw [x_sig h1 hlow (hown h1 hk)]
    exact h2
  · rw [hsig _ _ _ _ hc ρs σ σ' β' hlow]
    exact hI.blk k f1 o1 r1 kd t cs h1 hn hk hc
  · obtain ⟨h2, h3⟩ := R_rng h1 hp
    rw [hown h1 hk p.1 h2 h3]
    exact hI.lst k f1 o1 r1 h1 hk hgd p hp

theorem resS_lst {n l : Nat} {res : List Sh} (h : SV.tv (.one (.lst l)) = resS n res) : n ≤ l ∧ l < n + (shCells res).length := by
  cases res with
  | nil => unfold resS at h; simp [resTs] at h
  | cons s ss =>
    cases ss with
    | nil =>
      unfold resS at h
      simp only [resTs, SV.tv.injEq] at h
      cases s with
      | agg cs => simp [resT] at h
      | one c =>
        simp only [resT, TV.one.injEq] at h
        cases c <;> first | (simp only [resC, CV.lst.injEq] at h; subst h; simp [shCells, Sh.cells]; done) | (simp [resC] at h; done)
    | cons s2 ss => unfold resS at h; simp [resTs] at h

/-- The new slice that an operand names came back from an operation that is waited for. -/
theorem slot_list (hl : lexFast ops ops.size = true) (hscp : st.scp st.n = true) {j : Nat} {f : FS} {o : Oper} {r : FR} (hat : At P sig ops st j f o r) {g : Gd} {x : Operand} (hx : x ∈ o.op.operands.toList) {l : Nat}
    (hy : f.st.opnd g x = some (.tv (.one (.lst l)))) {p : Nat × List EK} (hp : p ∈ f.L) (hpl : p.1 = l) {ρ : Env} (hpc : Gd.holds ρ f.st.pc) (hg : Gd.holds ρ g) :
    ∃ k f1 o1 r1, k < j ∧ At P sig ops st k f1 o1 r1 ∧ p ∈ r1.R ∧ Gd.holds ρ r1.x.1 ∧ (∃ e, e ∈ o.after ∧ Region.binds .any e = true ∧ e.on = k) := by
  obtain ⟨k', f', o', r', hk', hat', hpR⟩ := freeAt_L hat.1 p hp
  obtain ⟨h1, h2⟩ := R_rng hat' hpR
  have h0 := (freeAt_base hat'.1).2.2.2.2.1
  have hslot : ∃ t gd, x = .tmp t ∧ getT f.st.tmps t = some (gd, .tv (.one (.lst l))) ∧ Gd.holds ρ gd := by
    unfold St.opnd at hy
    cases x with
    | tmp t =>
      simp only at hy
      split at hy
      · rename_i gd sv ht
        split at hy
        · rename_i hin
          cases hy
          exact ⟨t, gd, rfl, ht, gdIn_holds hin hg⟩
        · split at hy
          · rename_i hin
            cases hy
            exact ⟨t, gd, rfl, ht, gdAll_holds hpc hg hin⟩
          · cases hy
      · cases hy
    | const v =>
      exfalso
      simp only [SV.ofConst] at hy
      split at hy
      · split at hy <;> cases hy
      · split at hy
        · rename_i c hc
          cases hy
          unfold CV.ofCell at hc
          split at hc <;> cases hc
        · cases hy
    | global _ => cases hy
    | func _ => cases hy
  obtain ⟨t, gd, rfl, ht, hgd⟩ := hslot
  rcases freeAt_slots hat.1 t _ ht with ⟨h3, _⟩ | ⟨k, f1, o1, r1, hk, hat1, hd, _, hx1⟩
  · exfalso
    obtain ⟨h4, _, _, _⟩ := st_scp hscp
    have h5 := (h4 (t, (gd, .tv (.one (.lst l)))) (getT_mem h3)).2
    simp only [SV.scp, TV.scp, TV.cells, List.all_cons, List.all_nil, Bool.and_true, CV.scp] at h5
    have := blt_lt h5
    omega
  · have hedge : ∃ e, e ∈ o.after ∧ Region.binds .any e = true ∧ e.on = k := by
      refine (lex_looks hl hat.2.1 hat1.2.1 (t := t) ?_ hd).resolve_right (fun h => by omega)
      unfold Oper.looksAt
      rw [List.mem_append]
      exact .inl (List.mem_filterMap.2 ⟨.tmp t, hx, rfl⟩)
    obtain ⟨g1, hs1⟩ := stepF_of hat1.2.2
    rcases hs1.lowx with h3 | ⟨res, h3, h4⟩
    · exfalso
      rw [hx1, freeAt_n0 hat1.1] at h3
      simp only [svLow, TV.cells, List.all_cons, List.all_nil, Bool.and_true, cvLow] at h3
      have := blt_lt h3
      omega
    · rw [hx1] at h3
      obtain ⟨h5, h6⟩ := resS_lst h3
      have hkk : k = k' := by
        apply Classical.byContradiction
        intro hne
        rcases At_apart hat1 hat' hne with h | h <;> omega
      subst hkk
      obtain ⟨rfl, rfl, rfl⟩ := At_same hat1 hat'
      exact ⟨k, f1, o1, r1, hk, hat1, hpR, by rw [hx1]; exact hgd, hedge⟩

theorem lenNew_spec {f : FS} {g : Gd} {o : Oper} {l : Nat} (h : lenNew P f g o = some l) : ∃ c0 t x el, o.op = .call c0 ∧ c0.callee = .builtin .len ∧ c0.argTypes.toList = [t] ∧ c0.args.toList = [x] ∧ P.underlying t = some (.slice el) ∧
    f.st.opnd g x = some (.tv (.one (.lst l))) ∧ ∃ p, p ∈ f.L ∧ p.1 = l := by
  unfold lenNew at h
  split at h
  · rename_i c ho
    split at h
    · rename_i hc
      split at h
      · rename_i t x ht hx
        split at h
        · rename_i el l' hu hcell
          split at h
          · rename_i hh
            cases h
            simp only [Bool.and_eq_true, List.any_eq_true] at hh
            obtain ⟨⟨p, hp, hb⟩, _⟩ := hh
            refine ⟨c, t, x, el, ho, hc, ht, hx, hu, ?_, p, hp, (Nat.eq_of_beq_eq_true hb).symm⟩
            unfold St.cell at hcell
            split at hcell
            · rename_i c' hc'
              cases hcell
              exact hc'
            · cases hcell
          · cases h
        · cases h
      · cases h
    · cases h
  · cases h
theorem len_run {c0 : Call} {t el : TypeId} {x : Operand} {o : Oper} {ac : Act} {base : Option Addr} {n cap : Nat} (ho : o.op = .call c0) (hb : c0.callee = .builtin .len) (ht : c0.argTypes.toList = [t]) (hx0 : c0.args.toList = [x])
    (hu : P.underlying t = some (.slice el)) (hxv : ac.eval x = .slice base n cap) (w : World) : (execOp ac.eval o).run P w = .ok (.value (.int .i64 n)) w := by
  have h1 : c0.argTypes = #[t] := by rw [← Array.toArray_toList (xs := c0.argTypes), ht]
  have h2 : c0.args = #[x] := by rw [← Array.toArray_toList (xs := c0.args), hx0]
  simp [execOp, ho, hb, h1, h2, resolve, invoke, builtin, Builtin.len_, run_underlying hu, hxv, goInt]

/-- Whichever comes up. -/
theorem free_step (hst : Stable G) (hG : GOk G W) (hΓ : SigOk P G sig Γ) (hl : lexFast ops ops.size = true) (ho : storeOrd ops = true) (hscp : st.scp st.n = true) (hF : freeAt P sig ops st ops.size = some F) (hun : F.N.all noTag = true) (hits : itsHold Γ F.its ρ)
    {σ0 : Nat → Value} (hT0 : TOk ρ σ0 β st a0) (hw0 : WOk W ρ σ0 β st.own st.lists w0) (hσ0 : agree st.n σ0 σ) {Q : Exit → Act → World → Prop} {j : Nat} (hr : j ∈ Region.ready .any ops listed) (hI : InvB P sig ops st F (itsEnv Γ F.its ρ) σ β a0 w0 β' s listed a w) :
    wpOp P ops Q j (fun a' w' => ∃ β'' s' σ'', agree st.n σ0 σ'' ∧ InvB P sig ops st F (itsEnv Γ F.its ρ) σ'' β a0 w0 β'' s' (listed.setIfInBounds j true) a' w') a w := by
  obtain ⟨_, o, hoj, hall⟩ := mem_ready.1 hr
  have hjs := get_lt hoj
  obtain ⟨f, o', r, hat⟩ := At_of hF hjs
  have : o = o' := by have := hat.2.1; rw [hoj] at this; exact Option.some.inj this
  subst this
  have hag0 : agree st.n ρ (itsEnv Γ F.its ρ) := by
    have := (its_prefix (Γ := Γ) (ρ := ρ) (k := 0) (f := _) rfl hF (Nat.zero_le _)).2
    exact this
  obtain ⟨hi1, hag2, hag1⟩ := its_at hF hits hjs hat
  generalize hρs : itsEnv Γ F.its ρ = ρs at *
  have hT0' : TOk ρs σ β' st a0 := hT0.agree hscp hag0 hσ0 hI.agr
  obtain ⟨_, sc2, sc3, _⟩ := st_scp hscp
  have hW0 : WOk W ρs σ β' st.own st.lists w0 := hw0.agree sc2 sc3 hag0 hσ0 hI.agr
  have hWw := hW0.call hI.mem
  have hTf := fill_tok hl hF hT0' hI hat.1 (by omega)
  obtain ⟨hex, hwt⟩ := fill_exec (P := P) (sig := sig) (st := st) (ρs := ρs) (σ := σ) (β' := β') (a := a) hl hoj hr (Nat.le_refl j)
  obtain ⟨g, hs⟩ := stepF_of hat.2.2
  have hguard := guard_ok hTf hs.guard
  rw [hwt] at hguard
  obtain ⟨b1, b2, b3, b4, b5, b6⟩ := freeAt_base hat.1
  have hjl : j < listed.size := by rw [hI.lsize]; exact hjs
  have hjun : listed.getD j false = false := by
    have := (mem_ready.1 hr).1
    rw [Array.getD, dif_pos hjl] at this
    rw [Array.getD, dif_pos hjl, this]
  have hnamed : Gd.holds ρs g → ∀ x, x ∈ o.op.operands.toList → ∀ l, f.st.opnd g x = some (.tv (.one (.lst l))) → ∀ p, p ∈ f.L → p.1 = l → reads w 0 β0 p.2 (ρs p.1).lv (σ p.1) := fun hgg x hx l hy p hp hpl => by
    obtain ⟨k, f1, o1, r1, hk, h1, h2, h3, ed, he, hbn, heo⟩ := slot_list hl hscp hat hx hy hp hpl hTf.pc hgg
    exact hI.lst k f1 o1 r1 h1 (by rw [← heo]; exact hall ed he hbn) h3 p h2
  unfold wpOp
  simp only [hoj]
  by_cases hwn : Region.wanted o (yielded ops a.tmps) = true
  · rw [if_pos hwn]
    left
    have hg := hguard.1 hwn
    unfold Oper.wp
    rcases hs.kind with ⟨hsto, _, e1, _, e3, _, b, off, cs, t, old, hstep, hble, _, hget, e5⟩ | ⟨hnsto, e1, ⟨c, args, res, hstep, hl', hax, ex, en, eN, eI⟩ | ⟨v, obs, hstep, hvs, hobs, ex, en, eN, eI⟩ | ⟨t, cs, v, v', kd, hstep, hnil, hcs, hv, ex, en, eN, eI⟩⟩
    · -- store
      obtain ⟨hheap, hI'⟩ := hI.store hl ho hscp hF hat hr hsto e1 e3 hstep hble hget e5
      have hTf' : TOk ρs σ β' { f.st with own := f.st.own ++ blks (conts f.N f.S) } (fill P sig ops st ρs σ β' listed a j) := ⟨hTf.size, hTf.slot, hTf.defers, hTf.pc⟩
      obtain ⟨_, u, old', hown, htg, hrun⟩ := step_ok (W := W) hTf' hg hstep
      have : (u, old') = (t, old) := by
        have h1 : (f.st.own ++ blks (conts f.N f.S))[b]? = some (u, old') := hown
        rw [List.getElem?_append_right hble] at h1
        unfold blks at h1
        rw [List.getElem?_map, hget] at h1
        exact (Option.some.inj h1).symm
      cases this
      have h2 := hrun w hheap
      rw [hex] at h2
      rw [h2, Oper.upon_skip]
      exact ⟨β', s + 1, σ, hσ0, hI'⟩
    · -- call
      have hTf' : TOk ρs σ β' { f.st with own := f.st.own ++ blks f.N, lists := namedL f g o ++ f.st.lists } (fill P sig ops st ρs σ β' listed a j) := ⟨hTf.size, hTf.slot, hTf.defers, hTf.pc⟩
      have hsok := step_ok (W := W) hTf' hg hstep
      rw [eI] at hi1 hag2
      have hgk : Gd.holds (itsEnv Γ f.its ρ) g := (gd_agree hag1 hs.gscp).1 hg
      have hargs : args.map (Ax.ev ρs) = args.map (Ax.ev (itsEnv Γ f.its ρ)) := List.map_congr_left fun x hx => ax_agree hag1 (List.all_eq_true.1 hax x hx)
      have hpre : (Γ.ctr c).pre (args.map (Ax.ev ρs)) := by rw [hargs]; exact hi1.1 hgk
      let E0 : Nat → Prop := fun b => b < st.own.length ∨ ∃ k f1 o1 r1 t cs, At P sig ops st k f1 o1 r1 ∧ r1.N = f1.N ++ [(true, t, cs)] ∧ k < j ∧ listed.getD k false = true ∧ b = st.own.length + f1.N.length
      have hA : ArgW E0 ρs σ β' (f.st.own ++ blks f.N) (namedL f g o ++ f.st.lists) w := by
        refine ⟨fun p hp => ?_, fun b t cs hE hb htg => ?_, fun b t l htg hc0 hb => ?_⟩
        rotate_right
        · by_cases hlt : b < st.own.length
          · rw [b1, List.getElem?_append_left hlt] at hb
            exact (obj_at hWw htg hc0 hb).1
          · rw [b1, List.getElem?_append_right (by omega)] at hb
            have hf1 : f.N.all noTag = true := by
              obtain ⟨⟨M, hM⟩, _, _⟩ := freeAt_mono hat.1 hF (by omega)
              rw [hM, List.all_append, Bool.and_eq_true] at hun
              exact hun.1
            have := blks_tags hf1 hb
            rw [htg] at this; cases this
        · rcases List.mem_append.1 hp with hp | hp
          · unfold namedL at hp
            obtain ⟨hp1, hp2⟩ := List.mem_filter.1 hp
            obtain ⟨x, hx, hx2⟩ := List.any_eq_true.1 hp2
            split at hx2
            · rename_i l hy
              exact hnamed hg x hx l hy p hp1 (Nat.eq_of_beq_eq_true hx2).symm
            · cases hx2
          · exact reads_less (hWw.lists p (by rw [← b2]; exact hp))
        rw [b1] at hb
        by_cases hlt : b < st.own.length
        · rw [List.getElem?_append_left hlt] at hb
          exact hWw.own b t cs hb htg
        · rw [List.getElem?_append_right (by omega)] at hb
          rcases hE with hE | ⟨k, f1, o1, r1, t1, cs1, h1, e2, hkj, hlk, e4⟩
          · exact absurd hE hlt
          · unfold blks at hb
            rw [List.getElem?_map, show b - st.own.length = f1.N.length by omega] at hb
            obtain ⟨⟨M, hM⟩, _, _⟩ := freeAt_mono (freeAt_of h1) hat.1 (by omega)
            simp only at hM
            have hN1 : f.N[f1.N.length]? = some (true, t1, cs1) := by
              rw [hM, e2, List.append_assoc, List.getElem?_append_right (Nat.le_refl _), Nat.sub_self]; rfl
            rw [hN1] at hb
            simp only [Option.map_some, Option.some.injEq, Prod.mk.injEq] at hb
            obtain ⟨rfl, rfl⟩ := hb
            obtain ⟨⟨M2, hM2⟩, _, _⟩ := freeAt_mono hat.1 hF (by omega)
            have hN2 : F.N[f1.N.length]? = some (true, t1, cs1) := by rw [hM2, List.getElem?_append_left (lt_of_get hN1)]; exact hN1
            rw [e4]
            exact hI.blk k f1 o1 r1 true t1 cs1 h1 (by rw [e2]; simp) hlk (conts_true _ _ hN2)
      have hin : ∀ c0, o.op = .call c0 → ∀ x, x ∈ c0.args.toList → ∀ y, St.opnd { f.st with own := f.st.own ++ blks f.N, lists := namedL f g o ++ f.st.lists } g x = some (.tv y) → InE E0 y.cells := by
        intro c0 hc0 x hx y hy b n hm
        have hy' : f.st.opnd g x = some (.tv y) := hy
        have hx' : x ∈ o.op.operands.toList := by rw [hc0]; unfold Op.operands; simp; exact call_operand hx
        rcases slot_blocks hl hscp hat hx' hy' (b := b) (n := n) (.inl hm) with hlt | ⟨k, f1, o1, r1, kd, t1, cs1, hk, h1, e31, e32, e33, ed, he, hbn, heo⟩
        · exact .inl hlt
        · have hkd := e33 hm
          subst hkd
          exact .inr ⟨k, f1, o1, r1, t1, cs1, h1, e31, hk, by rw [← heo]; exact hall ed he hbn, e32⟩
      obtain ⟨vs, h3, h4⟩ := call_okE hst hΓ hTf' hg hsok hpre hA (hG w hWw.below) hin
      rw [hex] at h3
      rw [h3 w, Oper.upon_enter]
      refine h4.mono ?_
      rintro e w' ⟨hb, vv, rfl, hro⟩
      obtain ⟨S, hv, hrd⟩ := hro
      rw [hargs] at hv hrd
      have hen : agree r.n (push (itsEnv Γ f.its ρ) f.st.n ((Γ.ctr c).fn (args.map (Ax.ev (itsEnv Γ f.its ρ))))) ρs := hag2
      let σs : Nat → Value := fun l => if l < f.st.n then σ l else S (l - f.st.n)
      let σ2 : Nat → Value := fun l => if l < f.st.n then σ l else if l < r.n then S (l - f.st.n) else σ l
      have hσ2 : ∀ l, l < f.st.n ∨ r.n ≤ l → σ2 l = σ l := fun l hl => by
        simp only [σ2]
        split
        · rfl
        · rw [if_neg (by omega)]
      have hσs : agree r.n σs σ2 := fun l hl => by
        show (if l < f.st.n then σ l else if l < r.n then S (l - f.st.n) else σ l) = (if l < f.st.n then σ l else S (l - f.st.n))
        rw [if_pos hl]
      refine ⟨β', s, σ2, fun l hl => by rw [hσ2 l (.inl (by omega))]; exact hσ0 l hl, (hI.resig hF hat hjun hσ2).quiet hl hat hr (by rw [eN]; omega) hnsto ?_ hb (fun _ p hp => ?_)⟩
      · rw [ex]
        refine .inr (.inl ⟨hg, ?_⟩)
        have h6 : (resS f.st.n res).val ρs σ2 β' = (resS f.st.n res).val (push (itsEnv Γ f.its ρ) f.st.n ((Γ.ctr c).fn (args.map (Ax.ev (itsEnv Γ f.its ρ))))) σs β' :=
          sv_agree (n := r.n) (m := 0) hen hσs (fun m hm => by omega) (by rw [en]; exact resS_scp res f.st.n)
        show _ = (resS f.st.n res).val ρs σ2 β'
        rw [h6, hv]
        exact (resS_shift res f.st.n 0 (fun i => by simp [push, envOf, show ¬ f.st.n + i < f.st.n by omega]) (fun i => by simp [σs, show ¬ f.st.n + i < f.st.n by omega])).symm
      · rw [hl'] at hp
        obtain ⟨q, hq, h2, i, h3', h4'⟩ := resLists_shift (shCells res) f.st.n 0 p hp
        have hlt := resLists_rng hp
        have e1 : ρs p.1 = envOf ((Γ.ctr c).fn (args.map (Ax.ev (itsEnv Γ f.its ρ)))) q.1 := by
          rw [hen p.1 (by omega)]
          simp [push, envOf, show ¬ p.1 < f.st.n by omega, show p.1 - f.st.n = q.1 by omega]
        have e2 : σ2 p.1 = S q.1 := by
          simp only [σ2]
          rw [if_neg (by omega), if_pos (by omega), show p.1 - f.st.n = q.1 by omega]
        rw [e1, e2, h2]
        obtain ⟨base, cap, g1, g2⟩ := hrd q hq
        refine ⟨base, cap, g1, ?_⟩
        rcases g2 with g2 | ⟨ad, g3, g4, g5, g6⟩
        · exact .inl g2
        · exact .inr ⟨ad, g3, g4, ⟨g5.2, fun k hk => by omega⟩, g6⟩
    · -- plain
      rw [eI] at hi1
      have hob : ∀ x, x ∈ obs → x.bool ρs = true := needAll_ok hTf.pc hg (fun x hx => by
        have h1 := its_ob hi1 ((gd_agree hag1 hs.gscp).1 hg) x hx
        rw [bool_agree hag1 (List.all_eq_true.1 hobs x hx)]
        exact h1)
      have hR0 : r.R = [] := by
        rcases hs.rR with h | ⟨res, h5, h6, h7⟩
        · exact h
        · rw [en] at h6
          have : (shCells res) = [] := List.eq_nil_of_length_eq_zero (by omega)
          rw [h7, this]; rfl
      have hone : ∃ val, (v = .any ∨ val = v.val ρs σ β') ∧ (execOp (fill P sig ops st ρs σ β' listed a j).eval o).run P w = .ok (.value val) w := by
        rcases hstep with hstep | ⟨rfl, l, hln, rfl⟩
        · obtain ⟨val, hv1, hrun⟩ := step_ok (W := W) hTf hg hstep hob
          exact ⟨val, hv1, hrun w (by rw [b1, b2]; exact hWw)⟩
        · obtain ⟨c0, t, x, el, h1, h2, h3, h4, h5, h6, p, hp, hpl⟩ := lenNew_spec hln
          have hxm : x ∈ o.op.operands.toList := by
            rw [h1]; unfold Op.operands; simp
            exact call_operand (by rw [h4]; simp)
          obtain ⟨base, cap, h7, _⟩ := hnamed hg x hxm l h6 p hp hpl
          have hxv : (fill P sig ops st ρs σ β' listed a j).eval x = .slice base (ρs l).lv.len cap := by
            rcases opnd_ok hTf hg h6 with h8 | h8
            · cases h8
            · rw [h8]
              simp only [SV.val, TV.val, CV.val]
              rw [← hpl, h7]
              rfl
          exact ⟨_, .inr rfl, len_run h1 h2 h3 h4 h5 hxv w⟩
      obtain ⟨val, hv1, h2⟩ := hone
      rw [hex] at h2
      rw [h2, Oper.upon_value]
      refine ⟨β', s, σ, hσ0, hI.quiet hl hat hr (by rw [eN]; omega) hnsto ?_ (Below.refl _ _) (fun _ p hp => by rw [hR0] at hp; simp at hp)⟩
      rw [ex]
      rcases hv1 with hv1 | hv1
      · exact .inl hv1
      · exact .inr (.inl ⟨hg, hv1⟩)
    · -- a new block
      rw [b1] at hv
      obtain ⟨β'', hb1, hb2, hI'⟩ := hI.alloc (kd := kd) (t := t) (cs := cs) (v := v) hl hscp hF hat hr hnsto eN (by rw [ex]; exact hv) (by rw [ex])
      obtain ⟨_, _, hne, hrun⟩ := step_ok (W := W) hTf hg hstep
      have hWf : WOk W ρs σ β' f.st.own f.st.lists w := by rw [b1, b2]; exact hWw
      let β1 : Nat → Nat := fun k => if k = st.own.length then w.heap.size else β' k
      have h2 := hrun w hWf β1 (by rw [b1]; simp [β1])
      rw [hex] at h2
      rw [h2, Oper.upon_value]
      have hval : v.val ρs σ β1 = r.x.2.val ρs σ β'' := by
        rw [ex]
        rcases newV_spec hv with ⟨e1, e2, _⟩ | ⟨len, e1, e2, _⟩
        · rw [e1, e2]; simp only [SV.val, TV.val, CV.val, hb2]; simp [β1]
        · rw [e1, e2]; simp only [SV.val, TV.val, CV.val, hb2]; simp [β1]
      rw [hval]
      exact ⟨β'', s, σ, hσ0, hI'⟩
  · rw [if_neg hwn]
    have hng : ¬ Gd.holds ρs g := fun h => hwn (hguard.2 h)
    have hno : r.x.1 = g ∧ r.N.length ≠ f.N.length + 1 ∧ isStore o = false := by
      rcases hs.kind with ⟨hsto, hnil, _⟩ | ⟨hnsto, e1, ⟨c, args, res, hstep, hl', hax, ex, en, eN, eI⟩ | ⟨v, obs, hstep, hvs, hobs, ex, en, eN, eI⟩ | ⟨t, cs, v, v', kd, hstep, hnil, hcs, hv, ex, en, eN, eI⟩⟩
      · exact absurd (isNil_holds hnil) hng
      · exact ⟨by rw [ex], by rw [eN]; omega, hnsto⟩
      · exact ⟨by rw [ex], by rw [eN]; omega, hnsto⟩
      · exact absurd (isNil_holds hnil) hng
    exact ⟨β', s, σ, hσ0, hI.quiet hl hat hr hno.2.1 hno.2.2 (.inr (.inr ⟨by rw [hno.1]; exact hng, rfl⟩)) (Below.refl _ _) (fun h => by rw [hno.1] at h; exact absurd h hng)⟩

/-- All that is left, in any order. -/
theorem free_any (hst : Stable G) (hG : GOk G W) (hΓ : SigOk P G sig Γ) (hl : lexFast ops ops.size = true) (ho : storeOrd ops = true) (hscp : st.scp st.n = true) (hF : freeAt P sig ops st ops.size = some F) (hun : F.N.all noTag = true) (hits : itsHold Γ F.its ρ)
    {σ0 : Nat → Value} (hT0 : TOk ρ σ0 β st a0) (hw0 : WOk W ρ σ0 β st.own st.lists w0) {Q : Exit → Act → World → Prop}
    (hQ : ∀ σ β' s listed a w, agree st.n σ0 σ → InvB P sig ops st F (itsEnv Γ F.its ρ) σ β a0 w0 β' s listed a w → (∀ k, k < ops.size → listed.getD k false = true) → Q .normal a w) :
    ∀ (fuel : Nat) (σ : Nat → Value) (β' : Nat → Nat) (s : Nat) (listed : Array Bool) (a : Act) (w : World), unl ops.size listed = fuel → agree st.n σ0 σ → InvB P sig ops st F (itsEnv Γ F.its ρ) σ β a0 w0 β' s listed a w → wpAny P .any ops Q fuel listed a w
  | 0, σ, β', s, listed, a, w, hu, hσ0, hI => by
    have hall : ∀ k, k < ops.size → listed.getD k false = true := fun k hk => by
      cases hc : listed.getD k true with
      | false => have := unl_pos hk hc; omega
      | true =>
        have hlt : k < listed.size := by rw [hI.lsize]; exact hk
        rw [Array.getD, dif_pos hlt] at hc
        rw [Array.getD, dif_pos hlt, hc]
    refine ⟨?_, hQ σ β' s listed a w hσ0 hI hall⟩
    apply List.eq_nil_iff_forall_not_mem.2
    intro j hj
    obtain ⟨hun, o, hoj, _⟩ := mem_ready.1 hj
    have h1 := hall j (get_lt hoj)
    have hlt : j < listed.size := by rw [hI.lsize]; exact get_lt hoj
    rw [Array.getD, dif_pos hlt] at h1 hun
    rw [h1] at hun; cases hun
  | fuel + 1, σ, β', s, listed, a, w, hu, hσ0, hI => by
    refine ⟨fun h0 => ?_, fun i hi => ?_⟩
    · exfalso
      -- the least that has not come up may come up
      have hex : ∃ k, k < ops.size ∧ listed.getD k false = false := by
        apply Classical.byContradiction
        intro hno
        have : unl ops.size listed = 0 := by
          unfold unl
          rw [List.countP_eq_zero]
          intro p hp
          have hp' := List.mem_range.1 hp
          have hlt : p < listed.size := by rw [hI.lsize]; exact hp'
          have h1 : listed.getD p false ≠ false := fun e => hno ⟨p, hp', e⟩
          rw [Array.getD, dif_pos hlt] at h1
          rw [Array.getD, dif_pos hlt]
          simpa using h1
        omega
      obtain ⟨k, ⟨hk1, hk2⟩, hmin⟩ := least_nat' hex
      have hlt : k < listed.size := by rw [hI.lsize]; exact hk1
      have hmem : k ∈ Region.ready .any ops listed := by
        rw [mem_ready]
        refine ⟨by rw [Array.getD, dif_pos hlt] at hk2 ⊢; exact hk2, ops[k], Array.getElem?_eq_getElem hk1, fun e he hb => ?_⟩
        have h1 := lex_below hl (Array.getElem?_eq_getElem hk1) e he hb
        cases hc : listed.getD e.on false with
        | true => rfl
        | false => have := hmin e.on ⟨by omega, hc⟩; omega
      rw [h0] at hmem
      cases hmem
    · have hstep := free_step (Q := Q) hst hG hΓ hl ho hscp hF hun hits hT0 hw0 hσ0 hi hI
      refine wpOp_mono (fun a' w' h => ?_) hstep
      obtain ⟨β'', s', σ'', hσ', hI'⟩ := h
      have h1 := unl_set (get_lt (mem_ready.1 hi).2.choose_spec.1) (mem_ready.1 hi).1
      exact free_any hst hG hΓ hl ho hscp hF hun hits hT0 hw0 hQ fuel σ'' β'' s' _ a' w' (by omega) hσ' hI'

/-- **A region that draws its order, makes blocks, calls, and stores to the new blocks.** -/
theorem wp_region_free (hm : P.follows .mixedOrders = true) (hst : Stable G) (hG : GOk G W) (hΓ : SigOk P G sig Γ) (hl : lexFast ops ops.size = true) (ho : storeOrd ops = true) (hscp : st.scp st.n = true) (hF : freeAt P sig ops st ops.size = some F) (hun : F.N.all noTag = true) (hits : itsHold Γ F.its ρ)
    {w : World} (hT0 : TOk ρ σ β st a0) (hw : WOk W ρ σ β st.own st.lists w) {id : Nat} {Q : Exit → Act → World → Prop}
    (hQ : ∀ σ' β' a' w', agree st.n ρ (itsEnv Γ F.its ρ) → st.n ≤ F.st.n → Rel W (itsEnv Γ F.its ρ) σ' β' { F.st with own := F.st.own ++ blks (conts F.N F.S) } a' w' → Q .normal a' w') : (Code.region id ops true).wp P Q a0 w := by
  refine wp_region_any hm ?_
  have hw0 : WOk W ρ σ β st.own st.lists { w with drawn := w.drawn + 1 } := hw.drew
  obtain ⟨b1, b2, b3, b4, b5, b6⟩ := freeAt_base hF
  have hag0 : agree st.n ρ (itsEnv Γ F.its ρ) := (its_prefix (Γ := Γ) (ρ := ρ) (k := 0) (f := _) rfl hF (Nat.zero_le _)).2
  have hrep : ∀ k, (Array.replicate ops.size false).getD k false = false := fun k => by
    by_cases hk : k < ops.size
    · simp [hk]
    · simp [hk]
  refine free_any (a0 := a0) (w0 := { w with drawn := w.drawn + 1 }) hst hG hΓ hl ho hscp hF hun hits hT0 hw0 ?_ ops.size σ β 0 (Array.replicate ops.size false) a0 _ (by rw [LI.start.unl (Nat.zero_le _) (Nat.le_refl _)]; omega) (agree_refl _ _) ?_
  · intro σ' β' s listed a' w' hσ0 hI hall
    obtain ⟨_, sc2, sc3, _⟩ := st_scp hscp
    generalize itsEnv Γ F.its ρ = ρs at *
    have hT0' : TOk ρs σ' β' st a0 := hT0.agree hscp hag0 hσ0 hI.agr
    have hTf := fill_tok hl hF hT0' hI hF (Nat.le_refl _)
    have hfill : ∀ k, k ≤ ops.size → fill P sig ops st ρs σ' β' listed a' k = a' := by
      intro k
      induction k with
      | zero => intro _; rfl
      | succ k ih =>
        intro hk
        unfold fill
        rw [if_pos (hall k (by omega))]
        exact ih (by omega)
    rw [hfill _ (Nat.le_refl _)] at hTf
    have hs : F.S.length ≤ s := by
      by_cases h0 : F.S.length = 0
      · omega
      · obtain ⟨k, f, o, r, hk, h1, hst1, hq⟩ := store_at hF (F.S.length - 1) (by omega)
        have := (hI.sto k f o r h1 hst1).1 (hall k hk)
        omega
    have htake : F.S.take s = F.S := List.take_of_length_le hs
    refine hQ σ' β' a' w' hag0 b5 ⟨⟨hTf.size, hTf.slot, hTf.defers, hTf.pc⟩, ?_⟩
    show WOk W ρs σ' β' (F.st.own ++ blks (conts F.N F.S)) F.st.lists w'
    rw [b1, b2]
    have hW0 : WOk W ρs σ' β' st.own st.lists { w with drawn := w.drawn + 1 } := hw0.agree sc2 sc3 hag0 hσ0 hI.agr
    have hlen : (blks (conts F.N F.S)).length = F.N.length := by unfold blks; rw [List.length_map, conts_length]
    refine hW0.extend hI.mem (fun i t cs hi => blks_tags (conts_tags F.S F.N hun) hi) (fun i t cs hi => ?_) (fun i hi => ?_) (fun i j hi hj e => ?_)
    · have hlt := lt_of_get hi
      rw [hlen] at hlt
      obtain ⟨k, f, o, r, hk, h1, hn, hN⟩ := alloc_at hF i hlt
      unfold blks at hi
      rw [List.getElem?_map] at hi
      cases hc : (conts F.N F.S)[i]? with
      | none => rw [hc] at hi; cases hi
      | some y =>
        obtain ⟨kd, t', cs'⟩ := y
        rw [hc] at hi
        cases hi
        have := hI.blk k f o r kd t cs h1 hN (hall k hk) (by rw [htake, hn]; exact hc)
        rwa [hn] at this
    · rw [hlen] at hi
      obtain ⟨k, f, o, r, hk, h1, hn, hN⟩ := alloc_at hF i hi
      have := hI.ge k f o r h1 hN (hall k hk)
      rwa [hn] at this
    · rw [hlen] at hi hj
      obtain ⟨k, f, o, r, hk, h1, hn, hN⟩ := alloc_at hF i hi
      obtain ⟨k', f', o', r', hk', h1', hn', hN'⟩ := alloc_at hF j hj
      have := hI.inj k f o r k' f' o' r' h1 hN (hall k hk) h1' hN' (hall k' hk') (by rw [hn, hn']; exact e)
      omega
  · refine ⟨by simp, hT0.size, hT0.defers, fun t _ => rfl, fun j f o r d h1 hj => ?_, Below.refl _ _, fun j f o r kd t cs h1 hn hj => ?_, fun j f o r h1 hn hj => ?_, fun j f o r h1 hn hj => ?_, fun j f o r j' f' o' r' h1 hn hj => ?_, fun j f o r h1 hs => ?_, agree_refl _ _, fun j o hoj hj => ?_, fun j f o r h1 hj => ?_⟩
    · rw [hrep] at hj; cases hj
    · rw [hrep] at hj; cases hj
    · rw [hrep] at hj; cases hj
    · rw [hrep] at hj; cases hj
    · rw [hrep] at hj; cases hj
    · rw [hrep]
      exact ⟨fun h => (by cases h), fun h => by omega⟩
    · rw [hrep] at hj; cases hj
    · rw [hrep] at hj; cases hj
end
end Go.Vg

/- Code and functions: the conditions suffice. -/
namespace Go.Vg
open Go.RowKit
set_option linter.unusedVariables false
set_option linter.unusedSimpArgs false

/-! ### Loops -/

theorem least_nat {p : Nat → Prop} (h : ∃ n, p n) : ∃ n, p n ∧ ∀ m, p m → n ≤ m := by
  obtain ⟨n, hn⟩ := h
  induction n using Nat.strongRecOn with
  | _ n ih =>
    by_cases hm : ∃ m, m < n ∧ p m
    · obtain ⟨m, h1, h2⟩ := hm
      exact ih m h1 h2
    · exact ⟨n, hn, fun m h1 => by
        rcases Nat.lt_or_ge m n with h2 | h2
        · exact absurd ⟨m, h2, h1⟩ hm
        · exact h2⟩

open Classical in
theorem wp_loop_rel {P : Program} {c : Code} {Q : Exit → Act → World → Prop} {a : Act} {w : World} (I : Nat → Act → World → Prop) {n0 : Nat} (h0 : I n0 a w)
    (round : ∀ n a w, I n a w → c.wp P (Exit.then (fun a' w' => ∃ m, m < n ∧ I m a' w') Q) a w) : (Code.loop c).wp P Q a w := by
  let μ : Act → World → Nat := fun a w => if h : ∃ n, I n a w then (least_nat h).choose else 0
  have hμ : ∀ a w, (∃ n, I n a w) → I (μ a w) a w ∧ ∀ m, I m a w → μ a w ≤ m := by
    intro a w h
    have := (least_nat h).choose_spec
    simp only [μ, dif_pos h]
    exact this
  refine wp_loop (fun a w => ∃ n, I n a w) μ ⟨n0, h0⟩ fun a w hI => ?_
  have h1 := hμ a w hI
  refine Code.wp_mono ?_ (round _ a w h1.1)
  intro e a' w' hq
  cases e with
  | normal =>
    obtain ⟨m, h2, h3⟩ := hq
    exact ⟨⟨m, h3⟩, Nat.lt_of_le_of_lt ((hμ a' w' ⟨m, h3⟩).2 m h3) h2⟩
  | _ => exact hq

section
variable {ρ ρT : Env} {σ σT : Nat → Value} {β : Nat → Nat} {n M : Nat}

theorem sameC_ok {T c : CV} {l : List Ax} (h : sameC n M T c = some l) (ha : agree n ρ ρT) (has : agree n σ σT) : l = [] ∧ T.val ρT σT β = c.val ρ σ β := by
  unfold sameC at h
  split at h
  · rename_i hc
    cases h
    simp only [Bool.and_eq_true] at hc
    have := CV.eqb_eq hc.1
    subst this
    exact ⟨rfl, cv_agree ha has (agree_refl M β) hc.2⟩
  · cases h

/-- What the variables from j on are. -/
def Fills (ρ : Env) (σ : Nat → Value) (β : Nat → Nat) (ρT : Env) (σT : Nat → Value) (j : Nat) (l : List Ax) : Prop :=
  ∀ i ax, l[i]? = some ax → ρT (j + i) = ax.ev ρ ∧ σT (j + i) = ax.slv ρ σ β

theorem Fills.left {j : Nat} {l r : List Ax} (h : Fills ρ σ β ρT σT j (l ++ r)) : Fills ρ σ β ρT σT j l :=
  fun i ax hi => h i ax (by rw [List.getElem?_append_left (lt_of_get hi)]; exact hi)
theorem Fills.right {j : Nat} {l r : List Ax} (h : Fills ρ σ β ρT σT j (l ++ r)) : Fills ρ σ β ρT σT (j + l.length) r := fun i ax hi => by
  have := h (l.length + i) ax (by rw [List.getElem?_append_right (by omega)]; simpa using hi)
  rwa [← Nat.add_assoc] at this

theorem instC_ok {j : Nat} {T c : CV} {l : List Ax} (h : instC n M j T c = some l) (ha : agree n ρ ρT) (has : agree n σ σT) (hE : Fills ρ σ β ρT σT j l) :
    T.val ρT σT β = c.val ρ σ β := by
  unfold instC at h
  split at h
  · rename_i k i k' e
    split at h
    · split at h
      · rename_i hc
        cases h
        simp only [Bool.and_eq_true] at hc
        have h1 := Nat.eq_of_beq_eq_true hc.1
        have h2 := (hE 0 _ rfl).1
        rw [Nat.add_zero, ← h1] at h2
        simp only [CV.val, Ex.int_v, h2, Ax.ev, Leaf.int, kindNo_inj hc.2]
      · cases h
    · exact (sameC_ok h ha has).2
  · rename_i i e
    split at h
    · split at h
      · rename_i hc
        cases h
        have h1 := Nat.eq_of_beq_eq_true hc
        have h2 := (hE 0 _ rfl).1
        rw [Nat.add_zero, ← h1] at h2
        simp only [CV.val, Ex.bool_v, h2, Ax.ev, Leaf.bool]
      · cases h
    · exact (sameC_ok h ha has).2
  · rename_i i
    split at h
    · split at h
      · rename_i hc
        cases h
        have h1 := Nat.eq_of_beq_eq_true hc
        have h2 := (hE 0 _ rfl).2
        rw [Nat.add_zero, ← h1] at h2
        simp only [CV.val, h2, Ax.slv, asSl]
      · cases h
    · exact (sameC_ok h ha has).2
  · rename_i i q
    split at h
    · split at h
      · rename_i hc
        cases h
        have h1 := Nat.eq_of_beq_eq_true hc
        have h2 := (hE 0 _ rfl).2
        rw [Nat.add_zero, ← h1] at h2
        simp only [CV.val, h2, Ax.slv, asSl_asSl]
      · cases h
    · exact (sameC_ok h ha has).2
  · exact (sameC_ok h ha has).2

theorem instC_lst {j q : Nat} {T : CV} {l : List Ax} (h : instC n M j T (.lst q) = some l) (ha : agree n ρ ρT) (hE : Fills ρ σ β ρT σT j l) : ∃ i, T = .lst i ∧ (ρT i).lv = (ρ q).lv := by
  have same : sameC n M T (.lst q) = some l → ∃ i, T = .lst i ∧ (ρT i).lv = (ρ q).lv := fun h => by
    unfold sameC at h
    split at h
    · rename_i hc
      simp only [Bool.and_eq_true] at hc
      have := CV.eqb_eq hc.1
      subst this
      exact ⟨q, rfl, by rw [ha q (blt_lt hc.2)]⟩
    · cases h
  cases T with
  | lst i =>
    simp only [instC] at h
    split at h
    · split at h
      · rename_i hc
        cases h
        have h1 := Nat.eq_of_beq_eq_true hc
        have h2 := (hE 0 _ rfl).1
        rw [Nat.add_zero, ← h1] at h2
        exact ⟨i, rfl, by rw [h2]; rfl⟩
      · cases h
    · exact same h
  | _ => unfold instC at h; split at h <;> first | exact same h | (simp_all; done)

theorem holds_nil (ρ : Env) : Gd.holds ρ [] := fun p hp => by simp at hp

theorem instT_ok {j : Nat} {T x : Gd × SV} {l : List Ax} (h : instT n M j T x = some l) (ha : agree n ρ ρT) (has : agree n σ σT) (hE : Fills ρ σ β ρT σT j l)
    {v : Value} (hx : SlotOk ρ σ β x v) : SlotOk ρT σT β T v := by
  unfold instT at h
  split at h
  · exact .inl rfl
  · rename_i c
    split at h
    · rename_i c'
      rcases hx with hx | hx | hx
      · cases hx
      · refine .inr (.inl ⟨holds_nil _, ?_⟩)
        rw [hx.2]
        exact (instC_ok h ha has hE).symm
      · exact absurd (holds_nil _) hx.1
    · cases h
  · split at h
    · rename_i hc
      cases h
      simp only [Bool.and_eq_true] at hc
      have h1 : T = x := Prod.ext (allEq_eq pairEq_eq hc.1.1.1) (SV.eqb_eq hc.1.1.2)
      subst h1
      rcases hx with hx | hx | hx
      · exact .inl hx
      · exact .inr (.inl ⟨(gd_agree ha hc.1.2).2 hx.1, by rw [sv_agree ha has (agree_refl M β) hc.2]; exact hx.2⟩)
      · exact .inr (.inr ⟨fun hh => hx.1 ((gd_agree ha hc.1.2).1 hh), hx.2⟩)
    · cases h

theorem instTs_ok {xs : List (Nat × (Gd × SV))} : ∀ {Ts : List (Nat × (Gd × SV))} {j : Nat} {l : List Ax}, instTs n M xs j Ts = some l → agree n ρ ρT → agree n σ σT → Fills ρ σ β ρT σT j l →
    ∀ (t : Nat) T, getT Ts t = some T → ∃ x, getT xs t = some x ∧ ∀ v, SlotOk ρ σ β x v → SlotOk ρT σT β T v
  | [], j, l, h, _, _, _ => fun t T ht => by simp [getT] at ht
  | (u, T) :: Ts, j, l, h, ha, has, hE => by
    simp only [instTs] at h
    split at h
    · cases h
    · rename_i x hx
      split at h
      · cases h
      · rename_i l1 h1
        split at h
        · cases h
        · rename_i r hr
          cases h
          have h3 := instTs_ok hr ha has hE.right
          intro t T' ht
          simp only [getT] at ht
          split at ht
          · rename_i hut
            cases ht
            rw [← Nat.eq_of_beq_eq_true hut]
            exact ⟨x, hx, fun v hv => instT_ok h1 ha has hE.left hv⟩
          · exact h3 t T' ht

theorem instCs_ok : ∀ {Ts xs : List CV} {j : Nat} {l : List Ax}, instCs n M j Ts xs = some l → agree n ρ ρT → agree n σ σT → Fills ρ σ β ρT σT j l →
    Ts.map (CV.val ρT σT β) = xs.map (CV.val ρ σ β)
  | [], [], j, l, h, _, _, _ => rfl
  | T :: Ts, x :: xs, j, l, h, ha, has, hE => by
    simp only [instCs] at h
    split at h
    · cases h
    · rename_i l1 h1
      split at h
      · cases h
      · rename_i r hr
        cases h
        have h3 := instCs_ok hr ha has hE.right
        simp only [List.map_cons, h3, instC_ok h1 ha has hE.left]
  | [], _ :: _, _, _, h, _, _, _ => by simp [instCs] at h
  | _ :: _, [], _, _, h, _, _, _ => by simp [instCs] at h

theorem instOwn_ok : ∀ {Ts xs : List (TypeId × List CV)} {j : Nat} {l : List Ax}, instOwn n M j Ts xs = some l → agree n ρ ρT → agree n σ σT → Fills ρ σ β ρT σT j l →
    Ts.length ≤ xs.length ∧ ∀ (k : Nat) (t : TypeId) (cs : List CV), Ts[k]? = some (t, cs) → ∃ cs', xs[k]? = some (t, cs') ∧ cs.map (CV.val ρT σT β) = cs'.map (CV.val ρ σ β) ∧
      (cs' = [] → cs = []) ∧ ∀ q, cs' = [.lst q] → ∃ i, cs = [.lst i] ∧ (ρT i).lv = (ρ q).lv
  | [], _, j, l, h, _, _, _ => ⟨by simp, fun k t cs hk => by simp at hk⟩
  | (t, a) :: Ts, (u, b) :: xs, j, l, h, ha, has, hE => by
    simp only [instOwn] at h
    split at h
    · rename_i htu
      have htu := Nat.eq_of_beq_eq_true htu
      subst htu
      split at h
      · cases h
      · rename_i l1 h1
        split at h
        · cases h
        · rename_i r hr
          cases h
          obtain ⟨h2, h3⟩ := instOwn_ok hr ha has hE.right
          refine ⟨by simpa using h2, fun k t' cs hk => ?_⟩
          cases k with
          | zero =>
            simp at hk
            obtain ⟨rfl, rfl⟩ := hk
            refine ⟨b, rfl, instCs_ok h1 ha has hE.left, fun e => ?_, fun q e => ?_⟩
            · subst e
              cases a with
              | nil => rfl
              | cons _ _ => simp [instCs] at h1
            · subst e
              match a, h1 with
              | [], h1 => simp [instCs] at h1
              | [T], h1 =>
                simp only [instCs] at h1
                split at h1
                · cases h1
                · rename_i l' h2
                  simp only [Option.some.injEq, List.append_nil] at h1
                  subst h1
                  obtain ⟨i, rfl, hi⟩ := instC_lst h2 ha hE.left
                  exact ⟨i, rfl, hi⟩
              | _ :: _ :: _, h1 =>
                simp only [instCs] at h1
                split at h1
                · cases h1
                · cases h1
          | succ k => simp at hk; simpa using h3 k t' cs hk
    · cases h
  | _ :: _, [], _, _, h, _, _, _ => by simp [instOwn] at h

theorem kinds_fits : ∀ {ks : List LK} {l : List Ax}, kindsOk ks l = true → fits ks (l.map (Ax.ev ρ)) ∧ l.length = ks.length := by
  intro ks
  induction ks with
  | nil =>
    intro l h
    cases l with
    | nil => exact ⟨trivial, rfl⟩
    | cons _ _ => simp [kindsOk] at h
  | cons k ks ih =>
    intro l h
    cases l with
    | nil => cases k <;> simp [kindsOk] at h
    | cons x l =>
      cases k <;> cases x <;> simp only [kindsOk, Bool.false_eq_true] at h <;> (obtain ⟨h1, h2⟩ := ih h; exact ⟨h1, by simp [h2]⟩)

theorem fits_length : ∀ {ks : List LK} {xs : List Leaf}, fits ks xs → xs.length = ks.length := by
  intro ks
  induction ks with
  | nil =>
    intro xs h
    cases xs with
    | nil => rfl
    | cons _ _ => simp [fits] at h
  | cons k ks ih =>
    intro xs h
    cases xs with
    | nil => cases k <;> simp [fits] at h
    | cons x xs =>
      cases k <;> cases x <;> simp only [fits] at h <;> simp [ih h]

theorem hasL_mem {x : St} {l : Nat} {ek : List EK} (h : hasL x l ek = true) : (l, ek) ∈ x.lists := by
  simp only [hasL, List.any_eq_true, Bool.and_eq_true] at h
  obtain ⟨q, hq, h10, h11⟩ := h
  have h12 := Nat.eq_of_beq_eq_true h10
  have h13 := allEq_eq EK.eqb_eq h11
  have : (l, ek) = q := Prod.ext h12 h13
  rw [this]; exact hq

theorem inertN_get {t : TypeId} : ∀ {n : Nat} {r : List (TypeId × List CV)}, inertN t n r = true → ∀ i, i < n → r[i]? = some (inertT t, [])
  | 0, _, _, i, hi => by omega
  | n + 1, (u, []) :: r, h, i, hi => by
    simp only [inertN, Bool.and_eq_true] at h
    cases i with
    | zero => rw [List.getElem?_cons_zero, Nat.eq_of_beq_eq_true h.1]
    | succ i => rw [List.getElem?_cons_succ]; exact inertN_get h.2 i (by omega)
  | n + 1, [], h, _, _ => by simp [inertN] at h
  | n + 1, (_, _ :: _) :: _, h, _, _ => by simp [inertN] at h
theorem feetChk_get : ∀ {O : List (TypeId × List CV)}, feetChk O = true → ∀ {k : Nat} {t : TypeId} {cs : List CV}, isTag t = true → O[k]? = some (t, cs) → ∀ i, 0 < i → i ≤ feetN (clsOf t) → O[k + i]? = some (inertT t, [])
  | [], _, k, c, cs, _, hk, _, _, _ => by simp at hk
  | (t, ds) :: r, h, 0, c, cs, ht, hk, i, h0, hi => by
    simp only [feetChk, Bool.and_eq_true] at h
    simp only [List.getElem?_cons_zero, Option.some.injEq, Prod.mk.injEq] at hk
    obtain ⟨rfl, rfl⟩ := hk
    have h1 := h.1
    rw [if_pos ht] at h1
    have := inertN_get h1 (i - 1) (by omega)
    rw [show 0 + i = (i - 1) + 1 by omega, List.getElem?_cons_succ]
    exact this
  | (t, ds) :: r, h, k + 1, c, cs, ht, hk, i, h0, hi => by
    simp only [feetChk, Bool.and_eq_true] at h
    have := feetChk_get h.2 (k := k) ht (by simpa using hk) i h0 hi
    rw [show k + 1 + i = (k + i) + 1 by omega, List.getElem?_cons_succ]
    exact this

/-- A state that is an instance of the template. -/
theorem inst_ok {W : Base} {w : World} {kinds : List LK} {T x : St} {vals : List Ax} (h : inst n kinds T x = some vals) (hTl : W.S.length ≤ T.own.length) {a : Act} (hR : Rel W ρ σ β x a w) {ρ0 : Env} (ha : agree n ρ0 ρ)
    (hpc : Gd.holds ρ0 T.pc) (hpcs : Gd.scp n T.pc = true) :
    fits kinds (vals.map (Ax.ev ρ)) ∧ ∃ σT, Rel W (push ρ0 n (vals.map (Ax.ev ρ))) σT β T a w := by
  unfold inst at h
  split at h
  · rename_i hl
    simp only [Bool.and_eq_true] at hl
    split at h
    · cases h
    · rename_i l h1
      split at h
      · cases h
      · rename_i r h2
        split at h
        · rename_i hk
          cases h
          simp only [Bool.and_eq_true] at hk
          obtain ⟨h3, h4⟩ := kinds_fits (ρ := ρ) hk.1
          let ρT : Env := push ρ0 n ((l ++ r).map (Ax.ev ρ))
          let σT : Nat → Value := fun m => if m < n then σ m else ((l ++ r).map (Ax.slv ρ σ β)).getD (m - n) undef
          have haT : agree n ρ ρT := fun m hm => (agree_push ρ0 n _ m hm).trans (ha m hm).symm
          have hasT : agree n σ σT := fun m hm => by simp [σT, hm]
          have hE : Fills ρ σ β ρT σT n (l ++ r) := fun i ax hi => by
            refine ⟨?_, ?_⟩
            · simp only [ρT, push]
              rw [if_neg (by omega), Nat.add_sub_cancel_left, List.getD_eq_getElem?_getD, List.getElem?_map, hi]
              rfl
            · simp only [σT]
              rw [if_neg (by omega), Nat.add_sub_cancel_left, List.getD_eq_getElem?_getD, List.getElem?_map, hi]
              rfl
          have h6 := instTs_ok h1 haT hasT hE.left
          obtain ⟨h7, h8⟩ := instOwn_ok h2 haT hasT hE.right
          obtain ⟨hT, hw⟩ := hR
          -- where each list of the template comes from
          have src : ∀ p, p ∈ T.lists → (∃ q, (q, p.2) ∈ x.lists ∧ (ρT p.1).lv = (ρ q).lv ∧ σT p.1 = σ q ∧ (p.1 < n → q = p.1) ∧ (T.lists.all (groInst T.lists n x (l ++ r)) = true → n ≤ p.1 → ∀ y, y ∈ T.lists → y.1 < n → q ≠ y.1)) ∨
              (n ≤ p.1 ∧ (ρT p.1).lv = nilLV ∧ σT p.1 = .slice none 0 0) := fun p hp => by
            have old : p.1 < n → hasL x p.1 p.2 = true → ∃ q, (q, p.2) ∈ x.lists ∧ (ρT p.1).lv = (ρ q).lv ∧ σT p.1 = σ q ∧ (p.1 < n → q = p.1) ∧ (T.lists.all (groInst T.lists n x (l ++ r)) = true → n ≤ p.1 → ∀ y, y ∈ T.lists → y.1 < n → q ≠ y.1) := fun hlt hg =>
              ⟨p.1, hasL_mem hg, by rw [haT p.1 hlt], hasT p.1 hlt, fun _ => rfl, fun _ h => by omega⟩
            have nilc : n ≤ p.1 → (l ++ r)[p.1 - n]? = some (.c 1 .nilsl []) → n ≤ p.1 ∧ (ρT p.1).lv = nilLV ∧ σT p.1 = .slice none 0 0 := fun hge hax => by
              have h9 := hE _ _ hax
              rw [show n + (p.1 - n) = p.1 by omega] at h9
              exact ⟨hge, by rw [h9.1]; rfl, by rw [h9.2]; rfl⟩
            have newc : ∀ q, n ≤ p.1 → (l ++ r)[p.1 - n]? = some (.l q) → hasL x q p.2 = true → (T.lists.all (groInst T.lists n x (l ++ r)) = true → n ≤ p.1 → ∀ y, y ∈ T.lists → y.1 < n → q ≠ y.1) →
                ∃ q, (q, p.2) ∈ x.lists ∧ (ρT p.1).lv = (ρ q).lv ∧ σT p.1 = σ q ∧ (p.1 < n → q = p.1) ∧ (T.lists.all (groInst T.lists n x (l ++ r)) = true → n ≤ p.1 → ∀ y, y ∈ T.lists → y.1 < n → q ≠ y.1) := fun q hge hax hg hq => by
              have h9 := hE _ _ hax
              rw [show n + (p.1 - n) = p.1 by omega] at h9
              have hm := hasL_mem hg
              refine ⟨q, hm, by rw [h9.1]; rfl, ?_, fun h => by omega, hq⟩
              rw [h9.2]
              exact reads_asSl (hw.lists _ hm)
            have ge_of : ¬ Nat.blt p.1 n = true → n ≤ p.1 := fun hlt => by
              rcases Nat.lt_or_ge p.1 n with h | h
              · exact absurd (by unfold Nat.blt; exact Nat.ble_eq_true_of_le h) hlt
              · exact h
            rcases Bool.or_eq_true _ _ ▸ hk.2 with hgr | hli
            · have hg := List.all_eq_true.1 hgr p hp
              unfold groInst at hg
              split at hg
              · rename_i hlt
                exact .inl (old (blt_lt hlt) hg)
              · rename_i hlt
                have hge := ge_of hlt
                simp only [Bool.and_eq_true] at hg
                obtain ⟨_, hg⟩ := hg
                split at hg
                · rename_i hax; exact .inr (nilc hge hax)
                · rename_i q hax
                  simp only [Bool.and_eq_true] at hg
                  refine .inl (newc q hge hax hg.2 (fun _ _ y hy hyn => ?_))
                  have hfr := hg.1
                  unfold freshQ at hfr
                  rw [Bool.or_eq_true] at hfr
                  rcases hfr with hfr | hfr
                  · have := Nat.le_of_ble_eq_true hfr; omega
                  · intro e
                    rw [Bool.not_eq_true', List.any_eq_false] at hfr
                    exact hfr y hy (by rw [e]; exact Nat.beq_refl _)
                · cases hg
            · have hg := List.all_eq_true.1 hli p hp
              unfold listInst at hg
              simp only [Bool.and_eq_true] at hg
              obtain ⟨hng, hg⟩ := hg
              split at hg
              · rename_i hlt
                exact .inl (old (blt_lt hlt) hg)
              · rename_i hlt
                have hge := ge_of hlt
                split at hg
                · rename_i hax; exact .inr (nilc hge hax)
                · rename_i q hax
                  refine .inl (newc q hge hax hg (fun hgr _ => ?_))
                  have h10 := List.all_eq_true.1 hgr p hp
                  unfold groInst at h10
                  rw [if_neg hlt] at h10
                  simp only [Bool.and_eq_true] at h10
                  rw [h10.1] at hng
                  cases hng
                · cases hg
          have gro_or : (T.lists.all (groInst T.lists n x (l ++ r)) = true) ∨ ∀ p, p ∈ T.lists → isGro p.2 = false := by
            rcases Bool.or_eq_true _ _ ▸ hk.2 with hgr | hli
            · exact .inl hgr
            · refine .inr fun p hp => ?_
              have hg := List.all_eq_true.1 hli p hp
              unfold listInst at hg
              simp only [Bool.and_eq_true] at hg
              simpa using hg.1
          refine ⟨h3, σT, ⟨by rw [hT.size, Nat.eq_of_beq_eq_true hl.1.1], fun t g sv ht => ?_, hT.defers, (gd_agree (agree_push ρ0 n _) hpcs).2 hpc⟩, ?_⟩
          · obtain ⟨y, h9, h10⟩ := h6 t (g, sv) ht
            exact h10 _ (hT.slot t y.1 y.2 h9)
          · refine ⟨hw.below, fun k t cs hk ht => ?_, fun k t cs hk ht => ?_, fun j k hj hk e => hw.inj j k (by omega) (by omega) e, fun k u ds hk hr => ?_, fun p hp => ?_, fun i t K hm he => ?_, hw.self, hTl, fun p q hp hq hg hne => ?_⟩
            · obtain ⟨cs', h9, h10, _⟩ := h8 k t cs hk
              rw [h10]
              exact hw.own k t cs' h9 ht
            · obtain ⟨cs', h9, _, h11, h12⟩ := h8 k t cs hk
              rcases hw.obj k t cs' h9 ht with ⟨g1, g2, g3⟩ | ⟨q, g1, g3, g4, g5⟩
              · exact .inl ⟨g1, h11 g2, g3⟩
              · obtain ⟨i, e1, e2⟩ := h12 q g3
                exact .inr ⟨i, g1, e1, by rw [e2]; exact g4, feetChk_get hl.2 ht hk⟩
            · obtain ⟨cs', h9, _⟩ := h8 k u ds hk
              exact hw.ge k u cs' h9 hr
            · show reads w T.own.length β p.2 (ρT p.1).lv (σT p.1)
              rcases src p hp with ⟨q, hq, e1, e2, _⟩ | ⟨_, e1, e2⟩
              · rw [e1, e2]
                obtain ⟨base, cap, h14, h15⟩ := hw.lists (q, p.2) hq
                refine ⟨base, cap, h14, ?_⟩
                rcases h15 with h15 | ⟨ad, h16, h17, h18, h19⟩
                · exact .inl h15
                · exact .inr ⟨ad, h16, h17, ⟨h18.1, fun k hk => h18.2 k (by omega)⟩, h19⟩
              · rw [e1, e2]
                exact ⟨none, ⟨0, Nat.le_refl 0⟩, rfl, .inl rfl⟩
            · show GroOk W w T.own.length β t K (ρT i).lv (σT i)
              rcases src _ hm with ⟨q, hq, e1, e2, _⟩ | ⟨_, e1, e2⟩
              · simp only at e1 e2
                rw [e1, e2]
                obtain ⟨h9, h10⟩ := hw.gro q t K hq he
                exact ⟨h9, fun k hk => h10 k (by omega)⟩
              · simp only at e1 e2
                rw [e1, e2]
                exact ⟨World.ownsRow_nil _ _ _ _, fun k hk e => by cases e⟩
            · show ((ρT q.1).lv.len = 0 ∧ isGro q.2 = false) ∨ (σT p.1).ownBlock = none ∨ (σT p.1).ownBlock ≠ (σT q.1).ownBlock
              have hgr : T.lists.all (groInst T.lists n x (l ++ r)) = true := by
                rcases gro_or with h | h
                · exact h
                · rw [h p hp] at hg; cases hg
              rcases src p hp with ⟨p', hp', e1, e2, e3, e4⟩ | ⟨e0, e1, e2⟩
              · have e4 := e4 hgr
                rcases src q hq with ⟨q', hq', f1, f2, f3, f4⟩ | ⟨f0, f1, f2⟩
                · have f4 := f4 hgr
                  rw [e2, f1, f2]
                  refine hw.sep (p', p.2) (q', q.2) hp' hq' hg (fun e => ?_)
                  simp only at e
                  by_cases hpn : p.1 < n
                  · by_cases hqn : q.1 < n
                    · exact hne (by rw [← e3 hpn, ← f3 hqn, e])
                    · exact (f4 (by omega) p hp hpn) (by rw [← e, e3 hpn])
                  · by_cases hqn : q.1 < n
                    · exact (e4 (by omega) q hq hqn) (by rw [e, f3 hqn])
                    · have h10 := Nat.le_of_ble_eq_true hl.1.2
                      have hpm : p ∈ T.lists.filter (fun p => Nat.ble n p.1) := List.mem_filter.2 ⟨hp, Nat.ble_eq_true_of_le (by omega)⟩
                      have hqm : q ∈ T.lists.filter (fun p => Nat.ble n p.1) := List.mem_filter.2 ⟨hq, Nat.ble_eq_true_of_le (by omega)⟩
                      match hf : T.lists.filter (fun p => Nat.ble n p.1) with
                      | [] => rw [hf] at hpm; simp at hpm
                      | [y] =>
                        rw [hf] at hpm hqm
                        simp only [List.mem_singleton] at hpm hqm
                        exact hne (by rw [hpm, hqm])
                      | y :: z :: zs => rw [hf] at h10; simp at h10
                · rw [e2, f2]
                  cases hb : (σ p').ownBlock with
                  | none => exact .inr (.inl rfl)
                  | some g => exact .inr (.inr (fun e => by cases e))
              · rw [e2]; exact .inr (.inl rfl)
        · cases h
  · cases h
end

def SExit.toExit : SExit → Exit
  | .normal => .normal
  | .exit id => .exit id
  | .ret => .ret

section
variable {P : Program} {G : World → Prop} {sig : List (Nat × List Sh × List Sh)} {anns : List Ann} {Γ : Cx} {W : Base}

/-- What has to be known of what comes behind a piece of code. -/
def Behind (Γ : Cx) (W : Base) (n : Nat) (ρ : Env) (K : SExit → St → Option Fm) (Q : Exit → Act → World → Prop) : Prop :=
  ∀ ex st' φ' ρ' σ' β' a' w', K ex st' = some φ' → φ'.holds Γ ρ' → agree n ρ ρ' → n ≤ st'.n → Rel W ρ' σ' β' st' a' w' → Q ex.toExit a' w'

theorem mkOwn_length {ann : Ann} : ∀ {xs : List (TypeId × List CV)} {b j : Nat} {r : List (TypeId × List CV)} {ks : List LK}, mkOwn ann b j xs = some (r, ks) → r.length = xs.length
  | [], b, j, r, ks, h => by simp only [mkOwn, Option.some.injEq, Prod.mk.injEq] at h; rw [← h.1]
  | (t, cs) :: xs, b, j, r, ks, h => by
    simp only [mkOwn] at h
    split at h
    · split at h
      · rename_i hr
        simp only [Option.some.injEq, Prod.mk.injEq] at h
        rw [← h.1, List.length_cons, List.length_cons, mkOwn_length hr]
      · cases h
    · cases h
theorem packAll_ok {K : St → Option Fm} {Q : Act → World → Prop} {n : Nat} {ρ : Env} (hK : ∀ st' φ' ρ' σ' β' a' w', K st' = some φ' → φ'.holds Γ ρ' → agree n ρ ρ' → n ≤ st'.n → Rel W ρ' σ' β' st' a' w' → Q a' w') :
    ∀ (l : List (Nat × Nat)) (st : St) (φ : Fm), packAll l st K = some φ → ∀ (ρ' : Env) (σ' : Nat → Value) (β' : Nat → Nat) (a' : Act) (w' : World), φ.holds Γ ρ' → agree n ρ ρ' → n ≤ st.n → Rel W ρ' σ' β' st a' w' → Q a' w'
  | [], st, φ, h, ρ', σ', β', a', w', h2, h3, h4, h5 => hK st φ ρ' σ' β' a' w' h h2 h3 h4 h5
  | (b, c) :: l, st, φ, h, ρ', σ', β', a', w', h2, h3, h4, h5 => by
    simp only [packAll] at h
    split at h
    · rename_i st1 ax hp
      split at h
      · rename_i ψ hψ
        cases h
        obtain ⟨h6, h7⟩ := pack_ok h5 hp
        exact packAll_ok hK l st1 ψ hψ _ σ' β' a' w' h2 (agree_trans h3 (agree_push ρ' st.n [ax.ev ρ']) h4) (by omega) h6
      · cases h
    · exact packAll_ok hK l st φ h ρ' σ' β' a' w' h2 h3 h4 h5
theorem packK_ok {id : Nat} {K : SExit → St → Option Fm} {Q : Exit → Act → World → Prop} {n : Nat} {ρ : Env} (hK : Behind Γ W n ρ K Q) {st' : St} {φ' : Fm} {ρ' : Env} {σ' : Nat → Value} {β' : Nat → Nat} {a' : Act} {w' : World}
    (h1 : packK anns id K st' = some φ') (h2 : φ'.holds Γ ρ') (h3 : agree n ρ ρ') (h4 : n ≤ st'.n) (h5 : Rel W ρ' σ' β' st' a' w') : Q .normal a' w' := by
  unfold packK at h1
  split at h1
  · exact packAll_ok (Q := fun a' w' => Q .normal a' w') (fun st' φ' ρ' σ' β' a' w' g1 g2 g3 g4 g5 => hK .normal st' φ' ρ' σ' β' a' w' g1 g2 g3 g4 g5) _ _ _ h1 ρ' σ' β' a' w' h2 h3 h4 h5
  · exact hK .normal st' φ' ρ' σ' β' a' w' h1 h2 h3 h4 h5
theorem tailTry_ok (hm : P.follows .mixedOrders = true) (hst : Stable G) (hG : GOk G W) (hΓ : SigOk P G sig Γ) {id : Nat} {ops : Array Oper} {st : St} {K : St → Option Fm} {φ : Fm}
    {ρ : Env} {σ : Nat → Value} {β : Nat → Nat} {a : Act} {w : World} {Q : Exit → Act → World → Prop} (hφ : φ.holds Γ ρ) (hR : Rel W ρ σ β st a w)
    (hK : ∀ st' φ' ρ' σ' β' a' w', K st' = some φ' → φ'.holds Γ ρ' → agree st.n ρ ρ' → st.n ≤ st'.n → Rel W ρ' σ' β' st' a' w' → Q .normal a' w') : ∀ {m : Nat}, tailTry P sig ops st K m = some φ → (Code.region id ops true).wp P Q a w
  | 0, h => by simp [tailTry] at h
  | m + 1, h => by
    unfold tailTry at h
    split at h
    · rename_i hc
      simp only [Bool.and_eq_true] at hc
      have hlex := hc.1
      have hms := Nat.le_of_ble_eq_true hc.2
      split at h
      · rename_i st1 its1 hops1
        split at h
        · rename_i ψ hψ
          cases h
          obtain ⟨h1, h2⟩ := wrap_holds hφ
          refine wp_region_tail (C := WOk W ρ σ β st.own st.lists) hm hlex hms hR.2.drew ?_
          refine ops_draw hst hG hΓ (fun w w' hw hb => hw.call hb) ⟨w, hR.2⟩ _ st _ st1 hops1 ρ σ β a hR.1 (fun w hw => hw) h1 ?_
          intro σ1 a1 h3 h4 h5 h6 w1 hw1
          exact seq_ok hst hG hΓ _ _ st1 K ψ hψ _ σ1 β a1 w1 h2 ⟨h5, h6 w1 hw1⟩ (fun st' φ' ρ' σ' β' a' w' g1 g2 g3 g4 g5 => hK st' φ' ρ' σ' β' a' w' g1 g2 (agree_trans h3 g3 h4) (Nat.le_trans h4 g4) g5)
        · cases h
      · exact tailTry_ok hm hst hG hΓ hφ hR hK h
    · exact tailTry_ok hm hst hG hΓ hφ hR hK h
theorem tail_ok (hm : P.follows .mixedOrders = true) (hst : Stable G) (hG : GOk G W) (hΓ : SigOk P G sig Γ) {id : Nat} {ops : Array Oper} {st : St} {K : St → Option Fm} {φ : Fm} (h : execTail P sig ops st K = some φ)
    {ρ : Env} {σ : Nat → Value} {β : Nat → Nat} {a : Act} {w : World} {Q : Exit → Act → World → Prop} (hφ : φ.holds Γ ρ) (hR : Rel W ρ σ β st a w)
    (hK : ∀ st' φ' ρ' σ' β' a' w', K st' = some φ' → φ'.holds Γ ρ' → agree st.n ρ ρ' → st.n ≤ st'.n → Rel W ρ' σ' β' st' a' w' → Q .normal a' w') : (Code.region id ops true).wp P Q a w :=
  tailTry_ok hm hst hG hΓ hφ hR hK h
theorem end_ok (hm : P.follows .mixedOrders = true) (hst : Stable G) (hG : GOk G W) (hΓ : SigOk P G sig Γ) {id : Nat} {ops : Array Oper} {st : St} {K : St → Option Fm} {φ : Fm} (h : execEnd P sig ops st K = some φ)
    {ρ : Env} {σ : Nat → Value} {β : Nat → Nat} {a : Act} {w : World} {Q : Exit → Act → World → Prop} (hφ : φ.holds Γ ρ) (hR : Rel W ρ σ β st a w)
    (hK : ∀ st' φ' ρ' σ' β' a' w', K st' = some φ' → φ'.holds Γ ρ' → agree st.n ρ ρ' → st.n ≤ st'.n → Rel W ρ' σ' β' st' a' w' → Q .normal a' w') : (Code.region id ops true).wp P Q a w := by
  unfold execEnd at h
  split at h
  · rename_i ψ hψ
    cases h
    exact tail_ok hm hst hG hΓ hψ hφ hR hK
  · split at h
    · rename_i ψ hψ
      cases h
      exact calls_ok hm hst hG hΓ hψ hφ hR hK
    · exact entry_ok hm h hφ hR hK
theorem exec_ok (hm : P.follows .mixedOrders = true) (hst : Stable G) (hG : GOk G W) (hΓ : SigOk P G sig Γ) : ∀ (c : Code) (st : St) (K : SExit → St → Option Fm) (φ : Fm), exec P sig anns c st K = some φ →
    ∀ (ρ : Env) (σ : Nat → Value) (β : Nat → Nat) (a : Act) (w : World) (Q : Exit → Act → World → Prop), φ.holds Γ ρ → Rel W ρ σ β st a w → Behind Γ W st.n ρ K Q → c.wp P Q a w := by
  intro c
  induction c with
  | skip =>
    intro st K φ h ρ σ β a w Q hφ hR hK
    simp only [exec] at h
    exact wp_skip (hK .normal st φ ρ σ β a w h hφ (agree_refl _ _) (Nat.le_refl _) hR)
  | exit id =>
    intro st K φ h ρ σ β a w Q hφ hR hK
    simp only [exec] at h
    exact wp_exit (hK (.exit id) st φ ρ σ β a w h hφ (agree_refl _ _) (Nat.le_refl _) hR)
  | ret =>
    intro st K φ h ρ σ β a w Q hφ hR hK
    simp only [exec] at h
    exact wp_ret (hK .ret st φ ρ σ β a w h hφ (agree_refl _ _) (Nat.le_refl _) hR)
  | region id ops draw =>
    intro st K φ h ρ σ β a w Q hφ hR hK
    simp only [exec] at h
    have hK : ∀ st' φ' ρ' σ' β' a' w', packK anns id K st' = some φ' → φ'.holds Γ ρ' → agree st.n ρ ρ' → st.n ≤ st'.n → Rel W ρ' σ' β' st' a' w' → Q .normal a' w' :=
      fun st' φ' ρ' σ' β' a' w' h1 h2 h3 h4 h5 => packK_ok hK h1 h2 h3 h4 h5
    cases draw with
    | false =>
      simp only [Bool.false_eq_true, if_false] at h
      exact wp_region_list (seq_ok hst hG hΓ _ ops.toList st (packK anns id K) φ h ρ σ β a w hφ hR (fun st' φ' ρ' σ' β' a' w' h1 h2 h3 h4 h5 => hK st' φ' ρ' σ' β' a' w' h1 h2 h3 h4 h5))
    | true =>
      simp only [if_true] at h
      split at h
      · rename_i st' its1 its hold
        split at hold
        · rename_i hlex
          split at hold
          · rename_i st1 its1' hops1
            split at hold
            · rename_i st'' its' hops
              cases hold
              split at h
              · rename_i ψ hψ
                cases h
                obtain ⟨h1, h2⟩ := wrap_holds hφ
                obtain ⟨h1', h2'⟩ := wrap_holds h2
                refine wp_region_tail (C := WOk W ρ σ β st.own st.lists) hm hlex (quietLen_le ops.toList) hR.2.drew ?_
                refine ops_draw hst hG hΓ (fun w w' hw hb => hw.call hb) ⟨w, hR.2⟩ _ st _ st1 hops1 ρ σ β a hR.1 (fun w hw => hw) h1 ?_
                intro σ1 a1 h3 h4 h5 h6 w1 hw1
                refine ops_ok hst hG hΓ _ st1 _ _ hops _ σ1 β a1 w1 ⟨h5, h6 w1 hw1⟩ h1' ?_
                intro σ' β' a' w' h7 h8 h9
                exact hK _ ψ _ σ' β' a' w' hψ h2' (agree_trans h3 h7 h4) (Nat.le_trans h4 h8) h9
              · cases h
            · cases hold
          · cases hold
        · cases hold
      · split at h
        · rename_i st' its hops0
          split at hops0
          · rename_i hmix
            simp only [Bool.and_eq_true] at hmix
            split at h
            · rename_i ψ hψ
              cases h
              obtain ⟨h1, h2⟩ := wrap_holds hφ
              refine wp_region_mix (C := Mixed W ρ σ β (storeBlks P sig ops.toList st) st.own st.lists) hm hmix.1 hmix.2 ?_
              refine mix_ok (Γ := Γ) ops.toList st its st' hops0 a _ hR.1 hR.2.drew rfl rfl (fun k _ => rfl) h1 ?_
              intro a' w' h3 h4 h5 h6
              rw [h3] at h2
              exact hK st' ψ ρ σ β a' w' hψ h2 (agree_refl _ _) (by rw [h4]; exact Nat.le_refl _) ⟨h5, h6⟩
            · cases h
          · cases hops0
        · split at h
          · rename_i hfree
            simp only [Bool.and_eq_true] at hfree
            split at h
            · rename_i f hf
              split at h
              · cases h
              rename_i hun
              split at h
              · rename_i ψ hψ
                cases h
                obtain ⟨h1, h2⟩ := wrap_holds hφ
                refine wp_region_free hm hst hG hΓ hfree.1.1 hfree.1.2 hfree.2 hf (by simpa using hun) h1 hR.1 hR.2 ?_
                intro σ' β' a' w' h3 h4 h5
                exact hK _ ψ _ σ' β' a' w' hψ h2 h3 h4 h5
              · cases h
            · exact end_ok hm hst hG hΓ h hφ hR hK
          · exact end_ok hm hst hG hΓ h hφ hR hK
  | seq x y ihx ihy =>
    intro st K φ h ρ σ β a w Q hφ hR hK
    simp only [exec] at h
    refine wp_seq (ihx st _ φ h ρ σ β a w _ hφ hR ?_)
    intro ex st' φ' ρ' σ' β' a' w' h1 h2 h3 h4 h5
    cases ex with
    | normal =>
      exact ihy st' K φ' h1 ρ' σ' β' a' w' Q h2 h5 (fun ex2 st2 φ2 ρ2 σ2 β2 a2 w2 g1 g2 g3 g4 g5 => hK ex2 st2 φ2 ρ2 σ2 β2 a2 w2 g1 g2 (agree_trans h3 g3 h4) (Nat.le_trans h4 g4) g5)
    | exit id => exact hK (.exit id) st' φ' ρ' σ' β' a' w' h1 h2 h3 h4 h5
    | ret => exact hK .ret st' φ' ρ' σ' β' a' w' h1 h2 h3 h4 h5
  | cond c x y ihx ihy =>
    intro st K φ h ρ σ β a w Q hφ hR hK
    simp only [exec] at h
    split at h
    · rename_i hc
      have hv := cell_ok hR.1 (holds_nil ρ) hc
      exact wp_cond_true hv (ihx st K φ h ρ σ β a w Q hφ hR hK)
    · rename_i hc
      have hv := cell_ok hR.1 (holds_nil ρ) hc
      exact wp_cond_false hv (ihy st K φ h ρ σ β a w Q hφ hR hK)
    · rename_i e _ _ hc
      have hv := cell_ok hR.1 (holds_nil ρ) hc
      simp only [CV.val] at hv
      split at h
      · rename_i hp
        simp only [List.any_eq_true] at hp
        obtain ⟨q, hq, h1⟩ := hp
        have h2 := hR.1.pc q hq
        rw [← pairEq_eq h1, strip_bool] at h2
        rw [h2] at hv
        exact wp_cond_true hv (ihx st K φ h ρ σ β a w Q hφ hR hK)
      · split at h
        · rename_i hp
          simp only [List.any_eq_true] at hp
          obtain ⟨q, hq, h1⟩ := hp
          have h2 := hR.1.pc q hq
          rw [← pairEq_eq h1, strip_bool] at h2
          rw [h2] at hv
          exact wp_cond_false hv (ihy st K φ h ρ σ β a w Q hφ hR hK)
        · split at h
          · rename_i φ1 φ2 h1 h2
            cases h
            obtain ⟨h3, h4⟩ := hφ
            refine wp_cond_split hv (fun hb => ?_) (fun hb => ?_)
            · have h5 := (strip_bool ρ e true).2 hb
              exact ihx _ K φ1 h1 ρ σ β a w Q (h3 h5) ⟨⟨hR.1.size, hR.1.slot, hR.1.defers, fun p hp => by
                rcases List.mem_cons.1 hp with rfl | hp
                · exact h5
                · exact hR.1.pc p hp⟩, hR.2⟩ hK
            · have h5 := (strip_bool ρ e false).2 hb
              exact ihy _ K φ2 h2 ρ σ β a w Q (h4 h5) ⟨⟨hR.1.size, hR.1.slot, hR.1.defers, fun p hp => by
                rcases List.mem_cons.1 hp with rfl | hp
                · exact h5
                · exact hR.1.pc p hp⟩, hR.2⟩ hK
          · cases h
    · cases h
  | block id x ih =>
    intro st K φ h ρ σ β a w Q hφ hR hK
    simp only [exec] at h
    refine wp_block (ih st _ φ h ρ σ β a w _ hφ hR ?_)
    intro ex st' φ' ρ' σ' β' a' w' h1 h2 h3 h4 h5
    cases ex with
    | normal => exact hK .normal st' φ' ρ' σ' β' a' w' h1 h2 h3 h4 h5
    | exit id' =>
      simp only [SExit.toExit, Exit.inBlock]
      simp only at h1
      split at h1
      · rename_i hid
        rw [if_pos (Nat.eq_of_beq_eq_true hid)]
        exact hK .normal st' φ' ρ' σ' β' a' w' h1 h2 h3 h4 h5
      · rename_i hid
        rw [if_neg (fun e => hid (by rw [e]; exact Nat.beq_refl _))]
        exact hK (.exit id') st' φ' ρ' σ' β' a' w' h1 h2 h3 h4 h5
    | ret => exact hK .ret st' φ' ρ' σ' β' a' w' h1 h2 h3 h4 h5
  | loop body ih =>
    intro st K φ h ρ σ β a w Q hφ hR hK
    simp only [exec] at h
    split at h
    · cases h
    · rename_i key hkey
      split at h
      · cases h
      · rename_i ann hann
        split at h
        · cases h
        · rename_i tm ks gs htm
          split at h
          · cases h
          · rename_i ow ks' how
            split at h
            · rename_i init hinit
              split at h
              · rename_i hc
                simp only [Bool.and_eq_true] at hc
                split at h
                · rename_i ψ hψ
                  cases h
                  obtain ⟨hi, hb⟩ := hφ
                  have hTl : W.S.length ≤ ow.length := by rw [mkOwn_length how]; exact hR.2.slen
                  have hctx : ∀ ρ', agree st.n ρ ρ' → ann.ctx.map ρ' = ann.ctx.map ρ := fun ρ' ha => List.map_congr_left fun m hm => ha m (blt_lt (List.all_eq_true.1 hc.2 m hm))
                  obtain ⟨hf0, σ0, hR0⟩ := inst_ok hinit hTl hR (agree_refl st.n ρ) hR.1.pc hc.1
                  refine wp_loop_rel (fun m a w => ∃ xs σ' β', fits (ks ++ ks') xs ∧ Γ.inv key (ann.ctx.map ρ ++ xs) ∧ Γ.meas key (ann.ctx.map ρ ++ xs) = m ∧
                      Rel W (push ρ st.n xs) σ' β' { nt := st.nt, tmps := tm, own := ow, n := st.n + (ks ++ ks').length, lists := gs ++ keepL gs st.lists, pc := st.pc } a w)
                    ⟨_, σ0, β, hf0, hi, rfl, hR0⟩ ?_
                  rintro m a1 w1 ⟨xs, σ1, β1, hf, hin, hme, hR1⟩
                  refine ih _ _ ψ hψ (push ρ st.n xs) σ1 β1 a1 w1 _ (hb xs hf hin) hR1 ?_
                  intro ex st' φ' ρ' σ' β' a' w' h1 h2 h3 h4 h5
                  have hag : agree st.n ρ ρ' := agree_trans (agree_push ρ st.n xs) h3 (Nat.le_add_right ..)
                  cases ex with
                  | normal =>
                    simp only at h1
                    split at h1
                    · rename_i vals hvals
                      cases h1
                      obtain ⟨g1, g2⟩ := h2
                      rw [hctx ρ' hag] at g1 g2
                      obtain ⟨hf2, σ2, hR2⟩ := inst_ok hvals hTl h5 hag (ρ0 := ρ) hR.1.pc hc.1
                      have hxs : (List.range' st.n (st.n + (ks ++ ks').length - st.n)).map ρ' = xs := by
                        rw [Nat.add_sub_cancel_left]
                        apply List.ext_getElem
                        · simp [fits_length hf]
                        · intro i h6 h7
                          simp only [List.getElem_map, List.getElem_range', Nat.one_mul]
                          have h8 := fits_length hf
                          rw [h3 (st.n + i) (show st.n + i < st.n + (ks ++ ks').length by omega)]
                          unfold push
                          rw [if_neg (by omega), Nat.add_sub_cancel_left, List.getD_eq_getElem?_getD, List.getElem?_eq_getElem h7]
                          rfl
                      rw [hxs, hme] at g2
                      exact ⟨_, g2, _, σ2, β', hf2, g1, rfl, hR2⟩
                    · cases h1
                  | exit id => exact hK (.exit id) st' φ' ρ' σ' β' a' w' h1 h2 hag (Nat.le_trans (Nat.le_add_right ..) h4) h5
                  | ret => exact hK .ret st' φ' ρ' σ' β' a' w' h1 h2 hag (Nat.le_trans (Nat.le_add_right ..) h4) h5
                · cases h
              · cases h
            · cases h
  | rangeFunc _ _ _ _ => intro st K φ h; simp [exec] at h
  | scope _ _ => intro st K φ h; simp [exec] at h
  | label _ => intro st K φ h; simp [exec] at h
  | goto _ => intro st K φ h; simp [exec] at h
  | refuse _ => intro st K φ h; simp [exec] at h

end
end Go.Vg

/- A function does what its contract says, if its conditions hold. -/
namespace Go.Vg
open Go.RowKit
set_option linter.unusedVariables false
set_option linter.unusedSimpArgs false

section
variable {P : Program} {G : World → Prop} {sig : List (Nat × List Sh × List Sh)} {anns : List Ann}

theorem run_mapM_list {α γ : Type} {f : α → Sem γ} {w : World} : ∀ {l : List α} {r : List γ}, l.length = r.length → (∀ (i : Nat) x y, l[i]? = some x → r[i]? = some y → (f x).run P w = .ok y w) →
    (l.mapM f).run P w = .ok r w
  | [], [], _, _ => by simp
  | x :: l, y :: r, h, hf => by
    have h0 := hf 0 x y rfl rfl
    have ih := run_mapM_list (l := l) (r := r) (by simpa using h) (fun i a b ha hb => hf (i + 1) a b (by simpa using ha) (by simpa using hb))
    simp [List.mapM_cons, h0, ih]
  | [], _ :: _, h, _ => by simp at h
  | _ :: _, [], h, _ => by simp at h

def resOne (tmps : Array Value) : ResultVar → Sem Value
  | .tmp t => pure (tmps.getD t undef)
  | .cell a t => do loadVar t (← asAddr (tmps.getD a undef))
theorem results_eq (fn : Func) (tmps : Array Value) : results fn tmps = (do let vs ← fn.results.mapM (resOne tmps); pure (if h : vs.size = 1 then vs[0] else .tuple vs)) := by
  unfold results
  congr 1

def packV (vs : List Value) : Value := match vs with | [v] => v | vs => .tuple vs.toArray
theorem run_results {fn : Func} {tmps : Array Value} {w : World} {vs : List Value} (hl : fn.results.toList.length = vs.length)
    (h : ∀ (i : Nat) x y, fn.results.toList[i]? = some x → vs[i]? = some y →
      (resOne tmps x).run P w = .ok y w) :
    (results fn tmps).run P w = .ok (packV vs) w := by
  have h1 := run_mapM_list (P := P) (w := w) hl h
  rw [results_eq, Array.mapM_eq_mapM_toList]
  simp only [Sem.run_bind, Sem.run_map, h1, Result.andThen_ok]
  match vs with
  | [] => simp [packV]
  | [v] => simp [packV]
  | v :: v2 :: vs => simp [packV]

theorem ret_one {W : Base} {ρ : Env} {σ : Nat → Value} {β : Nat → Nat} {st : St} {a : Act} {w : World} (hR : Rel W ρ σ β st a w) {s : Sh} {rv : ResultVar} {l : List Ax} (h : retOne P st s rv = some l)
    {E : Env} {S : Nat → Value} {n : Nat} (hE : ∀ (j : Nat) ax, l[j]? = some ax → E (n + j) = ax.ev ρ ∧ S (n + j) = ax.slv ρ σ β) :
    l.length = s.cells.length ∧ (resOne a.tmps rv).run P w = .ok ((resT n s).val E S β0) w ∧ ∀ p, p ∈ resLists n s.cells → reads w 0 β0 p.2 (E p.1).lv (S p.1) := by
  obtain ⟨hT, hw⟩ := hR
  unfold retOne at h
  split at h
  · rename_i t
    split at h
    · rename_i sv hsv
      obtain ⟨h1, h2, h3, hrd, _⟩ := argS_ok (E0 := fun _ => True) hT.pc (ArgW.of hw) h (fun _ _ _ _ _ => trivial) hE
      have h4 := opnd_ok hT (holds_nil ρ) hsv
      rcases h4 with h4 | h4
      · exact absurd h4 h2
      · refine ⟨h1, ?_, hrd⟩
        rw [h3, ← h4]
        rfl
    · cases h
  · rename_i b t
    split at h
    · rename_i blk off ag z hc hag hz
      split at h
      · rename_i u cs hb
        split at h
        · cases h
        rename_i htg
        split at h
        · rename_i r hr
          split at h
          · rename_i x hx
            obtain ⟨h1, h2, h3, hrd, _⟩ := argS_ok (E0 := fun _ => True) hT.pc (ArgW.of hw) h (fun _ _ _ _ _ => trivial) hE
            have h4 := cell_ok hT (holds_nil ρ) hc
            simp only [CV.val, Act.eval] at h4
            have h5 := run_loadVar (P := P) (w := w) (ρ := ρ) (σ := σ) (β := β) hag hz (blk := β blk) (off := off) (cut_len hr) hx (fun j c hj => by
              rw [own_cell hw hb (by simpa using htg), cut_get hr hj]; rfl)
            refine ⟨h1, ?_, hrd⟩
            rw [h3]
            simp only [resOne, h4, asAddr, Sem.run_bind, Sem.run_pure, Result.andThen_ok, h5, SV.val]
          · cases h
        · cases h
      · cases h
    · cases h

theorem ret_all {W : Base} {ρ : Env} {σ : Nat → Value} {β : Nat → Nat} {st : St} {a : Act} {w : World} (hR : Rel W ρ σ β st a w) {E : Env} {S : Nat → Value} : ∀ {ss : List Sh} {rs : List ResultVar} {l : List (List Ax)} {n : Nat},
    zipO (retOne P st) ss rs = some l → (∀ (j : Nat) ax, l.flatten[j]? = some ax → E (n + j) = ax.ev ρ ∧ S (n + j) = ax.slv ρ σ β) →
    (rs.length = ((resTs n ss).map (TV.val E S β0)).length ∧ ∀ (i : Nat) x y, rs[i]? = some x → ((resTs n ss).map (TV.val E S β0))[i]? = some y →
      (resOne a.tmps x).run P w = .ok y w) ∧ ∀ p, p ∈ resLists n (shCells ss) → reads w 0 β0 p.2 (E p.1).lv (S p.1)
  | [], [], l, n, h, _ => ⟨⟨rfl, fun i x y hx => by simp at hx⟩, fun p hp => by simp [shCells, resLists] at hp⟩
  | s :: ss, r :: rs, l, n, h, hE => by
    simp only [zipO] at h
    split at h
    · cases h
    · rename_i l1 h1
      split at h
      · cases h
      · rename_i l2 h2
        cases h
        have hE1 : ∀ (j : Nat) ax, l1[j]? = some ax → E (n + j) = ax.ev ρ ∧ S (n + j) = ax.slv ρ σ β := fun j ax hj => hE j ax (by
          rw [List.flatten_cons, List.getElem?_append_left (lt_of_get hj)]; exact hj)
        obtain ⟨h3, h4, hrd⟩ := ret_one hR h1 hE1
        obtain ⟨⟨h5, h6⟩, hrds⟩ := ret_all hR (n := n + s.cells.length) h2 (fun j ax hj => by
          have := hE (l1.length + j) ax (by rw [List.flatten_cons, List.getElem?_append_right (by omega)]; simpa using hj)
          rwa [h3, ← Nat.add_assoc] at this)
        refine ⟨⟨by simp [resTs] at h5 ⊢; exact h5, fun i x y hx hy => ?_⟩, fun p hp => ?_⟩
        rotate_left
        · have h7 : shCells (s :: ss) = s.cells ++ shCells ss := by simp [shCells]
          rw [h7, resLists_append] at hp
          rcases List.mem_append.1 hp with hp | hp
          · exact hrd p hp
          · exact hrds p hp
        cases i with
        | zero =>
          simp [resTs] at hx hy
          subst hx; subst hy
          exact h4
        | succ i =>
          simp [resTs] at hx hy
          exact h6 i x y (by simpa using hx) (by simpa using hy)
  | [], _ :: _, _, _, h, _ => by simp [zipO] at h
  | _ :: _, [], _, _, h, _ => by simp [zipO] at h

theorem resS_val (ss : List Sh) (E : Env) (S : Nat → Value) : (resS 0 ss).val E S β0 = packV ((resTs 0 ss).map (TV.val E S β0)) := by
  unfold resS packV
  split
  · rename_i x hx; rw [hx]; rfl
  · rename_i xs hne
    split
    · rename_i v hv
      cases hxs : resTs 0 ss with
      | nil => rw [hxs] at hv; simp at hv
      | cons y ys =>
        cases ys with
        | nil => exact absurd hxs (hne y)
        | cons _ _ => rw [hxs] at hv; simp at hv
    · rfl

theorem start_get : ∀ (xs : List TV) (k t : Nat) (g : Gd) (sv : SV), getT (number k xs) t = some (g, sv) → g = [] ∧ ∃ x, xs[t - k]? = some x ∧ k ≤ t ∧ sv = .tv x
  | [], k, t, g, sv, h => by simp [number, getT] at h
  | x :: xs, k, t, g, sv, h => by
    simp only [number, getT] at h
    split at h
    · rename_i hk
      have hk := Nat.eq_of_beq_eq_true hk
      subst hk
      cases h
      exact ⟨rfl, x, by simp, Nat.le_refl _, rfl⟩
    · obtain ⟨h1, y, h2, h3, h4⟩ := start_get xs (k + 1) t g sv h
      refine ⟨h1, y, ?_, by omega, h4⟩
      rw [show t - k = (t - (k + 1)) + 1 by omega]
      simpa using h2

theorem resTs_length : ∀ (ss : List Sh) (n : Nat), (resTs n ss).length = ss.length
  | [], _ => rfl
  | s :: ss, n => by simp [resTs, resTs_length ss (n + s.cells.length)]

/-- A slice that comes back lies in new blocks. -/
theorem ret_new {W : Base} {w : World} {ρ : Env} {σ : Nat → Value} {β : Nat → Nat} {st : St} (hw : WOk W ρ σ β st.own st.lists w) {l : List Ax} (hl : l.all (retNew st) = true) {n : Nat} {ek : List EK} {x : LV}
    (h : reads w 0 β0 ek x ((l.map (Ax.slv ρ σ β)).getD n undef)) : readsNew W.heap.size w ek x ((l.map (Ax.slv ρ σ β)).getD n undef) := by
  obtain ⟨base, cap, h1, h2⟩ := h
  refine ⟨base, cap, h1, ?_⟩
  rcases h2 with h2 | ⟨ad, h3, h4, h6, h5⟩
  · exact .inl h2
  · refine .inr ⟨ad, h3, h4, ⟨?_, h6.1⟩, h5⟩
    rw [List.getD_eq_getElem?_getD, List.getElem?_map] at h1
    cases hax : l[n]? with
    | none => rw [hax] at h1; simp [undef] at h1
    | some ax =>
      rw [hax] at h1
      simp only [Option.map_some, Option.getD_some] at h1
      have h7 := List.all_eq_true.1 hl ax (List.mem_of_getElem? hax)
      cases ax with
      | i e => simp [Ax.slv, undef] at h1
      | b e => simp [Ax.slv, undef] at h1
      | l q =>
        simp only [retNew] at h7
        split at h7
        · rename_i ek' hq
          obtain ⟨T, he⟩ := isGro_eq h7
          have hm := listOf_mem hq
          have h8 := reads_asSl (hw.lists _ hm)
          have h9 := (hw.gro q T ek' hm he).1
          simp only [Ax.slv] at h1
          simp only at h8
          rw [h8] at h1
          exact (h9.lt ad.block (by rw [h1, h3]; rfl)).1
        · cases h7
      | c w' y cs =>
        cases y with
        | nilsl => simp [Ax.slv, CV.val, h3] at h1
        | _ => simp [retNew] at h7
      | _ => simp [retNew] at h7

/-- **The conditions suffice.** -/
theorem vcg_ok (hm : P.follows .mixedOrders = true) (hst : Stable G) {f : Nat} {fn : Func} (hf : P.funcs[f]? = some fn) (hc : (fn.name == "runtime.NumGoroutine") = false) {C : Ctr} {φ : Fm}
    (h : vcg P sig anns fn C.params C.res = some φ)
    (hφ : ∀ ls, C.pre ls → ∃ Γ : Cx, SigOk P G sig Γ ∧ (∀ rs, Γ.post rs → rs = C.fn ls) ∧ φ.holds Γ (envOf ls)) : C.Sound P G f := by
  unfold vcg at h
  split at h
  · cases h
  · rename_i c hbody
    split at h
    · cases h
    · rename_i hng0
      simp only [Bool.or_eq_true, not_or, Bool.not_eq_true, Bool.not_eq_true'] at hng0
      obtain ⟨⟨hiso, hnoo⟩, hng⟩ := hng0
      refine Ctr.PSound.sound ⟨⟨fn, hf, hc, by rw [hbody]; rfl⟩, fun ls S w hG hpre hpar => ?_⟩ hiso
      have hreads := hpar.1
      obtain ⟨Γ, hΓ, hpost, hh⟩ := hφ ls hpre
      refine calls_of_wp hf hbody (exec_ok (W := ⟨w, [], []⟩) hm hst (fun w' h' => hst w w' hG h'.below) hΓ c _ _ φ h (envOf ls) S β0 _ w _ hh ⟨?_, ?_⟩ ?_)
      · refine ⟨by simp [startSt, resTs_length], fun t g sv ht => ?_, rfl, fun p hp => by simp [startSt] at hp⟩
        obtain ⟨h1, x, h2, _, h3⟩ := start_get _ 0 t g sv ht
        rw [Nat.sub_zero] at h2
        refine .inr (.inl ⟨by rw [h1]; exact holds_nil _, ?_⟩)
        subst h3
        have hlt : t < (((resTs 0 C.params).map (TV.val (envOf ls) S β0)).toArray).size := by simp; exact lt_of_get h2
        rw [Array.getD_eq_getD_getElem?, Array.getElem?_append_left hlt]
        simp [h2, SV.val]
      · exact ⟨BelowX.refl _ _, fun k t cs hk => by simp [startSt] at hk, fun k t cs hk => by simp [startSt] at hk, fun j k hj => by simp [startSt] at hj, fun k t cs hk => by simp [startSt] at hk, fun p hp => hreads p hp, fun l T K hm he => by
          have h1 : (resLists 0 (shCells C.params)).any (fun p => isGro p.2) = false := hng
          have h2 := List.any_eq_false.1 h1 _ hm
          exact absurd (isGro_of he) h2, fun i b hi => by simp at hi, Nat.zero_le _, fun p q hp hq hg hne => by
          have h1 : (resLists 0 (shCells C.params)).any (fun p => isGro p.2) = false := hng
          have h2 := List.any_eq_false.1 h1 _ hp
          exact absurd hg h2⟩
      · intro ex st' φ' ρ' σ' β' a' w' h1 h2 h3 h4 h5
        have key : ∀ l, retAll P st' C.res fn.results.toList = some l → l.all (retNew st') = true → Γ.post (l.map (Ax.ev ρ')) →
            a'.defers = [] ∧ ∃ v, (results fn a'.tmps).run P w' = .ok v w' ∧ (Below w.heap.size w w' ∧ ∃ v', Ending.returned v = .returned v' ∧ ResOk w.heap.size w' C.res (C.fn ls) v') := by
          intro l hl hnew hp
          unfold retAll at hl
          split at hl
          · rename_i ll hll
            cases hl
            have h6 := hpost _ hp
            have hE : ∀ (j : Nat) ax, ll.flatten[j]? = some ax → envOf (ll.flatten.map (Ax.ev ρ')) (0 + j) = ax.ev ρ' ∧ (ll.flatten.map (Ax.slv ρ' σ' β')).getD (0 + j) undef = ax.slv ρ' σ' β' := fun j ax hj => by
              rw [Nat.zero_add]
              exact ⟨by unfold envOf; rw [List.getD_eq_getElem?_getD, List.getElem?_map, hj]; rfl, by rw [List.getD_eq_getElem?_getD, List.getElem?_map, hj]; rfl⟩
            obtain ⟨⟨h7, h8⟩, hrd⟩ := ret_all (P := P) h5 (E := envOf (ll.flatten.map (Ax.ev ρ'))) (S := fun n => (ll.flatten.map (Ax.slv ρ' σ' β')).getD n undef) (n := 0) hll hE
            have h9 := run_results (P := P) (fn := fn) (tmps := a'.tmps) h7 h8
            refine ⟨h5.1.defers, _, h9, h5.2.below.below, _, rfl, ?_⟩
            rw [← resS_val, ← h6]
            exact ⟨_, rfl, fun p hp => ret_new h5.2 hnew (hrd p hp)⟩
          · cases hl
        cases ex with
        | exit id => simp at h1
        | normal =>
          simp only at h1
          split at h1
          · rename_i l hl
            split at h1
            · rename_i hnew
              cases h1
              obtain ⟨h6, v, h7, h8⟩ := key l hl hnew h2
              exact ⟨h6, v, h7, h8⟩
            · cases h1
          · cases h1
        | ret =>
          simp only at h1
          split at h1
          · rename_i l hl
            split at h1
            · rename_i hnew
              cases h1
              obtain ⟨h6, v, h7, h8⟩ := key l hl hnew h2
              exact ⟨h6, v, h7, h8⟩
            · cases h1
          · cases h1

end
end Go.Vg

/- Tables of contracts, and how conditions are read. -/
namespace Go.Vg

def sigT (tbl : List (Nat × Ctr)) : List (Nat × List Sh × List Sh) := tbl.map fun x => (x.1, x.2.params, x.2.res)
def ctrT (tbl : List (Nat × Ctr)) (f : Nat) : Ctr := match tbl.find? (fun x => Nat.beq x.1 f) with
  | some x => x.2
  | none => ⟨[], [], fun _ => False, fun _ => []⟩
def AllSound (P : Program) (G : World → Prop) : List (Nat × Ctr) → Prop
  | [] => True
  | x :: l => x.2.Sound P G x.1 ∧ AllSound P G l

theorem AllSound.mem {P : Program} {G : World → Prop} : ∀ {l : List (Nat × Ctr)}, AllSound P G l → ∀ x, x ∈ l → x.2.Sound P G x.1
  | [], _, x, hx => by simp at hx
  | y :: l, h, x, hx => by
    rcases List.mem_cons.1 hx with rfl | hx
    · exact h.1
    · exact h.2.mem x hx

theorem sigT_find (tbl : List (Nat × Ctr)) (f : Nat) : (sigT tbl).find? (fun x => Nat.beq x.1 f) = (tbl.find? (fun x => Nat.beq x.1 f)).map fun x => (x.1, x.2.params, x.2.res) := by
  unfold sigT
  rw [List.find?_map]
  rfl

theorem sigT_ok {P : Program} {G : World → Prop} {tbl : List (Nat × Ctr)} (h : AllSound P G tbl) {inv : Nat → List Leaf → Prop} {meas : Nat → List Leaf → Nat} {post : List Leaf → Prop} :
    SigOk P G (sigT tbl) ⟨ctrT tbl, inv, meas, post⟩ := by
  intro f ps rs hs
  unfold sigOf at hs
  rw [sigT_find] at hs
  simp only [ctrT]
  cases hx : tbl.find? (fun x => Nat.beq x.1 f) with
  | none => rw [hx] at hs; cases hs
  | some x =>
    rw [hx] at hs
    cases hs
    have h1 := h.mem x (List.mem_of_find?_eq_some hx)
    have h2 := List.find?_some hx
    have h3 := Nat.eq_of_beq_eq_true h2
    rw [h3] at h1
    exact ⟨rfl, rfl, h1⟩

/-- A function without loops. -/
theorem fn_ok {P : Program} {G : World → Prop} (hm : P.follows .mixedOrders = true) (hst : Stable G) (tbl : List (Nat × Ctr)) (anns : List Ann) {f : Nat} {fn : Func} (hf : P.funcs[f]? = some fn) (hc : (fn.name == "runtime.NumGoroutine") = false) {C : Ctr} (φ : Fm)
    (h : vcg P (sigT tbl) anns fn C.params C.res = some φ) (hs : AllSound P G tbl) (inv : List Leaf → Nat → List Leaf → Prop) (meas : List Leaf → Nat → List Leaf → Nat)
    (hφ : ∀ ls, C.pre ls → φ.holds ⟨ctrT tbl, inv ls, meas ls, fun rs => rs = C.fn ls⟩ (envOf ls)) : C.Sound P G f :=
  vcg_ok hm hst hf hc h fun ls hp => ⟨_, sigT_ok hs, fun _ h => h, hφ ls hp⟩

theorem gd_nil (ρ : Env) : Gd.holds ρ [] ↔ True := ⟨fun _ => trivial, fun _ => holds_nil ρ⟩
theorem gd_cons (ρ : Env) (e : Ex) (b : Bool) (g : Gd) : Gd.holds ρ ((e, b) :: g) ↔ e.bool ρ = b ∧ Gd.holds ρ g :=
  ⟨fun h => ⟨h (e, b) (List.mem_cons_self ..), fun p hp => h p (List.mem_cons_of_mem _ hp)⟩, fun h => holds_cons h.1 h.2⟩
theorem gd_one (ρ : Env) (e : Ex) (b : Bool) : Gd.holds ρ [(e, b)] ↔ e.bool ρ = b := by rw [gd_cons, gd_nil, and_true]

/-- Reading a variable, one by one. -/
def lk : List Leaf → Nat → Leaf
  | [], _ => .i 0
  | x :: _, 0 => x
  | _ :: xs, n + 1 => lk xs n
theorem envOf_lk (ls : List Leaf) : envOf ls = lk ls := by
  funext n
  induction ls generalizing n with
  | nil => rfl
  | cons x xs ih => cases n with
    | zero => rfl
    | succ n => exact ih n
theorem push_lk (ls rs : List Leaf) : push (lk ls) ls.length rs = lk (ls ++ rs) := by
  rw [← envOf_lk, ← envOf_lk]
  funext m
  unfold push envOf
  split
  · rename_i h; rw [List.getD_eq_getElem?_getD, List.getD_eq_getElem?_getD, List.getElem?_append_left h]
  · rename_i h; rw [List.getD_eq_getElem?_getD, List.getD_eq_getElem?_getD, List.getElem?_append_right (by omega)]

/-! ### Steps of a proof over the conditions -/

theorem vg_call {Γ : Cx} {ls : List Leaf} {f : Nat} {g : Gd} {args : List Ax} {n : Nat} {k : Fm} {C : Ctr} (hC : Γ.ctr f = C) (hn : ls.length = n) {xs : List Leaf}
    (ha : args.map (Ax.ev (lk ls)) = xs) (hpre : Gd.holds (lk ls) g → C.pre xs) (hk : ∀ rs, rs = C.fn xs → k.holds Γ (lk (ls ++ rs))) : Fm.holds Γ (.call f g args n k) (lk ls) := by
  subst hC; subst ha; subst hn
  refine ⟨hpre, ?_⟩
  rw [push_lk]
  exact hk _ rfl

theorem vg_loop {Γ : Cx} {ls : List Leaf} {key n : Nat} {ctx : List Nat} {init : List Ax} {kinds : List LK} {body : Fm} (hn : ls.length = n)
    (h0 : Γ.inv key (ctx.map (lk ls) ++ init.map (Ax.ev (lk ls)))) (hb : ∀ xs, fits kinds xs → Γ.inv key (ctx.map (lk ls) ++ xs) → body.holds Γ (lk (ls ++ xs))) :
    Fm.holds Γ (.loop key n ctx init kinds body) (lk ls) := by
  subst hn
  refine ⟨h0, fun xs hf hi => ?_⟩
  rw [push_lk]
  exact hb xs hf hi

theorem vg_app {Γ : Cx} {ls : List Leaf} {l : Ax} {e : List Ex} {n : Nat} {k : Fm} (hn : ls.length = n) {x : LV} {y : List Int} (hx : (l.ev (lk ls)).lv = x) (hy : e.map (Ex.int (lk ls)) = y)
    (hpre : (x.len : Int) < 1000000000) (hk : ∀ r, r = snoc x y → k.holds Γ (lk (ls ++ [.l r]))) : Fm.holds Γ (.app l e n k) (lk ls) := by
  subst hx; subst hy; subst hn
  refine ⟨hpre, ?_⟩
  rw [push_lk]
  exact hk _ rfl

theorem vg_lett {Γ : Cx} {ls : List Leaf} {a : Ax} {n : Nat} {k : Fm} (hn : ls.length = n) {x : LV} (hx : a.ev (lk ls) = .l x) (hk : ∀ r, r = x → k.holds Γ (lk (ls ++ [.l r]))) : Fm.holds Γ (.lett a n k) (lk ls) := by
  subst hn
  show k.holds Γ (push (lk ls) ls.length [a.ev (lk ls)])
  rw [push_lk, hx]
  exact hk _ rfl

theorem fits_i {ks : List LK} {xs : List Leaf} (h : fits (.i :: ks) xs) : ∃ (x : Int) (ys : List Leaf), xs = .i x :: ys ∧ fits ks ys := by
  match xs, h with
  | .i x :: ys, h => exact ⟨x, ys, rfl, h⟩
  | [], h => exact h.elim
  | .b _ :: _, h => exact h.elim
  | .l _ :: _, h => exact h.elim
theorem fits_l {ks : List LK} {xs : List Leaf} (h : fits (.l :: ks) xs) : ∃ (x : LV) (ys : List Leaf), xs = .l x :: ys ∧ fits ks ys := by
  match xs, h with
  | .l x :: ys, h => exact ⟨x, ys, rfl, h⟩
  | [], h => exact h.elim
  | .b _ :: _, h => exact h.elim
  | .i _ :: _, h => exact h.elim
theorem fits_b {ks : List LK} {xs : List Leaf} (h : fits (.b :: ks) xs) : ∃ (x : Bool) (ys : List Leaf), xs = .b x :: ys ∧ fits ks ys := by
  match xs, h with
  | .b x :: ys, h => exact ⟨x, ys, rfl, h⟩
  | [], h => exact h.elim
  | .i _ :: _, h => exact h.elim
  | .l _ :: _, h => exact h.elim
theorem fits_nil {xs : List Leaf} (h : fits [] xs) : xs = [] := by
  match xs, h with
  | [], _ => rfl
  | _ :: _, h => exact h.elim

theorem c_i {a b : Int} {xs ys : List Leaf} (h : a = b) (t : xs = ys) : Leaf.i a :: xs = Leaf.i b :: ys := by rw [h, t]
theorem c_v {a b : Value} {xs ys : List Leaf} (h : a = b) (t : xs = ys) : Leaf.v a :: xs = Leaf.v b :: ys := by rw [h, t]
theorem c_l {a b : LV} {xs ys : List Leaf} (h : a = b) (t : xs = ys) : Leaf.l a :: xs = Leaf.l b :: ys := by rw [h, t]
theorem c_b {a b : Bool} {xs ys : List Leaf} (h : a = b) (t : xs = ys) : Leaf.b a :: xs = Leaf.b b :: ys := by rw [h, t]

/-- The numbers of a list, as a slice. -/
def lvOf (l : List Int) : LV := ⟨l.length, fun i c => if c = 0 then l.getD i 0 else 0, fun _ _ => false⟩
theorem lvOf_nil : nilLV = lvOf [] := by
  unfold nilLV lvOf
  congr 1
  funext i c
  simp
theorem snoc_of (l : List Int) (n : Int) : snoc (lvOf l) [n] = lvOf (l ++ [n]) := by
  unfold snoc lvOf
  simp only [List.length_append, List.length_cons, List.length_nil]
  congr 1
  funext i c
  by_cases hi : i = l.length
  · subst hi
    cases c with
    | zero => simp [List.getD]
    | succ c => simp [List.getD]
  · simp only [hi, if_false]
    by_cases hc : c = 0
    · simp only [hc, if_true]
      rcases Nat.lt_or_ge i l.length with h | h
      · rw [List.getD_eq_getElem?_getD, List.getD_eq_getElem?_getD, List.getElem?_append_left h]
      · rw [List.getD_eq_getElem?_getD, List.getD_eq_getElem?_getD, List.getElem?_eq_none h, List.getElem?_eq_none (by simp; omega)]
    · simp [hc]
theorem lvOf_len (l : List Int) : (lvOf l).len = l.length := rfl
theorem lvOf_gi (l : List Int) (i : Nat) : (lvOf l).gi i 0 = l.getD i 0 := by simp [lvOf]

theorem wrap_in {n : Int} (h : -9223372036854775808 ≤ n) (h2 : n < 9223372036854775808) : IntKind.wrap .i64 n = n := by
  unfold IntKind.wrap
  have e : IntKind.bits .i64 = 64 := rfl
  have e2 : IntKind.signed .i64 = true := rfl
  simp only [e, e2, Bool.true_and, decide_eq_true_eq]
  split <;> omega

end Go.Vg

/- Functions with a receiver, or that make an object: the conditions suffice. -/
namespace Go.Vg
open Go.RowKit
set_option linter.unusedVariables false
set_option linter.unusedSimpArgs false

section
variable {P : Program} {G : World → Prop} {sig : List (Nat × List Sh × List Sh)} {anns : List Ann}

theorem selfTag_isTag (c : Nat) (m : Bool) : isTag (selfTag c m) = true := by
  unfold selfTag
  split
  · exact isTag_tag c
  · exact isTag_tag _
theorem selfTag_cls {c : Nat} (h : c < roB) (m : Bool) : clsOf (selfTag c m) = c := by
  unfold selfTag
  split
  · exact clsOf_tag h
  · unfold clsOf isRO
    rw [Nat.ble_eq_true_of_le (by omega)]
    simp only [if_true]
    omega
theorem selfTag_ro {c : Nat} (h : c < roB) (m : Bool) : isRO (selfTag c m) = !m := by
  unfold selfTag
  cases m with
  | true => exact isRO_tag h
  | false =>
    show isRO (tagB + (roB + c)) = true
    unfold isRO
    exact Nat.ble_eq_true_of_le (by omega)

theorem start_slots {ps : List Sh} {ls : List Leaf} {S : Nat → Value} {β : Nat → Nat} {t : Nat} {g : Gd} {sv : SV} (ht : getT (number 0 (resTs 0 ps)) t = some (g, sv)) (rest : Array Value)
    (hβ : ∀ x, x ∈ resTs 0 ps → x.val (envOf ls) S β = x.val (envOf ls) S β0) :
    Gd.holds (envOf ls) g ∧ (((resTs 0 ps).map (TV.val (envOf ls) S β0)).toArray ++ rest).getD t undef = sv.val (envOf ls) S β := by
  obtain ⟨h1, x, h2, _, h3⟩ := start_get _ 0 t g sv ht
  rw [Nat.sub_zero] at h2
  refine ⟨by rw [h1]; exact holds_nil _, ?_⟩
  subst h3
  have hlt : t < (((resTs 0 ps).map (TV.val (envOf ls) S β0)).toArray).size := by simp; exact lt_of_get h2
  rw [Array.getD_eq_getD_getElem?, Array.getElem?_append_left hlt]
  simp [h2, SV.val, hβ x (List.mem_of_getElem? h2)]

theorem resC_beta (n : Nat) (c : CK) (E : Env) (S : Nat → Value) (β β' : Nat → Nat) : (resC n c).val E S β = (resC n c).val E S β' := by cases c <;> rfl
theorem resTs_beta : ∀ (ss : List Sh) (n : Nat) (E : Env) (S : Nat → Value) (β β' : Nat → Nat) (x : TV), x ∈ resTs n ss → x.val E S β = x.val E S β'
  | [], _, _, _, _, _, x, h => by simp [resTs] at h
  | s :: ss, n, E, S, β, β', x, h => by
    simp only [resTs, List.mem_cons] at h
    rcases h with rfl | h
    · cases s with
      | one c => exact resC_beta n c E S β β'
      | agg cs =>
        simp only [resT, TV.val]
        congr 2
        exact List.map_congr_left fun y hy => by
          have : ∀ (cs : List CK) (n : Nat) (y : CV), y ∈ resCs n cs → y.val E S β = y.val E S β' := by
            intro cs
            induction cs with
            | nil => intro n y h; simp [resCs] at h
            | cons c cs ih =>
              intro n y h
              simp only [resCs, List.mem_cons] at h
              rcases h with rfl | h
              · exact resC_beta n c E S β β'
              · exact ih _ y h
          exact this cs n y hy
    · exact resTs_beta ss _ E S β β' x h

theorem getD_of_get {F : List Nat} {i b : Nat} (h : F[i]? = some b) : F.getD i 0 = b := by rw [List.getD_eq_getElem?_getD, h]; rfl
/-- A function's start, with a receiver. -/
theorem startO_rel {ps : List Sh} {ls : List Leaf} {S : Nat → Value} {w : World} (hpar : ParOk w (envOf ls) S 0 (shCells ps)) (hng : (resLists 0 (shCells ps)).any (fun p => isGro p.2) = false) (hnl : selfOf ps ≠ none → resLists 0 (shCells ps) = []) (ntmps : Nat)
    {F X : List Nat} (hF : match selfOf ps with | some (c, m) => objAt w c (envOf ls 0).lv (S 0) F ∧ 0 < c ∧ c < roB ∧ (m = true → X = F) | none => F = []) :
    Rel ⟨w, X, F⟩ (envOf ls) S (fun i => F.getD i 0) (startO ps ntmps)
      { tmps := ((resTs 0 ps).map (TV.val (envOf ls) S β0)).toArray ++ Array.replicate (ntmps - (((resTs 0 ps).map (TV.val (envOf ls) S β0)).toArray).size) undef, defers := [] } w := by
  have hgro : ∀ p, p ∈ resLists 0 (shCells ps) → isGro p.2 = false := fun p hp => by simpa using List.any_eq_false.1 hng p hp
  unfold startO
  cases hs : selfOf ps with
  | none =>
    rw [hs] at hF
    simp only at hF
    subst hF
    refine ⟨⟨by simp [startSt, resTs_length], fun t g sv ht => ?_, rfl, fun p hp => by simp [startSt] at hp⟩, ?_⟩
    · obtain ⟨h1, h2⟩ := start_slots ht _ (fun x hx => resTs_beta ps 0 _ _ _ _ x hx)
      exact .inr (.inl ⟨h1, h2⟩)
    · refine ⟨BelowX.refl _ _, fun k t cs hk => by simp [startSt] at hk, fun k t cs hk => by simp [startSt] at hk, fun j k hj => by simp [startSt] at hj, fun k t cs hk => by simp [startSt] at hk, fun p hp => ?_, fun l T K hm he => ?_, fun i b hi => by simp at hi, Nat.zero_le _, fun p q hp hq hg hne => ?_⟩
      · exact reads_less (hpar.1 p hp)
      · have := hgro _ hm
        rw [isGro_of he] at this; cases this
      · rw [hgro p hp] at hg; cases hg
  | some cm =>
    obtain ⟨c, m⟩ := cm
    rw [hs] at hF
    obtain ⟨⟨b, r, hb1, hb2, hb3⟩, hc, hcr, hX⟩ := hF
    obtain ⟨hlen, hnd⟩ := hb3.len
    have hfeet : feetOf (fun i => F.getD i 0) 0 c = F := by
      apply List.ext_getElem?
      intro i
      unfold feetOf
      rw [List.getElem?_map]
      rcases Nat.lt_or_ge i (feetN c + 1) with h | h
      · rw [List.getElem?_range h, Option.map_some, Nat.zero_add]
        show some (F.getD i 0) = F[i]?
        rw [List.getD_eq_getElem?_getD, List.getElem?_eq_getElem (by omega)]; rfl
      · rw [List.getElem?_eq_none (by simpa using h), List.getElem?_eq_none (by omega)]; rfl
    have hget : ∀ i, i < feetN c + 1 → F[i]? = some (F.getD i 0) := fun i hi => by
      rw [List.getD_eq_getElem?_getD, List.getElem?_eq_getElem (by omega)]; rfl
    have hOl : ((selfTag c m, [CV.lst 0]) :: List.replicate (feetN c) (inertT (selfTag c m), [])).length = feetN c + 1 := by simp
    have hO : ∀ k t cs, ((selfTag c m, [CV.lst 0]) :: List.replicate (feetN c) (inertT (selfTag c m), []))[k]? = some (t, cs) → k < feetN c + 1 ∧ ((k = 0 ∧ t = selfTag c m ∧ cs = [.lst 0]) ∨ (0 < k ∧ t = inertT (selfTag c m) ∧ cs = [])) := fun k t cs hk => by
      have hlt := lt_of_get hk
      rw [hOl] at hlt
      refine ⟨hlt, ?_⟩
      cases k with
      | zero => simp at hk; exact .inl ⟨rfl, hk.1.symm, hk.2.symm⟩
      | succ k =>
        rw [List.getElem?_cons_succ, List.getElem?_replicate, if_pos (by omega)] at hk
        cases hk
        exact .inr ⟨Nat.succ_pos _, rfl, rfl⟩
    refine ⟨⟨by simp [startSt, resTs_length], fun t g sv ht => ?_, rfl, fun p hp => by simp [startSt] at hp⟩, ?_⟩
    · simp only [getT] at ht
      split at ht
      · rename_i h0
        have h0 := Nat.eq_of_beq_eq_true h0
        subst h0
        cases ht
        refine .inr (.inl ⟨holds_nil _, ?_⟩)
        have hps : ∃ ck rest, ps = .one ck :: rest ∧ (resC 0 ck) = .lst 0 := by
          unfold selfOf at hs
          split at hs
          · exact ⟨_, _, rfl, rfl⟩
          · exact ⟨_, _, rfl, rfl⟩
          · cases hs
        obtain ⟨ck, rest, rfl, hck⟩ := hps
        simp only [resTs, resT, hck, List.map_cons, TV.val, CV.val, SV.val]
        rw [Array.getD_eq_getD_getElem?, Array.getElem?_append_left (by simp)]
        simp [hb2, hb1, asSl]
      · obtain ⟨h1, h2⟩ := start_slots (S := S) (ls := ls) (β := fun i => F.getD i 0) ht (Array.replicate (ntmps - (((resTs 0 ps).map (TV.val (envOf ls) S β0)).toArray).size) undef) (fun x hx => resTs_beta ps 0 _ _ _ _ x hx)
        exact .inr (.inl ⟨h1, h2⟩)
    · refine ⟨BelowX.refl _ _, fun k t cs hk ht => ?_, fun k t cs hk ht => ?_, fun j k hj hk e => ?_, fun k t cs hk hr => ?_, fun p hp => ?_, fun l T K hm he => ?_, fun i b' hi => ?_, ?_, fun p q hp hq hg hne => ?_⟩
      · rcases (hO k t cs hk).2 with ⟨_, rfl, _⟩ | ⟨_, rfl, _⟩
        · rw [selfTag_isTag] at ht; cases ht
        · rw [inert_tag] at ht; cases ht
      · obtain ⟨hlt, h⟩ := hO k t cs hk
        rcases h with ⟨rfl, rfl, rfl⟩ | ⟨h0, rfl, rfl⟩
        · refine .inr ⟨0, by rw [selfTag_cls hcr]; exact hc, rfl, by rw [selfTag_cls hcr, hfeet]; exact hb3, fun i hi0 hi => ?_⟩
          rw [selfTag_cls hcr] at hi
          show ((selfTag c m, [CV.lst 0]) :: List.replicate (feetN c) (inertT (selfTag c m), []))[0 + i]? = _
          rw [Nat.zero_add, show i = (i - 1) + 1 by omega, List.getElem?_cons_succ, List.getElem?_replicate, if_pos (by omega)]
        · refine .inl ⟨inert_cls _, rfl, ?_⟩
          exact hb3.lt _ (List.mem_of_getElem? (hget k hlt))
      · rw [show (List.length _ = _) from hOl] at hj hk
        have h1 := hget j hj
        have h2 := hget k hk
        have e' : F.getD j 0 = F.getD k 0 := e
        rw [e'] at h1
        exact (List.getElem?_inj (by omega) hnd).1 (h1.trans h2.symm)
      · right
        have hlt := (hO k t cs hk).1
        have hr' : isRO (selfTag c m) = false := by
          rcases (hO k t cs hk).2 with ⟨_, rfl, _⟩ | ⟨_, rfl, _⟩
          · exact hr
          · rw [inert_ro] at hr; exact hr
        rw [selfTag_ro hcr] at hr'
        have hm : m = true := by simpa using hr'
        show F.getD k 0 ∈ X
        rw [hX hm]
        exact List.mem_of_getElem? (hget k hlt)
      · have hp' : p ∈ resLists 0 (shCells ps) := hp
        rw [hnl (by rw [hs]; simp)] at hp'
        simp at hp'
      · have := hgro _ hm
        rw [isGro_of he] at this; cases this
      · show F.getD i 0 = b'
        exact getD_of_get hi
      · show F.length ≤ _
        rw [show (List.length _ = _) from hOl, hlen]
        exact Nat.le_refl _
      · rw [hgro p hp] at hg; cases hg

/-- What is so when a function with a receiver comes back. -/
def Back (P : Program) (Γ : Cx) (W : Base) (fn : Func) (ps rs : List Sh) (w' : World) (v : Value) : Prop :=
  ∃ (st : St) (l : List Ax) (φ : Fm) (ρ : Env) (σ : Nat → Value) (β : Nat → Nat), WOk W ρ σ β st.own st.lists w' ∧ retChk st rs l = true ∧ finO ps rs st l = some φ ∧ φ.holds Γ ρ ∧
    (∃ ll, zipO (retOne P st) rs fn.results.toList = some ll ∧ l = ll.flatten) ∧ v = (resS 0 rs).val (envOf (l.map (Ax.ev ρ))) (fun n => (l.map (Ax.slv ρ σ β)).getD n undef) β0 ∧
    (∀ p, p ∈ resLists 0 (shCells rs) → reads w' 0 β0 p.2 (envOf (l.map (Ax.ev ρ)) p.1).lv ((l.map (Ax.slv ρ σ β)).getD p.1 undef))

theorem vcgO_core (hm : P.follows .mixedOrders = true) (hst : Stable G) {f : Nat} {fn : Func} (hf : P.funcs[f]? = some fn) {ps rs : List Sh} {φ : Fm}
    (h : vcgO P sig anns fn ps rs = some φ) {Γ : Cx} (hΓ : SigOk P G sig Γ) {ls : List Leaf} (hφ : φ.holds Γ (envOf ls)) {S : Nat → Value} {w : World} (hpar : ParOk w (envOf ls) S 0 (shCells ps))
    {F X : List Nat} (hF : match selfOf ps with | some (c, m) => objAt w c (envOf ls 0).lv (S 0) F ∧ (m = true → X = F) | none => F = []) (hG : GOk G ⟨w, X, F⟩) :
    fn.body.isNone = false ∧ startChk ps rs = true ∧ Calls P f ((resTs 0 ps).map (TV.val (envOf ls) S β0)).toArray w fun e w' => ∃ v, e = .returned v ∧ Back P Γ ⟨w, X, F⟩ fn ps rs w' v := by
  unfold vcgO at h
  split at h
  · cases h
  · rename_i c hbody
    split at h
    · cases h
    · rename_i hchk
      have hchk : startChk ps rs = true := by simpa using hchk
      refine ⟨by rw [hbody]; rfl, hchk, ?_⟩
      unfold startChk at hchk
      simp only [Bool.and_eq_true, Bool.not_eq_true'] at hchk
      obtain ⟨⟨⟨⟨⟨hl, hsc⟩, _⟩, hng⟩, _⟩, _⟩ := hchk
      have hnl : selfOf ps ≠ none → resLists 0 (shCells ps) = [] := fun hne => by
        split at hl
        · exact isNil_nil hl
        · rename_i hn; exact absurd hn hne
      have hF' : match selfOf ps with | some (c, m) => objAt w c (envOf ls 0).lv (S 0) F ∧ 0 < c ∧ c < roB ∧ (m = true → X = F) | none => F = [] := by
        unfold selfChk at hsc
        cases hs : selfOf ps with
        | none => rw [hs] at hF; exact hF
        | some cm =>
          obtain ⟨c, m⟩ := cm
          rw [hs] at hF hsc
          simp only [Bool.and_eq_true] at hsc
          exact ⟨hF.1, blt_lt hsc.1, blt_lt hsc.2, hF.2⟩
      have hR := startO_rel hpar hng hnl fn.ntmps (X := X) hF'
      refine calls_of_wp hf hbody (exec_ok (W := ⟨w, X, F⟩) hm hst hG hΓ c _ _ φ h (envOf ls) S (fun i => F.getD i 0) _ w _ hφ hR ?_)
      intro ex st' φ' ρ' σ' β' a' w' h1 h2 h3 h4 h5
      have key : ∀ l, retAll P st' rs fn.results.toList = some l → (if retChk st' rs l = true then finO ps rs st' l else none) = some φ' →
          a'.defers = [] ∧ ∃ v, (results fn a'.tmps).run P w' = .ok v w' ∧ (∃ v', Ending.returned v = .returned v' ∧ Back P Γ ⟨w, X, F⟩ fn ps rs w' v') := by
        intro l hl h1
        split at h1
        · rename_i hrc
          unfold retAll at hl
          split at hl
          · rename_i ll hll
            cases hl
            have hE : ∀ (j : Nat) ax, ll.flatten[j]? = some ax → envOf (ll.flatten.map (Ax.ev ρ')) (0 + j) = ax.ev ρ' ∧ (ll.flatten.map (Ax.slv ρ' σ' β')).getD (0 + j) undef = ax.slv ρ' σ' β' := fun j ax hj => by
              rw [Nat.zero_add]
              exact ⟨by unfold envOf; rw [List.getD_eq_getElem?_getD, List.getElem?_map, hj]; rfl, by rw [List.getD_eq_getElem?_getD, List.getElem?_map, hj]; rfl⟩
            obtain ⟨⟨h7, h8⟩, hrd⟩ := ret_all (P := P) h5 (E := envOf (ll.flatten.map (Ax.ev ρ'))) (S := fun n => (ll.flatten.map (Ax.slv ρ' σ' β')).getD n undef) (n := 0) hll hE
            have h9 := run_results (P := P) (fn := fn) (tmps := a'.tmps) h7 h8
            refine ⟨h5.1.defers, _, h9, _, rfl, st', ll.flatten, φ', ρ', σ', β', h5.2, hrc, h1, h2, ⟨ll, hll, rfl⟩, ?_, hrd⟩
            rw [← resS_val]
          · cases hl
        · cases h1
      cases ex with
      | exit id => simp at h1
      | normal =>
        simp only at h1
        split at h1
        · rename_i l hl
          obtain ⟨h6, v, h7, h8⟩ := key l hl h1
          exact ⟨h6, v, h7, h8⟩
        · cases h1
      | ret =>
        simp only at h1
        split at h1
        · rename_i l hl
          obtain ⟨h6, v, h7, h8⟩ := key l hl h1
          exact ⟨h6, v, h7, h8⟩
        · cases h1

/-- A function that a closure holds, over one variable: a pointer to an object. -/
theorem vcgC_ok (hm : P.follows .mixedOrders = true) (hst : Stable G) {f : Nat} {fn : Func} (hf : P.funcs[f]? = some fn) {c : Nat} {T : TypeId} {φ : Fm}
    (h : vcgC P sig anns fn c T = some φ) {Γ : Cx} (hΓ : SigOk P G sig Γ) {r : LV} (hφ : φ.holds Γ (envOf [.l r])) {w : World} {b v : Nat} (hbv : b ≠ v)
    (ho : IsObj c w.heap [b] r) (hv : w.heap[v]? = some (.cells #[.pointer (some ⟨b, 0, none⟩)] T (0, 0))) (hG : GOk G ⟨w, [b, v], [b, v]⟩) :
    Calls P f #[.pointer (some ⟨v, 0, none⟩)] w fun e w' => e = .returned (.tuple #[]) ∧ BelowX [b, v] w w' ∧ w'.heap[v]? = some (.cells #[.pointer (some ⟨b, 0, none⟩)] T (0, 0)) ∧ ∃ r', Γ.post [.l r'] ∧ IsObj c w'.heap [b] r' := by
  unfold vcgC at h
  split at h
  · rename_i code hbody hres
    split at h
    · cases h
    rename_i hchk
    have hchk := Bool.eq_false_iff.2 hchk
    simp only [Bool.or_eq_false_iff, Bool.not_eq_false'] at hchk
    obtain ⟨⟨⟨hT, hc⟩, hcr⟩, hft⟩ := hchk
    have hc := blt_lt hc
    have hcr := blt_lt hcr
    have hft := Nat.eq_of_beq_eq_true hft
    have hfeet : ∀ β : Nat → Nat, feetOf β 0 c = [β 0] := fun β => by unfold feetOf; rw [hft]; rfl
    have hR : Rel ⟨w, [b, v], [b, v]⟩ (envOf [.l r]) (fun _ => undef) (fun i => [b, v].getD i 0) (capSt c fn.ntmps T)
        { tmps := (#[Value.pointer (some ⟨v, 0, none⟩)] : Array Value) ++ Array.replicate (fn.ntmps - (#[Value.pointer (some ⟨v, 0, none⟩)] : Array Value).size) undef, defers := [] } w := by
      refine ⟨⟨by simp [capSt], fun t g sv ht => ?_, rfl, fun p hp => by simp [capSt] at hp⟩, ?_⟩
      · simp only [capSt, getT] at ht
        split at ht
        · rename_i h0
          have h0 := Nat.eq_of_beq_eq_true h0
          subst h0
          cases ht
          refine .inr (.inl ⟨holds_nil _, ?_⟩)
          rw [Array.getD_eq_getD_getElem?, Array.getElem?_append_left (by simp)]
          simp [SV.val, TV.val, CV.val]
        · cases ht
      · refine ⟨BelowX.refl _ _, fun k t cs hk ht => ?_, fun k t cs hk ht => ?_, fun j k hj hk e => ?_, fun k t cs hk hr => ?_, fun p hp => by simp [capSt] at hp, fun l T K hm he => by simp [capSt] at hm, fun i b' hi => ?_, Nat.le_refl _, fun p q hp => by simp [capSt] at hp⟩
        · match k, hk with
          | 0, hk => simp [capSt] at hk; rw [← hk.1, isTag_tag] at ht; cases ht
          | 1, hk =>
            simp [capSt] at hk
            obtain ⟨rfl, rfl⟩ := hk
            simpa [CV.val] using hv
          | k + 2, hk => simp [capSt] at hk
        · match k, hk with
          | 0, hk =>
            simp [capSt] at hk
            obtain ⟨rfl, rfl⟩ := hk
            refine .inr ⟨0, by rw [clsOf_tag hcr]; exact hc, rfl, by rw [clsOf_tag hcr, hfeet]; exact ho, fun i hi0 hi => ?_⟩
            rw [clsOf_tag hcr, hft] at hi
            omega
          | 1, hk => simp [capSt] at hk; rw [← hk.1, hT] at ht; cases ht
          | k + 2, hk => simp [capSt] at hk
        · have hj : j < 2 := hj
          have hk : k < 2 := hk
          have e : [b, v].getD j 0 = [b, v].getD k 0 := e
          match j, k, hj, hk with
          | 0, 0, _, _ => rfl
          | 1, 1, _, _ => rfl
          | 0, 1, _, _ => exact absurd e hbv
          | 1, 0, _, _ => exact absurd e.symm hbv
          | j + 2, _, hj, _ => omega
          | _, k + 2, _, hk => omega
        · right
          match k, hk with
          | 0, _ => simp
          | 1, _ => simp
          | k + 2, hk => simp [capSt] at hk
        · exact getD_of_get hi
    refine calls_of_wp hf hbody (exec_ok (W := ⟨w, [b, v], [b, v]⟩) hm hst hG hΓ code _ _ φ h (envOf [.l r]) (fun _ => undef) (fun i => [b, v].getD i 0) _ w _ hφ hR ?_)
    intro ex st' φ' ρ' σ' β' a' w' h1 h2 h3 h4 h5
    have key : finC c T st' = some φ' → a'.defers = [] ∧ ∃ v', (results fn a'.tmps).run P w' = .ok v' w' ∧ (Ending.returned v' = .returned (.tuple #[]) ∧ BelowX [b, v] w w' ∧ w'.heap[v]? = some (.cells #[.pointer (some ⟨b, 0, none⟩)] T (0, 0)) ∧ ∃ r', Γ.post [.l r'] ∧ IsObj c w'.heap [b] r') := by
      intro h1
      unfold finC at h1
      split at h1
      · rename_i u q t h6 h7
        split at h1
        · rename_i hut
          simp only [Bool.and_eq_true] at hut
          cases h1
          have hu := Nat.eq_of_beq_eq_true hut.1
          have ht := Nat.eq_of_beq_eq_true hut.2
          subst hu; subst ht
          have b0 : β' 0 = b := h5.2.self 0 b rfl
          have b1 : β' 1 = v := h5.2.self 1 v rfl
          have h8 := (obj_at h5.2 (isTag_tag c) (by rw [clsOf_tag hcr]; exact hc) h6).1
          rw [clsOf_tag hcr, hfeet, b0] at h8
          have h9 := h5.2.own 1 _ _ h7 hT
          rw [b1] at h9
          refine ⟨h5.1.defers, .tuple #[], results_none (by simpa using hres) _ _ _, rfl, h5.2.below, by simpa [CV.val, b0] using h9, (ρ' q).lv, h2, h8⟩
        · cases h1
      · cases h1
    cases ex with
    | exit id => simp at h1
    | normal => exact key h1
    | ret => exact key h1
  · cases h

theorem mutOf_self {ps : List Sh} {c : Nat} (h : mutOf ps = some c) : selfOf ps = some (c, true) := by
  unfold mutOf at h
  split at h
  · cases h; rfl
  · cases h
theorem self_obj {ps : List Sh} {c : Nat} (h : selfOf ps = some (c, false)) : ∃ r, ps = .one (.obj c) :: r := by
  unfold selfOf at h
  split at h
  · cases h
  · rename_i r; cases h; exact ⟨r, rfl⟩
  · cases h
theorem self_mut {ps : List Sh} {c : Nat} (h : selfOf ps = some (c, true)) : ∃ r, ps = .one (.mut c) :: r := by
  unfold selfOf at h
  split at h
  · rename_i r; cases h; exact ⟨r, rfl⟩
  · cases h
  · cases h
theorem mutOf_none {ps : List Sh} (h : ∀ c, selfOf ps ≠ some (c, true)) : mutOf ps = none := by
  unfold mutOf
  split
  · rename_i c r; exact absurd rfl (h c)
  · rfl

/-- The blocks of the receiver. -/
theorem self_feet {W : Base} {ρ : Env} {σ : Nat → Value} {β : Nat → Nat} {O : List (TypeId × List CV)} {L : List (Nat × List EK)} {w : World} (hw : WOk W ρ σ β O L w) {c : Nat} (hl : W.S.length = feetN c + 1) : feetOf β 0 c = W.S := by
  apply List.ext_getElem?
  intro i
  unfold feetOf
  rw [List.getElem?_map]
  rcases Nat.lt_or_ge i (feetN c + 1) with h | h
  · rw [List.getElem?_range h, Option.map_some, Nat.zero_add, List.getElem?_eq_getElem (by omega)]
    congr 1
    exact hw.self i _ (List.getElem?_eq_getElem (by omega))
  · rw [List.getElem?_eq_none (by simpa using h), List.getElem?_eq_none (by omega)]; rfl

theorem newArg {st : St} {c : Nat} {nb : Bool} {x : CV} {ax : Ax} (h : argC st (.new c nb) x = some ax) :
    (∃ b u l, x = .ptr b 0 ∧ st.own[b]? = some (u, [.lst l]) ∧ isTag u = true ∧ isRO u = false ∧ clsOf u = c ∧ 0 < clsOf u ∧ ax = .o l (.ptr b 0)) ∨ (nb = true ∧ x = .nilp ∧ ax = .c 1 .nilp []) := by
  cases x with
  | ptr b off =>
    simp only [argC] at h
    split at h
    · rename_i u l hb
      split at h
      · rename_i hc
        cases h
        simp only [Bool.and_eq_true, Bool.not_eq_true'] at hc
        have h0 := Nat.eq_of_beq_eq_true hc.2
        have h1 := Nat.eq_of_beq_eq_true hc.1.1.2
        subst h0
        exact .inl ⟨b, u, l, rfl, hb, hc.1.1.1.1, hc.1.1.1.2, h1, by rw [h1]; exact blt_lt hc.1.2, rfl⟩
      · cases h
    · cases h
  | nilp =>
    cases nb with
    | true => simp only [argC, Option.some.injEq] at h; exact .inr ⟨rfl, rfl, h.symm⟩
    | false => simp [argC] at h
  | _ => simp [argC] at h
theorem nodup_map_on {α γ : Type} {f : α → γ} : ∀ {l : List α}, l.Nodup → (∀ x, x ∈ l → ∀ y, y ∈ l → f x = f y → x = y) → (l.map f).Nodup
  | [], _, _ => by simp
  | a :: l, h, hf => by
    rw [List.nodup_cons] at h
    rw [List.map_cons, List.nodup_cons]
    refine ⟨fun hm => ?_, nodup_map_on h.2 fun x hx y hy e => hf x (List.mem_cons_of_mem _ hx) y (List.mem_cons_of_mem _ hy) e⟩
    obtain ⟨b, hb, e⟩ := List.mem_map.1 hm
    have := hf b (List.mem_cons_of_mem _ hb) a (List.mem_cons_self ..) e
    subst this
    exact h.1 hb
/-- **The conditions suffice, for a function with a receiver, or one that makes an object.** -/
theorem vcgO_ok (hm : P.follows .mixedOrders = true) (hst : Stable G) {f : Nat} {fn : Func} (hf : P.funcs[f]? = some fn) (hc : (fn.name == "runtime.NumGoroutine") = false) {C : Ctr} {φ : Fm}
    (h : vcgO P sig anns fn C.params C.res = some φ)
    (hφ : ∀ ls, C.pre ls → ∃ Γ : Cx, SigOk P G sig Γ ∧ (∀ rs, Γ.post rs → rs = C.fn ls) ∧ φ.holds Γ (envOf ls)) : C.Sound P G f := by
  have hbs : fn.body.isNone = false ∧ startChk C.params C.res = true := by
    unfold vcgO at h
    split at h
    · cases h
    · rename_i c hbody
      split at h
      · cases h
      · rename_i hchk; exact ⟨by rw [hbody]; rfl, by simpa using hchk⟩
  obtain ⟨hbody, hchk⟩ := hbs
  have hcall : Callable P f := ⟨fn, hf, hc, hbody⟩
  unfold startChk at hchk
  simp only [Bool.and_eq_true, Bool.not_eq_true'] at hchk
  obtain ⟨⟨⟨⟨⟨hnl, hsc⟩, hno⟩, hng⟩, hlo⟩, hmn⟩ := hchk
  have hisc : isC C.params = false := by
    unfold isC
    split
    · rename_i k r hp
      rw [hp] at hno
      simp [restSh, selfOf, shCells, Sh.cells, noObj] at hno
    · rfl
  cases hmu : mutOf C.params with
  | some c =>
    -- a receiver that is written
    have hself := mutOf_self hmu
    obtain ⟨r, hps⟩ := self_mut hself
    have hany : anyMut C.params = true := by rw [hps]; rfl
    have hiso : isO C.params C.res = true := by unfold isO; rw [hany]; rfl
    have hnn : newOf C.res = none := by
      rw [hany] at hmn
      cases hn : newOf C.res with
      | none => rfl
      | some _ => rw [hn] at hmn; simp at hmn
    refine Ctr.OSound.sound ?_ hisc hiso
    refine ⟨hcall, fun ls S w F hG hpre hpar hF => ?_⟩
    rw [hmu] at hF
    obtain ⟨Γ, hΓ, hpost, hh⟩ := hφ ls hpre
    obtain ⟨_, _, hcalls⟩ := vcgO_core (X := F) (F := F) hm hst hf h hΓ hh hpar (by rw [hself]; exact ⟨hF, fun _ => rfl⟩) (fun w2 h2 => hG w2 ⟨h2.os, h2.tape, h2.output, h2.size, h2.block⟩)
    refine hcalls.mono ?_
    rintro e w' ⟨v, rfl, st, l, φ', ρ, σ, β, hw, hrc, hfin, hh', ⟨ll, hll, rfl⟩, hv, hrd⟩
    refine ⟨⟨hw.below.os, hw.below.tape, hw.below.output, hw.below.size, hw.below.block⟩, v, rfl, ?_⟩
    unfold finO at hfin
    rw [hmu] at hfin
    simp only at hfin
    split at hfin
    · rename_i u q hq
      split at hfin
      · rename_i hu
        cases hfin
        have hu := Nat.eq_of_beq_eq_true hu
        have hfn := hpost _ hh'
        unfold selfChk at hsc
        rw [hself] at hsc
        simp only [Bool.and_eq_true] at hsc
        have hcr := blt_lt hsc.2
        have hlen : F.length = feetN c + 1 := by
          obtain ⟨_, _, _, _, h3⟩ := hF
          exact h3.len.1
        refine ⟨fun c' hc' => ?_, (fun n => (ll.flatten.map (Ax.slv ρ σ β)).getD n undef), ?_, fun c' nb hn => by rw [hnn] at hn; cases hn⟩
        · rw [hmu] at hc'
          cases hc'
          subst hu
          have h9 := (obj_at hw (isTag_tag c) (by rw [clsOf_tag hcr]; exact blt_lt hsc.1) hq).1
          rw [clsOf_tag hcr, self_feet hw (c := c) hlen] at h9
          rw [← hfn]
          exact h9
        · have hmN : mutN C.params = 1 := by unfold mutN; rw [hmu]
          rw [hmN, ← hfn]
          exact hv
      · cases hfin
    · cases hfin
  | none =>
    have hnm : anyMut C.params = false := by
      unfold anyMut
      split
      · rename_i c r hp
        rw [hp] at hmu
        cases hmu
      · rename_i k r hp
        rw [hp] at hno
        simp [restSh, selfOf, shCells, Sh.cells, noObj] at hno
      · rfl
    -- the blocks of a receiver that is read alone
    have start : ∀ (ls : List Leaf) (S : Nat → Value) (w : World), ParOk w (envOf ls) S 0 (shCells C.params) → ∃ F, (match selfOf C.params with | some (c, m) => objAt w c (envOf ls 0).lv (S 0) F ∧ (m = true → ([] : List Nat) = F) | none => F = []) := fun ls S w hpar => by
      cases hs : selfOf C.params with
      | none => exact ⟨[], rfl⟩
      | some cm =>
        obtain ⟨c, m⟩ := cm
        cases m with
        | true =>
          obtain ⟨r, hp⟩ := self_mut hs
          rw [hp] at hnm
          cases hnm
        | false =>
          obtain ⟨r, hp⟩ := self_obj hs
          obtain ⟨F, hF⟩ := hpar.2.1 (0, c) (by rw [hp]; simp [shCells, Sh.cells, resObjs])
          exact ⟨F, hF, fun h => by cases h⟩
    have hpostv : ∀ {Γ : Cx} {ls : List Leaf} {w : World} {F : List Nat} {w' : World} {v : Value}, (∀ rs, Γ.post rs → rs = C.fn ls) → Back P Γ ⟨w, [], F⟩ fn C.params C.res w' v →
        Below w.heap.size w w' ∧ ∃ (st : St) (l : List Ax) (ρ : Env) (σ : Nat → Value) (β : Nat → Nat), WOk ⟨w, [], F⟩ ρ σ β st.own st.lists w' ∧ retChk st C.res l = true ∧ l.map (Ax.ev ρ) = C.fn ls ∧
          (∃ ll, zipO (retOne P st) C.res fn.results.toList = some ll ∧ l = ll.flatten) ∧ v = (resS 0 C.res).val (envOf (l.map (Ax.ev ρ))) (fun n => (l.map (Ax.slv ρ σ β)).getD n undef) β0 ∧
          (∀ p, p ∈ resLists 0 (shCells C.res) → reads w' 0 β0 p.2 (envOf (l.map (Ax.ev ρ)) p.1).lv ((l.map (Ax.slv ρ σ β)).getD p.1 undef)) ∧
          (∀ c q x r, newOf C.res = some (c, true) → l = .o q x :: r → (ρ q).lv.len ≠ 0) := by
      rintro Γ ls w F w' v hpost ⟨st, l, φ', ρ, σ, β, hw, hrc, hfin, hh', hll, hv, hrd⟩
      refine ⟨hw.below.below, st, l, ρ, σ, β, hw, hrc, ?_, hll, hv, hrd, ?_⟩
      · unfold finO at hfin
        rw [hmu] at hfin
        simp only at hfin
        split at hfin
        · split at hfin
          · cases hfin; exact hpost _ hh'.2
          · cases hfin; exact hpost _ hh'
        · cases hfin; exact hpost _ hh'
      · intro c q x r hn hl
        unfold finO at hfin
        rw [hmu] at hfin
        simp only [hn, hl] at hfin
        cases hfin
        have h1 := hh'.1 (holds_nil ρ)
        rw [Ex.bool_not, Ex.bool_eq, Ex.int_len, Ex.int_i] at h1
        intro e
        rw [e] at h1
        simp at h1
    cases hnew : newOf C.res with
    | none =>
      have hiso : isO C.params C.res = false := by unfold isO; rw [hnm, hnew]; rfl
      refine Ctr.PSound.sound ?_ hiso
      refine ⟨hcall, fun ls S w hG hpre hpar => ?_⟩
      obtain ⟨Γ, hΓ, hpost, hh⟩ := hφ ls hpre
      obtain ⟨F, hF⟩ := start ls S w hpar
      obtain ⟨_, _, hcalls⟩ := vcgO_core (X := []) (F := F) hm hst hf h hΓ hh hpar hF (fun w2 h2 => hst w w2 hG h2.below)
      refine hcalls.mono ?_
      rintro e w' ⟨v, rfl, hback⟩
      obtain ⟨hb, st, l, ρ, σ, β, hw, hrc, hfn, _, hv, hrd, _⟩ := hpostv hpost hback
      refine ⟨hb, v, rfl, ?_⟩
      rw [← hfn]
      refine ⟨_, hv, fun p hp => ?_⟩
      unfold retChk at hrc
      rw [hnew] at hrc
      exact ret_new hw hrc (hrd p hp)
    | some cn =>
      obtain ⟨c, nb⟩ := cn
      have hiso : isO C.params C.res = true := by unfold isO; rw [hnew]; simp
      refine Ctr.OSound.sound ?_ hisc hiso
      refine ⟨hcall, fun ls S w F0 hG hpre hpar hF0 => ?_⟩
      rw [hmu] at hF0
      have hF0 : F0 = [] := hF0
      subst hF0
      obtain ⟨Γ, hΓ, hpost, hh⟩ := hφ ls hpre
      obtain ⟨F, hF⟩ := start ls S w hpar
      obtain ⟨_, _, hcalls⟩ := vcgO_core (X := []) (F := F) hm hst hf h hΓ hh hpar hF (fun w2 h2 => hG w2 ⟨h2.os, h2.tape, h2.output, h2.size, h2.block⟩)
      refine hcalls.mono ?_
      rintro e w' ⟨v, rfl, hback⟩
      obtain ⟨hb, st, l, ρ, σ, β, hw, hrc, hfn, ⟨ll, hll, hl⟩, hv, hrd, hnz⟩ := hpostv hpost hback
      obtain ⟨rest, hrs⟩ := newOf_eq hnew
      refine ⟨⟨hb.os, hb.tape, hb.output, hb.size, fun k hk _ => hb.block k hk⟩, v, rfl, fun c' hc' => (by rw [hmu] at hc'; cases hc'), (fun n => (l.map (Ax.slv ρ σ β)).getD n undef), ?_, ?_⟩
      · have hmN : mutN C.params = 0 := by unfold mutN; rw [hmu]
        rw [hmN, ← hfn]
        exact hv
      · intro c' nb' hn
        rw [hnew] at hn
        cases hn
        have hmN : mutN C.params = 0 := by unfold mutN; rw [hmu]
        rw [hmN, ← hfn]
        simp only [List.drop_zero]
        -- the first of what comes back
        have hhead : ∃ rv l0 lr sv, retOne P st (.one (.new c nb)) rv = some l0 ∧ l = l0 ++ lr ∧ argS st (.one (.new c nb)) sv = some l0 := by
          rw [hrs] at hll
          cases hr : fn.results.toList with
          | nil => rw [hr] at hll; simp [zipO] at hll
          | cons rv rvs =>
            rw [hr] at hll
            simp only [zipO] at hll
            split at hll
            · cases hll
            · rename_i l0 h0
              split at hll
              · cases hll
              · rename_i lr hlr
                cases hll
                have : ∃ sv, argS st (.one (.new c nb)) sv = some l0 := by
                  have h0' := h0
                  unfold retOne at h0'
                  split at h0'
                  · split at h0'
                    · exact ⟨_, h0'⟩
                    · cases h0'
                  · split at h0'
                    · split at h0'
                      · split at h0'
                        · cases h0'
                        · split at h0'
                          · split at h0'
                            · exact ⟨_, h0'⟩
                            · cases h0'
                          · cases h0'
                      · cases h0'
                    · cases h0'
                obtain ⟨sv, hsv⟩ := this
                exact ⟨rv, l0, lr.flatten, sv, h0, by rw [hl]; rfl, hsv⟩
        obtain ⟨rv, l0, lr, sv, _, hl0, hsv⟩ := hhead
        unfold argS at hsv
        split at hsv
        · rename_i ck x hck
          cases hck
          split at hsv
          · rename_i ax hax
            cases hsv
            have hl1 : l = ax :: lr := hl0
            have hS0 : (l.map (Ax.slv ρ σ β)).getD 0 undef = ax.slv ρ σ β := by rw [hl1]; rfl
            have hE0 : envOf (l.map (Ax.ev ρ)) 0 = ax.ev ρ := by rw [hl1]; rfl
            rcases newArg hax with ⟨b, u, q, rfl, hb1, ht, hro, hcl, hc0, rfl⟩ | ⟨hnb, rfl, rfl⟩
            · right
              refine ⟨fun hnb => ?_, feetOf β b c, ?_, ?_, ?_, ?_⟩
              · rw [hE0]
                subst hnb
                exact hnz c q _ _ hnew hl1
              · obtain ⟨r, hr⟩ := feetOf_head β b c
                refine ⟨β b, r, hr, ?_, ?_⟩
                · show (l.map (Ax.slv ρ σ β)).getD 0 undef = _
                  rw [hS0]; rfl
                · rw [hE0]
                  subst hcl
                  exact (obj_at hw ht hc0 hb1).1
              · simp [feetOf]
              · subst hcl
                unfold feetOf
                refine nodup_map_on (List.nodup_range ..) fun i hi j hj e => ?_
                have h1 := feet_lt hw ht hc0 hb1 (i := i) (by have := List.mem_range.1 hi; omega)
                have h2 := feet_lt hw ht hc0 hb1 (i := j) (by have := List.mem_range.1 hj; omega)
                have := hw.inj _ _ h1 h2 e
                omega
              · intro g hg
                subst hcl
                obtain ⟨i, hi, rfl⟩ := mem_feet.1 hg
                have hge : w.heap.size ≤ β (b + i) ∨ β (b + i) ∈ ([] : List Nat) := by
                  rcases Nat.eq_zero_or_pos i with rfl | hi0
                  · exact hw.ge _ _ _ hb1 hro
                  · exact hw.ge _ _ _ ((obj_at hw ht hc0 hb1).2 i hi0 hi) (by rw [inert_ro]; exact hro)
                rcases hge with h | h
                · exact h
                · simp at h
            · left
              refine ⟨hnb, ?_, ?_⟩
              · rw [hE0]; rfl
              · show (l.map (Ax.slv ρ σ β)).getD 0 undef = _
                rw [hS0]; rfl
          · cases hsv
        · rename_i hck; cases hck
        · cases hsv

theorem fn_okO (hm : P.follows .mixedOrders = true) (hst : Stable G) (tbl : List (Nat × Ctr)) (anns : List Ann) {f : Nat} {fn : Func} (hf : P.funcs[f]? = some fn) (hc : (fn.name == "runtime.NumGoroutine") = false) {C : Ctr} (φ : Fm)
    (h : vcgO P (sigT tbl) anns fn C.params C.res = some φ) (hs : AllSound P G tbl) (inv : List Leaf → Nat → List Leaf → Prop) (meas : List Leaf → Nat → List Leaf → Nat)
    (hφ : ∀ ls, C.pre ls → φ.holds ⟨ctrT tbl, inv ls, meas ls, fun rs => rs = C.fn ls⟩ (envOf ls)) : C.Sound P G f :=
  vcgO_ok hm hst hf hc h fun ls hp => ⟨_, sigT_ok hs, fun _ h => h, hφ ls hp⟩

/-! ### A cell in memory -/

theorem cell_facts {w : World} {b off : Nat} {cells : List Value} {t : TypeId} {v : Value} (h : w.heap[b]? = some (.cells cells.toArray t (0, 0))) (hc : cells[off]? = some v) :
    w.cell? ⟨b, off, none⟩ = some v ∧ w.frozen? ⟨b, off, none⟩ = false ∧ ∀ u, BelowX [b] w (w.setCell ⟨b, off, none⟩ u) ∧ (w.setCell ⟨b, off, none⟩ u).heap[b]? = some (.cells (cells.set off u).toArray t (0, 0)) := by
  refine ⟨by simp [World.cell?, h, hc], by simp [World.frozen?, h], fun u => ⟨⟨rfl, rfl, rfl, by simp [World.setCell], fun j hj hX => ?_⟩, ?_⟩⟩
  · have hne : b ≠ j := fun e => hX (by rw [e]; exact List.mem_singleton.2 rfl)
    show (w.heap.modify b _)[j]? = _
    rw [Array.getElem?_modify, if_neg hne]
  · show (w.heap.modify b _)[b]? = _
    rw [Array.getElem?_modify, if_pos rfl, h]
    simp
end
end Go.Vg

/- From a contract to a row: any inputs of the parameters' types. -/
namespace Go.Vg
open Go.RowKit Go.ChangeShapes Go.WideShapes Go.ChangeAt Go.Deep
set_option linter.unusedVariables false
set_option linter.unusedSimpArgs false

/-! ### Types whose values are numbers and bools alone -/

def flatFs (P : Program) (g : TypeId → Option (List EK)) : Nat → List Field → Option (List EK)
  | _, [] => some []
  | off, f :: r => match g f.type with
    | none => none
    | some ks => if Nat.beq f.offset off && Nat.beq (P.cellsOf f.type) ks.length then
        match flatFs P g (off + ks.length) r with
        | some rs => some (ks ++ rs)
        | none => none
      else none
def flatT (P : Program) : Nat → TypeId → Option (List EK)
  | 0, _ => none
  | d + 1, t => match P.underlying t with
    | some .bool => some [.bool]
    | some (.int k) => some [.int k]
    | some (.struct fs) => match flatFs P (flatT P d) 0 fs.toList with
      | some ks => if Nat.beq (P.cellsOf t) ks.length then some ks else none
      | none => none
    | _ => none

def EK.has : EK → Value → Prop
  | .int k, v => ∃ n, v = .int k n ∧ (Lit.int k n).wf = true
  | .bool, v => ∃ b, v = .bool b
  | .gro _ _, _ => False

section
variable {H : Type} {enc : TypeId × Value → H} {P : Program} {w : World} {base : Nat} {spare : Nat → Bool} {held : Bool}

theorem flatFs_get {g : TypeId → Option (List EK)} : ∀ {fs : List Field} {off : Nat} {ks : List EK}, flatFs P g off fs = some ks → ∀ (i : Nat) K, ks[i]? = some K →
    ∃ (j : Nat) (f : Field) (kf : List EK) (c : Nat), fs[j]? = some f ∧ g f.type = some kf ∧ P.cellsOf f.type = kf.length ∧ kf[c]? = some K ∧ f.offset + c = off + i
  | [], off, ks, h, i, K, hi => by simp only [flatFs, Option.some.injEq] at h; subst h; simp at hi
  | f :: fs, off, ks, h, i, K, hi => by
    simp only [flatFs] at h
    split at h
    · cases h
    · rename_i kf hkf
      split at h
      · rename_i hc
        simp only [Bool.and_eq_true] at hc
        have h1 := Nat.eq_of_beq_eq_true hc.1
        have h2 := Nat.eq_of_beq_eq_true hc.2
        split at h
        · rename_i rs hrs
          cases h
          by_cases hlt : i < kf.length
          · rw [List.getElem?_append_left hlt] at hi
            exact ⟨0, f, kf, i, rfl, hkf, h2, hi, by omega⟩
          · rw [List.getElem?_append_right (by omega)] at hi
            obtain ⟨j, f', kf', c, h3, h4, h5, h6, h7⟩ := flatFs_get hrs (i - kf.length) K hi
            exact ⟨j + 1, f', kf', c, by simpa using h3, h4, h5, h6, by omega⟩
        · cases h
      · cases h

/-- What reads as data of such a type has cells of these kinds. -/
theorem trod_flat : ∀ (d : Nat) (t : TypeId) (ks : List EK), flatT P d t = some ks → ∀ (fuel : Nat) (cs : List Value) (x : DataW H × List MemPlace), DataW.trod enc P w base spare held fuel t cs = some x →
    cs.length = ks.length ∧ ∀ (i : Nat) K, ks[i]? = some K → ∃ v, cs[i]? = some v ∧ K.has v
  | 0, t, ks, h, _, _, _, _ => by simp [flatT] at h
  | d + 1, t, ks, h, fuel, cs, x, hx => by
    simp only [flatT] at h
    split at h
    · rename_i hu
      cases h
      obtain ⟨b, rfl, _⟩ := DataW.trod_bool hu hx
      refine ⟨rfl, fun i K hi => ?_⟩
      cases i with
      | zero => simp at hi; subst hi; exact ⟨_, rfl, b, rfl⟩
      | succ i => simp at hi
    · rename_i k hu
      cases h
      obtain ⟨n, rfl, _, hwf⟩ := DataW.trod_int hu hx
      refine ⟨rfl, fun i K hi => ?_⟩
      cases i with
      | zero => simp at hi; subst hi; exact ⟨_, rfl, n, rfl, hwf⟩
      | succ i => simp at hi
    · rename_i fs hu
      split at h
      · rename_i ks' hks
        split at h
        · rename_i hl
          cases h
          have hl := Nat.eq_of_beq_eq_true hl
          obtain ⟨xs, n, _, _, h1, h2, h3⟩ := DataW.trod_struct hu hx
          refine ⟨by rw [h1, hl], fun i K hi => ?_⟩
          obtain ⟨j, f, kf, c, h4, h5, h6, h7, h8⟩ := flatFs_get hks i K hi
          have h9 := h3 j f (by simpa using h4)
          have hj : j < xs.length := by
            rw [h2]
            have := lt_of_get h4
            simpa using this
          rw [List.getElem?_eq_getElem hj] at h9
          obtain ⟨h10, h11⟩ := trod_flat d f.type kf h5 n _ _ h9
          obtain ⟨v, h12, h13⟩ := h11 c K h7
          refine ⟨v, ?_, h13⟩
          rw [List.getElem?_take] at h12
          split at h12
          · rw [List.getElem?_drop, show f.offset + c = i by omega] at h12
            exact h12
          · cases h12
        · cases h
      · cases h
    · cases h
end

/-! ### Ranges -/

def LV.rng (ek : List EK) (x : LV) : Prop := x.len ≤ maxLen ∧ ∀ i c k, i < x.len → ek[c]? = some (.int k) → (Lit.int k (x.gi i c)).wf = true
def CK.rng : CK → Leaf → Prop
  | .int k, .i n => (Lit.int k n).wf = true
  | .bool, .b _ => True
  | .lst ek, .l x => x.rng ek
  | _, _ => False
def rngs : List CK → List Leaf → Prop
  | [], [] => True
  | c :: cs, l :: ls => c.rng l ∧ rngs cs ls
  | _, _ => False

theorem rngs_objs : ∀ {cs : List CK} {ls : List Leaf} {n : Nat}, rngs cs ls → resObjs n cs = [] ∧ resCells n cs = []
  | [], _, _, _ => ⟨rfl, rfl⟩
  | c :: cs, l :: ls, n, h => by
    have := rngs_objs (n := n + 1) h.2
    have h1 := h.1
    cases c with
    | obj _ => cases l <;> exact h1.elim
    | cell _ => cases l <;> exact h1.elim
    | _ => simpa [resObjs, resCells] using this
  | _ :: _, [], _, h => h.elim
theorem rngs_noMut {ss : List Sh} {ls : List Leaf} (h : rngs (shCells ss) ls) : anyMut ss = false := by
  unfold anyMut
  split
  · rename_i c r
    have h2 : shCells (.one (.mut c) :: r) = .mut c :: shCells r := by simp [shCells, Sh.cells]
    rw [h2] at h
    cases ls with
    | nil => exact h.elim
    | cons l ls => have := h.1; cases l <;> exact this.elim
  · rename_i c r
    have h2 : shCells (.one (.mcell c) :: r) = .mcell c :: shCells r := by simp [shCells, Sh.cells]
    rw [h2] at h
    cases ls with
    | nil => exact h.elim
    | cons l ls => have := h.1; cases l <;> exact this.elim
  · rfl
theorem rngs_append : ∀ {a b : List CK} {x y : List Leaf}, rngs a x → rngs b y → rngs (a ++ b) (x ++ y)
  | [], b, [], y, _, h => h
  | c :: a, b, l :: x, y, h, h2 => ⟨h.1, rngs_append h.2 h2⟩
  | [], _, _ :: _, _, h, _ => h.elim
  | _ :: _, _, [], _, h, _ => h.elim

theorem wf_has {k : IntKind} {n : Int} (h : (Lit.int k n).wf = true) : k.min ≤ n ∧ n ≤ k.max := by
  simpa [Lit.wf] using h
theorem rngs_nil {ls : List Leaf} (h : rngs [] ls) : ls = [] := by
  cases ls with
  | nil => rfl
  | cons _ _ => exact h.elim
theorem rngs_i {cs : List CK} {ls : List Leaf} (h : rngs (.int .i64 :: cs) ls) : ∃ (n : Int) (r : List Leaf), ls = .i n :: r ∧ (-9223372036854775808 ≤ n ∧ n < 9223372036854775808) ∧ rngs cs r := by
  match ls, h with
  | .i n :: r, h =>
    refine ⟨n, r, rfl, ?_, h.2⟩
    have h1 : (Lit.int .i64 n).wf = true := h.1
    have h1 := wf_has h1
    have e1 : IntKind.min .i64 = -9223372036854775808 := by decide
    have e2 : IntKind.max .i64 = 9223372036854775807 := by decide
    rw [e1, e2] at h1
    omega
  | .b _ :: _, h => exact h.1.elim
  | .l _ :: _, h => exact h.1.elim
  | [], h => exact h.elim
theorem wf_u {n : Int} (h1 : (Lit.int .u64 n).wf = true) : 0 ≤ n ∧ n < 18446744073709551616 := by
  have h1 := wf_has h1
  have e1 : IntKind.min .u64 = 0 := by decide
  have e2 : IntKind.max .u64 = 18446744073709551615 := by decide
  rw [e1, e2] at h1
  omega
theorem rngs_u {cs : List CK} {ls : List Leaf} (h : rngs (.int .u64 :: cs) ls) : ∃ (n : Int) (r : List Leaf), ls = .i n :: r ∧ (0 ≤ n ∧ n < 18446744073709551616) ∧ rngs cs r := by
  match ls, h with
  | .i n :: r, h => exact ⟨n, r, rfl, wf_u h.1, h.2⟩
  | .b _ :: _, h => exact h.1.elim
  | .l _ :: _, h => exact h.1.elim
  | [], h => exact h.elim
theorem rngs_b {cs : List CK} {ls : List Leaf} (h : rngs (.bool :: cs) ls) : ∃ (n : Bool) (r : List Leaf), ls = .b n :: r ∧ True ∧ rngs cs r := by
  match ls, h with
  | .b n :: r, h => exact ⟨n, r, rfl, trivial, h.2⟩
  | .i _ :: _, h => exact h.1.elim
  | .l _ :: _, h => exact h.1.elim
  | [], h => exact h.elim
theorem rngs_l {ek : List EK} {cs : List CK} {ls : List Leaf} (h : rngs (.lst ek :: cs) ls) : ∃ (n : LV) (r : List Leaf), ls = .l n :: r ∧ n.rng ek ∧ rngs cs r := by
  match ls, h with
  | .l n :: r, h => exact ⟨n, r, rfl, h.1, h.2⟩
  | .i _ :: _, h => exact h.1.elim
  | .b _ :: _, h => exact h.1.elim
  | [], h => exact h.elim

/-! ### Parameters -/

def ekCk : List EK → List CK → Bool
  | [], [] => true
  | .int k :: es, .int j :: cs => keq k j && ekCk es cs
  | .bool :: es, .bool :: cs => ekCk es cs
  | _, _ => false
def paramOk (P : Program) (t : TypeId) : Sh → Bool
  | .one (.int k) => match P.underlying t with
    | some (.int j) => keq k j
    | _ => false
  | .one .bool => match P.underlying t with
    | some .bool => true
    | _ => false
  | .one (.lst ek) => match P.underlying t with
    | some (.slice e) => match flatT P 8 e with
      | some ks => allEq EK.eqb ks ek && Nat.blt 0 ek.length && Nat.beq (P.cellsOf e) ek.length
      | none => false
    | _ => false
  | .agg cs => match P.underlying t with
    | some (.struct _) => match flatT P 8 t with
      | some ks => ekCk ks cs
      | none => false
    | _ => false
  | .one _ => false
def paramsOk (P : Program) : List TypeId → List Sh → Bool
  | [], [] => true
  | t :: ts, s :: ss => paramOk P t s && paramsOk P ts ss
  | _, _ => false

/-- Leaves and slices' values stand for values. -/
def Stands (w : World) (ss : List Sh) (vs : List Value) (ls : List Leaf) (sv : List Value) : Prop :=
  ls.length = (shCells ss).length ∧ sv.length = (shCells ss).length ∧
  ∀ (n : Nat) (E : Env) (S : Nat → Value), (∀ (j : Nat) l, ls[j]? = some l → E (n + j) = l) → (∀ (j : Nat) v, sv[j]? = some v → S (n + j) = v) →
    (resTs n ss).map (TV.val E S β0) = vs ∧ ∀ p, p ∈ resLists n (shCells ss) → reads w 0 β0 p.2 (E p.1).lv (S p.1)

section
variable {H : Type} {enc : TypeId × Value → H} {P : Program} {w : World} {r : Reach} {b0 : Nat}

theorem agg_leaves : ∀ {ks : List EK} {cks : List CK} {cs : List Value}, ekCk ks cks = true → cs.length = ks.length → (∀ (i : Nat) K, ks[i]? = some K → ∃ v, cs[i]? = some v ∧ K.has v) →
    ∃ ls : List Leaf, ls.length = cks.length ∧ rngs cks ls ∧ hasLst cks = false ∧
      ∀ (n : Nat) (E : Env) (S : Nat → Value), (∀ (j : Nat) l, ls[j]? = some l → E (n + j) = l) → (resCs n cks).map (CV.val E S β0) = cs
  | [], [], cs, _, hl, _ => by
    have : cs = [] := by simpa using hl
    subst this
    exact ⟨[], rfl, trivial, rfl, fun _ _ _ _ => rfl⟩
  | K :: ks, ck :: cks, [], _, hl, _ => by simp at hl
  | K :: ks, ck :: cks, v :: cs, h, hl, hv => by
    obtain ⟨v', hv0, hk⟩ := hv 0 K rfl
    simp at hv0
    subst hv0
    have hrest : ∀ (i : Nat) K', ks[i]? = some K' → ∃ v, cs[i]? = some v ∧ K'.has v := fun i K' hi => by simpa using hv (i + 1) K' (by simpa using hi)
    cases K with
    | int k =>
      cases ck with
      | int j =>
        simp only [ekCk, Bool.and_eq_true] at h
        have hkj := kindNo_inj h.1
        subst hkj
        obtain ⟨ls, h1, h2, h3, h4⟩ := agg_leaves h.2 (by simpa using hl) hrest
        obtain ⟨m, rfl, hwf⟩ := hk
        refine ⟨.i m :: ls, by simp [h1], ⟨hwf, h2⟩, h3, fun n E S hE => ?_⟩
        simp only [resCs, List.map_cons]
        rw [h4 (n + 1) E S (fun j l hj => by have := hE (j + 1) l (by simpa using hj); rwa [show n + (j + 1) = n + 1 + j by omega] at this)]
        have h0 := hE 0 _ rfl
        simp only [Nat.add_zero] at h0
        simp [resC, CV.val, Ex.int_v, h0, Leaf.int]
      | _ => simp [ekCk] at h
    | bool =>
      cases ck with
      | bool =>
        simp only [ekCk] at h
        obtain ⟨ls, h1, h2, h3, h4⟩ := agg_leaves h (by simpa using hl) hrest
        obtain ⟨m, rfl⟩ := hk
        refine ⟨.b m :: ls, by simp [h1], ⟨trivial, h2⟩, h3, fun n E S hE => ?_⟩
        simp only [resCs, List.map_cons]
        rw [h4 (n + 1) E S (fun j l hj => by have := hE (j + 1) l (by simpa using hj); rwa [show n + (j + 1) = n + 1 + j by omega] at this)]
        have h0 := hE 0 _ rfl
        simp only [Nat.add_zero] at h0
        simp [resC, CV.val, Ex.bool_v, h0, Leaf.bool]
      | _ => simp [ekCk] at h
    | gro _ _ => exact hk.elim
  | [], _ :: _, _, h, _, _ => by simp [ekCk] at h
  | K :: _, [], _, h, _, _ => by cases K <;> simp [ekCk] at h

def readLV (w : World) (a : Addr) (W len : Nat) : LV :=
  ⟨len, fun i c => match w.cell? ⟨a.block, a.off + (i * W + c), none⟩ with | some (.int _ n) => n | _ => 0,
    fun i c => match w.cell? ⟨a.block, a.off + (i * W + c), none⟩ with | some (.bool b) => b | _ => false⟩

/-- A slice that reads as data. -/
theorem slice_reads {e : TypeId} {t : TypeId} {ek : List EK} (hu : P.underlying t = some (.slice e)) (hf : flatT P 8 e = some ek) (h0 : 0 < ek.length) (hc : P.cellsOf e = ek.length)
    {v : Value} {d : DataW H} {p : List MemPlace} (hokv : ∃ a len cap, v = .slice a len cap) (h : DataW.Trod enc P w 0 (fun _ => true) true t v d p) : ∃ x : LV, x.rng ek ∧ reads w 0 β0 ek x v := by
  obtain ⟨a0, len0, cap0, rfl⟩ := hokv
  obtain ⟨fuel, hx⟩ := h
  rcases open_slice hu hx with ⟨hcs, _⟩ | ⟨a, len, cap, m, n, D, Pl, hcs, hb, hl, hm, hmm, hxx, hi⟩
  · simp only [Value.cells, List.cons.injEq, and_true] at hcs
    refine ⟨⟨0, fun _ _ => 0, fun _ _ => false⟩, ⟨Nat.zero_le _, fun i c k hi => by simp at hi⟩, a0, ⟨cap0, Nat.zero_le _⟩, ?_, .inl rfl⟩
    cases hcs; rfl
  · have hcs' : some a = a0 ∧ len = len0 ∧ cap = cap0 := by
      simp only [Value.cells, List.cons.injEq, and_true, Value.slice.injEq] at hcs
      exact ⟨hcs.1.symm, hcs.2.1.symm, hcs.2.2.symm⟩
    obtain ⟨rfl, rfl, rfl⟩ := hcs'
    simp only [if_true] at hmm
    subst hmm
    have key : ∀ (i c : Nat) (K : EK), i < len → ek[c]? = some K → ∃ u, w.cell? ((a.add (i * P.cellsOf e)).add c) = some u ∧ K.has u := fun i c K hi' hK => by
      obtain ⟨cs', h1, h2⟩ := hi i (by omega)
      obtain ⟨_, h3, h4⟩ := World.cells?_some h1
      obtain ⟨h5, h6⟩ := trod_flat 8 e ek hf n cs' _ h2
      obtain ⟨u, h7, h8⟩ := h6 c K hK
      have hcl := lt_of_get hK
      exact ⟨u, by rw [h4 c (by omega)]; exact h7, h8⟩
    have hsp : len ≠ 0 → a.spot = none := fun hne => by
      have hK : ek[0]? = some ek[0] := List.getElem?_eq_getElem h0
      obtain ⟨u, h1, _⟩ := key 0 0 _ (by omega) hK
      rw [Nat.zero_mul, Addr.add_zero', Addr.add_zero'] at h1
      unfold World.cell? at h1
      split at h1
      · split at h1
        · cases h1
        · rename_i hs; simpa using hs
      · cases h1
    have hcell : ∀ (i c : Nat) (K : EK), i < len → ek[c]? = some K → ∃ u, w.cell? ⟨a.block, a.off + (i * ek.length + c), none⟩ = some u ∧ K.has u := fun i c K hi' hK => by
      obtain ⟨u, h1, h2⟩ := key i c K hi' hK
      refine ⟨u, ?_, h2⟩
      have hs := hsp (by omega)
      rw [hc] at h1
      have e1 : (a.add (i * ek.length)).add c = ⟨a.block, a.off + (i * ek.length + c), none⟩ := by
        rw [add_spot hs]
        rw [add_spot rfl]
        simp [Nat.add_assoc]
      rwa [e1] at h1
    refine ⟨readLV w a ek.length len, ⟨Nat.le_trans hl hm, fun i c k hi' hk => ?_⟩, some a, ⟨m, hl⟩, rfl, ?_⟩
    · obtain ⟨u, h1, nn, rfl, hwf⟩ := hcell i c _ hi' hk
      simp only [readLV, h1]
      exact hwf
    · by_cases hne : len = 0
      · exact .inl hne
      · right
        refine ⟨a, rfl, hsp hne, ⟨?_, fun k hk => by omega⟩, fun i c K hi' hK => ?_⟩
        · have hK : ek[0]? = some ek[0] := List.getElem?_eq_getElem h0
          obtain ⟨u, h1, _⟩ := hcell 0 0 _ (by omega) hK
          exact World.block_lt_of_cell? w ⟨a.block, a.off + (0 * ek.length + 0), none⟩ h1
        · obtain ⟨u, h1, h2⟩ := hcell i c K hi' hK
          rw [h1]
          cases K with
          | int k => obtain ⟨nn, rfl, _⟩ := h2; simp [EK.val, readLV, h1]
          | bool => obtain ⟨bb, rfl⟩ := h2; simp [EK.val, readLV, h1]
          | gro _ _ => exact h2.elim

theorem param_opens {t : TypeId} {s : Sh} (hp : paramOk P t s = true) {v : Value} {d : DataW H} {p : List MemPlace} (hv : Value.okWide P w r b0 t v) (h : DataW.Trod enc P w 0 (fun _ => true) true t v d p) :
    ∃ (ls : List Leaf) (sv : List Value), rngs s.cells ls ∧ ls.length = s.cells.length ∧ sv.length = s.cells.length ∧
      ∀ (n : Nat) (E : Env) (S : Nat → Value), (∀ (j : Nat) l, ls[j]? = some l → E (n + j) = l) → (∀ (j : Nat) u, sv[j]? = some u → S (n + j) = u) →
        (resT n s).val E S β0 = v ∧ ∀ p, p ∈ resLists n s.cells → reads w 0 β0 p.2 (E p.1).lv (S p.1) := by
  unfold paramOk at hp
  split at hp
  · rename_i k
    split at hp
    · rename_i j hu
      have hkj := kindNo_inj hp
      subst hkj
      obtain ⟨fuel, hx⟩ := h
      obtain ⟨n, h1, _, hwf⟩ := DataW.trod_int hu hx
      have hv1 : v = .int k n := by
        cases v <;> simp [Value.cells] at h1 <;> try (first | exact h1 | (obtain ⟨rfl, rfl⟩ := h1; rfl))
        simp only [Value.okWide, hu, Cell.okWide, Cell.ok] at hv
      subst hv1
      refine ⟨[.i n], [undef], ⟨hwf, trivial⟩, rfl, rfl, fun m E S hE hS => ⟨?_, fun p hp => by simp [Sh.cells, resLists] at hp⟩⟩
      have h0 := hE 0 _ rfl
      simp only [Nat.add_zero] at h0
      simp [resT, TV.val, resC, CV.val, Ex.int_v, h0, Leaf.int]
    · cases hp
  · split at hp
    · rename_i hu
      obtain ⟨fuel, hx⟩ := h
      obtain ⟨b, h1, _⟩ := DataW.trod_bool hu hx
      have hv1 : v = .bool b := by
        cases v <;> simp [Value.cells] at h1 <;> try (first | exact h1 | (subst h1; rfl))
        simp only [Value.okWide, hu, Cell.okWide, Cell.ok] at hv
      subst hv1
      refine ⟨[.b b], [undef], ⟨trivial, trivial⟩, rfl, rfl, fun m E S hE hS => ⟨?_, fun p hp => by simp [Sh.cells, resLists] at hp⟩⟩
      have h0 := hE 0 _ rfl
      simp only [Nat.add_zero] at h0
      simp [resT, TV.val, resC, CV.val, Ex.bool_v, h0, Leaf.bool]
    · cases hp
  · rename_i ek
    split at hp
    · rename_i e hu
      split at hp
      · rename_i ks hks
        simp only [Bool.and_eq_true] at hp
        have h1 := allEq_eq EK.eqb_eq hp.1.1
        subst h1
        obtain ⟨x, h2, h3⟩ := slice_reads hu hks (blt_lt hp.1.2) (Nat.eq_of_beq_eq_true hp.2) (okWide_slice hu hv) h
        refine ⟨[.l x], [v], ⟨h2, trivial⟩, rfl, rfl, fun m E S hE hS => ?_⟩
        have h0 := hE 0 _ rfl
        have h00 := hS 0 _ rfl
        simp only [Nat.add_zero] at h0 h00
        refine ⟨by simp only [resT, TV.val, resC, CV.val, h00]; exact reads_asSl h3, fun p hp => ?_⟩
        simp only [Sh.cells, resLists, List.mem_cons, List.not_mem_nil, or_false] at hp
        subst hp
        rw [h0, h00]
        exact h3
      · cases hp
    · cases hp
  · rename_i cs
    split at hp
    · rename_i fs hu
      split at hp
      · rename_i ks hks
        obtain ⟨us, rfl, hsz⟩ := okWide_struct hu hv
        obtain ⟨fuel, hx⟩ := h
        obtain ⟨h1, h2⟩ := trod_flat 8 t ks hks fuel _ _ hx
        obtain ⟨ls, h3, h4, h5, h6⟩ := agg_leaves hp h1 h2
        refine ⟨ls, List.replicate cs.length undef, h4, h3, by simp [Sh.cells], fun m E S hE hS => ⟨?_, fun p hp => by rw [show (Sh.agg cs).cells = cs from rfl, hasLst_lists h5] at hp; simp at hp⟩⟩
        simp only [resT, TV.val, h6 m E S hE, Value.cells]
      · cases hp
    · cases hp
  · cases hp

theorem params_open : ∀ {ts : List TypeId} {ss : List Sh} {vs : List Value} {ds : List (DataW H)} {p : List MemPlace}, paramsOk P ts ss = true →
    (∀ (j : Nat) t v, ts[j]? = some t → vs[j]? = some v → Value.okWide P w r b0 t v) → DataW.TrodAll enc P w 0 (fun _ => true) true ts vs ds p →
    ∃ ls sv, rngs (shCells ss) ls ∧ Stands w ss vs ls sv
  | [], [], vs, ds, p, _, _, h => by
    obtain ⟨rfl, _, _⟩ := trodAll_nil h
    exact ⟨[], [], trivial, rfl, rfl, fun _ _ _ _ _ => ⟨rfl, fun p hp => by simp [shCells, resLists] at hp⟩⟩
  | t :: ts, s :: ss, vs, ds, p, hp, hv, h => by
    simp only [paramsOk, Bool.and_eq_true] at hp
    obtain ⟨v, vs', d, ds', p', q', rfl, rfl, rfl, h1, h2⟩ := trodAll_cons h
    obtain ⟨ls1, sv1, h3, h4, h5, h6⟩ := param_opens hp.1 (hv 0 t v rfl rfl) h1
    obtain ⟨ls2, sv2, h7, h8, h9, h10⟩ := params_open hp.2 (fun j t' v' ht hv' => hv (j + 1) t' v' (by simpa using ht) (by simpa using hv')) h2
    have hsc : shCells (s :: ss) = s.cells ++ shCells ss := by simp [shCells]
    refine ⟨ls1 ++ ls2, sv1 ++ sv2, by rw [hsc]; exact rngs_append h3 h7, by rw [hsc]; simp [h4, h8], by rw [hsc]; simp [h5, h9], fun n E S hE hS => ?_⟩
    obtain ⟨g1, g2⟩ := h6 n E S (fun j l hj => hE j l (by rw [List.getElem?_append_left (lt_of_get hj)]; exact hj)) (fun j l hj => hS j l (by rw [List.getElem?_append_left (lt_of_get hj)]; exact hj))
    obtain ⟨g3, g4⟩ := h10 (n + s.cells.length) E S
      (fun j l hj => by
        have := hE (ls1.length + j) l (by rw [List.getElem?_append_right (by omega)]; simpa using hj)
        rwa [h4, ← Nat.add_assoc] at this)
      (fun j l hj => by
        have := hS (sv1.length + j) l (by rw [List.getElem?_append_right (by omega)]; simpa using hj)
        rwa [h5, ← Nat.add_assoc] at this)
    refine ⟨by simp [resTs, g1, g3], fun p hp => ?_⟩
    rw [hsc, resLists_append] at hp
    rcases List.mem_append.1 hp with hp | hp
    · exact g2 p hp
    · exact g4 p hp
  | [], _ :: _, _, _, _, hp, _, _ => by simp [paramsOk] at hp
  | _ :: _, [], _, _, _, hp, _, _ => by simp [paramsOk] at hp

/-- The arguments read behind the call as they read before. -/
theorem args_stay (hl : laidOutB P = true) : ∀ {ts : List TypeId} {vs : List Value} {ds : List (DataW H)} {p : List MemPlace} {w' : World}, (∀ t, t ∈ ts → P.readableRec t = true ∧ t < P.types.size) →
    DataW.TrodAll enc P w 0 (fun _ => true) true ts vs ds p → Below w.heap.size w w' → DataW.TrodAll enc P w' 0 (fun b => decide (b < w.heap.size)) true ts vs ds p
  | [], vs, ds, p, w', _, h, _ => by
    obtain ⟨rfl, rfl, rfl⟩ := trodAll_nil h
    exact rfl
  | t :: ts, vs, ds, p, w', ht, h, hb => by
    have hlt := DataW.TrodAll.lt h
    obtain ⟨v, vs', d, ds', p', q', rfl, rfl, rfl, h1, h2⟩ := trodAll_cons h
    obtain ⟨h3, h4⟩ := ht t (List.mem_cons_self ..)
    exact ⟨p', q', Below.trod hl h3 h4 h1 hb (fun x hx => hlt x (List.mem_append_left _ hx)), args_stay hl (fun t' h' => ht t' (List.mem_cons_of_mem _ h')) h2 hb, rfl⟩

theorem all_rd {ts : List TypeId} (h : ts.all (fun t => P.readableRec t && decide (t < P.types.size)) = true) : ∀ t, t ∈ ts → P.readableRec t = true ∧ t < P.types.size := by
  intro t ht
  have := List.all_eq_true.1 h t ht
  simpa using this

/-- **The step from a law's contract to its row.** -/
theorem law_calls (hl : laidOutB P = true) {G : World → Prop} {f : Nat} {fn : Func} {C : Ctr} (hs : C.Sound P G f) {s : ChangeSpec} {tb : TypeId} (hrt : fn.resultTypes = #[tb]) (hub : P.underlying tb = some .bool)
    (hpar : paramsOk P fn.params.toList C.params = true) (hres : C.res = [.one .bool]) (hrd : ∀ t, t ∈ fn.params.toList → P.readableRec t = true ∧ t < P.types.size)
    (hpre : ∀ ls, rngs (shCells C.params) ls → C.pre ls ∧ C.fn ls = [.b true]) (hvars : s.vars = [])
    (hsp : ∀ ds : List (DataW H), ds.length = fn.params.size → (s.fn H (ds ++ [])).results = [.lit (.bool true)] ∧ (s.fn H (ds ++ [])).args = ds ∧ (s.fn H (ds ++ [])).vars = [])
    {W : World} (hG : G W) {args : Array Value} {ds gs : List (DataW H)} {before : List MemPlace} (hval : ∀ (j : Nat) t v, fn.params[j]? = some t → args[j]? = some v → Value.okWide P W r b0 t v)
    (hW : DataW.Whole enc P fn.params.toList s.vars false W args.toList ds gs before) : Calls P f args W fun e W' => ∃ v, e = .returned v ∧ s.post enc P fn false true false false W args v W' := by
  have hW' := hW
  obtain ⟨p, q, hA, hV, rfl, hfz, hnd⟩ := hW
  rw [hvars] at hV
  obtain ⟨rfl, rfl⟩ := trodVars_none hV
  obtain ⟨ls, sv, h1, h2, h3, h4⟩ := params_open hpar (fun j t v ht hv => hval j t v (by simpa using ht) (by simpa using hv)) hA
  obtain ⟨h5, h6⟩ := h4 0 (envOf ls) (fun n => sv.getD n undef) (fun j l hj => by rw [Nat.zero_add]; unfold envOf; rw [List.getD_eq_getElem?_getD, hj]; rfl)
    (fun j v hj => by rw [Nat.zero_add, List.getD_eq_getElem?_getD, hj]; rfl)
  obtain ⟨h7, h8⟩ := hpre ls h1
  have hno : isO C.params C.res = false := by
    unfold isO
    rw [rngs_noMut h1, hres]
    rfl
  have h9 := (hs.plain hno).2 ls (fun n => sv.getD n undef) W hG h7 ⟨h6, fun p hp => by rw [(rngs_objs h1).1] at hp; simp at hp, fun p hp => by rw [(rngs_objs h1).2] at hp; simp at hp⟩
  rw [h5] at h9
  have h10 : args.toList.toArray = args := by simp
  rw [h10] at h9
  have hlen : ds.length = fn.params.size := by
    have : ∀ (ts : List TypeId) (vs : List Value) (ds : List (DataW H)) (p : List MemPlace), DataW.TrodAll enc P W 0 (fun _ => true) true ts vs ds p → ds.length = ts.length := by
      intro ts
      induction ts with
      | nil => intro vs ds p h; obtain ⟨_, rfl, _⟩ := trodAll_nil h; rfl
      | cons t ts ih => intro vs ds p h; obtain ⟨v, vs', d, ds', p', q', rfl, rfl, rfl, _, h2⟩ := trodAll_cons h; simp [ih _ _ _ h2]
    simpa using this _ _ _ _ hA
  obtain ⟨g1, g2, g3⟩ := hsp ds hlen
  refine h9.mono ?_
  rintro e W' ⟨hb, v, rfl, S, hv, _⟩
  have hv2 : v = .bool true := by rw [hv, hres, h8]; rfl
  subst hv2
  refine ⟨_, rfl, ds, [], _, [], p, [], hW', ?_, ?_, ?_, hb.frame _, fun h => by cases h⟩
  · rw [g1, hrt]
    exact trodAll_mk1 (shut_bool hub _)
  · rw [g2]
    exact args_stay hl hrd hA hb
  · rw [g3, hvars]
    rfl
end
end Go.Vg

