/- The symbolic machine: code, loops, functions (plain theorems). -/
import Derived.Test.YtipfipnhgpbceaaSxRegion
set_option linter.unusedVariables false
set_option linter.unusedSimpArgs false
namespace Go.Proofs.Ytipfipnhgpbceaa.Sx
open Go

section
variable {C : Ctx} {P : Program} {e : Env}

/-- The symbolic state and the world. -/
structure SRelS (C : Ctx) (w : World) (ρ : Rho) (ok : Okp) (a : Act) (s : State) : Prop where
  c : CRel C w ρ ok s.mem.get
  t : TRel w ρ ok a s.tmps
  fr : ∀ i, s.next ≤ i → ρ i = none

def items : List It → List Item
  | [] => []
  | .code c :: k => .code c :: items k
  | .blk id :: k => .inBlock id :: items k
  | .lp c :: k => .inLoop c :: items k

theorem exitTo_items {id : Nat} : ∀ {k : List It}, hasBlk id k = true → exitTo id (items k) = some (items (popTo id k))
  | [], h => by cases h
  | .blk id' :: k, h => by
    simp only [items, exitTo, popTo]
    by_cases hi : id' = id
    · simp [hi]
    · have h' : hasBlk id k = true := by simpa [hasBlk, hi] using h
      simp [hi, exitTo_items h']
  | .code c :: k, h => exitTo_items (k := k) h
  | .lp c :: k, h => exitTo_items (k := k) h

/-- From a machine to a function's end. -/
def Ends (P : Program) (b : Go.Frame) (cs : List Go.Frame) (m : Machine) (a : Act) (w : World) : Prop := ∃ todo, Steps P m (lone { b.at a todo with mode := .returning } cs w)
theorem Ends.of {b : Go.Frame} {cs : List Go.Frame} {m m' : Machine} {a : Act} {w : World} (h : Steps P m m') (h' : Ends P b cs m' a w) : Ends P b cs m a w := h'.imp fun _ q => h.trans q

/-- Where a leaf is. -/
def At (P : Program) (b : Go.Frame) (cs : List Go.Frame) (m : Machine) (C : Ctx) (ρ0 : Rho) (k0 : Nat) : Leaf → Prop
  | .done s => ∃ a w ρ ok, Ends P b cs m a w ∧ SRelS C w ρ ok a s ∧ ∀ i, i < k0 → ρ i = ρ0 i
  | .head stk s => ∃ a w ρ ok, Steps P m (lone (b.at a (items (openHead stk))) cs w) ∧ SRelS C w ρ ok a s ∧ ∀ i, i < k0 → ρ i = ρ0 i
theorem At.of {b : Go.Frame} {cs : List Go.Frame} {m m' : Machine} {ρ0 ρ1 : Rho} {k0 : Nat} {l : Leaf} (h : Steps P m m') (hr : ∀ i, i < k0 → ρ1 i = ρ0 i) (h' : At P b cs m' C ρ1 k0 l) : At P b cs m C ρ0 k0 l := by
  cases l with
  | done s =>
    obtain ⟨a, w, ρ, ok, h1, h2, h3⟩ := h'
    exact ⟨a, w, ρ, ok, h1.of h, h2, fun i hi => (h3 i hi).trans (hr i hi)⟩
  | head stk s =>
    obtain ⟨a, w, ρ, ok, h1, h2, h3⟩ := h'
    exact ⟨a, w, ρ, ok, h.trans h1, h2, fun i hi => (h3 i hi).trans (hr i hi)⟩

theorem go_at (hE : EnvOK P e) (hm : P.follows .mixedOrders = true) {b : Go.Frame} {cs : List Go.Frame} {k0 : Nat} : ∀ (n : Nat) (stk : List It) (s : State) (leaf : Leaf), (go e n stk s).den = some leaf →
    ∀ ⦃w : World⦄ ⦃ρ : Rho⦄ ⦃ok : Okp⦄ ⦃a : Act⦄, SRelS C w ρ ok a s → k0 ≤ s.next → At P b cs (lone (b.at a (items stk)) cs w) C ρ k0 leaf
  | 0, _, _, _, h => by cases h
  | n + 1, [], s, leaf, h => by
    intro w ρ ok a hS _
    cases h
    exact ⟨a, w, ρ, ok, ⟨_, .one step_end⟩, hS, fun _ _ => rfl⟩
  | n + 1, .blk id :: k, s, leaf, h => by
    intro w ρ ok a hS hk
    exact (go_at hE hm n k s leaf h hS hk).of (.one step_inBlock) fun _ _ => rfl
  | n + 1, .lp c :: k, s, leaf, h => by
    intro w ρ ok a hS _
    cases h
    exact ⟨a, w, ρ, ok, .one step_inLoop, hS, fun _ _ => rfl⟩
  | n + 1, .code c :: k, s, leaf, h => by
    intro w ρ ok a hS hk
    cases c <;> simp only [go] at h <;> try (cases h; done)
    case skip => exact (go_at hE hm n k s leaf h hS hk).of (.one step_skip) fun _ _ => rfl
    case region id ops d =>
      rw [Tr.den_bind] at h
      obtain ⟨r, hr, h⟩ := Option.bind_eq_some_iff.1 h
      have hw := region_wp (P := P) (C := C) (Q := fun x a' w' => x = .normal ∧ ∃ ρ' ok', CRel C w' ρ' ok' r.mem.get ∧ TRel w' ρ' ok' a' r.tmps ∧ (∀ i, (i < s.next ∨ s.next + ops.size * stride ≤ i) → ρ' i = ρ i)) hE hm (id := id) (s := ⟨s.tmps, s.mem⟩) hS.c hS.t hS.fr hr
        (fun w' ρ' ok' a' h1 h2 h3 => ⟨rfl, ρ', ok', h1, h2, h3⟩)
      obtain ⟨x, a', w', ⟨rfl, ρ', ok', h1, h2, h3⟩, harr⟩ := hw b (items k) cs
      have hS' : SRelS C w' ρ' ok' a' ⟨r.tmps, r.mem, s.next + ops.size * stride⟩ := ⟨h1, h2, fun i hi => by
        rw [h3 i (.inr hi)]
        exact hS.fr i (by simp only at hi; omega)⟩
      exact (go_at hE hm n k _ leaf h hS' (by simp only; omega)).of harr fun i hi => h3 i (.inl (by omega))
    case seq x y => exact (go_at hE hm n (.code x :: .code y :: k) s leaf h hS hk).of (.one step_seq) fun _ _ => rfl
    case cond c x y =>
      split at h
      · rename_i t ht
        have hv := hS.t.rd c
        rw [ht] at hv
        have hev : a.eval c = .bool t := by
          generalize a.eval c = cv at hv
          cases hv with
          | one _ _ h1 => cases h1; rfl
        have hl := learnO_eq ht
        cases t with
        | true =>
          simp only [Tr.den, hl, if_true] at h
          exact (go_at hE hm n (.code x :: k) s leaf h hS hk).of (.one (step_cond hev)) fun _ _ => rfl
        | false =>
          simp only [Tr.den, hl, Bool.false_eq_true, if_false] at h
          exact (go_at hE hm n (.code y :: k) s leaf h hS hk).of (.one (step_cond hev)) fun _ _ => rfl
      · cases h
    case block id c => exact (go_at hE hm n (.code c :: .blk id :: k) s leaf h hS hk).of (.one step_block) fun _ _ => rfl
    case loop c =>
      cases h
      exact ⟨a, w, ρ, ok, .one step_loop, hS, fun _ _ => rfl⟩
    case exit id =>
      split at h
      · rename_i hb
        exact (go_at hE hm n (popTo id k) s leaf h hS hk).of (.one (step_exit (exitTo_items hb))) fun _ _ => rfl
      · cases h
    case ret =>
      cases h
      exact ⟨a, w, ρ, ok, ⟨_, .one step_ret⟩, hS, fun _ _ => rfl⟩

/-! ### The state anew -/
theorem TRel.tell {w : World} {ρ : Rho} {ok : Okp} {a : Act} {tmps : List AV} (h : TRel w ρ ok a tmps) {t : Nat} {x : AV} (hx : VRel w ρ ok (a.tmps.getD t undef) x) : TRel w ρ ok a (tmps.set t x) := by
  refine ⟨h.defers, by rw [h.size, List.length_set], fun t' => ?_⟩
  by_cases ht : t = t'
  · subst ht
    by_cases hl : t < tmps.length
    · simpa [List.getD_eq_getElem?_getD, hl] using hx
    · rw [List.getD_eq_getElem?_getD, List.getElem?_eq_none (by simpa using Nat.le_of_not_lt hl)]
      exact .any _
  · rw [List.getD_eq_getElem?_getD, List.getElem?_set_ne ht, ← List.getD_eq_getElem?_getD]
    exact h.tm t'
theorem nils_rel {w : World} {ρ : Rho} {ok : Okp} {v : Value} (h : SRel w ρ ok v .nils) : v = .slice none 0 0 := by cases h; rfl
/-- A nil slice as an empty one of the call's own. -/
theorem CRel.grow {w : World} {ρ : Rho} {ok : Okp} {g : Get} (h : CRel C w ρ ok g) {id : Nat} (hf : ρ id = none) (E : K) :
    CRel C w (updR ρ id (.slice none 0 0)) ok (upd1 g (id, 0) (some (.rows E []))) ∧ Ext w ρ ok w (updR ρ id (.slice none 0 0)) ok := by
  obtain ⟨h1, h2⟩ := h.name hf (.slice none 0 0)
  refine ⟨h1.addRows (updR_same _ _ _) ⟨none, 0, rfl, Nat.le_refl _, .inl ⟨rfl, rfl⟩⟩ (fun s e0 => by rw [h.fresh hf] at e0; cases e0) (fun b hb => by cases hb), h2⟩
theorem get_cons1 (l : Loc) (c : Option MC) (m : Mem) : Mem.get ((l, c) :: m) = upd1 m.get l c := by
  funext l'
  rw [get_cons]; rfl

theorem growT_rel : ∀ (l : List (Nat × K)) {w : World} {ρ : Rho} {ok : Okp} {a : Act} {s : State}, SRelS C w ρ ok a s → ∃ ρ', SRelS C w ρ' ok a (growT l s) ∧ s.next ≤ (growT l s).next ∧ ∀ i, i < s.next → ρ' i = ρ i
  | [], w, ρ, ok, a, s, h => ⟨ρ, h, Nat.le_refl _, fun _ _ => rfl⟩
  | (t, E) :: r, w, ρ, ok, a, s, h => by
    unfold growT
    split
    · rename_i ht
      have hv := h.t.tm t
      rw [ht] at hv
      have hv' : a.tmps.getD t undef = .slice none 0 0 := by
        generalize a.tmps.getD t undef = cv at hv
        cases hv with
        | one _ _ h1 => exact nils_rel h1
      obtain ⟨h1, h2⟩ := h.c.grow (h.fr s.next (Nat.le_refl _)) E
      have hS : SRelS C w (updR ρ s.next (.slice none 0 0)) ok a ⟨s.tmps.set t (.one (.row s.next)), ((s.next, 0), some (.rows E [])) :: s.mem, s.next + 1⟩ := by
        refine ⟨by rw [get_cons1]; exact h1, (h.t.mono h2).tell ?_, fun i hi => ?_⟩
        · rw [hv']
          exact .one _ _ (.row _ _ _ _ (updR_same _ _ _))
        · simp only at hi
          rw [updR_ne _ _ (by omega)]
          exact h.fr i (by omega)
      obtain ⟨ρ', h3, h4, h5⟩ := growT_rel r hS
      refine ⟨ρ', h3, by simp only at h4; omega, fun i hi => ?_⟩
      rw [h5 i (by simp only; omega), updR_ne _ _ (by omega)]
    · exact growT_rel r h

theorem growC_rel : ∀ (l : List (Nat × Nat × K)) {w : World} {ρ : Rho} {ok : Okp} {a : Act} {s : State}, SRelS C w ρ ok a s → ∃ ρ' ok', SRelS C w ρ' ok' a (growC l s) ∧ s.next ≤ (growC l s).next ∧ ∀ i, i < s.next → ρ' i = ρ i
  | [], w, ρ, ok, a, s, h => ⟨ρ, ok, h, Nat.le_refl _, fun _ _ => rfl⟩
  | (t, off, E) :: r, w, ρ, ok, a, s, h => by
    unfold growC
    split
    · rename_i id o ht
      split
      · rename_i hc
        obtain ⟨b, v, c1, c2, c3, c4⟩ := h.c.cells _ _ _ hc
        have hv : v = .slice none 0 0 := nils_rel c4
        subst hv
        have hf := h.fr s.next (Nat.le_refl _)
        obtain ⟨h1, h2⟩ := h.c.grow hf E
        have hne : s.next ≠ id := fun e0 => by rw [← e0, hf] at c1; cases c1
        have hc' : upd1 s.mem.get (s.next, 0) (some (.rows E [])) (id, o + off) = some (.cell .nils) := by
          rw [upd1_ne _ _ (fun e0 => hne (congrArg Prod.fst e0))]
          exact hc
        have hr' := h2.rho _ _ c1
        have hl : LiveAt (upd1 s.mem.get (s.next, 0) (some (.rows E []))) (updR ρ s.next (.slice none 0 0)) (id, o + off) b := ⟨⟨_, hc'⟩, _, hr', rfl⟩
        obtain ⟨d1, d2⟩ := h1.cont _ _ _ hc'
        have h3 := h1.addCell (s := .row s.next) hr' c2 c3 (.row _ _ _ _ (updR_same _ _ _)) d1 d2 (fun l hl' => h1.dist _ _ _ hl' hl) (fun x hx => (h1.oks x b hx).2 _ hl) (h1.own _ _ hl)
        have hS : SRelS C w (updR ρ s.next (.slice none 0 0)) ok a ⟨s.tmps, ((id, o + off), some (.cell (.row s.next))) :: ((s.next, 0), some (.rows E [])) :: s.mem, s.next + 1⟩ := by
          refine ⟨by rw [get_cons1, get_cons1]; exact h3, h.t.mono h2, fun i hi => ?_⟩
          simp only at hi
          rw [updR_ne _ _ (by omega)]
          exact h.fr i (by omega)
        obtain ⟨ρ', ok', h4, h5, h6⟩ := growC_rel r hS
        refine ⟨ρ', ok', h4, by simp only at h5; omega, fun i hi => ?_⟩
        rw [h6 i (by simp only; omega), updR_ne _ _ (by omega)]
      · exact growC_rel r h
    · rename_i id ht
      split
      · rename_i E' xs hc
        have hv := h.t.tm t
        rw [ht] at hv
        have hv' : SRel w ρ ok (a.tmps.getD t undef) (.row id) := by
          generalize a.tmps.getD t undef = cv at hv
          cases hv with
          | one _ _ h1 => exact h1
        have hth : thawOne s.mem.get (.row id) = some (.vec false E' xs, [((id, 0), none)]) := by
          simp only [thawOne, hc]
        obtain ⟨ok2, b1, b2, _, b4⟩ := thaw_one h.c (fun _ _ q => q) h.c (fun _ _ q => q) (fun _ _ q => q) hv' hth
        have hS : SRelS C w ρ ok2 a ⟨s.tmps.set t (.one (.vec false E' xs)), ((id, 0), none) :: s.mem, s.next⟩ := by
          refine ⟨by rw [get_cons1]; exact b1, (h.t.mono (Ext.more b2)).tell (.one _ _ b4), h.fr⟩
        obtain ⟨ρ', ok', h4, h5, h6⟩ := growC_rel r hS
        exact ⟨ρ', ok', h4, h5, h6⟩
      · exact growC_rel r h
    · exact growC_rel r h

theorem keepTmps_get (l : List AV) (ks : List Nat) : ∀ (n i j : Nat), (keepTmps l ks i n).getD j (.one .undef) = .one .undef ∨ (keepTmps l ks i n).getD j (.one .undef) = l.getD (i + j) (.one .undef)
  | 0, i, j => by left; simp [keepTmps]
  | n + 1, i, 0 => by
    unfold keepTmps
    split
    · right; simp
    · left; simp
  | n + 1, i, j + 1 => by
    unfold keepTmps
    have := keepTmps_get l ks n (i + 1) j
    rw [show i + 1 + j = i + (j + 1) by omega] at this
    simpa using this
theorem keepTmps_len (l : List AV) (ks : List Nat) : ∀ (n i : Nat), (keepTmps l ks i n).length = n
  | 0, _ => rfl
  | n + 1, i => by simp [keepTmps, keepTmps_len l ks n]
theorem keep_rel {w : World} {ρ : Rho} {ok : Okp} {a : Act} {s : State} (ks : List Nat) (h : SRelS C w ρ ok a s) : SRelS C w ρ ok a ⟨keepTmps s.tmps ks 0 s.tmps.length, s.mem, s.next⟩ := by
  refine ⟨h.c, ⟨h.t.defers, by rw [keepTmps_len]; exact h.t.size, fun t => ?_⟩, h.fr⟩
  rcases keepTmps_get s.tmps ks s.tmps.length 0 t with h1 | h1
  · rw [h1]; exact .any _
  · rw [h1, Nat.zero_add]; exact h.t.tm t

def renRho (ids : List Nat) (ρ : Rho) : Rho := fun i => match ids[i]? with | some id => ρ id | none => none
theorem renRho_get {ids : List Nat} {ρ : Rho} {i id : Nat} (h : ids[i]? = some id) : renRho ids ρ i = ρ id := by unfold renRho; rw [h]
/-- Memory under other numbers. -/
theorem CRel.renew {w : World} {ρ : Rho} {ok : Okp} {g : Get} (h : CRel C w ρ ok g) {ids : List Nat} (hnd : ids.Nodup) :
    CRel C w (renRho ids ρ) ok (initMem 0 (ids.map (obAt g fun id => findAt id 0 ids))).get ∧ (∀ id id2 v, findAt id 0 ids = some id2 → ρ id = some v → renRho ids ρ id2 = some v) ∧
    (∀ l b, LiveAt (initMem 0 (ids.map (obAt g fun id => findAt id 0 ids))).get (renRho ids ρ) l b → ∃ id, ids[l.1]? = some id ∧ LiveAt g ρ (id, l.2) b) := by
  have hto1 : ∀ i id : Nat, ids[i]? = some id → findAt id 0 ids = some i := fun i id hh => by simpa using findAt_get (i := 0) hnd hh
  have hto2 : ∀ id i : Nat, findAt id 0 ids = some i → ids[i]? = some id := fun id i hh => by simpa using (findAt_spec hh).2
  have hρto : ∀ id id2 v, findAt id 0 ids = some id2 → ρ id = some v → renRho ids ρ id2 = some v := fun id id2 v h1 h2 => by rw [renRho_get (hto2 _ _ h1), h2]
  generalize hto : (fun id => findAt id 0 ids) = to
  have hto1' : ∀ i id : Nat, ids[i]? = some id → to id = some i := fun i id hh => by subst hto; exact hto1 i id hh
  have hρto' : ∀ id id2 v, to id = some id2 → ρ id = some v → renRho ids ρ id2 = some v := fun id id2 v h1 h2 => by subst hto; exact hρto id id2 v h1 h2
  generalize hobs : ids.map (obAt g to) = obs
  have hgob : ∀ id2 off c2, (initMem 0 obs).get (id2, off) = some c2 → ∃ id c, ids[id2]? = some id ∧ g (id, off) = some c ∧ c2 = renMC to c := by
    intro id2 off c2 hc
    have h0 := get_initMem obs 0 id2 off
    rw [Nat.zero_add, hc] at h0
    rw [← hobs, List.getElem?_map] at h0
    cases hid : ids[id2]? with
    | none => rw [hid] at h0; simp at h0
    | some id =>
      rw [hid] at h0
      simp only [Option.map_some] at h0
      rw [obAt_get h.toHRel] at h0
      cases hgc : g (id, off) with
      | none => rw [hgc] at h0; cases h0
      | some c => rw [hgc] at h0; exact ⟨id, c, rfl, hgc, by cases h0; rfl⟩
  have hgob' : ∀ id2 id off c, ids[id2]? = some id → g (id, off) = some c → (initMem 0 obs).get (id2, off) = some (renMC to c) := by
    intro id2 id off c hid hc
    have h0 := get_initMem obs 0 id2 off
    rw [Nat.zero_add] at h0
    rw [h0, ← hobs, List.getElem?_map, hid]
    simp only [Option.map_some]
    rw [obAt_get h.toHRel, hc]; rfl
  have hlive : ∀ {l : Loc} {b : Nat}, LiveAt (initMem 0 obs).get (renRho ids ρ) l b → ∃ id, ids[l.1]? = some id ∧ LiveAt g ρ (id, l.2) b := fun {l b} hl =>
    h.toHRel.trans_live (f := to) (inv := fun i => ids[i]?) hto1' hρto' hgob hl
  have hH : HRel w (renRho ids ρ) ok (initMem 0 obs).get := by
    refine h.toHRel.trans (f := to) (inv := fun i => ids[i]?) hto1' hρto' hgob (fun id2 id off s hi _ hc => ⟨_, hgob' id2 id off _ hi hc⟩) (fun x b hb => hb) (fun x b hb => ?_)
    exact ⟨(h.oks x b hb).1, fun l hl => by obtain ⟨id, _, h2⟩ := hlive hl; exact (h.oks x b hb).2 _ h2⟩
  exact ⟨{ toHRel := hH, own := fun l b hl => by obtain ⟨id, _, h2⟩ := hlive hl; exact h.own _ _ h2, ok0 := h.ok0, okn := h.okn, fr := h.fr }, hρto, fun l b hl => hlive hl⟩

theorem addNew_prefix : ∀ (l a : List Nat), ∃ r, addNew a l = a ++ r
  | [], a => ⟨[], by simp [addNew]⟩
  | y :: l, a => by
    unfold addNew
    split
    · exact addNew_prefix l a
    · obtain ⟨r, hr⟩ := addNew_prefix l (a ++ [y])
      exact ⟨[y] ++ r, by rw [hr]; simp⟩
theorem outIds_nodup (g : Get) (k : Nat) (v : List Sc) : (outIds g k v).Nodup := addNew_nodup _ _ (addNew_nodup _ _ (rangeFrom_nodup _ _))
theorem outIds_get (g : Get) (k : Nat) (v : List Sc) {i : Nat} (hi : i < k) : (outIds g k v)[i]? = some i := by
  unfold outIds
  obtain ⟨r1, h1⟩ := addNew_prefix (idsSc v) (rangeFrom 0 k)
  obtain ⟨r2, h2⟩ := addNew_prefix ((addNew (rangeFrom 0 k) (idsSc v)).flatMap fun id => idsOf (boxAt g id 64 0)) (addNew (rangeFrom 0 k) (idsSc v))
  dsimp only
  rw [h2, h1, List.append_assoc, List.getElem?_append_left (by rw [rangeFrom_len]; exact hi), rangeFrom_get, if_pos hi, Nat.zero_add]
theorem outIds_len (g : Get) (k : Nat) (v : List Sc) : k ≤ (outIds g k v).length := by
  unfold outIds
  obtain ⟨r1, h1⟩ := addNew_prefix (idsSc v) (rangeFrom 0 k)
  obtain ⟨r2, h2⟩ := addNew_prefix ((addNew (rangeFrom 0 k) (idsSc v)).flatMap fun id => idsOf (boxAt g id 64 0)) (addNew (rangeFrom 0 k) (idsSc v))
  dsimp only
  rw [h2, h1]
  simp [rangeFrom_len]

theorem renew_rel {w : World} {ρ : Rho} {ok : Okp} {a : Act} {s : State} {k : Nat} (h : SRelS C w ρ ok a s) : ∃ ρ', SRelS C w ρ' ok a (renew k s) ∧ k ≤ (renew k s).next ∧ ∀ i, i < k → ρ' i = ρ i := by
  unfold renew
  dsimp only
  generalize hids : outIds s.mem.get k (s.tmps.flatMap AV.all) = ids
  have hnd : ids.Nodup := hids ▸ outIds_nodup _ _ _
  have hpre : ∀ i, i < k → ids[i]? = some i := fun i hi => hids ▸ outIds_get _ _ _ hi
  have hlen : k ≤ ids.length := hids ▸ outIds_len _ _ _
  obtain ⟨h1, h2, _⟩ := h.c.renew hnd
  refine ⟨renRho ids ρ, ⟨h1, ⟨h.t.defers, by rw [List.length_map]; exact h.t.size, fun t => ?_⟩, fun i hi => ?_⟩, hlen, fun i hi => renRho_get (hpre i hi)⟩
  · have hv := h.t.tm t
    rw [List.getD_eq_getElem?_getD, List.getElem?_map]
    rw [List.getD_eq_getElem?_getD] at hv
    cases ht : s.tmps[t]? with
    | none => exact .any _
    | some x =>
      rw [ht] at hv
      exact hv.ren h2 (fun _ _ hb => hb)
  · unfold renRho
    rw [List.getElem?_eq_none hi]

theorem canon_rel {w : World} {ρ : Rho} {ok : Okp} {a : Act} {s : State} {k : Nat} (kp : Keep) (hk : k ≤ s.next) (h : SRelS C w ρ ok a s) : ∃ ρ' ok', SRelS C w ρ' ok' a (canon k kp s) ∧ k ≤ (canon k kp s).next ∧ ∀ i, i < k → ρ' i = ρ i := by
  unfold canon
  dsimp only
  obtain ⟨ρ1, h1, n1, e1⟩ := growT_rel kp.rowsT h
  obtain ⟨ρ2, ok2, h2, n2, e2⟩ := growC_rel kp.rowsC h1
  obtain ⟨ρ3, h3, n3, e3⟩ := renew_rel (k := k) (keep_rel kp.tmps h2)
  exact ⟨ρ3, ok2, h3, n3, fun i hi => by rw [e3 i hi, e2 i (by omega), e1 i (by omega)]⟩

theorem go_next : ∀ (n : Nat) (stk : List It) (s : State) (leaf : Leaf), (go e n stk s).den = some leaf → s.next ≤ (match leaf with | .done s' => s'.next | .head _ s' => s'.next)
  | 0, _, _, _, h => by cases h
  | n + 1, [], s, leaf, h => by cases h; exact Nat.le_refl _
  | n + 1, .blk id :: k, s, leaf, h => go_next n k s leaf h
  | n + 1, .lp c :: k, s, leaf, h => by cases h; exact Nat.le_refl _
  | n + 1, .code c :: k, s, leaf, h => by
    cases c <;> simp only [go] at h <;> try (cases h; done)
    case skip => exact go_next n k s leaf h
    case region id ops d =>
      rw [Tr.den_bind] at h
      obtain ⟨r, hr, h⟩ := Option.bind_eq_some_iff.1 h
      have := go_next n k _ leaf h
      simp only at this
      omega
    case seq x y => exact go_next n _ s leaf h
    case cond c x y =>
      split at h
      · rename_i t ht
        have hl := learnO_eq ht
        cases t with
        | true =>
          simp only [Tr.den, hl, if_true] at h
          exact go_next n _ s leaf h
        | false =>
          simp only [Tr.den, hl, Bool.false_eq_true, if_false] at h
          exact go_next n _ s leaf h
      · cases h
    case block id c => exact go_next n _ s leaf h
    case loop c => cases h; exact Nat.le_refl _
    case exit id =>
      split at h
      · exact go_next n _ s leaf h
      · cases h
    case ret => cases h; exact Nat.le_refl _

theorem runM_at (hE : EnvOK P e) (hm : P.follows .mixedOrders = true) {b : Go.Frame} {cs : List Go.Frame} {k : Nat} {keep : Code → Keep} : ∀ (n : Nat) (stk : List It) (s s' : State), (runM e k keep n stk s).den = some s' →
    ∀ ⦃w : World⦄ ⦃ρ : Rho⦄ ⦃ok : Okp⦄ ⦃a : Act⦄, SRelS C w ρ ok a s → k ≤ s.next → At P b cs (lone (b.at a (items (openHead stk))) cs w) C ρ k (.done s')
  | 0, _, _, _, h => by cases h
  | n + 1, stk, s, s', h => by
    intro w ρ ok a hS hk
    unfold runM at h
    rw [Tr.den_bind] at h
    obtain ⟨leaf, hl, h⟩ := Option.bind_eq_some_iff.1 h
    have hA := go_at (b := b) (cs := cs) (k0 := k) hE hm fuel (openHead stk) s leaf hl hS hk
    have hN := go_next fuel (openHead stk) s leaf hl
    cases leaf with
    | done s1 =>
      cases h
      exact hA
    | head stk1 s1 =>
      obtain ⟨a1, w1, ρ1, ok1, h1, h2, h3⟩ := hA
      cases stk1 with
      | nil => cases h
      | cons x k' =>
        cases x with
        | code c => cases h
        | blk id => cases h
        | lp c =>
          obtain ⟨ρ2, ok2, h4, h5, h6⟩ := canon_rel (k := k) (keep c) (by simp only at hN; omega) h2
          exact (runM_at hE hm n (.lp c :: k') _ s' h h4 h5).of h1 fun i hi => by rw [h6 i hi, h3 i hi]

/-! ### A function's end -/
def resRun (a : Act) : ResultVar → Sem Value
  | .tmp t => pure (a.tmps.getD t undef)
  | .cell b t => do loadVar t (← asAddr (a.tmps.getD b undef))
theorem resOne_rel (hE : EnvOK P e) {w : World} {ρ : Rho} {ok : Okp} {a : Act} {s : State} (h : SRelS C w ρ ok a s) {rv : ResultVar} {p : Bool × List Sc} (hr : resOne e s rv = some p) :
    ∃ v, (resRun a rv).run P w = .ok v w ∧ PRel w ρ ok v p := by
  cases rv with
  | tmp t =>
    simp only [resOne] at hr
    refine ⟨_, rfl, ?_⟩
    have hv := h.t.tm t
    split at hr
    · cases hr
    · rename_i x hx0 hx
      cases hr
      rw [hx] at hv
      generalize a.tmps.getD t undef = cv at hv
      cases hv with
      | any v => exact absurd rfl hx0
      | one v s hs => exact .inr ⟨rfl, _, rfl, hs⟩
    · rename_i l hx
      cases hr
      rw [hx] at hv
      generalize a.tmps.getD t undef = cv at hv
      cases hv with
      | agg vs l hs => exact .inl ⟨rfl, vs, rfl, hs⟩
    · cases hr
  | cell b t =>
    simp only [resOne] at hr
    split at hr
    · rename_i id off ti hx hti
      obtain ⟨l, hl, hl'⟩ := Option.bind_eq_some_iff.1 hr
      split at hl'
      case isFalse => cases hl'
      rename_i hcond
      cases hl'
      have hv := h.t.tm b
      rw [hx] at hv
      obtain ⟨blk, hcv, hb⟩ := ptr_rel hv
      obtain ⟨us, u1, u2, u3, _⟩ := cellsAt_rel h.c.toHRel id blk hb _ _ _ hl
      have hT := hE.types t ti hti
      have hn : ti.isAgg = false → ti.size = 1 := fun ha => by simpa [ha] using hcond
      have hrun := run_loadVar hT w blk off us u1 u3 hn
      refine ⟨if ti.isAgg then .agg us.toArray else us.getD 0 undef, ?_, ?_⟩
      · show (do loadVar t (← asAddr (a.tmps.getD b undef)) : Sem Value).run P w = _
        rw [hcv]
        simp [asAddr, hrun]
      · cases ha : ti.isAgg with
        | true => exact .inl ⟨rfl, us.toArray, rfl, by simpa using u2⟩
        | false =>
          have h1 := hn ha
          rw [h1] at u1
          match us, l, u1, u2 with
          | [u], [s0], _, u2 => exact .inr ⟨rfl, s0, rfl, u2.1⟩
          | [u], [], _, u2 => exact u2.elim
          | [u], _ :: _ :: _, _, u2 => exact u2.2.elim
    · cases hr
theorem resAll_rel (hE : EnvOK P e) {w : World} {ρ : Rho} {ok : Okp} {a : Act} {s : State} (h : SRelS C w ρ ok a s) : ∀ {l : List ResultVar} {ps : List (Bool × List Sc)}, resAll e s l = some ps →
    ∃ vs : List Value, (l.mapM (resRun a)).run P w = .ok vs w ∧ All2 (PRel w ρ ok) vs ps
  | [], ps, hr => by
    cases hr
    exact ⟨[], rfl, trivial⟩
  | x :: r, ps, hr => by
    unfold resAll at hr
    split at hr
    · rename_i p l hp hl
      cases hr
      obtain ⟨v, h1, h2⟩ := resOne_rel hE h hp
      obtain ⟨vs, h3, h4⟩ := resAll_rel hE h hl
      refine ⟨v :: vs, ?_, h2, h4⟩
      rw [List.mapM_cons, Sem.run_bind, h1, Result.andThen_ok, Sem.run_bind, h3]
      rfl
    · cases hr
theorem results_rel (hE : EnvOK P e) {w : World} {ρ : Rho} {ok : Okp} {a : Act} {s : State} (h : SRelS C w ρ ok a s) {fn : Func} {v : AV} (hr : resAV e s fn.results.toList = some v) :
    ∃ cv, (results fn a.tmps).run P w = .ok cv w ∧ VRel w ρ ok cv v := by
  unfold resAV at hr
  cases hl : resAll e s fn.results.toList with
  | none => rw [hl] at hr; cases hr
  | some ps =>
    rw [hl] at hr
    obtain ⟨vs, h1, h2⟩ := resAll_rel hE h hl
    have hrun : (results fn a.tmps).run P w = .ok (if h : vs.toArray.size = 1 then vs.toArray[0] else .tuple vs.toArray) w := by
      have hres : results fn a.tmps = (do let vs ← fn.results.mapM (resRun a); pure (if h : vs.size = 1 then vs[0] else .tuple vs)) := by
        unfold results
        congr 1
      rw [hres, Sem.run_bind, Array.mapM_eq_mapM_toList, Sem.run_map, h1]
      rfl
    match ps, vs, h2, hr, hrun with
    | [p], [v1], h2, hr, hrun =>
      refine ⟨v1, by rw [hrun]; simp, ?_⟩
      simp only at hr
      obtain ⟨pa, pl⟩ := p
      rcases h2.1 with ⟨q1, us, q2, q3⟩ | ⟨q1, s0, q2, q3⟩
      · simp only at q1 q3; subst q1 q2
        simp [mkAV] at hr; subst hr
        exact .agg _ _ q3
      · simp only at q1 q2; subst q1 q2
        simp [mkAV] at hr; subst hr
        exact .one _ _ q3
    | [], [], h2, hr, hrun =>
      cases hr
      exact ⟨.tuple #[], by rw [hrun]; simp, .tup _ _ trivial⟩
    | p :: p' :: r, v1 :: v2 :: r', h2, hr, hrun =>
      cases hr
      refine ⟨.tuple (v1 :: v2 :: r').toArray, by rw [hrun]; simp, .tup _ _ (by simpa using h2)⟩
    | [p], _ :: _ :: _, h2, _, _ => exact h2.2.elim
    | _ :: _ :: _, [_], h2, _, _ => exact h2.2.elim
    | [], _ :: _, h2, _, _ => exact h2.elim
    | _ :: _, [], h2, _, _ => exact h2.elim

/-- What does not borrow needs what lasts alone. -/
theorem enc_noBor (E : K) (x : D E) : ∀ s ∈ enc E x, noBor [s] = true := by
  cases E <;> (intro s hs; simp only [enc, List.mem_cons, List.not_mem_nil, or_false] at hs) <;> (rcases hs with rfl | rfl | rfl | rfl | rfl | rfl | rfl | rfl | rfl | rfl) <;> rfl
theorem noBor_one {w : World} {ρ : Rho} {ok : Okp} {v : Value} {s : Sc} (h : SRel w ρ ok v s) : noBor [s] = true → SRel w ρ (fun _ b => ok false b) v s := by
  induction h with
  | undef v h => intro _; exact .undef v h
  | int k n => intro _; exact .int k n
  | bool b => intro _; exact .bool b
  | nils => intro _; exact .nils
  | vec0 b E A cap => intro _; exact .vec0 b E A cap
  | vec b E xs blk off cap U hc hok hcell hrel ih =>
    intro hs
    have hb : b = false := by simpa [noBor] using hs
    subst hb
    refine .vec false E xs blk off cap U hc hok hcell fun k s hk => ih k s hk ?_
    obtain ⟨x, _, hx⟩ := List.mem_flatMap.1 (List.mem_of_getElem? hk)
    exact enc_noBor E x s hx
  | row id A n cap h => intro _; exact .row id A n cap h
  | ptr id off b h => intro _; exact .ptr id off b h
  | eptr id E i off b n cap h h0 h1 => intro hs; simp [noBor] at hs
  | vptr b E xs i off blk o U hok h0 h1 hcell hrel ih => intro hs; simp [noBor] at hs
theorem noBor_cons {s : Sc} {l : List Sc} (h : noBor (s :: l) = true) : noBor [s] = true ∧ noBor l = true := by
  cases s <;> simp_all [noBor]
theorem noBor_append {l l' : List Sc} (h : noBor (l ++ l') = true) : noBor l = true ∧ noBor l' = true := by
  induction l with
  | nil => exact ⟨rfl, h⟩
  | cons s l ih =>
    obtain ⟨h1, h2⟩ := noBor_cons (s := s) (l := l ++ l') h
    obtain ⟨h3, h4⟩ := ih h2
    refine ⟨?_, h4⟩
    cases s <;> simp_all [noBor]
theorem noBor_mem {l : List Sc} (h : noBor l = true) : ∀ s ∈ l, noBor [s] = true := by
  induction l with
  | nil => intro s hs; simp at hs
  | cons x l ih =>
    intro s hs
    obtain ⟨h1, h2⟩ := noBor_cons h
    rcases List.mem_cons.1 hs with rfl | hs
    · exact h1
    · exact ih h2 s hs
theorem noBor_all {w : World} {ρ : Rho} {ok : Okp} : ∀ {us : List Value} {l : List Sc}, All2 (SRel w ρ ok) us l → noBor l = true → All2 (SRel w ρ fun _ b => ok false b) us l
  | [], [], _, _ => trivial
  | u :: us, s :: l, h, hn => ⟨noBor_one h.1 (noBor_cons hn).1, noBor_all h.2 (noBor_cons hn).2⟩
  | [], _ :: _, h, _ => h.elim
  | _ :: _, [], h, _ => h.elim
theorem noBor_av {w : World} {ρ : Rho} {ok : Okp} {v : Value} {a : AV} (h : VRel w ρ ok v a) (hn : noBor a.all = true) : VRel w ρ (fun _ b => ok false b) v a := by
  cases h with
  | any v => exact .any v
  | one v s h => exact .one v s (noBor_one h hn)
  | agg vs l h => exact .agg vs l (noBor_all h hn)
  | tup vs l h =>
    refine .tup vs l ?_
    simp only [AV.all] at hn
    generalize vs.toList = us at h ⊢
    clear vs
    induction l generalizing us with
    | nil => cases us with
      | nil => trivial
      | cons _ _ => exact h.elim
    | cons p l ih => cases us with
      | nil => exact h.elim
      | cons u us =>
        rw [List.flatMap_cons] at hn
        obtain ⟨h1, h2⟩ := noBor_append hn
        refine ⟨?_, ih h2 us h.2⟩
        rcases h.1 with ⟨q1, us', q2, q3⟩ | ⟨q1, s, q2, q3⟩
        · exact .inl ⟨q1, us', q2, noBor_all q3 h1⟩
        · exact .inr ⟨q1, s, q2, noBor_one q3 (by rw [q2] at h1; exact h1)⟩

theorem obs_noBor {obs : List Ob} (h : obs.all noBorOb = true) {id off : Nat} {s : Sc} (hg : (initMem 0 obs).get (id, off) = some (.cell s)) : noBor [s] = true := by
  have h0 := get_initMem obs 0 id off
  rw [Nat.zero_add, hg] at h0
  cases ho : obs[id]? with
  | none => rw [ho] at h0; cases h0
  | some ob =>
    rw [ho] at h0
    have hb := List.all_eq_true.1 h ob (List.mem_of_getElem? ho)
    cases ob with
    | box l =>
      simp only [obGet] at h0
      cases hl : l[off]? with
      | none => rw [hl] at h0; cases h0
      | some s' =>
        rw [hl] at h0
        have : s' = s := by simpa using h0.symm
        subst this
        exact noBor_mem hb _ (List.mem_of_getElem? hl)
    | rows E xs => cases off <;> cases h0
    | dead => cases h0

/-- A function's body does what the machine tells. -/
theorem evalF_ok (hE : EnvOK P e) (hm : P.follows .mixedOrders = true) {f : FuncId} {fn : Func} (hf : P.funcs[f]? = some fn) {keep : Code → Keep} {n : Nat} {w : World} {ρ : Rho} {ok : Okp} {vs : List Value} {as : List AV} {obs : List Ob} {r : AV} {os : List Ob}
    (hH : HRel w ρ ok (initMem 0 obs).get) (hρ : ∀ i, obs.length ≤ i → ρ i = none) (hv : All2 (VRel w ρ ok) vs as) (hs : (evalF e fn keep n as obs).den = some (r, os)) :
    Calls P f vs.toArray w fun e w' => ∃ v ρ' okf, e = .returned v ∧ CallPost w ρ ok obs w' ρ' okf os ∧ VRel w' ρ' (fun _ b => okf b) v r := by
  unfold evalF at hs
  split at hs
  · cases hs
  · rename_i c hb
    rw [Tr.den_bind] at hs
    obtain ⟨s', hrun, hs⟩ := Option.bind_eq_some_iff.1 hs
    let C : Ctx := ⟨w, handedBlocks obs ρ, ok⟩
    have hC : CRel C w ρ ok (initMem 0 obs).get := { toHRel := hH, own := fun l b hl => .inr ⟨l, hl⟩, ok0 := fun _ _ hb => hb, okn := fun b hb => .inl hb, fr := ⟨rfl, rfl, rfl, Nat.le_refl _, fun _ _ _ => rfl⟩ }
    have hlen := hv.length
    have hT : TRel w ρ ok { tmps := vs.toArray ++ Array.replicate (fn.ntmps - vs.toArray.size) undef, defers := [] } (initTmps fn.ntmps as) := by
      refine ⟨rfl, by simp [initTmps, hlen], fun t => ?_⟩
      unfold initTmps
      simp only [Array.getD_eq_getD_getElem?, List.getD_eq_getElem?_getD]
      by_cases ht : t < vs.length
      · rw [Array.getElem?_append_left (by simpa using ht), List.getElem?_append_left (by omega)]
        obtain ⟨a, ha, hr⟩ := hv.get (j := t) (b := as[t]'(by omega)) (by simp)
        have ha' : vs[t]? = some a := ha
        rw [List.getElem?_toArray, ha', List.getElem?_eq_getElem (by omega)]
        exact hr
      · rw [List.getElem?_append_right (by omega)]
        have : ((List.replicate (fn.ntmps - as.length) (AV.one .undef))[t - as.length]?).getD (.one .undef) = .one .undef := by
          rw [List.getElem?_replicate]
          split <;> rfl
        rw [this]
        exact .any _
    have hS : SRelS C w ρ ok { tmps := vs.toArray ++ Array.replicate (fn.ntmps - vs.toArray.size) undef, defers := [] } ⟨initTmps fn.ntmps as, initMem 0 obs, obs.length⟩ := ⟨hC, hT, hρ⟩
    intro cs
    let b : Go.Frame := { (default : Go.Frame) with fn := f, kind := .normal }
    have henter : Frame.enter P f vs.toArray .normal = b.at { tmps := vs.toArray ++ Array.replicate (fn.ntmps - vs.toArray.size) undef, defers := [] } [.code c] := by
      simp [Frame.enter, Go.Frame.at, hf, hb, b]
    have hA := runM_at (b := b) (cs := cs) (k := obs.length) hE hm n _ _ _ hrun hS (Nat.le_refl _)
    obtain ⟨a1, w1, ρ1, ok1, ⟨todo, hst⟩, h1, h2⟩ := hA
    unfold finish at hs
    split at hs
    · cases hs
    · rename_i v hres
      dsimp only at hs
      generalize hids : outIds s'.mem.get obs.length v.all = ids at hs
      have hnd : ids.Nodup := hids ▸ outIds_nodup _ _ _
      have hpre : ∀ i, i < obs.length → ids[i]? = some i := fun i hi => hids ▸ outIds_get _ _ _ hi
      split at hs
      case isFalse => cases hs
      rename_i hnb
      obtain ⟨nb1, nb2⟩ := hnb
      cases hs
      obtain ⟨cv, hcv, hvr⟩ := results_rel hE h1 hres
      obtain ⟨c1, c2, c3⟩ := h1.c.renew hnd
      have hst' : Steps P (lone (Frame.enter P f vs.toArray .normal) cs w) (lone { b.at a1 todo with mode := .returning } cs w1) := by
        rw [henter]; exact hst
      refine ⟨.returned cv, w1, _, ⟨cv, renRho ids ρ1, fun b => ok1 false b, rfl, ?_, (noBor_av hvr nb1).ren c2 (fun _ _ hb => hb)⟩, hst', rfl, rfl, h1.t.defers, rfl, fn, hf, hcv⟩
      have hh := c1.toHRel
      refine { heap := ?_, rho := fun i v0 hi hv0 => by rw [renRho_get (hpre i hi), h2 i hi, hv0], okn := fun b hb => c1.okn b hb, own := fun l b hl => c1.own l b hl, fr := c1.fr }
      refine { cells := fun id off s hc => ?_, rows := fun id off E xs hc => ?_, dist := hh.dist, oks := fun x b hb => hh.oks false b hb, cont := hh.cont }
      · obtain ⟨b, v, q1, q2, q3, q4⟩ := hh.cells id off s hc
        exact ⟨b, v, q1, q2, q3, noBor_one q4 (obs_noBor nb2 hc)⟩
      · obtain ⟨q1, v, q2, A, cap, q3, q4, q5⟩ := hh.rows id off E xs hc
        refine ⟨q1, v, q2, A, cap, q3, q4, q5.imp (fun q => q) fun ⟨b, T, cur, r1, r2, r3, r4⟩ => ⟨b, T, cur, r1, r2, r3, All2.of_get r4.length fun j a s ha hs => ?_⟩⟩
        obtain ⟨a', ha', hr⟩ := r4.get hs
        rw [ha] at ha'
        cases ha'
        refine noBor_one hr ?_
        obtain ⟨x, _, hx⟩ := List.mem_flatMap.1 (List.mem_of_getElem? hs)
        exact enc_noBor E x s hx
end
end Go.Proofs.Ytipfipnhgpbceaa.Sx
