/- Plain theorems and definitions for the claim, put together out of several texts. -/
import Derived.Test.YtipfipnhgpbceaaXa
/- The symbolic machine: a call does what its law says (plain theorems). -/

set_option linter.unusedVariables false
set_option linter.unusedSimpArgs false
namespace Go.Proofs.Ytipfipnhgpbceaa.Sx
open Go

section
variable {C : Ctx} {w : World} {ρ : Rho} {ok : Okp} {g gv : Get} {fresh : Nat} {P : Program}

theorem idsOf_rho {us : List Value} {l : List Sc} (h : All2 (SRel w ρ ok) us l) {id : Nat} (hid : id ∈ idsOf l) : ∃ v, ρ id = some v := by
  obtain ⟨j, hj⟩ := List.getElem?_of_mem (idsOf_mem hid)
  obtain ⟨v, _, hr⟩ := h.get hj
  cases hr with
  | row _ A n cap hh => exact ⟨_, hh⟩
theorem boxAt_mem (h : HRel w ρ ok g) {id : Nat} {s : Sc} (hs : s ∈ boxAt g id 64 0) : ∃ v, SRel w ρ ok v s := by
  obtain ⟨o, ho⟩ := List.getElem?_of_mem hs
  have := h.boxAt id o
  rw [ho] at this
  simp only [Option.map_some] at this
  split at this
  · rename_i s' hc
    cases this
    obtain ⟨b, v, _, _, _, hr⟩ := h.cells _ _ _ hc
    exact ⟨v, hr⟩
  · cases this
theorem tids_rho (h : HRel w ρ ok g) : ∀ {vs : List Value} {as : List AV}, All2 (VRel w ρ ok) vs as → ∀ id ∈ tids g as, ∃ v, ρ id = some v
  | [], [], _, id, hid => by simp [tids] at hid
  | v :: vs, a :: as, hh, id, hid => by
    have ih := tids_rho h hh.2
    have h1 := hh.1
    cases a with
    | one s =>
      cases s with
      | ptr i off =>
        simp only [tids] at hid
        rcases List.mem_append.1 hid with hid | hid
        · rcases List.mem_cons.1 hid with rfl | hid
          · cases h1 with
            | one _ _ h1 => cases h1 with
              | ptr _ _ b hb => exact ⟨_, hb⟩
          · obtain ⟨v', hv'⟩ := boxAt_mem h (idsOf_mem hid)
            cases hv' with
            | row _ A n cap hh => exact ⟨_, hh⟩
        · exact ih id hid
      | row i =>
        simp only [tids] at hid
        rcases List.mem_cons.1 hid with rfl | hid
        · cases h1 with
          | one _ _ h1 => cases h1 with
            | row _ A n cap hh => exact ⟨_, hh⟩
        · exact ih id hid
      | _ => simp only [tids] at hid; exact ih id hid
    | agg l =>
      simp only [tids] at hid
      rcases List.mem_append.1 hid with hid | hid
      · cases h1 with
        | agg vs l h1 => exact idsOf_rho h1 hid
      · exact ih id hid
    | tup l => simp only [tids] at hid; exact ih id hid
  | [], _ :: _, hh, _, _ => hh.elim
  | _ :: _, [], hh, _, _ => hh.elim

/-! ### What is lent -/
def Lb (g : Get) (ρ : Rho) (ids : List Nat) (b : Nat) : Prop := ∃ id E xs v, g (id, 0) = some (.rows E xs) ∧ ρ id = some v ∧ blkOf v = some b ∧ id ∉ ids
def okc (g : Get) (ρ : Rho) (ok : Okp) (ids : List Nat) : Okp := fun x b => ok x b ∨ (x = true ∧ Lb g ρ ids b)

theorem lend_row (h : HRel w ρ ok g) {ids : List Nat} {id : Nat} {E : K} {xs : List (D E)} (hg : g (id, 0) = some (.rows E xs)) (hid : id ∉ ids) {v : Value} (hv : SRel w ρ ok v (.row id)) :
    SRel w ρ (okc g ρ ok ids) v (.vec true E xs) := by
  obtain ⟨A, cap, rfl, hr, hcap, hA⟩ := row_rel h hg (.one _ _ hv)
  rcases hA with ⟨rfl, rfl⟩ | ⟨b, T, cur, rfl, hh, hcs, hall⟩
  · have : xs = [] := List.length_eq_zero_iff.1 (by omega)
    subst this
    exact .vec0 true E _ _
  · have hle : xs.length * esize E ≤ cur.size := by rw [hcs]; exact Nat.mul_le_mul_right _ hcap
    refine .vec true E xs b 0 cap (fun k => cur.getD k undef) hcap (.inr ⟨rfl, id, E, xs, _, hg, hr, rfl, hid⟩) (fun k hk => ?_) (fun k s hs => ?_)
    · have hk' : k < cur.size := by omega
      simp [World.cell?, hh, hk']
    · obtain ⟨a, ha, hr'⟩ := hall.get hs
      have hka : k < xs.length * esize E := by
        have := (List.getElem?_eq_some_iff.1 hs).1
        rwa [flat_len] at this
      have : cur.getD k undef = a := by
        rw [List.getElem?_take_of_lt hka] at ha
        rw [Array.getD_eq_getD_getElem?, ← Array.getElem?_toList, ha]
        rfl
      rw [this]
      exact SRel.mono ⟨fun _ _ _ => rfl, fun _ _ q => .inl q, fun _ _ q => q⟩ hr'

theorem okc_mono {ids : List Nat} {v : Value} {s : Sc} (h : SRel w ρ ok v s) : SRel w ρ (okc g ρ ok ids) v s :=
  SRel.mono ⟨fun _ _ _ => rfl, fun _ _ h => .inl h, fun _ _ h => h⟩ h
theorem lendOne_rel (h : HRel w ρ ok g) {ids : List Nat} {wr : Bool} {s : Sc} (hid : ∀ id, s = .row id → wr = false → id ∉ ids) {v : Value} (hv : SRel w ρ ok v s) : SRel w ρ (okc g ρ ok ids) v (lendOne wr g s) := by
  cases s with
  | row id =>
    simp only [lendOne]
    split
    · exact okc_mono hv
    · rename_i hw
      split
      · rename_i E xs hg
        exact lend_row h hg (hid id rfl (by simpa using hw)) hv
      · exact .undef _ hv.one
  | _ => exact okc_mono hv
theorem lend_rel (h : HRel w ρ ok g) {ids : List Nat} {wr : Bool} : ∀ {vs : List Value} {as : List AV}, All2 (VRel w ρ ok) vs as → (∀ id ∈ lentIds wr as, id ∉ ids) → All2 (VRel w ρ (okc g ρ ok ids)) vs (as.map (lend wr g))
  | [], [], _, _ => trivial
  | v :: vs, a :: as, hh, hl => by
    refine ⟨?_, lend_rel h hh.2 fun id hid => hl id ?_⟩
    · have h1 := hh.1
      cases a with
      | one s =>
        cases h1 with
        | any v => exact .any v
        | one v s h1 =>
          refine .one _ _ (lendOne_rel h (fun id hs hw => hl id ?_) h1)
          subst hs hw
          simp [lentIds]
      | agg l =>
        cases h1 with
        | agg vs l h1 =>
          refine .agg vs _ ?_
          have : ∀ s ∈ l, ∀ v, SRel w ρ ok v s → SRel w ρ (okc g ρ ok ids) v (lendOne false g s) := fun s hs v hv =>
            lendOne_rel h (fun id he _ => hl id (by subst he; simp only [lentIds]; exact List.mem_append_left _ (idsOf_of_mem hs))) hv
          clear hl hh
          generalize vs.toList = us at h1
          clear vs
          induction l generalizing us with
          | nil => cases us with
            | nil => trivial
            | cons _ _ => exact h1.elim
          | cons s l ih => cases us with
            | nil => exact h1.elim
            | cons u us => exact ⟨this s (by simp) u h1.1, ih (fun s hs => this s (by simp [hs])) us h1.2⟩
      | tup l =>
        cases h1 with
        | tup vs l h1 => exact (VRel.tup vs l h1).mono ⟨fun _ _ _ => rfl, fun _ _ h => .inl h, fun _ _ h => h⟩
    · cases a with
      | one s => cases s <;> simp only [lentIds] <;> first | exact hid | (split <;> first | exact hid | exact List.mem_cons_of_mem _ hid)
      | agg l => simp only [lentIds]; exact List.mem_append_right _ hid
      | tup l => simp only [lentIds]; exact hid
  | [], _ :: _, hh, _ => hh.elim
  | _ :: _, [], hh, _ => hh.elim

/-! ### Memory behind a call -/
theorem updG_other : ∀ (u : Upd) (g : Get) (l : Loc), (∀ p ∈ u, p.1 ≠ l) → updG g u l = g l
  | [], _, _, _ => rfl
  | (l', c) :: u, g, l, h => by
    rw [updG, updG_other u _ l (fun p hp => h p (by simp [hp])), upd1_ne _ _ (h (l', c) (by simp))]
theorem updG_putCells (id : Nat) : ∀ (l : List Sc) (off : Nat) (g : Get) (o : Nat), updG g (putCells id off l) (id, o) = if off ≤ o ∧ o < off + l.length then (l[o - off]?).map MC.cell else g (id, o)
  | [], off, g, o => by simp [putCells, updG]; omega
  | s :: l, off, g, o => by
    rw [putCells, updG, updG_putCells id l (off + 1)]
    by_cases h : o = off
    · subst h
      rw [if_neg (by omega), if_pos (by simp), upd1_same]; simp
    · by_cases h2 : off + 1 ≤ o ∧ o < off + 1 + l.length
      · rw [if_pos h2, if_pos (by simp; omega), show o - off = (o - (off + 1)) + 1 by omega]
        simp
      · rw [if_neg h2, if_neg (by simp; omega), upd1_ne]
        intro e; exact h (congrArg Prod.snd e).symm
theorem backOb_ids (f : Nat → Option Nat) (id : Nat) (o : Ob) : ∀ p ∈ backOb f id o, p.1.1 = id := by
  intro p hp
  cases o with
  | box l => exact putCells_ids id _ 0 p hp
  | rows E xs => simp [backOb] at hp; subst hp; rfl
  | keys xs => simp [backOb] at hp; subst hp; rfl
  | dead => simp [backOb] at hp; subst hp; rfl
theorem backObs_ids (f : Nat → Option Nat) : ∀ (ids : List Nat) (os : List Ob), ∀ p ∈ backObs f ids os, p.1.1 ∈ ids
  | [], _, p, hp => by simp [backObs] at hp
  | id :: r, [], p, hp => by simp [backObs] at hp
  | id :: r, o :: os, p, hp => by
    simp only [backObs] at hp
    rcases List.mem_append.1 hp with h | h
    · rw [backOb_ids f id o p h]; exact List.mem_cons_self ..
    · exact List.mem_cons_of_mem _ (backObs_ids f r os p h)
/-- What stood there is written over. -/
def Fits (g : Get) (id : Nat) : Ob → Prop
  | .box l => ∀ o, l.length ≤ o → g (id, o) = none
  | _ => ∀ o, 0 < o → g (id, o) = none
theorem backOb_get (f : Nat → Option Nat) (g : Get) (id : Nat) (ob : Ob) (h : Fits g id ob) (o : Nat) : updG g (backOb f id ob) (id, o) = (obGet ob o).map (renMC f) := by
  cases ob with
  | box l =>
    rw [backOb, updG_putCells]
    simp only [List.length_map, Nat.zero_le, true_and, Nat.zero_add, Nat.sub_zero, List.getElem?_map, obGet, Option.map_map]
    split
    · rfl
    · rename_i hh
      rw [h o (by omega), List.getElem?_eq_none (by omega)]; rfl
  | rows E xs =>
    cases o with
    | zero => simp [backOb, updG, upd1, obGet, renMC]
    | succ o => simp [backOb, updG, upd1, obGet, h (o + 1) (by omega)]
  | keys xs =>
    cases o with
    | zero => simp [backOb, updG, upd1, obGet, renMC]
    | succ o => simp [backOb, updG, upd1, obGet, h (o + 1) (by omega)]
  | dead =>
    cases o with
    | zero => simp [backOb, updG, upd1, obGet]
    | succ o => simp [backOb, updG, upd1, obGet, h (o + 1) (by omega)]
theorem Fits.congr {g g' : Get} {id : Nat} {ob : Ob} (h : Fits g id ob) (he : ∀ o, g' (id, o) = g (id, o)) : Fits g' id ob := by
  cases ob <;> (intro o ho; rw [he]; exact h o ho)
theorem backObs_get (f : Nat → Option Nat) : ∀ (ids : List Nat) (os : List Ob) (g : Get), ids.Nodup → (∀ (j : Nat) (id : Nat) (ob : Ob), ids[j]? = some id → os[j]? = some ob → Fits g id ob) →
    ∀ (j : Nat) (id : Nat) (ob : Ob) (o : Nat), ids[j]? = some id → os[j]? = some ob → updG g (backObs f ids os) (id, o) = (obGet ob o).map (renMC f)
  | [], _, _, _, _, j, id, ob, o, h1, _ => by simp at h1
  | x :: r, [], _, _, _, j, id, ob, o, _, h2 => by simp at h2
  | x :: r, y :: os, g, hn, hf, 0, id, ob, o, h1, h2 => by
    simp at h1 h2
    subst h1 h2
    rw [backObs, updG_append, updG_other _ _ _ (fun p hp e => ?_), backOb_get f g x y (hf 0 x y (by simp) (by simp))]
    have := backObs_ids f r os p hp
    rw [e] at this
    exact (List.nodup_cons.1 hn).1 this
  | x :: r, y :: os, g, hn, hf, j + 1, id, ob, o, h1, h2 => by
    rw [backObs, updG_append]
    have hn' := List.nodup_cons.1 hn
    refine backObs_get f r os _ hn'.2 (fun j' id' ob' h1' h2' => ?_) j id ob o (by simpa using h1) (by simpa using h2)
    refine (hf (j' + 1) id' ob' (by simpa using h1') (by simpa using h2')).congr fun o' => updG_other _ _ _ fun p hp e => ?_
    have := backOb_ids f x y p hp
    rw [e] at this
    simp at this
    exact hn'.1 (this ▸ List.mem_of_getElem? h1')

theorem sameObs_get : ∀ {l l' : List Ob}, sameObs l l' = true → l.length ≤ l'.length ∧ ∀ (j : Nat) (a b : Ob), l[j]? = some a → l'[j]? = some b → sameOb a b = true
  | [], l', _ => by simp
  | a :: l, b :: l', h => by
    simp only [sameObs, Bool.and_eq_true] at h
    obtain ⟨h1, h2⟩ := sameObs_get h.2
    refine ⟨by simpa using h1, fun j x y hx hy => ?_⟩
    cases j with
    | zero => simp at hx hy; subst hx hy; exact h.1
    | succ j => exact h2 j x y (by simpa using hx) (by simpa using hy)
  | a :: l, [], h => by simp [sameObs] at h
theorem rangeFrom_get : ∀ (n a j : Nat), (rangeFrom a n)[j]? = if j < n then some (a + j) else none
  | 0, a, j => by simp [rangeFrom]
  | n + 1, a, 0 => by simp [rangeFrom]
  | n + 1, a, j + 1 => by simp only [rangeFrom, List.getElem?_cons_succ, rangeFrom_get n (a + 1) j, Nat.add_lt_add_iff_right]; split <;> simp; omega
theorem rangeFrom_len : ∀ (n a : Nat), (rangeFrom a n).length = n
  | 0, a => rfl
  | n + 1, a => by simp [rangeFrom, rangeFrom_len n]
theorem rangeFrom_mem {n a x : Nat} : x ∈ rangeFrom a n ↔ a ≤ x ∧ x < a + n := by
  constructor
  · intro h
    obtain ⟨j, hj⟩ := List.getElem?_of_mem h
    rw [rangeFrom_get] at hj
    split at hj <;> simp at hj; omega
  · intro h
    refine List.mem_of_getElem? (i := x - a) ?_
    rw [rangeFrom_get, if_pos (by omega)]
    congr 1; omega
theorem rangeFrom_nodup : ∀ (n a : Nat), (rangeFrom a n).Nodup
  | 0, _ => by simp [rangeFrom]
  | n + 1, a => by
    rw [rangeFrom, List.nodup_cons]
    exact ⟨fun h => by have := rangeFrom_mem.1 h; omega, rangeFrom_nodup n (a + 1)⟩

/-! ### The call -/
theorem callRel {sp : Spec} {f : FuncId} (h : CRel C w ρ ok g) (hf : ∀ id, fresh ≤ id → id < fresh + stride → ρ id = none) (hsp : SpecOK P f sp) {e : Env} (he : e.fn f = some sp)
    {vs : List Value} {as : List AV} (hv : All2 (VRel w ρ ok) vs as) {v : AV} {u : Upd} (hs : (doCall e f as g fresh).den = some (v, u)) :
    Calls P f vs.toArray w fun e w' => ∃ cv, e = .returned cv ∧ ∃ ρ' ok', CRel C w' ρ' ok' (updG g u) ∧ Ext w ρ ok w' ρ' ok' ∧ (∀ id, (id < fresh ∨ fresh + stride ≤ id) → ρ' id = ρ id) ∧ VRel w' ρ' ok' cv v := by
  unfold doCall at hs
  rw [he] at hs
  dsimp only at hs
  generalize hids : handed sp.wr g [] as = ids at hs
  have hnd : ids.Nodup := hids ▸ handed_nodup _ _ _ (by simp)
  have hidr : ∀ id ∈ ids, ∃ v, ρ id = some v := fun id hid => by
    subst hids
    rcases handed_sub sp.wr as [] id hid with h' | h'
    · simp at h'
    · exact tids_rho h.toHRel hv id h'
  generalize hto : (fun id => findAt id 0 ids) = to at hs
  have hto1 : ∀ i id : Nat, ids[i]? = some id → to id = some i := fun i id hh => by subst hto; simpa using findAt_get (i := 0) hnd hh
  have hto2 : ∀ id i : Nat, to id = some i → ids[i]? = some id := fun id i hh => by subst hto; simpa using (findAt_spec hh).2
  generalize hobs : ids.map (obAt g to) = obs at hs
  have hobl : obs.length = ids.length := by subst hobs; simp
  split at hs
  · cases hs
  rename_i hlent
  have hlent' : ∀ id ∈ lentIds sp.wr as, id ∉ ids := fun id hid hc => by
    apply hlent
    rw [List.any_eq_true]
    exact ⟨id, hid, by simpa using hc⟩
  rw [Tr.den_bind] at hs
  obtain ⟨⟨r, os⟩, hrun, hs⟩ := Option.bind_eq_some_iff.1 hs
  split at hs
  case isFalse => cases hs
  rename_i hchk
  obtain ⟨hc1, hc2, hc3, hc4⟩ := hchk
  dsimp only at hc1 hc2 hc3 hc4
  generalize hall : ids ++ rangeFrom fresh (os.length - ids.length) = all at hs
  generalize hback : (fun j : Nat => all[j]?) = back at hs
  cases hs
  -- the callee's view
  let ρc : Rho := fun i => match ids[i]? with | some id => ρ id | none => none
  have hρc : ∀ i id, ids[i]? = some id → ρc i = ρ id := fun i id hh => by show (match ids[i]? with | some id => ρ id | none => none) = _; rw [hh]
  have hρto : ∀ id id2 v, to id = some id2 → ρ id = some v → ρc id2 = some v := fun id id2 v h1 h2 => by rw [hρc _ _ (hto2 _ _ h1), h2]
  have hgob : ∀ id2 off c2, (initMem 0 obs).get (id2, off) = some c2 → ∃ id c, ids[id2]? = some id ∧ g (id, off) = some c ∧ c2 = renMC to c := by
    intro id2 off c2 hc
    have h0 := get_initMem obs 0 id2 off
    rw [Nat.zero_add, hc] at h0
    rw [← hobs, List.getElem?_map] at h0
    cases hid : ids[id2]? with
    | none => rw [hid] at h0; simp at h0
    | some id =>
      rw [hid] at h0
      simp only [Option.map_some] at h0
      rw [obAt_get h.toHRel] at h0
      cases hgc : g (id, off) with
      | none => rw [hgc] at h0; cases h0
      | some c => rw [hgc] at h0; exact ⟨id, c, rfl, hgc, by cases h0; rfl⟩
  have hgob' : ∀ id2 id off c, ids[id2]? = some id → g (id, off) = some c → (initMem 0 obs).get (id2, off) = some (renMC to c) := by
    intro id2 id off c hid hc
    have h0 := get_initMem obs 0 id2 off
    rw [Nat.zero_add] at h0
    rw [h0, ← hobs, List.getElem?_map, hid]
    simp only [Option.map_some]
    rw [obAt_get h.toHRel, hc]; rfl
  have hlive : ∀ {l : Loc} {b : Nat}, LiveAt (initMem 0 obs).get ρc l b → ∃ id, ids[l.1]? = some id ∧ LiveAt g ρ (id, l.2) b := fun {l b} hl =>
    h.toHRel.trans_live (f := to) (inv := fun i => ids[i]?) hto1 hρto hgob hl
  have hH : HRel w ρc (okc g ρ ok ids) (initMem 0 obs).get := by
    refine h.toHRel.trans (f := to) (inv := fun i => ids[i]?) hto1 hρto hgob (fun id2 id off s hi _ hc => ⟨_, hgob' id2 id off _ hi hc⟩) (fun x b hb => .inl hb) (fun x b hb => ?_)
    rcases hb with hb | ⟨_, id, E, xs, v, a1, a2, a3, a4⟩
    · exact ⟨(h.oks x b hb).1, fun l hl => by obtain ⟨id, _, h2⟩ := hlive hl; exact (h.oks x b hb).2 _ h2⟩
    · have hl0 : LiveAt g ρ (id, 0) b := ⟨⟨_, a1⟩, v, a2, a3⟩
      refine ⟨h.live_lt hl0, fun l hl => ?_⟩
      obtain ⟨id', b1, b2⟩ := hlive hl
      have : id = id' := h.dist _ _ _ hl0 b2
      subst this
      exact a4 (List.mem_of_getElem? b1)
  have hA : All2 (VRel w ρc (okc g ρ ok ids)) vs ((as.map (lend sp.wr g)).map (AV.ren to)) :=
    All2.mapR (fun a b q => q.ren hρto (fun _ _ hb => hb)) (lend_rel h.toHRel hv hlent')
  have hcall := hsp w ρc (okc g ρ ok ids) vs _ obs r os hH (fun i hi => by
    show (match ids[i]? with | some id => ρ id | none => none) = none
    rw [List.getElem?_eq_none (by omega)]) hA (by rw [List.map_map]; exact hrun)
  refine hcall.mono ?_
  rintro e w' ⟨cv, ρ', okf, rfl, hcp, hrv⟩
  refine ⟨cv, rfl, ?_⟩
  -- handed blocks
  have hhand : ∀ {b : Nat}, handedBlocks obs ρc b → ∃ id off, id ∈ ids ∧ LiveAt g ρ (id, off) b := by
    rintro b ⟨l, hl⟩
    obtain ⟨id, h1, h2⟩ := hlive hl
    exact ⟨id, l.2, List.mem_of_getElem? h1, h2⟩
  obtain ⟨hosl, hsame⟩ := sameObs_get hc2
  have hlen : ids.length ≤ os.length := by omega
  have halll : all.length = os.length := by rw [← hall, List.length_append, rangeFrom_len]; omega
  have hfn : ∀ x ∈ rangeFrom fresh (os.length - ids.length), ρ x = none := fun x hx => by
    have := rangeFrom_mem.1 hx
    exact hf x (by omega) (by have : stride = 16 := rfl; omega)
  have hndall : all.Nodup := by
    rw [← hall, List.nodup_append]
    refine ⟨hnd, rangeFrom_nodup _ _, fun a ha b hb => ?_⟩
    rintro rfl
    obtain ⟨v, hv⟩ := hidr a ha
    rw [hfn a hb] at hv; cases hv
  let ρ2 : Rho := fun id => if fresh ≤ id ∧ id < fresh + (os.length - ids.length) then ρ' (ids.length + (id - fresh)) else ρ id
  have hall1 : ∀ j : Nat, j < ids.length → all[j]? = ids[j]? := fun j hj => by rw [← hall, List.getElem?_append_left hj]
  have hall2 : ∀ j : Nat, ids.length ≤ j → j < os.length → all[j]? = some (fresh + (j - ids.length)) := fun j hj hj2 => by
    rw [← hall, List.getElem?_append_right hj, rangeFrom_get, if_pos (by omega)]
  have hρ2 : ∀ (j id : Nat), all[j]? = some id → ∀ v, ρ' j = some v → ρ2 id = some v := by
    intro j id hj v hv
    by_cases hjl : j < ids.length
    · rw [hall1 j hjl] at hj
      obtain ⟨v0, hv0⟩ := hidr id (List.mem_of_getElem? hj)
      have hr0 := hcp.rho j v0 (by omega) (by rw [hρc j id hj, hv0])
      rw [hv] at hr0
      cases hr0
      show (if _ then _ else _) = _
      rw [if_neg, hv0]
      intro hc
      have := hf id hc.1 (by have : stride = 16 := rfl; omega)
      rw [hv0] at this; cases this
    · have hj2 : j < os.length := by
        have := (List.getElem?_eq_some_iff.1 hj).1
        omega
      rw [hall2 j (by omega) hj2] at hj
      cases hj
      show (if _ then _ else _) = _
      rw [if_pos (by omega), show ids.length + (fresh + (j - ids.length) - fresh) = j by omega, hv]
  have hρ2' : ∀ id, (id < fresh ∨ fresh + stride ≤ id) → ρ2 id = ρ id := fun id hid => by
    show (if _ then _ else _) = _
    rw [if_neg]
    have : stride = 16 := rfl
    omega
  have hρe : ∀ id v, ρ id = some v → ρ2 id = some v := fun id v hid => by
    show (if _ then _ else _) = _
    rw [if_neg, hid]
    intro hc
    have := hf id hc.1 (by have : stride = 16 := rfl; omega)
    rw [hid] at this; cases this
  have hρo : ∀ id, id ∉ all → ρ2 id = ρ id := fun id hid => by
    show (if _ then _ else _) = _
    rw [if_neg]
    intro hc
    exact hid (by rw [← hall]; exact List.mem_append_right _ (rangeFrom_mem.2 hc))
  -- memory
  have hg1 : ∀ (j id : Nat) (ob : Ob), all[j]? = some id → os[j]? = some ob → Fits g id ob := by
    intro j id ob hj hob
    by_cases hjl : j < ids.length
    · have hj' := hj
      rw [hall1 j hjl] at hj'
      have hsm := hsame j (obAt g to id) ob (by rw [← hobs, List.getElem?_map, hj']; rfl) hob
      have hget := fun o => obAt_get h.toHRel to id o
      have hnone : ∀ o, obGet (obAt g to id) o = none → g (id, o) = none := fun o ho => by
        rw [hget o] at ho
        cases hgc : g (id, o) with
        | none => rfl
        | some c => rw [hgc] at ho; cases ho
      cases hob0 : obAt g to id with
      | box l =>
        rw [hob0] at hsm hnone
        cases ob with
        | box l' =>
          simp only [sameOb, beq_iff_eq] at hsm
          intro o ho
          exact hnone o (by simp only [obGet]; rw [List.getElem?_eq_none (by omega)]; rfl)
        | rows => cases hsm
        | keys => cases hsm
        | dead => cases hsm
      | rows E xs =>
        rw [hob0] at hsm hnone
        have : ∀ o, 0 < o → g (id, o) = none := fun o ho => hnone o (by cases o with | zero => omega | succ o => rfl)
        cases ob with
        | box l' => cases hsm
        | rows => exact this
        | keys => exact this
        | dead => exact this
      | keys xs =>
        rw [hob0] at hsm hnone
        have : ∀ o, 0 < o → g (id, o) = none := fun o ho => hnone o (by cases o with | zero => omega | succ o => rfl)
        cases ob with
        | box l' => cases hsm
        | rows => exact this
        | keys => exact this
        | dead => exact this
      | dead =>
        rw [hob0] at hsm hnone
        have : ∀ o, 0 < o → g (id, o) = none := fun o ho => hnone o rfl
        cases ob with
        | box l' => cases hsm
        | rows => exact this
        | keys => exact this
        | dead => exact this
    · have hj2 : j < os.length := by
        have := (List.getElem?_eq_some_iff.1 hj).1
        omega
      rw [hall2 j (by omega) hj2] at hj
      have : ∀ o, g (id, o) = none := fun o => by
        cases hj
        exact h.toHRel.fresh (hf _ (by omega) (by have : stride = 16 := rfl; omega)) o
      cases ob <;> (intro o _; exact this o)
  have hg2 : ∀ (j id o : Nat), all[j]? = some id → updG g (backObs back all os) (id, o) = ((initMem 0 os).get (j, o)).map (renMC back) := by
    intro j id o hj
    have hjo : j < os.length := by have := (List.getElem?_eq_some_iff.1 hj).1; omega
    obtain ⟨ob, hob⟩ : ∃ ob, os[j]? = some ob := ⟨os[j], by simp [hjo]⟩
    rw [backObs_get back all os g hndall hg1 j id ob o hj hob]
    have := get_initMem os 0 j o
    rw [Nat.zero_add, hob] at this
    rw [this]
  have hg3 : ∀ id o, id ∉ all → updG g (backObs back all os) (id, o) = g (id, o) := fun id o hid =>
    updG_other _ _ _ fun p hp e => by
      have := backObs_ids back all os p hp
      rw [e] at this
      exact hid this
  have hback1 : ∀ j id v, back j = some id → ρ' j = some v → ρ2 id = some v := fun j id v h1 h2 => by subst hback; exact hρ2 j id h1 v h2
  -- liveness
  have hin : ∀ {id : Nat}, id ∈ all → ∃ j, all[j]? = some id := fun {id} hid => List.getElem?_of_mem hid
  have hL1 : ∀ {j id o b : Nat}, all[j]? = some id → LiveAt (updG g (backObs back all os)) ρ2 (id, o) b → LiveAt (initMem 0 os).get ρ' (j, o) b := by
    intro j id o b hj hl
    obtain ⟨⟨c, hc⟩, v, hv, hb⟩ := hl
    rw [hg2 j id o hj] at hc
    cases hc0 : (initMem 0 os).get (j, o) with
    | none => rw [hc0] at hc; cases hc
    | some c0 =>
      obtain ⟨v0, hv0⟩ := hcp.heap.rhoOf hc0
      have := hρ2 j id hj v0 hv0
      have hvv : v = v0 := Option.some.inj (hv.symm.trans this)
      subst hvv
      exact ⟨⟨c0, hc0⟩, v, hv0, hb⟩
  have hL2 : ∀ {id o b : Nat}, id ∉ all → LiveAt (updG g (backObs back all os)) ρ2 (id, o) b → LiveAt g ρ (id, o) b := by
    intro id o b hid hl
    obtain ⟨⟨c, hc⟩, v, hv, hb⟩ := hl
    rw [hg3 id o hid] at hc
    rw [hρo id hid] at hv
    exact ⟨⟨c, hc⟩, v, hv, hb⟩
  have hL3 : ∀ {id o b : Nat}, id ∉ all → LiveAt g ρ (id, o) b → b < w.heap.size ∧ ¬ handedBlocks obs ρc b := by
    intro id o b hid hl
    refine ⟨h.live_lt hl, fun hh => ?_⟩
    obtain ⟨id', o', a1, a2⟩ := hhand hh
    have : id = id' := h.dist _ _ _ hl a2
    subst this
    exact hid (by rw [← hall]; exact List.mem_append_left _ a1)
  have hokb : ∀ {x : Bool} {b : Nat}, ok x b → b < w.heap.size ∧ ¬ handedBlocks obs ρc b := fun {x b} hb => ⟨(h.oks x b hb).1, fun hh => by
    obtain ⟨id', o', a1, a2⟩ := hhand hh
    exact (h.oks x b hb).2 _ a2⟩
  have hfrh : ∀ {b : Nat}, b < w.heap.size → ¬ handedBlocks obs ρc b → w'.heap[b]? = w.heap[b]? := fun {b} h1 h2 => hcp.fr.heap b h1 h2
  have hokf : ∀ {b : Nat}, okf b → ok false b ∨ w.heap.size ≤ b ∨ handedBlocks obs ρc b := fun {b} hb => by
    rcases hcp.okn b hb with h1 | h1
    · rcases h1 with h1 | ⟨h1, _⟩
      · exact .inl h1
      · cases h1
    · exact .inr h1
  let ok2 : Okp := fun x b => ok x b ∨ okf b
  have hext : Ext w ρ ok w' ρ2 ok2 := ⟨fun x b hb => hfrh (hokb hb).1 (hokb hb).2, fun _ _ hb => .inl hb, hρe⟩
  have hsr : ∀ {v : Value} {s : Sc}, SRel w' ρ' (fun _ b => okf b) v s → SRel w' ρ2 ok2 v (s.ren back) := fun hh => hh.ren hback1 (fun _ _ hb => .inr hb)
  refine ⟨ρ2, ok2, ?_, hext, hρ2', ?_⟩
  · refine { cells := ?_, rows := ?_, keys := ?_, dist := ?_, oks := ?_, cont := ?_, own := ?_, ok0 := fun x b hb => .inl (h.ok0 x b hb), okn := ?_, fr := ?_ }
    · intro id off s hc
      by_cases hid : id ∈ all
      · obtain ⟨j, hj⟩ := hin hid
        rw [hg2 j id off hj] at hc
        cases hc0 : (initMem 0 os).get (j, off) with
        | none => rw [hc0] at hc; cases hc
        | some c0 =>
          rw [hc0] at hc
          cases c0 with
          | rows => cases hc
          | keys => cases hc
          | cell s0 =>
            have hs0 : s = s0.ren back := by simp [renMC] at hc; exact hc.symm
            subst hs0
            obtain ⟨b, v, a1, a2, a3, a4⟩ := hcp.heap.cells _ _ _ hc0
            exact ⟨b, v, hρ2 j id hj _ a1, a2, a3, hsr a4⟩
      · rw [hg3 id off hid] at hc
        obtain ⟨b, v, a1, a2, a3, a4⟩ := h.cells _ _ _ hc
        have hl : LiveAt g ρ (id, off) b := ⟨⟨_, hc⟩, _, a1, rfl⟩
        have hb := hfrh (hL3 hid hl).1 (hL3 hid hl).2
        exact ⟨b, v, hρe _ _ a1, by rw [World.cell?_of_block (w := w) hb]; exact a2, by simpa [World.frozen?, hb] using a3, a4.mono hext⟩
    · intro id off E xs hc
      by_cases hid : id ∈ all
      · obtain ⟨j, hj⟩ := hin hid
        rw [hg2 j id off hj] at hc
        cases hc0 : (initMem 0 os).get (j, off) with
        | none => rw [hc0] at hc; cases hc
        | some c0 =>
          rw [hc0] at hc
          cases c0 with
          | cell s0 => cases hc
          | keys => cases hc
          | rows E0 xs0 =>
            cases hc
            obtain ⟨a0, v, a1, a2⟩ := hcp.heap.rows _ _ _ _ hc0
            exact ⟨a0, v, hρ2 j id hj _ a1, a2.ren (f := back) hback1 (fun _ _ hb => .inr hb)⟩
      · rw [hg3 id off hid] at hc
        obtain ⟨a0, v, a1, a2⟩ := h.rows _ _ _ _ hc
        refine ⟨a0, v, hρe _ _ a1, ?_⟩
        obtain ⟨A, cap, b1, b2, b3⟩ := a2
        refine ⟨A, cap, b1, b2, b3.imp (fun q => q) fun ⟨b, T, cur, c1, c2, c3, c4⟩ => ⟨b, T, cur, c1, ?_, c3, c4.imp fun _ _ => SRel.mono hext⟩⟩
        have hl : LiveAt g ρ (id, off) b := ⟨⟨_, hc⟩, _, a1, by rw [b1, c1]; rfl⟩
        rw [hfrh (hL3 hid hl).1 (hL3 hid hl).2, c2]
    · intro id off xs hc
      by_cases hid : id ∈ all
      · obtain ⟨j, hj⟩ := hin hid
        rw [hg2 j id off hj] at hc
        cases hc0 : (initMem 0 os).get (j, off) with
        | none => rw [hc0] at hc; cases hc
        | some c0 =>
          rw [hc0] at hc
          cases c0 with
          | cell s0 => cases hc
          | rows => cases hc
          | keys xs0 =>
            cases hc
            obtain ⟨a0, b, a1, a2⟩ := hcp.heap.keys _ _ _ hc0
            exact ⟨a0, b, hρ2 j id hj _ a1, a2⟩
      · rw [hg3 id off hid] at hc
        obtain ⟨a0, b, a1, a2, a3⟩ := h.keys _ _ _ hc
        have hl : LiveAt g ρ (id, off) b := ⟨⟨_, hc⟩, _, a1, rfl⟩
        exact ⟨a0, b, hρe _ _ a1, by have := hcp.fr.size; dsimp only at this; omega, a3.of (hfrh (hL3 hid hl).1 (hL3 hid hl).2)⟩
    · rintro ⟨id, o⟩ ⟨id', o'⟩ b hl hl'
      show id = id'
      by_cases hid : id ∈ all
      · obtain ⟨j, hj⟩ := hin hid
        have k1 := hL1 hj hl
        by_cases hid' : id' ∈ all
        · obtain ⟨j', hj'⟩ := hin hid'
          have k2 := hL1 hj' hl'
          have : j = j' := hcp.heap.dist _ _ _ k1 k2
          subst this
          exact Option.some.inj (hj.symm.trans hj')
        · have k3 := hL3 hid' (hL2 hid' hl')
          rcases hcp.own _ _ k1 with h1 | h1
          · omega
          · exact absurd h1 k3.2
      · have k3 := hL3 hid (hL2 hid hl)
        by_cases hid' : id' ∈ all
        · obtain ⟨j', hj'⟩ := hin hid'
          rcases hcp.own _ _ (hL1 hj' hl') with h1 | h1
          · omega
          · exact absurd h1 k3.2
        · exact h.dist _ _ _ (hL2 hid hl) (hL2 hid' hl')
    · intro x b hb
      rcases hb with hb | hb
      · have k := hokb hb
        refine ⟨Nat.lt_of_lt_of_le k.1 hcp.fr.size, fun l hl => ?_⟩
        obtain ⟨id, o⟩ := l
        by_cases hid : id ∈ all
        · obtain ⟨j, hj⟩ := hin hid
          rcases hcp.own _ _ (hL1 hj hl) with h1 | h1
          · omega
          · exact k.2 h1
        · exact (h.oks x b hb).2 _ (hL2 hid hl)
      · refine ⟨(hcp.heap.oks false b hb).1, fun l hl => ?_⟩
        obtain ⟨id, o⟩ := l
        by_cases hid : id ∈ all
        · obtain ⟨j, hj⟩ := hin hid
          exact (hcp.heap.oks false b hb).2 _ (hL1 hj hl)
        · have k3 := hL3 hid (hL2 hid hl)
          rcases hokf hb with h1 | h1 | h1
          · exact (h.oks false b h1).2 _ (hL2 hid hl)
          · omega
          · exact k3.2 h1
    · intro id off s hc
      by_cases hid : id ∈ all
      · obtain ⟨j, hj⟩ := hin hid
        rw [hg2 j id off hj] at hc
        cases hc0 : (initMem 0 os).get (j, off) with
        | none => rw [hc0] at hc; cases hc
        | some c0 =>
          rw [hc0] at hc
          cases c0 with
          | rows => cases hc
          | keys => cases hc
          | cell s0 =>
            obtain ⟨a1, a2⟩ := hcp.heap.cont _ _ _ hc0
            refine ⟨a1, fun o ho => ?_⟩
            obtain ⟨s', hs'⟩ := a2 o ho
            exact ⟨_, by rw [hg2 j id o hj, hs']; rfl⟩
      · rw [hg3 id off hid] at hc
        obtain ⟨a1, a2⟩ := h.cont _ _ _ hc
        refine ⟨a1, fun o ho => ?_⟩
        obtain ⟨s', hs'⟩ := a2 o ho
        exact ⟨s', by rw [hg3 id o hid, hs']⟩
    · rintro ⟨id, o⟩ b hl
      have hsz := h.fr.size
      by_cases hid : id ∈ all
      · obtain ⟨j, hj⟩ := hin hid
        rcases hcp.own _ _ (hL1 hj hl) with h1 | h1
        · exact .inl (by omega)
        · obtain ⟨id', o', _, a2⟩ := hhand h1
          exact h.own _ _ a2
      · exact h.own _ _ (hL2 hid hl)
    · intro b hb
      have hsz := h.fr.size
      rcases hb with hb | hb
      · exact h.okn b hb
      · rcases hokf hb with h1 | h1 | h1
        · exact h.okn b h1
        · exact .inr (.inl (by omega))
        · obtain ⟨id', o', _, a2⟩ := hhand h1
          exact .inr (h.own _ _ a2)
    · have hsz := h.fr.size
      refine ⟨hcp.fr.os.trans h.fr.os, hcp.fr.tape.trans h.fr.tape, hcp.fr.output.trans h.fr.output, Nat.le_trans hsz hcp.fr.size, fun b hb hM => ?_⟩
      rw [← h.fr.heap b hb hM]
      refine hfrh (by omega) fun hh => ?_
      obtain ⟨id', o', _, a2⟩ := hhand hh
      rcases h.own _ _ a2 with h1 | h1
      · omega
      · exact hM h1
  · exact hrv.ren hback1 (fun _ _ hb => .inr hb)
end
end Go.Proofs.Ytipfipnhgpbceaa.Sx
