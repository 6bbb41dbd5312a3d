/- The symbolic machine: calls (plain theorems). -/
import Derived.Test.YtipfipnhgpbceaaSxRen
set_option linter.unusedVariables false
set_option linter.unusedSimpArgs false
namespace Go.Proofs.Ytipfipnhgpbceaa.Sx
open Go

def handedBlocks (obs : List Ob) (ρ : Rho) (b : Nat) : Prop := ∃ l, LiveAt (initMem 0 obs).get ρ l b
/-- What a call leaves: what was handed over, new memory; all else is as it was. -/
structure CallPost (w : World) (ρ : Rho) (ok : Okp) (obs : List Ob) (w' : World) (ρ' : Rho) (okf : Nat → Prop) (os : List Ob) : Prop where
  heap : HRel w' ρ' (fun _ b => okf b) (initMem 0 os).get
  rho : ∀ i v, i < obs.length → ρ i = some v → ρ' i = some v
  okn : ∀ b, okf b → ok false b ∨ w.heap.size ≤ b ∨ handedBlocks obs ρ b
  own : ∀ l b, LiveAt (initMem 0 os).get ρ' l b → w.heap.size ≤ b ∨ handedBlocks obs ρ b
  fr : Fr ⟨w, handedBlocks obs ρ, ok⟩ w'
/-- A function does what its law says. -/
def SpecOK (P : Program) (f : FuncId) (sp : Spec) : Prop :=
  ∀ (w : World) (ρ : Rho) (ok : Okp) (vs : List Value) (as : List AV) (obs : List Ob) (r : AV) (os : List Ob),
    HRel w ρ ok (initMem 0 obs).get → (∀ i, obs.length ≤ i → ρ i = none) → All2 (VRel w ρ ok) vs as → (sp.run as obs).den = some (r, os) →
    Calls P f vs.toArray w fun e w' => ∃ v ρ' okf, e = .returned v ∧ CallPost w ρ ok obs w' ρ' okf os ∧ VRel w' ρ' (fun _ b => okf b) v r
/-- A function that can be called. -/
def FnOK (P : Program) (f : FuncId) : Prop := ∃ fn, P.funcs[f]? = some fn ∧ fn.body.isNone = false ∧ (fn.name == "runtime.NumGoroutine") = false

section congr
variable {g gv : Get}
theorem boxAt_view (id : Nat) : ∀ (n m off : Nat), n < m → (∀ l ∈ boxLocs g id m off, gv l = g l) → boxAt gv id n off = boxAt g id n off
  | 0, _, _, _, _ => rfl
  | n + 1, 0, _, h, _ => by omega
  | n + 1, m + 1, off, h, hg => by
    unfold boxAt
    have h0 : gv (id, off) = g (id, off) := hg _ (by unfold boxLocs; exact List.mem_cons_self ..)
    rw [h0]
    cases hc : g (id, off) with
    | none => rfl
    | some c =>
      cases c with
      | rows E xs => rfl
      | cell s =>
        dsimp only
        rw [boxAt_view id n m (off + 1) (by omega) (fun l hl => hg l (by unfold boxLocs; rw [hc]; exact List.mem_cons_of_mem _ hl))]
theorem boxLocs_view (id : Nat) : ∀ (m off : Nat), (∀ l ∈ boxLocs g id m off, gv l = g l) → boxLocs gv id m off = boxLocs g id m off
  | 0, _, _ => rfl
  | m + 1, off, hg => by
    unfold boxLocs
    have h0 : gv (id, off) = g (id, off) := hg _ (by unfold boxLocs; exact List.mem_cons_self ..)
    rw [h0]
    cases hc : g (id, off) with
    | none => rfl
    | some c =>
      cases c with
      | rows E xs => rfl
      | cell s =>
        dsimp only
        rw [boxLocs_view id m (off + 1) (fun l hl => hg l (by unfold boxLocs; rw [hc]; exact List.mem_cons_of_mem _ hl))]

/-- What is looked at is the same. -/
def Agree (g gv : Get) (ids : List Nat) : Prop := ∀ id ∈ ids, ∀ l ∈ boxLocs g id 65 0, gv l = g l
theorem Agree.box {ids : List Nat} (h : Agree g gv ids) {id : Nat} (hi : id ∈ ids) : boxAt gv id 64 0 = boxAt g id 64 0 := boxAt_view id 64 65 0 (by omega) (h id hi)
theorem Agree.at0 {ids : List Nat} (h : Agree g gv ids) {id : Nat} (hi : id ∈ ids) : gv (id, 0) = g (id, 0) := h id hi _ (by unfold boxLocs; exact List.mem_cons_self ..)
theorem Agree.sub {ids ids' : List Nat} (h : Agree g gv ids) (hs : ∀ x ∈ ids', x ∈ ids) : Agree g gv ids' := fun id hi => h id (hs id hi)

theorem tids_view : ∀ (args : List AV), Agree g gv (tids g args) → tids gv args = tids g args
  | [], _ => rfl
  | a :: r, h => by
    cases a with
    | one s =>
      cases s with
      | ptr id off =>
        simp only [tids] at h ⊢
        rw [h.box (List.mem_append_left _ (List.mem_cons_self ..)), tids_view r (h.sub fun x hx => List.mem_append_right _ hx)]
      | row id =>
        simp only [tids] at h ⊢
        rw [tids_view r (h.sub fun x hx => List.mem_cons_of_mem _ hx)]
      | _ => simp only [tids] at h ⊢; exact tids_view r h
    | agg l =>
      simp only [tids] at h ⊢
      rw [tids_view r (h.sub fun x hx => List.mem_append_right _ hx)]
    | tup l => simp only [tids] at h ⊢; exact tids_view r h

theorem addNew_mem : ∀ (l a : List Nat) (x : Nat), x ∈ addNew a l ↔ x ∈ a ∨ x ∈ l
  | [], a, x => by simp [addNew]
  | y :: l, a, x => by
    unfold addNew
    rw [addNew_mem l]
    split
    · rename_i h
      have hy : y ∈ a := by simpa using h
      simp only [List.mem_cons]
      exact ⟨fun h => h.imp (fun q => q) .inr, fun h => by
        rcases h with h | rfl | h
        · exact .inl h
        · exact .inl hy
        · exact .inr h⟩
    · simp only [List.mem_append, List.mem_cons, List.not_mem_nil, or_false]
      exact ⟨fun h => by rcases h with (h | h) | h <;> simp [h], fun h => by rcases h with h | h | h <;> simp [h]⟩
theorem addNew_nodup : ∀ (l a : List Nat), a.Nodup → (addNew a l).Nodup
  | [], a, h => h
  | y :: l, a, h => by
    unfold addNew
    refine addNew_nodup l _ ?_
    split
    · exact h
    · rename_i hy
      rw [List.nodup_append]
      refine ⟨h, by simp, fun x hx z hz => ?_⟩
      simp at hz
      subst hz
      rintro rfl
      exact hy (by simpa using hx)

theorem handed_view (wr : Bool) : ∀ (args : List AV) (a : List Nat), Agree g gv (tids g args) → handed wr gv a args = handed wr g a args
  | [], _, _ => rfl
  | x :: r, a, h => by
    cases x with
    | one s =>
      cases s with
      | ptr id off =>
        cases off with
        | zero =>
          simp only [tids, handed] at h ⊢
          rw [h.box (List.mem_append_left _ (List.mem_cons_self ..)), handed_view wr r _ (h.sub fun x hx => List.mem_append_right _ hx)]
        | succ off =>
          simp only [tids, handed] at h ⊢
          exact handed_view wr r _ (h.sub fun x hx => List.mem_append_right _ hx)
      | row id =>
        simp only [tids, handed] at h ⊢
        exact handed_view wr r _ (h.sub fun x hx => List.mem_cons_of_mem _ hx)
      | _ => simp only [tids, handed] at h ⊢; exact handed_view wr r _ h
    | agg l =>
      simp only [tids, handed] at h ⊢
      exact handed_view wr r _ (h.sub fun x hx => List.mem_append_right _ hx)
    | tup l => simp only [tids, handed] at h ⊢; exact handed_view wr r _ h
theorem handed_sub (wr : Bool) : ∀ (args : List AV) (a : List Nat), ∀ x ∈ handed wr g a args, x ∈ a ∨ x ∈ tids g args
  | [], _, _, hx => .inl hx
  | y :: r, a, x, hx => by
    cases y with
    | one s =>
      cases s with
      | ptr id off =>
        cases off with
        | zero =>
          simp only [tids, handed] at hx ⊢
          rcases handed_sub wr r _ x hx with h | h
          · rcases (addNew_mem _ _ _).1 h with h | h
            · exact .inl h
            · exact .inr (List.mem_append_left _ h)
          · exact .inr (List.mem_append_right _ h)
        | succ off =>
          simp only [tids, handed] at hx ⊢
          exact (handed_sub wr r _ x hx).imp (fun q => q) (List.mem_append_right _)
      | row id =>
        simp only [tids, handed] at hx ⊢
        rcases handed_sub wr r _ x hx with h | h
        · split at h
          · rcases (addNew_mem _ _ _).1 h with h | h
            · exact .inl h
            · simp at h; subst h; exact .inr (List.mem_cons_self ..)
          · exact .inl h
        · exact .inr (List.mem_cons_of_mem _ h)
      | _ => simp only [tids, handed] at hx ⊢; exact handed_sub wr r _ x hx
    | agg l =>
      simp only [tids, handed] at hx ⊢
      exact (handed_sub wr r _ x hx).imp (fun q => q) (List.mem_append_right _)
    | tup l => simp only [tids, handed] at hx ⊢; exact handed_sub wr r _ x hx
theorem handed_nodup (wr : Bool) : ∀ (args : List AV) (a : List Nat), a.Nodup → (handed wr g a args).Nodup
  | [], _, h => h
  | y :: r, a, h => by
    cases y with
    | one s =>
      cases s with
      | ptr id off =>
        cases off with
        | zero => simp only [handed]; exact handed_nodup wr r _ (addNew_nodup _ _ h)
        | succ off => simp only [handed]; exact handed_nodup wr r _ h
      | row id =>
        simp only [handed]
        refine handed_nodup wr r _ ?_
        split
        · exact addNew_nodup _ _ h
        · exact h
      | _ => simp only [handed]; exact handed_nodup wr r _ h
    | agg l => simp only [handed]; exact handed_nodup wr r _ h
    | tup l => simp only [handed]; exact handed_nodup wr r _ h

theorem idsOf_mem {l : List Sc} {id : Nat} (h : id ∈ idsOf l) : .row id ∈ l := by
  induction l with
  | nil => simp [idsOf] at h
  | cons s l ih =>
    cases s <;> simp only [idsOf] at h <;> first
      | exact List.mem_cons_of_mem _ (ih h)
      | (rcases List.mem_cons.1 h with rfl | h
         · exact List.mem_cons_self ..
         · exact List.mem_cons_of_mem _ (ih h))
theorem idsOf_of_mem {l : List Sc} {id : Nat} (h : .row id ∈ l) : id ∈ idsOf l := by
  induction l with
  | nil => simp at h
  | cons s l ih =>
    rcases List.mem_cons.1 h with rfl | h'
    · simp [idsOf]
    · cases s <;> simp only [idsOf] <;> first | exact ih h' | exact List.mem_cons_of_mem _ (ih h')

theorem lendOne_view (wr : Bool) {s : Sc} (h : ∀ id, s = .row id → gv (id, 0) = g (id, 0)) : lendOne wr gv s = lendOne wr g s := by
  cases s <;> try rfl
  rename_i id
  simp only [lendOne, h id rfl]
theorem lend_view (wr : Bool) (args : List AV) (h : Agree g gv (tids g args)) : ∀ a ∈ args, lend wr gv a = lend wr g a := by
  have key : ∀ (args : List AV), ∀ a ∈ args, ∀ x ∈ tids g [a], x ∈ tids g args := by
    intro args
    induction args with
    | nil => intro a ha; simp at ha
    | cons b r ih =>
      intro a ha x hx
      rcases List.mem_cons.1 ha with rfl | ha
      · cases a with
        | one s => cases s <;> simp only [tids, List.append_nil] at hx ⊢ <;> first | (simp at hx; done) | exact List.mem_append_left _ hx | (simp at hx; subst hx; exact List.mem_cons_self ..)
        | agg l => simp only [tids, List.append_nil] at hx ⊢; exact List.mem_append_left _ hx
        | tup l => simp [tids] at hx
      · have := ih a ha x hx
        cases b with
        | one s => cases s <;> simp only [tids] <;> first | exact this | exact List.mem_append_right _ this | exact List.mem_cons_of_mem _ this
        | agg l => simp only [tids]; exact List.mem_append_right _ this
        | tup l => exact this
  intro a ha
  cases a with
  | one s =>
    simp only [lend]
    rw [lendOne_view wr fun id hs => h.at0 (key args _ ha id (by subst hs; simp [tids]))]
  | agg l =>
    simp only [lend]
    congr 1
    refine List.map_congr_left fun s hs => lendOne_view false fun id hid => h.at0 (key args _ ha id ?_)
    subst hid
    simp only [tids, List.append_nil]
    exact idsOf_of_mem hs
  | tup l => rfl
theorem obAt_view (f : Nat → Option Nat) {ids : List Nat} (h : Agree g gv ids) {id : Nat} (hi : id ∈ ids) : obAt gv f id = obAt g f id := by
  unfold obAt
  rw [h.at0 hi, h.box hi]
theorem doCall_view (e : Env) (f : FuncId) (args : List AV) (fresh : Nat) (h : Agree g gv (tids g args)) : doCall e f args gv fresh = doCall e f args g fresh := by
  unfold doCall
  split
  · rfl
  · rename_i sp hsp
    dsimp only
    rw [handed_view sp.wr args [] h]
    have h1 : (args.map fun a => (lend sp.wr gv a).ren fun id => findAt id 0 (handed sp.wr g [] args)) = args.map fun a => (lend sp.wr g a).ren fun id => findAt id 0 (handed sp.wr g [] args) :=
      List.map_congr_left fun a ha => by rw [lend_view sp.wr args h a ha]
    have h2 : (handed sp.wr g [] args).map (obAt gv fun id => findAt id 0 (handed sp.wr g [] args)) = (handed sp.wr g [] args).map (obAt g fun id => findAt id 0 (handed sp.wr g [] args)) :=
      List.map_congr_left fun id hid => obAt_view _ h (by
        rcases handed_sub sp.wr args [] id hid with h' | h'
        · simp at h'
        · exact h')
    rw [h1, h2]
end congr
end Go.Proofs.Ytipfipnhgpbceaa.Sx
