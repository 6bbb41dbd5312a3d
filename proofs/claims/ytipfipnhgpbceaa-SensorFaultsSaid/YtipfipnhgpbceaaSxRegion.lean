/- The symbolic machine: regions (plain theorems). -/
import Derived.Test.YtipfipnhgpbceaaSxSem
set_option linter.unusedVariables false
set_option linter.unusedSimpArgs false
namespace Go.Proofs.Ytipfipnhgpbceaa.Sx
open Go

/-! ### One operation of a region -/
def dstOf (ops : Array Oper) (i : Nat) : Option Tmp := (ops[i]?).bind (·.dst)
def opRun (e : Env) (o : Oper) (t : List AV) (g : Get) (fresh : Nat) : Option (AV × List Loc × Upd) :=
  ((sem e o.op (rd t) (view g (readsOf e o.op (rd t) g)) fresh).den).map fun r => (r.1, readsOf e o.op (rd t) g, r.2)
def opAt (e : Env) (ops : Array Oper) (base i : Nat) (t : List AV) (g : Get) : Option (AV × List Loc × Upd) :=
  match ops[i]? with
  | none => none
  | some o => match o.guard with
    | none => opRun e o t g (base + i * stride)
    | some (j, want) => match (ops[j]?).bind (·.dst) with
      | some d => match t.getD d (.one .undef) with
        | .one (.bool b) => if b == want then opRun e o t g (base + i * stride) else some (.tup [], [], [])
        | .tup [] => some (.tup [], [], [])
        | _ => none
      | none => none

theorem execOne_den {e : Env} {o : Oper} {s : RS} {fresh : Nat} {r : RS × List Loc × Upd} (h : (execOne e o s fresh).den = some r) :
    ∃ v, opRun e o s.tmps s.mem.get fresh = some (v, r.2.1, r.2.2) ∧ r.1.tmps = setTmp s.tmps o.dst v ∧ r.1.mem.get = updG s.mem.get r.2.2 := by
  unfold execOne at h
  dsimp only at h
  rw [Tr.den_bind] at h
  obtain ⟨x, hx, hx'⟩ := Option.bind_eq_some_iff.1 h
  simp only [Tr.den] at hx'
  cases hx'
  exact ⟨x.1, by simp [opRun, hx], rfl, get_app _ _⟩
theorem learn_eq {s : RS} {t : Tmp} {b : Bool} (h : s.tmps.getD t (.one .undef) = .one (.bool b)) : learn s t b = s := by
  unfold learn
  have : s.tmps.set t (.one (.bool b)) = s.tmps := by
    rw [List.getD_eq_getElem?_getD] at h
    cases hh : s.tmps[t]? with
    | none => rw [hh] at h; cases h
    | some x =>
      rw [hh] at h
      simp only [Option.getD_some] at h
      subst h
      obtain ⟨hlt, he⟩ := List.getElem?_eq_some_iff.1 hh
      rw [← he]
      exact List.set_getElem_self hlt
  rw [this]
theorem learnO_eq {l : List AV} {c : Operand} {b : Bool} (h : rd l c = .one (.bool b)) : learnO c b l = l := by
  cases c <;> try rfl
  rename_i t
  exact congrArg RS.tmps (learn_eq (s := ⟨l, []⟩) (t := t) (b := b) h)
theorem runOp_den {e : Env} {ops : Array Oper} {base i : Nat} {s : RS} {r : RS × List Loc × Upd} (h : (runOp e ops base i s).den = some r) :
    ∃ v, opAt e ops base i s.tmps s.mem.get = some (v, r.2.1, r.2.2) ∧ r.1.tmps = setTmp s.tmps (dstOf ops i) v ∧ r.1.mem.get = updG s.mem.get r.2.2 := by
  unfold runOp at h
  unfold opAt dstOf
  split at h
  · cases h
  · rename_i o ho
    rw [ho]
    dsimp only [Option.bind_some]
    split at h
    · rename_i hgd
      rw [hgd]
      exact execOne_den h
    · rename_i j want hgd
      rw [hgd]
      dsimp only
      split at h
      · rename_i t ht
        rw [ht]
        dsimp only
        split at h
        · rename_i b hb
          rw [hb]
          dsimp only
          have hl := learn_eq hb
          cases want <;> cases b <;> simp only [Tr.den, hl, Bool.false_eq_true, if_false, if_true] at h ⊢
          · exact execOne_den h
          · cases h
            exact ⟨.tup [], rfl, rfl, rfl⟩
          · cases h
            exact ⟨.tup [], rfl, rfl, rfl⟩
          · exact execOne_den h
        · rename_i hb
          rw [hb]
          dsimp only
          cases h
          exact ⟨.tup [], rfl, rfl, rfl⟩
        · cases h
      · cases h

/-! ### What an operation looks at -/
theorem flatMap_congr' {α β : Type} {l : List α} {f f' : α → List β} (h : ∀ x ∈ l, f x = f' x) : l.flatMap f = l.flatMap f' := by
  induction l with
  | nil => rfl
  | cons x l ih => rw [List.flatMap_cons, List.flatMap_cons, h x (by simp), ih fun y hy => h y (by simp [hy])]
theorem map_congr_ops {l : List (Nat × Operand)} {r r' : Rd} (h : ∀ x ∈ (l.map (·.2)), r x = r' x) : (l.map fun p => (p.1, r p.2)) = l.map fun p => (p.1, r' p.2) :=
  List.map_congr_left fun p hp => by rw [h p.2 (List.mem_map.2 ⟨p, hp, rfl⟩)]
theorem sem_congr {e : Env} {o : Op} {r r' : Rd} (h : ∀ x ∈ o.operands, r x = r' x) (g : Get) (fresh : Nat) : sem e o r g fresh = sem e o r' g fresh := by
  cases o <;> simp only [Op.operands] at h <;> simp only [sem] <;> try (first | rfl | (simp_all; done))
  case build t ps => rw [map_congr_ops fun x hx => h x (by simpa using hx)]
  case buildSlice t n ps => rw [map_congr_ops fun x hx => h x (by simpa using hx)]
  case slice t x lo hi mx => cases mx <;> cases lo <;> cases hi <;> simp_all
  case call c =>
    have ha : c.args.toList.map r = c.args.toList.map r' := List.map_congr_left fun x hx => h x (by simp [Call.operands]; exact .inr (by simpa using hx))
    rw [ha]
theorem readsOf_congr {e : Env} {o : Op} {r r' : Rd} (h : ∀ x ∈ o.operands, r x = r' x) (g : Get) : readsOf e o r g = readsOf e o r' g := by
  cases o <;> simp only [Op.operands] at h <;> simp only [readsOf] <;> try (first | rfl | (simp_all; done))
  case buildSlice t n ps =>
    have : ∀ p ∈ ps.toList, rowLocs (r p.2).cells = rowLocs (r' p.2).cells := fun p hp => by rw [h p.2 (by simp; exact ⟨p.1, by simpa using hp⟩)]
    rw [flatMap_congr' this]
  case call c =>
    have hx : ∀ x ∈ c.args.toList, r x = r' x := fun x hx => h x (by simp [Call.operands]; exact .inr (by simpa using hx))
    have ha : c.args.toList.map r = c.args.toList.map r' := List.map_congr_left hx
    rw [ha, flatMap_congr' fun x hx' => by rw [hx x hx']]
theorem argLocs_stable {g g' : Get} {args : List AV} (h : ∀ l ∈ argLocs g args, g' l = g l) : argLocs g' args = argLocs g args := by
  have ha : Agree g g' (tids g args) := fun id hid l hl => h l (argLocs_mem hid hl)
  unfold argLocs
  rw [tids_view args ha]
  exact flatMap_congr' fun id hid => boxLocs_view id 65 0 (ha id hid)
theorem readsOf_stable {e : Env} {o : Op} {r : Rd} {g g' : Get} (h : ∀ l ∈ readsOf e o r g, g' l = g l) : readsOf e o r g' = readsOf e o r g := by
  cases o <;> simp only [readsOf] at h ⊢
  case call c =>
    split
    · rename_i f hc
      simp only [hc] at h
      exact argLocs_stable h
    · rfl
theorem view_congr {g g' : Get} {ls : List Loc} (h : ∀ l ∈ ls, g' l = g l) : view g' ls = view g ls := by
  funext l
  unfold view
  split
  · rename_i hl; exact h l (hasLoc_iff.1 hl)
  · rfl
theorem rd_congr {t t' : List AV} {x : Operand} (h : ∀ d, x = .tmp d → t'.getD d (.one .undef) = t.getD d (.one .undef)) : rd t' x = rd t x := by
  cases x <;> simp only [rd]
  exact h _ rfl
theorem opRun_stable {e : Env} {ops : Array Oper} {o : Oper} {t t' : List AV} {g g' : Get} {fresh : Nat} {v : AV} {rs : List Loc} {u : Upd} (h : opRun e o t g fresh = some (v, rs, u))
    (ht : ∀ d ∈ o.looksAt ops, t'.getD d (.one .undef) = t.getD d (.one .undef)) (hg : ∀ l ∈ rs, g' l = g l) : opRun e o t' g' fresh = some (v, rs, u) := by
  have hr : ∀ x ∈ o.op.operands, rd t' x = rd t x := fun x hx => rd_congr fun d hd => ht d (by
    subst hd
    exact List.mem_append_left _ (List.mem_filterMap.2 ⟨.tmp d, by simpa using hx, rfl⟩))
  have hrs : readsOf e o.op (rd t) g = rs := by
    unfold opRun at h
    obtain ⟨x, _, hx⟩ := Option.map_eq_some_iff.1 h
    cases hx; rfl
  unfold opRun at h ⊢
  have h1 : readsOf e o.op (rd t') g' = rs := by
    rw [readsOf_congr hr, readsOf_stable (g := g) (by rw [hrs]; exact hg), hrs]
  rw [hrs] at h
  rw [h1, sem_congr hr, view_congr hg]
  exact h
theorem opAt_stable {e : Env} {ops : Array Oper} {base i : Nat} {t t' : List AV} {g g' : Get} {v : AV} {rs : List Loc} {u : Upd} (h : opAt e ops base i t g = some (v, rs, u))
    (ht : ∀ o d, ops[i]? = some o → d ∈ o.looksAt ops → t'.getD d (.one .undef) = t.getD d (.one .undef)) (hg : ∀ l ∈ rs, g' l = g l) : opAt e ops base i t' g' = some (v, rs, u) := by
  unfold opAt at h ⊢
  split at h
  · cases h
  · rename_i o ho
    split at h
    · rename_i hgd
      exact opRun_stable h (ht o · ho) hg
    · rename_i j want hgd
      split at h
      · rename_i d hd
        rw [ht o d ho (List.mem_append_right _ (by simp [hgd, hd]))]
        split at h
        · rename_i b hb
          split at h
          · rename_i hw
            rw [if_pos hw]
            exact opRun_stable h (ht o · ho) hg
          · rename_i hw
            rw [if_neg hw]
            exact h
        · rename_i hb
          exact h
        · cases h
      · cases h

/-! ### Several operations, in an order -/
structure Item1 where
  i : Nat
  v : AV
  rs : List Loc
  u : Upd
def wrs (x : Item1) : List Loc := x.u.map (·.1)
abbrev St := List AV × Get
def stepS (ops : Array Oper) (s : St) (x : Item1) : St := (setTmp s.1 (dstOf ops x.i) x.v, updG s.2 x.u)
def RunL (e : Env) (ops : Array Oper) (base : Nat) : List Item1 → St → St → Prop
  | [], s, f => f = s
  | x :: l, s, f => opAt e ops base x.i s.1 s.2 = some (x.v, x.rs, x.u) ∧ RunL e ops base l (stepS ops s x) f

def Free (ops : Array Oper) (x y : Item1) : Prop := apartB ops x.i y.i = true ∧ meets (wrs x) y.rs = false ∧ meets (wrs x) (wrs y) = false ∧ meets (wrs y) x.rs = false

theorem meets_false {a b : List Loc} (h : meets a b = false) : ∀ l ∈ a, l ∉ b := by
  intro l hl hb
  have : meets a b = true := List.any_eq_true.2 ⟨l, hl, hasLoc_iff.2 hb⟩
  rw [h] at this
  cases this
theorem updG_off {u : Upd} {g : Get} {l : Loc} (h : l ∉ u.map (·.1)) : updG g u l = g l :=
  updG_other u g l fun p hp e => h (List.mem_map.2 ⟨p, hp, e⟩)
theorem updG_on : ∀ {u : Upd} {g g' : Get} {l : Loc}, l ∈ u.map (·.1) → updG g u l = updG g' u l
  | [], _, _, _, h => by simp at h
  | (l', c) :: u, g, g', l, h => by
    by_cases hu : l ∈ u.map (·.1)
    · exact updG_on (u := u) hu
    · have : l = l' := by simpa [hu] using h
      subst this
      rw [updG, updG, updG_off hu, updG_off hu, upd1_same, upd1_same]
theorem updG_comm {u u' : Upd} (h : meets (u.map (·.1)) (u'.map (·.1)) = false) (g : Get) : updG (updG g u) u' = updG (updG g u') u := by
  funext l
  by_cases h1 : l ∈ u.map (·.1)
  · have h2 := meets_false h l h1
    rw [updG_off h2, updG_on h1]
  · by_cases h2 : l ∈ u'.map (·.1)
    · rw [updG_off h1, updG_on h2]
    · rw [updG_off h2, updG_off h1, updG_off h1, updG_off h2]
theorem setTmp_comm (t : List AV) {x y : Option Tmp} (v v' : AV) (h : ∀ d, x = some d → y ≠ some d) : setTmp (setTmp t x v) y v' = setTmp (setTmp t y v') x v := by
  cases x with
  | none => rfl
  | some d =>
    cases y with
    | none => rfl
    | some e =>
      have hne : d ≠ e := fun he => h d rfl (he ▸ rfl)
      simp only [setTmp]
      exact List.set_comm _ _ hne
theorem setTmp_get (t : List AV) {x : Option Tmp} (v : AV) {d : Nat} (h : x ≠ some d) : (setTmp t x v).getD d (.one .undef) = t.getD d (.one .undef) := by
  cases x with
  | none => rfl
  | some e =>
    have hne : e ≠ d := fun he => h (he ▸ rfl)
    simp [setTmp, List.getD_eq_getElem?_getD, List.getElem?_set_ne hne]

theorem apartB_spec {ops : Array Oper} {i j : Nat} (h : apartB ops i j = true) : ∃ x y, ops[i]? = some x ∧ ops[j]? = some y ∧ (∀ d, x.dst = some d → d ∉ y.looksAt ops) ∧ (∀ d, x.dst = some d → y.dst ≠ some d) ∧ (∀ d, y.dst = some d → d ∉ x.looksAt ops) := by
  unfold apartB at h
  split at h
  · rename_i x y hx hy
    simp only [Bool.and_eq_true] at h
    obtain ⟨h1, h2, h3⟩ := Oper.apart_spec h.1
    exact ⟨x, y, hx, hy, h1, h2, h3⟩
  · cases h

theorem RunL.swap {e : Env} {ops : Array Oper} {base : Nat} {x y : Item1} {l : List Item1} {s f : St} (h : RunL e ops base (x :: y :: l) s f) (hf : Free ops x y) : RunL e ops base (y :: x :: l) s f := by
  obtain ⟨h1, h2, h3⟩ := h
  obtain ⟨ha, m1, m2, m3⟩ := hf
  obtain ⟨ox, oy, hx, hy, a1, a2, a3⟩ := apartB_spec ha
  have hdx : dstOf ops x.i = ox.dst := by simp [dstOf, hx]
  have hdy : dstOf ops y.i = oy.dst := by simp [dstOf, hy]
  have hcomm : stepS ops (stepS ops s y) x = stepS ops (stepS ops s x) y := by
    simp only [stepS, hdx, hdy]
    rw [setTmp_comm s.1 x.v y.v a2, updG_comm (u := x.u) (u' := y.u) m2]
  refine ⟨?_, ?_, ?_⟩
  · refine opAt_stable (t := (stepS ops s x).1) (g := (stepS ops s x).2) h2 (fun o d ho hd => ?_) (fun l hl => ?_)
    · rw [hy] at ho; cases ho
      exact (setTmp_get s.1 x.v (by rw [hdx]; exact fun e0 => a1 d e0 hd)).symm
    · exact (updG_off fun hc => meets_false m1 l hc hl).symm
  · refine opAt_stable (t := s.1) (g := s.2) h1 (fun o d ho hd => ?_) (fun l hl => ?_)
    · rw [hx] at ho; cases ho
      exact setTmp_get s.1 y.v (by rw [hdy]; exact fun e0 => a3 d e0 hd)
    · exact updG_off fun hc => meets_false m3 l hc hl
  · rw [hcomm]; exact h3
theorem RunL.front {e : Env} {ops : Array Oper} {base : Nat} {y : Item1} : ∀ {l1 l2 : List Item1} {s f : St}, RunL e ops base (l1 ++ y :: l2) s f → (∀ x ∈ l1, Free ops x y) → RunL e ops base (y :: (l1 ++ l2)) s f
  | [], _, _, _, h, _ => h
  | x :: l1, l2, s, f, h, hf => by
    obtain ⟨h1, h2⟩ := h
    have h3 := RunL.front h2 (fun z hz => hf z (by simp [hz]))
    have h4 : RunL e ops base (x :: y :: (l1 ++ l2)) s f := ⟨h1, h3⟩
    exact h4.swap (hf x (by simp))

/-! ### The world's side -/
section
variable {C : Ctx} {P : Program} {e : Env} {ops : Array Oper} {base : Nat} {Q : Exit → Act → World → Prop}

/-- The state and the world. -/
structure Now (C : Ctx) (ρ0 : Rho) (lo hi : Nat) (w : World) (ρ : Rho) (ok : Okp) (a : Act) (s : St) : Prop where
  c : CRel C w ρ ok s.2
  t : TRel w ρ ok a s.1
  out : ∀ id, (id < lo ∨ hi ≤ id) → ρ id = ρ0 id

theorem opAt_wp (hE : EnvOK P e) {w : World} {ρ : Rho} {ok : Okp} {a : Act} {s : St} {x : Item1} (hc : CRel C w ρ ok s.2) (ht : TRel w ρ ok a s.1)
    (hf : ∀ id, base + x.i * stride ≤ id → id < base + x.i * stride + stride → ρ id = none) (hop : opAt e ops base x.i s.1 s.2 = some (x.v, x.rs, x.u))
    {K : Act → World → Prop} (hn : ∀ w' cv, StepR C w ρ ok s.2 (base + x.i * stride) x.v x.u w' cv → K (a.put (dstOf ops x.i) cv) w') : wpOp P ops Q x.i K a w := by
  obtain ⟨i, v, rs, u⟩ := x
  obtain ⟨t, g⟩ := s
  simp only at *
  unfold opAt at hop
  unfold wpOp
  split at hop
  · cases hop
  · rename_i o ho
    rw [ho]
    have hd : dstOf ops i = o.dst := by simp [dstOf, ho]
    rw [hd] at hn
    have run : opRun e o t g (base + i * stride) = some (v, rs, u) → o.wp P a w K Q := by
      intro h
      unfold opRun at h
      obtain ⟨r, hr, hr'⟩ := Option.map_eq_some_iff.1 h
      cases hr'
      exact sem_wp hE hc ht hf (view_sub g _) (sees_view e o.op (rd t) g) hr hn
    have skip : (v, rs, u) = (.tup [], [], []) → K (a.put o.dst undef) w := by
      intro h
      cases h
      exact hn w undef ⟨ρ, ok, hc, Ext.refl _ _ _, fun _ _ => rfl, .tup #[] [] trivial⟩
    dsimp only
    split at hop
    · rename_i hg
      have : Region.wanted o (yielded ops a.tmps) = true := by simp [Region.wanted, hg]
      rw [if_pos this]
      exact .inl (run hop)
    · rename_i j want hg
      split at hop
      · rename_i d hd'
        split at hop
        · rename_i b hb
          have h1 := ht.tm d
          rw [hb] at h1
          have h2 : a.tmps.getD d undef = .bool b := by
            generalize hv : a.tmps.getD d undef = cv at h1
            cases h1 with
            | one _ _ h1 => cases h1; rfl
          have h3 : a.tmps[d]? = some (.bool b) := by
            rw [Array.getD_eq_getD_getElem?] at h2
            cases h4 : a.tmps[d]? with
            | none => rw [h4] at h2; simp [undef] at h2
            | some cv => rw [h4] at h2; simp at h2; rw [h2]
          have hy : yielded ops a.tmps j = some b := by simp only [yielded, hd', Option.bind_some, h3]
          have hw : Region.wanted o (yielded ops a.tmps) = (b == want) := by
            simp only [Region.wanted, hg, hy]
            cases b <;> cases want <;> rfl
          rw [hw]
          split at hop
          · rename_i hbw
            rw [if_pos hbw]
            exact .inl (run hop)
          · rename_i hbw
            rw [if_neg hbw]
            exact skip (Option.some.inj hop).symm
        · rename_i hb
          have h1 := ht.tm d
          rw [hb] at h1
          have h2 : a.tmps.getD d undef = .tuple #[] := by
            generalize hv : a.tmps.getD d undef = cv at h1
            cases h1 with
            | tup vs l h =>
              obtain ⟨vs⟩ := vs
              cases vs with
              | nil => rfl
              | cons _ _ => exact h.elim
          have hy : yielded ops a.tmps j = none := by
            simp only [yielded, hd', Option.bind_some]
            rw [Array.getD_eq_getD_getElem?] at h2
            cases h4 : a.tmps[d]? with
            | none => rfl
            | some cv =>
              rw [h4] at h2
              simp only [Option.getD_some] at h2
              subst h2
              rfl
          have hw : Region.wanted o (yielded ops a.tmps) = false := by
            simp only [Region.wanted, hg, hy]
            rfl
          rw [hw]
          simp only [Bool.false_eq_true, if_false]
          exact skip (Option.some.inj hop).symm
        · cases hop
      · cases hop

theorem Now.step {ρ0 : Rho} {lo hi : Nat} {w : World} {ρ : Rho} {ok : Okp} {a : Act} {s : St} (h : Now C ρ0 lo hi w ρ ok a s) {x : Item1} {w' : World} {cv : Value}
    (hlo : lo ≤ base + x.i * stride) (hhi : base + x.i * stride + stride ≤ hi)
    (hst : StepR C w ρ ok s.2 (base + x.i * stride) x.v x.u w' cv) : ∃ ρ' ok', Now C ρ0 lo hi w' ρ' ok' (a.put (dstOf ops x.i) cv) (stepS ops s x) ∧
      (∀ id, (id < base + x.i * stride ∨ base + x.i * stride + stride ≤ id) → ρ' id = ρ id) := by
  obtain ⟨ρ', ok', h1, h2, h3, h4⟩ := hst
  refine ⟨ρ', ok', ⟨h1, (h.t.mono h2).put _ h4, fun id hid => ?_⟩, h3⟩
  rw [h3 id (by omega), h.out id hid]

theorem stride_disj {i j : Nat} (h : i ≠ j) {id : Nat} (h1 : base + j * stride ≤ id) (h2 : id < base + j * stride + stride) : id < base + i * stride ∨ base + i * stride + stride ≤ id := by
  have hs : stride = 16 := rfl
  rw [hs] at h1 h2 ⊢
  omega
theorem stride_hi {i n : Nat} (h : i < n) : base + i * stride + stride ≤ base + n * stride := by
  have : stride = 16 := rfl
  rw [this]
  omega

/-- In the order of the text. -/
theorem ops_wp (hE : EnvOK P e) {ρ0 : Rho} : ∀ (l : List Item1) (w : World) (ρ : Rho) (ok : Okp) (a : Act) (s f : St), RunL e ops base l s f → (l.map (·.i)).Nodup → (∀ x ∈ l, x.i < ops.size) →
    Now C ρ0 base (base + ops.size * stride) w ρ ok a s → (∀ x ∈ l, ∀ id, base + x.i * stride ≤ id → id < base + x.i * stride + stride → ρ id = none) →
    (∀ w' ρ' ok' a', Now C ρ0 base (base + ops.size * stride) w' ρ' ok' a' f → Q .normal a' w') → wpOps P ops Q (l.map (·.i)) a w
  | [], w, ρ, ok, a, s, f, h, _, _, hN, _, hQ => by
    have h0 : f = s := h
    subst h0
    exact hQ _ _ _ _ hN
  | x :: l, w, ρ, ok, a, s, f, h, hnd, hlt, hN, hfr, hQ => by
    obtain ⟨h1, h2⟩ := h
    rw [List.map_cons, wpOps_cons]
    refine opAt_wp hE hN.c hN.t (hfr x (by simp)) h1 fun w' cv hst => ?_
    obtain ⟨ρ', ok', hN', hout⟩ := hN.step (ops := ops) (by omega) (stride_hi (hlt x (by simp))) hst
    rw [List.map_cons, List.nodup_cons] at hnd
    refine ops_wp hE l w' ρ' ok' _ _ f h2 hnd.2 (fun y hy => hlt y (by simp [hy])) hN' (fun y hy id hi1 hi2 => ?_) hQ
    have hne : x.i ≠ y.i := fun e0 => hnd.1 (e0 ▸ List.mem_map.2 ⟨y, hy, rfl⟩)
    rw [hout id (stride_disj hne hi1 hi2)]
    exact hfr y (by simp [hy]) id hi1 hi2

/-! ### In any order -/
def Before (ops : Array Oper) (i j : Nat) : Prop := ((Region.before ops).getD j 0).testBit i = true
def PairR (ops : Array Oper) (x y : Item1) : Prop := Before ops x.i y.i ∨ Free ops x y

theorem before_fold (l : List Edge) (acc : Array Nat) (i : Nat) : ∀ (s : Nat), (l.foldl (fun s e => if Region.binds .any e then s ||| 2 ^ e.on ||| acc.getD e.on 0 else s) s).testBit i = true →
    s.testBit i = true ∨ ∃ ed ∈ l, Region.binds .any ed = true ∧ (ed.on = i ∨ (acc.getD ed.on 0).testBit i = true) := by
  induction l with
  | nil => intro s h; exact .inl h
  | cons ed l ih =>
    intro s h
    rw [List.foldl_cons] at h
    rcases ih _ h with h1 | ⟨ed', h1, h2⟩
    · split at h1
      · rename_i hb
        rw [Nat.testBit_or, Nat.testBit_or, Bool.or_eq_true, Bool.or_eq_true] at h1
        rcases h1 with (h1 | h1) | h1
        · exact .inl h1
        · refine .inr ⟨ed, by simp, hb, .inl ?_⟩
          rw [Nat.testBit_two_pow] at h1
          simpa using h1
        · exact .inr ⟨ed, by simp, hb, .inr h1⟩
      · exact .inl h1
    · exact .inr ⟨ed', by simp [h1], h2⟩
def BOk (done : List Oper) (acc : Array Nat) : Prop := acc.size = done.length ∧ ∀ (j i : Nat), (acc.getD j 0).testBit i = true → ∃ o, done[j]? = some o ∧ ∃ ed ∈ o.after.toList, Region.binds .any ed = true ∧ (ed.on = i ∨ (acc.getD ed.on 0).testBit i = true)
theorem before_list : ∀ (l done : List Oper) (acc : Array Nat), (∀ o ∈ done ++ l, True) → BOk done acc → (∀ (j : Nat) (o : Oper), (done ++ l)[j]? = some o → ∀ ed ∈ o.after.toList, Region.binds .any ed = true → ed.on < j) →
    BOk (done ++ l) (l.foldl (fun acc o => acc.push (o.after.foldl (fun s e => if Region.binds .any e then s ||| 2 ^ e.on ||| acc.getD e.on 0 else s) 0)) acc)
  | [], done, acc, _, h, _ => by simpa using h
  | o :: l, done, acc, _, h, hb => by
    rw [List.foldl_cons, show done ++ o :: l = (done ++ [o]) ++ l by simp]
    refine before_list l (done ++ [o]) _ (fun _ _ => trivial) ⟨by simp [h.1], fun j i hji => ?_⟩ (by simpa using hb)
    have hpush : ∀ k, k < acc.size → ∀ v, (acc.push v).getD k 0 = acc.getD k 0 := fun k hk v => by simp [Array.getElem?_push, Nat.ne_of_lt hk]
    by_cases hj : j < acc.size
    · rw [hpush j hj] at hji
      obtain ⟨o', h1, ed, h2, h3, h4⟩ := h.2 j i hji
      have hjd : j < done.length := by rw [← h.1]; exact hj
      have hon := hb j o' (by rw [List.getElem?_append_left hjd]; exact h1) ed h2 h3
      refine ⟨o', by rw [List.getElem?_append_left hjd]; exact h1, ed, h2, h3, ?_⟩
      rw [hpush _ (by omega)]
      exact h4
    · by_cases hj2 : j = acc.size
      · subst hj2
        have : (acc.push (o.after.foldl (fun s e => if Region.binds .any e then s ||| 2 ^ e.on ||| acc.getD e.on 0 else s) 0)).getD acc.size 0 = o.after.foldl (fun s e => if Region.binds .any e then s ||| 2 ^ e.on ||| acc.getD e.on 0 else s) 0 := by simp
        rw [this, ← Array.foldl_toList] at hji
        rcases before_fold _ _ _ _ hji with h1 | ⟨ed, h1, h2, h3⟩
        · simp at h1
        · have hon := hb acc.size o (by rw [h.1]; simp) ed h1 h2
          refine ⟨o, by rw [h.1]; simp, ed, h1, h2, ?_⟩
          rw [hpush _ hon]
          exact h3
      · have : ∀ v, (acc.push v).getD j 0 = 0 := fun v => by
          rw [Array.getD_eq_getD_getElem?, Array.getElem?_eq_none (by simp; omega)]; rfl
        rw [this] at hji
        simp at hji
theorem backEdges_spec {ops : Array Oper} (h : backEdges ops = true) (j : Nat) (o : Oper) (ho : ops[j]? = some o) : ∀ ed ∈ o.after.toList, Region.binds .any ed = true → ed.on < j := by
  intro ed hed hbi
  unfold backEdges at h
  have hj : j < ops.size := (Array.getElem?_eq_some_iff.1 ho).1
  have := List.all_eq_true.1 h j (List.mem_range.2 hj)
  rw [ho] at this
  have h2 := List.all_eq_true.1 this ed hed
  rw [hbi] at h2
  simpa using h2
theorem before_spec {ops : Array Oper} (hb : backEdges ops = true) {i j : Nat} (h : Before ops i j) : ∃ o, ops[j]? = some o ∧ ∃ ed ∈ o.after.toList, Region.binds .any ed = true ∧ (ed.on = i ∨ Before ops i ed.on) := by
  have := before_list ops.toList [] #[] (fun _ _ => trivial) ⟨rfl, fun j i h => by simp at h⟩ (fun j o ho => backEdges_spec hb j o (by simpa using ho))
  have hB : Region.before ops = ops.toList.foldl (fun acc o => acc.push (o.after.foldl (fun s e => if Region.binds .any e then s ||| 2 ^ e.on ||| acc.getD e.on 0 else s) 0)) #[] := by
    unfold Region.before
    rw [← Array.foldl_toList]
  rw [← hB] at this
  obtain ⟨o, h1, h2⟩ := this.2 j i h
  exact ⟨o, by simpa using h1, h2⟩

/-- What has been done has been done with all that must stand before it. -/
def Closed (ops : Array Oper) (listed : Array Bool) : Prop := listed.size = ops.size ∧ ∀ j o, ops[j]? = some o → listed.getD j false = true → ∀ ed ∈ o.after.toList, Region.binds .any ed = true → listed.getD ed.on false = true
theorem Closed.before {ops : Array Oper} (hb : backEdges ops = true) {listed : Array Bool} (hc : Closed ops listed) {i : Nat} : ∀ (n j : Nat), j < n → Before ops i j → listed.getD j false = true → listed.getD i false = true
  | 0, j, h, _, _ => by omega
  | n + 1, j, h, hbf, hl => by
    obtain ⟨o, ho, ed, h1, h2, h3⟩ := before_spec hb hbf
    have h4 := hc.2 j o ho hl ed h1 h2
    have h5 := backEdges_spec hb j o ho ed h1 h2
    rcases h3 with rfl | h3
    · exact h4
    · exact Closed.before hb hc n ed.on (by omega) h3 h4
theorem ready_before {ops : Array Oper} (hb : backEdges ops = true) {listed : Array Bool} (hc : Closed ops listed) {i j : Nat} (hj : j ∈ Region.ready .any ops listed) (h : Before ops i j) : listed.getD i false = true := by
  obtain ⟨h0, o, ho, hall⟩ := mem_ready.1 hj
  obtain ⟨o', ho', ed, h1, h2, h3⟩ := before_spec hb h
  rw [ho] at ho'
  cases ho'
  have h4 := hall ed (by simpa using h1) h2
  rcases h3 with rfl | h3
  · exact h4
  · exact hc.before hb (ed.on + 1) ed.on (by omega) h3 h4
theorem ready_some {ops : Array Oper} (hb : backEdges ops = true) {listed : Array Bool} (hs : listed.size = ops.size) : ∀ (n j : Nat), j < n → j < ops.size → listed.getD j true = false → Region.ready .any ops listed ≠ []
  | 0, j, h, _, _ => by omega
  | n + 1, j, h, hj, hl => by
    by_cases hr : j ∈ Region.ready .any ops listed
    · intro e0; rw [e0] at hr; simp at hr
    · rw [mem_ready] at hr
      have ho : ops[j]? = some ops[j] := by simp [hj]
      have : ¬ ∀ ed ∈ ops[j].after, Region.binds .any ed = true → listed.getD ed.on false = true := fun hh => hr ⟨hl, _, ho, hh⟩
      obtain ⟨ed, hed, hbi, hh⟩ : ∃ ed, ed ∈ ops[j].after ∧ Region.binds .any ed = true ∧ listed.getD ed.on false ≠ true := Classical.byContradiction fun hne => this fun ed hed hbi => Classical.byContradiction fun hnl => hne ⟨ed, hed, hbi, hnl⟩
      have hlt := backEdges_spec hb j _ ho ed (by simpa using hed) hbi
      refine ready_some hb hs n ed.on (by omega) (by omega) ?_
      have hlt2 : ed.on < listed.size := by omega
      simp only [Array.getD_eq_getD_getElem?, Array.getElem?_eq_getElem hlt2, Option.getD_some] at hh ⊢
      simpa using hh

theorem any_wp (hE : EnvOK P e) (hb : backEdges ops = true) {ρ0 : Rho} : ∀ (n : Nat) (listed : Array Bool) (l : List Item1) (w : World) (ρ : Rho) (ok : Okp) (a : Act) (s f : St), l.length = n → RunL e ops base l s f →
    (l.map (·.i)).Nodup → (∀ i, i ∈ l.map (·.i) ↔ i < ops.size ∧ listed.getD i true = false) → Closed ops listed → l.Pairwise (PairR ops) →
    Now C ρ0 base (base + ops.size * stride) w ρ ok a s → (∀ x ∈ l, ∀ id, base + x.i * stride ≤ id → id < base + x.i * stride + stride → ρ id = none) →
    (∀ w' ρ' ok' a', Now C ρ0 base (base + ops.size * stride) w' ρ' ok' a' f → Q .normal a' w') → wpAny P .any ops Q n listed a w := by
  intro n
  have hreadyl : ∀ {listed : Array Bool} {l : List Item1}, (∀ i, i ∈ l.map (·.i) ↔ i < ops.size ∧ listed.getD i true = false) → ∀ i ∈ Region.ready .any ops listed, i ∈ l.map (·.i) := by
    intro listed l hl i hi
    obtain ⟨h0, o, ho, _⟩ := mem_ready.1 hi
    exact (hl i).2 ⟨(Array.getElem?_eq_some_iff.1 ho).1, h0⟩
  induction n with
  | zero =>
    intro listed l w ρ ok a s f hn hR hnd hl hc hp hN hfr hQ
    have : l = [] := List.length_eq_zero_iff.1 hn
    subst this
    have h0 : f = s := hR
    subst h0
    refine ⟨?_, hQ _ _ _ _ hN⟩
    cases hr : Region.ready .any ops listed with
    | nil => rfl
    | cons i _ => have := hreadyl hl i (by rw [hr]; simp); simp at this
  | succ n ih =>
    intro listed l w ρ ok a s f hn hR hnd hl hc hp hN hfr hQ
    refine ⟨fun hr => ?_, fun i hi => ?_⟩
    · cases l with
      | nil => simp at hn
      | cons x l =>
        have := (hl x.i).1 (by simp)
        exact absurd hr (ready_some hb hc.1 (x.i + 1) x.i (by omega) this.1 this.2)
    · obtain ⟨x, hx, rfl⟩ := List.mem_map.1 (hreadyl hl i hi)
      obtain ⟨l1, l2, rfl⟩ := List.append_of_mem hx
      have hp' := List.pairwise_append.1 hp
      have hfree : ∀ y ∈ l1, Free ops y x := fun y hy => by
        rcases hp'.2.2 y hy x (by simp) with h1 | h1
        · have h2 := ready_before hb hc hi h1
          have h3 := (hl y.i).1 (List.mem_map.2 ⟨y, by simp [hy], rfl⟩)
          have h4 : y.i < listed.size := by rw [hc.1]; exact h3.1
          simp only [Array.getD_eq_getD_getElem?, Array.getElem?_eq_getElem h4, Option.getD_some] at h2 h3
          rw [h2] at h3
          cases h3.2
        · exact h1
      obtain ⟨g1, g2⟩ := hR.front hfree
      have hxl := (hl x.i).1 (List.mem_map.2 ⟨x, by simp, rfl⟩)
      refine opAt_wp hE hN.c hN.t (hfr x (by simp)) g1 fun w' cv hst => ?_
      obtain ⟨ρ', ok', hN', hout⟩ := hN.step (ops := ops) (by omega) (stride_hi hxl.1) hst
      have hnd2 : (x.i :: (l1 ++ l2).map (·.i)).Nodup := by
        refine List.Perm.nodup (List.Perm.map (·.i) (l₁ := l1 ++ x :: l2) (l₂ := x :: (l1 ++ l2)) List.perm_middle) hnd
      rw [List.nodup_cons] at hnd2
      have hnx : ∀ y ∈ l1 ++ l2, x.i ≠ y.i := fun y hy e0 => hnd2.1 (e0 ▸ List.mem_map.2 ⟨y, hy, rfl⟩)
      have hmem : ∀ y ∈ l1 ++ l2, y ∈ l1 ++ x :: l2 := fun y hy => by
        rcases List.mem_append.1 hy with h | h
        · exact List.mem_append_left _ h
        · exact List.mem_append_right _ (List.mem_cons_of_mem _ h)
      refine ih (listed.setIfInBounds x.i true) (l1 ++ l2) w' ρ' ok' _ _ f (by simp at hn ⊢; omega) g2 hnd2.2 (fun k => ?_) ⟨by simp [hc.1], fun j o ho hj ed hed hbi => ?_⟩ ?_ hN' (fun y hy id hi1 hi2 => ?_) hQ
      · by_cases hk : x.i = k
        · subst hk
          refine ⟨fun h => absurd h hnd2.1, fun h => ?_⟩
          have : (listed.setIfInBounds x.i true).getD x.i true = true := by
            have h4 : x.i < listed.size := by rw [hc.1]; exact hxl.1
            simp [h4]
          rw [this] at h
          cases h.2
        · rw [getD_set_ne true hk, ← hl k]
          simp only [List.map_append, List.map_cons, List.mem_append, List.mem_cons]
          exact ⟨fun h => h.imp (fun q => q) .inr, fun h => by
            rcases h with h | rfl | h
            · exact .inl h
            · exact absurd rfl hk
            · exact .inr h⟩
      · by_cases hk : x.i = j
        · subst hk
          obtain ⟨_, o', ho', hall⟩ := mem_ready.1 hi
          rw [ho] at ho'
          cases ho'
          exact getD_set_true (hall ed (by simpa using hed) hbi)
        · rw [getD_set_ne false hk] at hj
          exact getD_set_true (hc.2 j o ho hj ed hed hbi)
      · rw [List.pairwise_append]
        refine ⟨hp'.1, (List.pairwise_cons.1 hp'.2.1).2, fun y hy z hz => hp'.2.2 y hy z (by simp [hz])⟩
      · rw [hout id (stride_disj (hnx y hy) hi1 hi2)]
        exact hfr y (hmem y hy) id hi1 hi2

/-! ### From the machine's run -/
theorem runOps_run : ∀ (l : List Nat) (s s' : RS), (runOps e ops base l s).den = some s' → ∃ L : List Item1, L.map (·.i) = l ∧ RunL e ops base L (s.tmps, s.mem.get) (s'.tmps, s'.mem.get)
  | [], s, s', h => by
    cases h
    exact ⟨[], rfl, rfl⟩
  | i :: l, s, s', h => by
    unfold runOps at h
    rw [Tr.den_bind] at h
    obtain ⟨r, hr, hr'⟩ := Option.bind_eq_some_iff.1 h
    obtain ⟨v, h1, h2, h3⟩ := runOp_den hr
    obtain ⟨L, h4, h5⟩ := runOps_run l _ _ hr'
    refine ⟨⟨i, v, r.2.1, r.2.2⟩ :: L, by simp [h4], h1, ?_⟩
    rw [h2, h3] at h5
    exact h5
theorem free_of {x : Item1} {i : Nat} {v : AV} {rs : List Loc} {u : Upd} (hi : x.i < i) (h : freeOf ops (Region.before ops) i rs (u.map (·.1)) ⟨x.i, x.rs, wrs x⟩ = true) : PairR ops x ⟨i, v, rs, u⟩ := by
  unfold freeOf at h
  simp only at h
  rw [Nat.max_eq_left (Nat.le_of_lt hi), Nat.min_eq_right (Nat.le_of_lt hi), Bool.or_eq_true] at h
  rcases h with h | h
  · exact .inl h
  · simp only [Bool.and_eq_true, Bool.not_eq_true'] at h
    exact .inr ⟨h.1.1.1, h.1.1.2, h.1.2, h.2⟩
theorem runOpsD_run : ∀ (l : List Nat) (s s' : RS) (log : List Item1), (runOpsD e ops (Region.before ops) base l s (log.map fun x => ⟨x.i, x.rs, wrs x⟩)).den = some s' → l.Pairwise (· < ·) → (∀ x ∈ log, ∀ i ∈ l, x.i < i) →
    ∃ L : List Item1, L.map (·.i) = l ∧ RunL e ops base L (s.tmps, s.mem.get) (s'.tmps, s'.mem.get) ∧ L.Pairwise (PairR ops) ∧ ∀ x ∈ log, ∀ y ∈ L, PairR ops x y
  | [], s, s', log, h, _, _ => by
    cases h
    exact ⟨[], rfl, rfl, .nil, fun _ _ _ hy => by simp at hy⟩
  | i :: l, s, s', log, h, hs, hlog => by
    unfold runOpsD at h
    rw [Tr.den_bind] at h
    obtain ⟨r, hr, hr'⟩ := Option.bind_eq_some_iff.1 h
    dsimp only at hr'
    split at hr'
    · rename_i hall
      obtain ⟨v, h1, h2, h3⟩ := runOp_den hr
      have hs' := List.pairwise_cons.1 hs
      obtain ⟨L, h4, h5, h6, h7⟩ := runOpsD_run l _ _ (⟨i, v, r.2.1, r.2.2⟩ :: log) hr' hs'.2 (fun x hx k hk => by
        rcases List.mem_cons.1 hx with rfl | hx
        · exact hs'.1 k hk
        · exact hlog x hx k (by simp [hk]))
      refine ⟨⟨i, v, r.2.1, r.2.2⟩ :: L, by simp [h4], ⟨h1, ?_⟩, List.pairwise_cons.2 ⟨fun y hy => h7 _ (by simp) y hy, h6⟩, fun x hx y hy => ?_⟩
      · rw [h2, h3] at h5
        exact h5
      · rcases List.mem_cons.1 hy with rfl | hy
        · exact free_of (hlog x hx i (by simp)) (List.all_eq_true.1 hall _ (List.mem_map.2 ⟨x, hx, rfl⟩))
        · exact h7 x (by simp [hx]) y hy
    · cases hr'

theorem region_wp (hE : EnvOK P e) (hm : P.follows .mixedOrders = true) {id : Nat} {draw : Bool} {w : World} {ρ : Rho} {ok : Okp} {a : Act} {s s' : RS} (hc : CRel C w ρ ok s.mem.get) (ht : TRel w ρ ok a s.tmps)
    (hfr : ∀ i, base ≤ i → ρ i = none) (hs : (runRegion e ops draw base s).den = some s')
    (hQ : ∀ w' ρ' ok' a', CRel C w' ρ' ok' s'.mem.get → TRel w' ρ' ok' a' s'.tmps → (∀ i, (i < base ∨ base + ops.size * stride ≤ i) → ρ' i = ρ i) → Q .normal a' w') : (Code.region id ops draw).wp P Q a w := by
  unfold runRegion at hs
  cases draw with
  | false =>
    obtain ⟨L, h1, h2⟩ := runOps_run _ _ _ hs
    refine wp_region ?_
    rw [← h1]
    refine ops_wp (C := C) (ρ0 := ρ) hE L w ρ ok a _ _ h2 (by rw [h1]; exact List.nodup_range) (fun x hx => ?_) ⟨hc, ht, fun _ _ => rfl⟩ (fun x hx i h3 _ => hfr i (by omega)) (fun w' ρ' ok' a' hN => hQ w' ρ' ok' a' hN.c hN.t hN.out)
    have : x.i ∈ L.map (·.i) := List.mem_map.2 ⟨x, hx, rfl⟩
    rw [h1] at this
    exact List.mem_range.1 this
  | true =>
    simp only [if_true] at hs
    split at hs
    · cases hs
    · rename_i hb
      have hb' : backEdges ops = true := by simpa using hb
      obtain ⟨L, h1, h2, h3, _⟩ := runOpsD_run (e := e) (ops := ops) (base := base) _ _ _ [] hs List.pairwise_lt_range (fun x hx => by simp at hx)
      have hlen : L.length = ops.size := by
        have := congrArg List.length h1
        simpa using this
      refine wp_region_any hm ?_
      obtain ⟨c1, c2⟩ := hc.drew
      refine any_wp (C := C) (ρ0 := ρ) hE hb' ops.size _ L _ ρ ok a _ _ hlen h2 (by rw [h1]; exact List.nodup_range) (fun i => ?_) ⟨by simp, fun j o ho hj => ?_⟩ h3 ⟨c1, ht.mono c2, fun _ _ => rfl⟩ (fun x hx i h3 _ => hfr i (by omega)) (fun w' ρ' ok' a' hN => hQ w' ρ' ok' a' hN.c hN.t hN.out)
      · rw [h1, List.mem_range]
        refine ⟨fun h => ⟨h, by simp [h]⟩, fun h => h.1⟩
      · have hlt : j < ops.size := (Array.getElem?_eq_some_iff.1 ho).1
        simp [hlt] at hj
end
end Go.Proofs.Ytipfipnhgpbceaa.Sx
