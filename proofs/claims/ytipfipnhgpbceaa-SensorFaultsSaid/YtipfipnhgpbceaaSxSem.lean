/- The symbolic machine: each operation (plain theorems). -/
import Derived.Test.YtipfipnhgpbceaaSxCall2
set_option linter.unusedVariables false
set_option linter.unusedSimpArgs false
namespace Go.Proofs.Ytipfipnhgpbceaa.Sx
open Go

structure EnvOK (P : Program) (e : Env) : Prop where
  types : ∀ t ti, e.tt t = some ti → TOK P t ti
  eqs : ∀ t E, e.eqk t = some E → QOK P t E
  fns : ∀ f sp, e.fn f = some sp → SpecOK P f sp ∧ FnOK P f

/-- An operation has done what is told. -/
def StepR (C : Ctx) (w : World) (ρ : Rho) (ok : Okp) (g : Get) (fresh : Nat) (v : AV) (u : Upd) (w' : World) (cv : Value) : Prop :=
  ∃ ρ' ok', CRel C w' ρ' ok' (updG g u) ∧ Ext w ρ ok w' ρ' ok' ∧ (∀ id, (id < fresh ∨ fresh + stride ≤ id) → ρ' id = ρ id) ∧ VRel w' ρ' ok' cv v

section
variable {C : Ctx} {w : World} {ρ : Rho} {ok : Okp} {g gv : Get} {fresh : Nat} {P : Program}

theorem wp_of_out {o : Oper} {a : Act} {next : Act → World → Prop} {Q : Exit → Act → World → Prop} {v : AV} {u : Upd} (ho : Out C w ρ ok g fresh ((execOp a.eval o).run P w) v u)
    (hn : ∀ w' cv, StepR C w ρ ok g fresh v u w' cv → next (a.put o.dst cv) w') : o.wp P a w next Q := by
  obtain ⟨w', ρ', ok', cv, nx, h1, h2, h3, h4, h5, h6⟩ := ho
  unfold Oper.wp
  rw [h1]
  have := hn w' cv ⟨ρ', ok', h3, h4, h5, h6⟩
  rcases h2 with rfl | ⟨rfl, rfl⟩
  · exact this
  · exact this

/-- What an operation looks at is seen. -/
def Sees (e : Env) (o : Op) (r : Rd) (g gv : Get) : Prop :=
  match o with
  | .call c => match c.callee with
    | .value _ => Agree g gv (tids g (c.args.toList.map r))
    | _ => True
  | _ => True
theorem argLocs_mem {args : List AV} {id : Nat} (h : id ∈ tids g args) {l : Loc} (hl : l ∈ boxLocs g id 65 0) : l ∈ argLocs g args :=
  List.mem_flatMap.2 ⟨id, h, hl⟩
theorem view_sub (g : Get) (ls : List Loc) : ∀ l c, view g ls l = some c → g l = some c := by
  intro l c h
  unfold view at h
  split at h
  · exact h
  · cases h
theorem view_mem (g : Get) {ls : List Loc} {l : Loc} (h : l ∈ ls) : view g ls l = g l := by
  unfold view
  rw [if_pos (hasLoc_iff.2 h)]
theorem sees_view (e : Env) (o : Op) (r : Rd) (g : Get) : Sees e o r g (view g (readsOf e o r g)) := by
  unfold Sees
  split
  · rename_i c
    split
    · rename_i f hc
      intro id hid l hl
      refine view_mem g ?_
      simp only [readsOf, hc]
      exact argLocs_mem hid hl
    · trivial
  · trivial

theorem all2_rd {a : Act} {tmps : List AV} (hT : TRel w ρ ok a tmps) (l : List Operand) : All2 (VRel w ρ ok) (l.map a.eval) (l.map (rd tmps)) := by
  induction l with
  | nil => trivial
  | cons x l ih => exact ⟨hT.rd x, ih⟩
theorem all2_parts {a : Act} {tmps : List AV} (hT : TRel w ρ ok a tmps) (l : List (Nat × Operand)) :
    All2 (fun (a : Nat × Value) (b : Nat × AV) => a.1 = b.1 ∧ VRel w ρ ok a.2 b.2) (l.map fun p => (p.1, a.eval p.2)) (l.map fun p => (p.1, rd tmps p.2)) := by
  induction l with
  | nil => trivial
  | cons x l ih => exact ⟨⟨rfl, hT.rd x.2⟩, ih⟩

theorem bind_ret_den {α : Type} {t : Tr α} {v' : α} {u : Upd} (h : (t.bind fun v => Tr.ret (v, ([] : Upd))).den = some (v', u)) : t.den = some v' ∧ u = [] := by
  rw [Tr.den_bind] at h
  obtain ⟨x, hx, hx'⟩ := Option.bind_eq_some_iff.1 h
  simp only [Tr.den] at hx'
  cases hx'
  exact ⟨hx, rfl⟩

set_option maxHeartbeats 1000000 in
theorem sem_wp {e : Env} (hE : EnvOK P e) (h : CRel C w ρ ok g) {a : Act} {tmps : List AV} (hT : TRel w ρ ok a tmps) (hf : ∀ id, fresh ≤ id → id < fresh + stride → ρ id = none)
    (hg : ∀ l c, gv l = some c → g l = some c) {o : Oper} (hsee : Sees e o.op (rd tmps) g gv) {v : AV} {u : Upd} (hs : (sem e o.op (rd tmps) gv fresh).den = some (v, u))
    {next : Act → World → Prop} {Q : Exit → Act → World → Prop} (hn : ∀ w' cv, StepR C w ρ ok g fresh v u w' cv → next (a.put o.dst cv) w') : o.wp P a w next Q := by
  have hf0 : ρ fresh = none := hf fresh (Nat.le_refl _) (by have : stride = 16 := rfl; omega)
  obtain ⟨dst, op, type, pos, after, guard⟩ := o
  simp only at hsee hs hn
  have go : ∀ (s : Sem Next), execOp a.eval ⟨dst, op, type, pos, after, guard⟩ = s → Out C w ρ ok g fresh (s.run P w) v u → Oper.wp P ⟨dst, op, type, pos, after, guard⟩ a w next Q :=
    fun s hs' ho => wp_of_out (by rw [hs']; exact ho) hn
  cases op <;> simp only [sem] at hs <;> try (cases hs; done)
  case move x => cases hs; exact go _ rfl (Out.pure h (hT.rd x))
  case assign x => cases hs; exact go _ rfl (Out.pure h (hT.rd x))
  case pick c x y =>
    split at hs
    · rename_i t ht
      have hc := hT.rd c
      rw [ht] at hc
      have hev : a.eval c = .bool t := by
        generalize a.eval c = cv at hc
        cases hc with
        | one _ _ h1 => cases h1; rfl
      refine go (pure (.value (if t then a.eval x else a.eval y))) ?_ ?_
      · simp [execOp, hev, asBool]
      · cases t with
        | true => cases hs; exact Out.pure h (hT.rd x)
        | false => cases hs; exact Out.pure h (hT.rd y)
    · cases hs
  case alloc t =>
    split at hs
    · rename_i ti hti
      split at hs
      · rename_i h64
        cases hs
        exact go _ rfl (alloc_out h hf0 (hE.types _ _ hti) h64)
      · cases hs
    · cases hs
  case box t x =>
    split at hs
    · rename_i ti hti
      split at hs
      · rename_i h64
        simp only [Bool.and_eq_true, beq_iff_eq, decide_eq_true_eq] at h64
        cases hs
        refine go _ rfl (box_out h hf0 (hT.rd x) ?_ (by omega))
        intro e0
        rw [e0] at h64
        simp at h64
        omega
      · cases hs
    · cases hs
  case load t p => exact go _ rfl (load_out h hg hE.types (hT.rd p) hs)
  case store t p x => exact go _ rfl (store_out h hg hE.types (hT.rd p) (hT.rd x) hs)
  case nilCheck x =>
    obtain ⟨b, hb, ho⟩ := nil_out (fresh := fresh) h (hT.rd x) hs
    refine go (pure (.value (a.eval x))) ?_ ho
    simp only [execOp, hb]
  case binOp op t x y s =>
    obtain ⟨h1, rfl⟩ := bind_ret_den hs
    exact go _ rfl (bin_out h hE.types hE.eqs (hT.rd x) (hT.rd y) h1)
  case unOp op t x =>
    obtain ⟨h1, rfl⟩ := bind_ret_den hs
    exact go _ rfl (un_out h (hT.rd x) h1)
  case convert s d x =>
    obtain ⟨h1, rfl⟩ := bind_ret_den hs
    exact go _ rfl (conv_out h hE.types (hT.rd x) h1)
  case extract x i => exact go _ rfl (extract_out h (hT.rd x) hs)
  case field s x f =>
    unfold doField at hs
    split at hs
    · rename_i off ti l hfa hx
      split at hs
      · rename_i v' hm
        cases hs
        exact go _ rfl (field_out h hE.types hfa (hx ▸ hT.rd x) hm)
      · cases hs
    · cases hs
  case fieldAddr s x f => exact go _ rfl (fieldAddr_out h hE.types (hT.rd x) hs)
  case indexAddr t x ix => exact go _ rfl (indexAddr_out h hg hE.types (hT.rd x) (hT.rd ix) hs)
  case index t x ix => exact go _ rfl (index_out h hE.types (hT.rd x) (hT.rd ix) hs)
  case build t parts =>
    obtain ⟨h1, rfl⟩ := bind_ret_den hs
    exact go _ rfl (build_out h hE.types (by rw [Array.toList_map]; exact all2_parts hT _) h1)
  case buildSlice t n parts => exact go _ rfl (lit_out h hg hf0 hE.types (by rw [Array.toList_map]; exact all2_parts hT _) hs)
  case makeSlice t l c => exact go _ rfl (make_out h hf0 hE.types (hT.rd l) (hT.rd c) hs)
  case slice t x lo hi mx =>
    cases mx with
    | some _ => cases hs
    | none =>
      refine go _ rfl (slice_out h hg hE.types (hT.rd x) (lov := lo.map a.eval) (hiv := hi.map a.eval) ?_ ?_ ?_ ?_ hs)
      · intro x hx; cases lo with
        | none => cases hx
        | some l => cases hx; exact ⟨_, rfl, hT.rd l⟩
      · intro hx; cases lo with
        | none => rfl
        | some l => cases hx
      · intro x hx; cases hi with
        | none => cases hx
        | some l => cases hx; exact ⟨_, rfl, hT.rd l⟩
      · intro hx; cases hi with
        | none => rfl
        | some l => cases hx
  case call c =>
    obtain ⟨callee, args, argTypes⟩ := c
    cases callee with
    | invoke r m => cases hs
    | value f =>
      cases f <;> try (cases hs; done)
      rename_i f
      simp only [Sees] at hsee
      simp only at hs
      rw [doCall_view e f _ fresh hsee] at hs
      cases hfn : e.fn f with
      | none => unfold doCall at hs; rw [hfn] at hs; cases hs
      | some sp =>
        obtain ⟨hsp, fn, hf1, hf2, hf3⟩ := hE.fns f sp hfn
        have hargs := all2_rd hT args.toList
        rw [← Array.toList_map] at hargs
        have hc := callRel h hf hsp hfn (vs := (args.map a.eval).toList) hargs hs
        have hname : fn.name ≠ "runtime.NumGoroutine" := by simpa using hf3
        have hrun : (execOp a.eval ⟨dst, .call ⟨.value (.func f), args, argTypes⟩, type, pos, after, guard⟩).run P w = .ok (.enter f (args.map a.eval)) w := by
          have hb : fn.body ≠ none := by intro e0; rw [e0] at hf2; cases hf2
          simp [execOp, resolve, Deferred.ofValue, Act.eval, invoke, callFunc, hf1, hname, hb]
        unfold Oper.wp
        rw [hrun, Oper.upon_enter]
        simp only [Array.toArray_toList] at hc
        refine hc.mono ?_
        rintro e' w' ⟨cv, rfl, hst⟩
        exact hn w' cv hst
    | builtin b =>
      cases b <;> simp only [doBuiltin] at hs <;> try (cases hs; done)
      case len =>
        obtain ⟨args⟩ := args
        match args, hs with
        | [x], hs => exact go (do pure (.value (← Builtin.len_ argTypes type #[a.eval x]))) (by simp [execOp, resolve, invoke, builtin]) (len_out h hg hE.types (hT.rd x) hs)
        | [], hs => cases hs
        | _ :: _ :: _, hs => cases hs
      case append =>
        obtain ⟨args⟩ := args
        obtain ⟨argTypes⟩ := argTypes
        match args, hs with
        | [s, x], hs =>
          match argTypes, hs with
          | [t, t'], hs =>
            simp only [List.map_cons, List.map_nil] at hs
            split at hs
            · rename_i ht
              subst ht
              exact go (do pure (.value (← Builtin.append_ #[t, t] type #[a.eval s, a.eval x]))) (by simp [execOp, resolve, invoke, builtin]) (append_out h hg hf0 hE.types (hT.rd s) (hT.rd x) hs)
            · cases hs
          | [], hs => cases hs
          | [_], hs => cases hs
          | _ :: _ :: _ :: _, hs => cases hs
        | [], hs => cases hs
        | [_], hs => cases hs
        | _ :: _ :: _ :: _, hs => cases hs
      case max => exact go _ rfl (max_out h (by rw [Array.toList_map]; exact all2_rd hT _) hs)
      case min => exact go _ rfl (min_out h (by rw [Array.toList_map]; exact all2_rd hT _) hs)
end
end Go.Proofs.Ytipfipnhgpbceaa.Sx
