/- The symbolic machine: a table of types, checked (plain theorems). -/
import Derived.Test.YtipfipnhgpbceaaSxCode
import Derived.Laws.StructEq
set_option linter.unusedVariables false
set_option linter.unusedSimpArgs false
namespace Go.Proofs.Ytipfipnhgpbceaa.Sx
open Go Go.RowKit

def zrelB : Value → Sc → Bool
  | .int k n, .int k' n' => decide (k = k') && n == n'
  | .bool b, .bool b' => b == b'
  | .slice none 0 0, .nils => true
  | .slice _ 0 _, .vec _ _ [] => true
  | _, _ => false
def zrelAll : List Value → List Sc → Bool
  | [], [] => true
  | v :: vs, s :: l => zrelB v s && zrelAll vs l
  | _, _ => false
theorem zrelB_ok {v : Value} {s : Sc} (h : zrelB v s = true) : ZRel v s := by
  intro w ρ ok
  unfold zrelB at h
  split at h
  · simp only [Bool.and_eq_true, decide_eq_true_eq, beq_iff_eq] at h
    obtain ⟨rfl, rfl⟩ := h
    exact .int _ _
  · simp only [beq_iff_eq] at h
    subst h
    exact .bool _
  · exact .nils
  · exact .vec0 _ _ _ _
  · cases h
theorem zrelAll_ok : ∀ {vs : List Value} {l : List Sc}, zrelAll vs l = true → All2 ZRel vs l
  | [], [], _ => trivial
  | v :: vs, s :: l, h => by
    simp only [zrelAll, Bool.and_eq_true] at h
    exact ⟨zrelB_ok h.1, zrelAll_ok h.2⟩
  | [], _ :: _, h => by cases h
  | _ :: _, [], h => by cases h

def sameFields : List Field → List (Nat × TypeId) → Bool
  | [], [] => true
  | f :: fs, (o, t) :: r => f.offset == o && f.type == t && sameFields fs r
  | _, _ => false
theorem sameFields_ok : ∀ {F : List Field} {l : List (Nat × TypeId)}, sameFields F l = true → F.map (fun f => (f.offset, f.type)) = l
  | [], [], _ => rfl
  | f :: fs, (o, t) :: r, h => by
    simp only [sameFields, Bool.and_eq_true, beq_iff_eq] at h
    rw [List.map_cons, h.1.1, h.1.2, sameFields_ok h.2]
  | [], _ :: _, h => by cases h
  | _ :: _, [], h => by cases h
def kokB (P : Program) (d : TypeDesc) : TK → Bool
  | .scal z => !aggD d && (match z with | .int k _ => (match d with | .int k' => decide (k = k') | _ => false) | .bool _ => (match d with | .bool => true | _ => false) | _ => true)
  | .strct fs => match d with
    | .struct F => sameFields F.toList fs && F.toList.all fun f => (P.info? f.type).isSome
    | _ => false
  | .slc E => match d with
    | .slice el => match P.info? el with
      | some ie => ie.size == esize E && decide (ie.bytes ≤ 128) && (match ie.zero with | some z => zrelAll z.cells.toList (enc E (dflt E)) | none => false)
      | none => false
    | _ => false
  | .arr n el => match d with
    | .array n' el' => n == n' && el == el'
    | _ => false
def tokB (P : Program) (t : TypeId) (ti : TI) : Bool :=
  match P.info? t, P.underlying t with
  | some i, some d => i.size == ti.size && (match i.zero with | some z => zrelAll z.cells.toList ti.zero | none => false) && kokB P d ti.kind
  | _, _ => false
theorem tokB_ok {P : Program} {t : TypeId} {ti : TI} (h : tokB P t ti = true) : TOK P t ti := by
  unfold tokB at h
  split at h
  · rename_i i d hi hd
    simp only [Bool.and_eq_true, beq_iff_eq] at h
    obtain ⟨⟨h1, h2⟩, h3⟩ := h
    split at h2
    · rename_i z hz
      refine ⟨⟨i, z, hi, h1, hz, zrelAll_ok h2⟩, ?_⟩
      unfold kokB at h3
      unfold KOK
      split at h3
      · rename_i z' hk
        rw [hk]
        simp only [Bool.and_eq_true, Bool.not_eq_true'] at h3
        refine ⟨d, hd, h3.1, fun k n e0 => ?_, fun b e0 => ?_⟩
        · subst e0
          have h4 := h3.2
          dsimp only at h4
          split at h4
          · rw [of_decide_eq_true h4]
          · cases h4
        · subst e0
          have h4 := h3.2
          dsimp only at h4
          split at h4
          · rfl
          · cases h4
      · rename_i fs hk
        rw [hk]
        split at h3
        · rename_i F
          simp only [Bool.and_eq_true] at h3
          exact ⟨F, hd, sameFields_ok h3.1, fun f hf => List.all_eq_true.1 h3.2 f (by simpa using hf)⟩
        · cases h3
      · rename_i E hk
        rw [hk]
        split at h3
        · rename_i el
          split at h3
          · rename_i ie hie
            simp only [Bool.and_eq_true, beq_iff_eq, decide_eq_true_eq] at h3
            obtain ⟨⟨h4, h5⟩, h6⟩ := h3
            split at h6
            · rename_i z' hz'
              exact ⟨el, ie, z', hd, hie, h4, h5, hz', zrelAll_ok h6⟩
            · cases h6
          · cases h3
        · cases h3
      · rename_i n el hk
        rw [hk]
        split at h3
        · rename_i n' el'
          simp only [Bool.and_eq_true, beq_iff_eq] at h3
          obtain ⟨rfl, rfl⟩ := h3
          exact hd
        · cases h3
    · cases h2
  · cases h

def lookT (l : List (TypeId × TI)) : TT := fun t => match l with
  | [] => none
  | (t', ti) :: r => if t' == t then some ti else lookT r t
theorem lookT_ok {P : Program} : ∀ {l : List (TypeId × TI)}, (l.all fun p => tokB P p.1 p.2) = true → ∀ t ti, lookT l t = some ti → TOK P t ti
  | [], _, t, ti, h => by cases h
  | (t', ti') :: r, hl, t, ti, h => by
    rw [List.all_cons, Bool.and_eq_true] at hl
    unfold lookT at h
    split at h
    · rename_i he
      cases h
      have : t' = t := by simpa using he
      subst this
      exact tokB_ok hl.1
    · exact lookT_ok hl.2 t ti h

/-! ### '==' of structs -/
section
variable {P : Program} {d : Nat} {xs ys : Array Value} {f : Field} {fs : List Field} {a b : Value} {r s : Bool} {w : World}
theorem eqf_cons (hn : (f.name == "_") = false) (ha : (part f.type xs f.offset).run P w = .ok a w) (hb : (part f.type ys f.offset).run P w = .ok b w) (he : (Op.equalIn d f.type a b).run P w = .ok r w) (hr : (Op.eqFields d xs ys fs).run P w = .ok s w) : (Op.eqFields d xs ys (f :: fs)).run P w = .ok (r && s) w := by
  have hn' : f.name ≠ "_" := by simpa using hn
  rw [Op.eqFields]
  simp only [if_pos hn', Sem.run_bind, ha, hb, he, Result.andThen_ok]
  cases r
  · simp
  · simpa using hr
theorem eqf_nil : (Op.eqFields d xs ys []).run P w = .ok true w := by simp [Op.eqFields]
theorem eqA_of {t : TypeId} {fs : Array Field} (hu : P.underlying t = some (.struct fs)) (hp : P.stoodInHeld t = false) (h : (Op.eqFields d xs ys fs.toList).run P w = .ok r w) : (Op.equalIn (d + 1) t (.agg xs) (.agg ys)).run P w = .ok r w := by
  have hf : P.fieldsOf t = fs := by simp [Program.fieldsOf, hu]
  rw [run_equalIn_struct (P := P) w d t xs ys (by rw [hf]; exact hu) hp, hf]
  exact h
theorem eq_int {t : TypeId} {k : IntKind} (hu : P.underlying t = some (.int k)) (x y : Int) (w : World) : (Op.equalIn (d + 1) t (.int k x) (.int k y)).run P w = .ok (x == y) w := by
  simp [Op.equalIn, run_underlying hu]
end

/-! ### The contracts that a function may use -/
def lookF (l : List (FuncId × Spec)) : FuncId → Option Spec := fun f => match l with
  | [] => none
  | (f', sp) :: r => if f' == f then some sp else lookF r f
def FnsOK (P : Program) : List (FuncId × Spec) → Prop
  | [] => True
  | (f, sp) :: r => (SpecOK P f sp ∧ FnOK P f) ∧ FnsOK P r
theorem lookF_ok {P : Program} : ∀ {l : List (FuncId × Spec)}, FnsOK P l → ∀ f sp, lookF l f = some sp → SpecOK P f sp ∧ FnOK P f
  | [], _, f, sp, h => by cases h
  | (f', sp') :: r, hl, f, sp, h => by
    unfold lookF at h
    split at h
    · rename_i he
      cases h
      have : f' = f := by simpa using he
      subst this
      exact hl.1
    · exact lookF_ok hl.2 f sp h
theorem specOK_of {P : Program} {e : Env} (hE : EnvOK P e) (hm : P.follows .mixedOrders = true) {f : FuncId} {fn : Func} (hf : P.funcs[f]? = some fn) (keep : Code → Keep) {sp : Spec}
    (h : ∀ as obs r os, (sp.run as obs).den = some (r, os) → ∃ n, (evalF e fn keep n as obs).den = some (r, os)) : SpecOK P f sp := by
  intro w ρ ok vs as obs r os hH hρ hv hs
  obtain ⟨n, hn⟩ := h as obs r os hs
  exact evalF_ok hE hm hf hH hρ hv hn
theorem fnOK_of {P : Program} {f : FuncId} {fn : Func} (hf : P.funcs[f]? = some fn) (hb : fn.body.isNone = false) (hn : (fn.name == "runtime.NumGoroutine") = false) : FnOK P f := ⟨fn, hf, hb, hn⟩

/-! ### What is kept at loops' heads -/
def ridOf : Code → Option Nat
  | .region id _ _ => some id
  | .seq a b => match ridOf a with | some i => some i | none => ridOf b
  | .cond _ a b => match ridOf a with | some i => some i | none => ridOf b
  | .block _ c => ridOf c
  | .loop c => ridOf c
  | _ => none
def keepOf (l : List (Nat × Keep)) (c : Code) : Keep :=
  match ridOf c with
  | none => ⟨[], [], []⟩
  | some i => look i l
where look (i : Nat) : List (Nat × Keep) → Keep
  | [] => ⟨[], [], []⟩
  | (j, k) :: r => if j == i then k else look i r
/-- What is left to do at a loop that is found on a way through the code. -/
def stkAt : List Nat → Code → List It → List It
  | [], .loop c, k => .lp c :: k
  | [], c, k => .code c :: k
  | 0 :: p, .seq a b, k => stkAt p a (.code b :: k)
  | _ :: p, .seq _ b, k => stkAt p b k
  | 0 :: p, .cond _ a _, k => stkAt p a k
  | _ :: p, .cond _ _ b, k => stkAt p b k
  | _ :: p, .block id c, k => stkAt p c (.blk id :: k)
  | _ :: p, .loop c, k => stkAt p c (.lp c :: k)
  | _ :: _, c, k => .code c :: k
def bodyF (fn : Func) : Option Code := fn.body
noncomputable def stkF (fn : Func) (p : List Nat) : List It := match fn.body with | some c => stkAt p c [] | none => []
end Go.Proofs.Ytipfipnhgpbceaa.Sx
