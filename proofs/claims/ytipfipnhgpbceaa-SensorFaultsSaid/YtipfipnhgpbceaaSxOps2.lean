/- The symbolic machine's operations that reckon, and that lead on to fields and elements (plain theorems). -/
import Derived.Test.YtipfipnhgpbceaaSxOps
set_option linter.unusedVariables false
set_option linter.unusedSimpArgs false
namespace Go.Proofs.Ytipfipnhgpbceaa.Sx
open Go

def encV : (E : K) → D E → Array Value
  | .span, s => #[.int .i64 s.lo, .int .i64 s.hi]
  | .measure, m => #[.int .i64 m.sensor, .int .i64 m.time, .int .i64 m.lo, .int .i64 m.hi]
  | .pair, p => #[.int .i64 p.a, .int .i64 p.b]
  | _, _ => #[]
/-- Two structs of a type are compared as told. -/
def QOK (P : Program) (t : TypeId) (E : K) : Prop :=
  P.eqGuardType P.depth t = false ∧ ∀ x y r w, eqK E x y = some r → (Op.equal t (.agg (encV E x)) (.agg (encV E y))).run P w = .ok r w

theorem Tr.den_bind {α β : Type} (t : Tr α) (f : α → Tr β) : (t.bind f).den = t.den.bind fun x => (f x).den := by
  induction t with
  | fail => rfl
  | ret a => rfl
  | ite b t e iht ihe => cases b <;> simp [Tr.bind, Tr.den, iht, ihe]
  | call o g ih =>
    cases o with
    | none => rfl
    | some x => simp [Tr.bind, Tr.den, ih]

section
variable {C : Ctx} {w : World} {ρ : Rho} {ok : Okp} {g gv : Get} {fresh : Nat} {P : Program}

theorem need_den {α : Type} {b : Bool} {t : Tr α} {x : α} (h : (Tr.need b t).den = some x) : b = true ∧ t.den = some x := by
  cases b with
  | true => exact ⟨rfl, h⟩
  | false => cases h

theorem encV_of {E : K} {l : List Sc} {x y : D E} {r : Bool} {us : Array Value} (hd : dec E l = some x) (hr : eqK E x y = some r) (h : All2 (SRel w ρ ok) us.toList l) : us = encV E x := by
  have h' := dec_rel hd h
  have key : ∀ v k n, SRel w ρ ok v (.int k n) → v = .int k n := fun v k n h => by cases h; rfl
  obtain ⟨us⟩ := us
  cases E
  case span =>
    have h2 : All2 (SRel w ρ ok) us [.int .i64 x.lo, .int .i64 x.hi] := h'
    match us, h2 with
    | [a, b], h2 => rw [key _ _ _ h2.1, key _ _ _ h2.2.1]; rfl
  case measure =>
    have h2 : All2 (SRel w ρ ok) us [.int .i64 x.sensor, .int .i64 x.time, .int .i64 x.lo, .int .i64 x.hi] := h'
    match us, h2 with
    | [a, b, c, d], h2 => rw [key _ _ _ h2.1, key _ _ _ h2.2.1, key _ _ _ h2.2.2.1, key _ _ _ h2.2.2.2.1]; rfl
  case pair =>
    have h2 : All2 (SRel w ρ ok) us [.int .i64 x.a, .int .i64 x.b] := h'
    match us, h2 with
    | [a, b], h2 => rw [key _ _ _ h2.1, key _ _ _ h2.2.1]; rfl
  all_goals (cases hr)

theorem run_equalIn_bool (d : Nat) {t : TypeId} (ht : P.underlying t = some .bool) (a b : Bool) (w : World) : (Op.equalIn (d + 1) t (.bool a) (.bool b)).run P w = .ok (a == b) w := by
  simp [Op.equalIn, run_underlying ht]
theorem run_equal_bool {t : TypeId} (ht : P.underlying t = some .bool) (a b : Bool) (w : World) : (Op.equal t (.bool a) (.bool b)).run P w = .ok (a == b) w := run_equalIn_bool 9999 ht a b w

theorem agg_rel {v : Value} {l : List Sc} (h : VRel w ρ ok v (.agg l)) : ∃ vs, v = .agg vs ∧ All2 (SRel w ρ ok) vs.toList l := by
  cases h with
  | agg vs l h => exact ⟨vs, rfl, h⟩

theorem bin_out (h : CRel C w ρ ok g) {e : Env} (hE : ∀ t ti, e.tt t = some ti → TOK P t ti) (hQ : ∀ t E, e.eqk t = some E → QOK P t E) {op : BinOp} {t : TypeId} {ox oy : Operand} {xv yv : Value} {x y : AV} (hx : VRel w ρ ok xv x) (hy : VRel w ρ ok yv y) {v : AV}
    (hs : (doBin e op t x y).den = some v) : Out C w ρ ok g fresh ((do pure (.value (← (do eqGuard op t ox oy xv yv; binOp op t xv yv))) : Sem Next).run P w) v [] := by
  unfold doBin at hs
  split at hs
  · rename_i k a k' b
    have h1 := int_rel hx
    have h2 := int_rel hy
    subst h1 h2
    have hgd : (eqGuard op t ox oy (.int k a) (.int k' b)).run P w = .ok () w := by unfold eqGuard; split <;> rfl
    split at hs
    · obtain ⟨hb, hs⟩ := need_den hs
      cases hs
      simp at hb
      have hn : ¬ b < 0 := by omega
      simp only [Sem.run_bind, hgd, Result.andThen_ok, binOp, Op.shift, hn, if_false, Sem.run_pure]
      exact Out.pure h (.one _ _ (.int _ _))
    · obtain ⟨hb, hs⟩ := need_den hs
      cases hs
      simp at hb
      have hn : ¬ b < 0 := by omega
      simp only [Sem.run_bind, hgd, Result.andThen_ok, binOp, Op.shift, hn, if_false, Sem.run_pure]
      exact Out.pure h (.one _ _ (.int _ _))
    · split at hs
      · rename_i hk
        subst hk
        split at hs
        all_goals first
          | (cases hs; simp only [Sem.run_bind, hgd, Result.andThen_ok, binOp, ne_eq, not_true_eq_false, if_false, Op.intArith, Op.intCmp, Sem.run_pure]; exact Out.pure h (.one _ _ (.int _ _)))
          | (cases hs; simp only [Sem.run_bind, hgd, Result.andThen_ok, binOp, ne_eq, not_true_eq_false, if_false, Op.intArith, Op.intCmp, Sem.run_pure]; exact Out.pure h (.one _ _ (.bool _)))
          | (cases hs; simp only [Sem.run_bind, hgd, Result.andThen_ok, binOp, ne_eq, not_true_eq_false, if_false, Op.intBits, Sem.run_pure]; exact Out.pure h (.one _ _ (.int _ _)))
          | (obtain ⟨hb, hs⟩ := need_den hs
             cases hs
             have hn : ¬ b = 0 := by simpa using hb
             simp only [Sem.run_bind, hgd, Result.andThen_ok, binOp, ne_eq, not_true_eq_false, if_false, Op.intDiv, hn, Sem.run_pure]
             exact Out.pure h (.one _ _ (.int _ _)))
          | cases hs
      · cases hs
  · rename_i a b
    have h1 := bool_rel hx
    have h2 := bool_rel hy
    subst h1 h2
    have hgd : (eqGuard op t ox oy (.bool a) (.bool b)).run P w = .ok () w := by unfold eqGuard; split <;> rfl
    have hu : ∀ z, kindOf e t = some (.scal (.bool z)) → P.underlying t = some .bool := fun z hk => by
      unfold kindOf at hk
      split at hk
      · rename_i ti hti
        have hT := (hE t ti hti).kind
        rw [Option.some.inj hk] at hT
        obtain ⟨d, h1, _, _, h2⟩ := hT
        rw [h1, h2 z rfl]
      · cases hk
    split at hs
    · rename_i z hk
      cases hs
      simp only [Sem.run_bind, hgd, Result.andThen_ok, binOp, run_equal_bool (hu _ hk), Sem.run_pure]
      exact Out.pure h (.one _ _ (.bool _))
    · rename_i z hk
      cases hs
      simp only [Sem.run_bind, hgd, Result.andThen_ok, binOp, run_equal_bool (hu _ hk), Sem.run_pure]
      exact Out.pure h (.one _ _ (.bool _))
    · cases hs
  · rename_i l l'
    obtain ⟨vs, rfl, hvs⟩ := agg_rel hx
    obtain ⟨vs', rfl, hvs'⟩ := agg_rel hy
    have key : ∀ r, doEq e t l l' = some r → (eqGuard op t ox oy (.agg vs) (.agg vs')).run P w = .ok () w ∧ (Op.equal t (.agg vs) (.agg vs')).run P w = .ok r w := by
      intro r hr
      unfold doEq at hr
      split at hr
      · rename_i E hE'
        split at hr
        · rename_i x' y' hdx hdy
          obtain ⟨q1, q2⟩ := hQ t E hE'
          have e1 := encV_of hdx hr hvs
          have e2 : vs' = encV E y' := by
            have hr' : ∃ r', eqK E y' x' = some r' := by cases E <;> first | exact ⟨_, rfl⟩ | cases hr
            obtain ⟨r', hr'⟩ := hr'
            exact encV_of hdy hr' hvs'
          subst e1 e2
          refine ⟨?_, q2 _ _ _ w hr⟩
          unfold eqGuard
          cases op <;> simp [q1]
        · cases hr
      · cases hr
    split at hs
    · rename_i r hr
      cases hs
      obtain ⟨k1, k2⟩ := key r hr
      simp only [Sem.run_bind, k1, k2, Result.andThen_ok, binOp, Sem.run_pure]
      exact Out.pure h (.one _ _ (.bool _))
    · rename_i r hr
      cases hs
      obtain ⟨k1, k2⟩ := key r hr
      simp only [Sem.run_bind, k1, k2, Result.andThen_ok, binOp, Sem.run_pure]
      exact Out.pure h (.one _ _ (.bool _))
    · cases hs
  · cases hs

theorem un_out (h : CRel C w ρ ok g) {op : UnOp} {xv : Value} {x : AV} (hx : VRel w ρ ok xv x) {v : AV} (hs : (doUn op x).den = some v) :
    Out C w ρ ok g fresh ((do pure (.value (← Op.unary op xv)) : Sem Next).run P w) v [] := by
  unfold doUn at hs
  split at hs
  · cases hs
    have h1 := int_rel hx
    subst h1
    simp only [Op.unary, Op.intArith, Sem.run_bind, Sem.run_pure, Result.andThen_ok]
    exact Out.pure h (.one _ _ (.int _ _))
  · cases hs
    have h1 := bool_rel hx
    subst h1
    simp only [Op.unary, Sem.run_bind, Sem.run_pure, Result.andThen_ok]
    exact Out.pure h (.one _ _ (.bool _))
  · cases hs

theorem kindOf_int {e : Env} (hE : ∀ t ti, e.tt t = some ti → TOK P t ti) {t : TypeId} {k : IntKind} {n : Int} (hk : kindOf e t = some (.scal (.int k n))) : P.underlying t = some (.int k) := by
  unfold kindOf at hk
  split at hk
  · rename_i ti hti
    have hT := (hE t ti hti).kind
    rw [Option.some.inj hk] at hT
    obtain ⟨d, h1, _, h2, _⟩ := hT
    rw [h1, h2 k n rfl]
  · cases hk

theorem conv_out (h : CRel C w ρ ok g) {e : Env} (hE : ∀ t ti, e.tt t = some ti → TOK P t ti) {s d : TypeId} {xv : Value} {x : AV} (hx : VRel w ρ ok xv x) {v : AV} (hs : (doConvert e s d x).den = some v) :
    Out C w ρ ok g fresh ((do pure (.value (← convert s d xv)) : Sem Next).run P w) v [] := by
  unfold doConvert at hs
  split at hs
  · rename_i k1 z1 k2 z2 k3 n hk1 hk2
    cases hs
    have h1 := int_rel hx
    subst h1
    simp only [convert, Sem.run_bind, run_underlying (kindOf_int hE hk1), run_underlying (kindOf_int hE hk2), Result.andThen_ok, Conv.intToInt, Sem.run_pure]
    exact Out.pure h (.one _ _ (.int _ _))
  · cases hs

theorem field_at {e : Env} (hE : ∀ t ti, e.tt t = some ti → TOK P t ti) {s : TypeId} {f off : Nat} {te : TI} (hf : fieldAt e s f = some (off, te)) :
    ∃ (F : Array Field) (fl : Field), P.underlying s = some (.struct F) ∧ F[f]? = some fl ∧ fl.offset = off ∧ TOK P fl.type te ∧ 0 < te.size := by
  unfold fieldAt at hf
  split at hf
  · rename_i ti hti
    split at hf
    · rename_i fs hk
      split at hf
      · rename_i off' t' hfs
        split at hf
        · rename_i te' hte
          split at hf
          · rename_i hpos
            simp at hf
            obtain ⟨rfl, rfl⟩ := hf
            have hT := (hE s ti hti).kind
            rw [hk] at hT
            obtain ⟨F, h1, h2, _⟩ := hT
            rw [← h2, List.getElem?_map] at hfs
            cases hF : F.toList[f]? with
            | none => rw [hF] at hfs; cases hfs
            | some fl =>
              rw [hF] at hfs
              simp at hfs
              obtain ⟨rfl, rfl⟩ := hfs
              exact ⟨F, fl, h1, by simpa using hF, rfl, hE _ _ hte, hpos⟩
          · cases hf
        · cases hf
      · cases hf
    · cases hf
  · cases hf

theorem part_run {t : TypeId} {te : TI} (hT : TOK P t te) (w : World) (vs : Array Value) (l : List Sc) (off : Nat) (hv : All2 (SRel w ρ ok) vs.toList l) {v : AV} (hm : mkAV te.isAgg ((l.drop off).take te.size) = some v) :
    ∃ cv, (part t vs off).run P w = .ok cv w ∧ VRel w ρ ok cv v := by
  obtain ⟨h1, h2⟩ := mkAV_rel ((hv.drop off).take te.size) hm
  refine ⟨_, ?_, h1⟩
  unfold part
  rw [Sem.run_bind, hT.agg, Result.andThen_ok]
  cases ha : te.isAgg with
  | true =>
    simp only [if_true, Sem.run_bind, hT.size, Result.andThen_ok, Sem.run_pure]
    congr 2
    apply Array.ext'
    simp [List.extract_eq_take_drop]
  | false =>
    have h3 := h2 ha
    have h4 := ((hv.drop off).take te.size).length
    rw [h3] at h4
    simp only [Bool.false_eq_true, if_false]
    have hlt : off < vs.size := by
      simp at h4; omega
    rw [Array.getElem?_eq_getElem hlt]
    simp only [Sem.run_pure]
    congr 1
    have hpos : 0 < te.size := by simp at h4; omega
    rw [List.getD_eq_getElem?_getD, List.getElem?_take_of_lt hpos, List.getElem?_drop]
    simp [Array.getElem?_eq_getElem hlt]

theorem field_out (h : CRel C w ρ ok g) {e : Env} (hE : ∀ t ti, e.tt t = some ti → TOK P t ti) {s : TypeId} {f off : Nat} {te : TI} (hf : fieldAt e s f = some (off, te)) {xv : Value} {l : List Sc} (hx : VRel w ρ ok xv (.agg l)) {v : AV}
    (hm : mkAV te.isAgg ((l.drop off).take te.size) = some v) : Out C w ρ ok g fresh ((do pure (.value (← Instr.field s xv f)) : Sem Next).run P w) v [] := by
  obtain ⟨F, fl, h1, h2, rfl, h3, _⟩ := field_at hE hf
  obtain ⟨vs, rfl, hvs⟩ := agg_rel hx
  obtain ⟨cv, hrun, hr⟩ := part_run h3 w vs l fl.offset hvs hm
  simp only [Instr.field, Sem.run_bind, run_underlying h1, Result.andThen_ok, h2, asAgg, Sem.run_pure, hrun]
  exact Out.pure h hr

theorem fieldAddr_run {e : Env} (hE : ∀ t ti, e.tt t = some ti → TOK P t ti) {s : TypeId} {f off : Nat} {te : TI} (hf : fieldAt e s f = some (off, te)) (w : World) (b o : Nat) :
    (do pure (.value (← Instr.fieldAt s (.pointer (some ⟨b, o, none⟩)) f)) : Sem Next).run P w = .ok (.value (.pointer (some ⟨b, o + off, none⟩))) w := by
  obtain ⟨F, fl, h1, h2, rfl, h3, h4⟩ := field_at hE hf
  have : ¬ te.size = 0 := by omega
  simp [Instr.fieldAt, Sem.run_bind, run_underlying h1, h2, Instr.sureAddr, fieldPlace, h3.size, this, addr_add]

theorem fieldAddr_out (h : CRel C w ρ ok g) {e : Env} (hE : ∀ t ti, e.tt t = some ti → TOK P t ti) {s : TypeId} {f : Nat} {pv : Value} {p : AV} (hp : VRel w ρ ok pv p) {v : AV} {u : Upd}
    (hs : (doFieldAddr e s f p).den = some (v, u)) : Out C w ρ ok g fresh ((do pure (.value (← Instr.fieldAt s pv f)) : Sem Next).run P w) v u := by
  unfold doFieldAddr at hs
  split at hs
  · rename_i off te id o hf
    cases hs
    obtain ⟨b, rfl, hr⟩ := ptr_rel hp
    rw [fieldAddr_run hE hf]
    exact Out.pure h (.one _ _ (.ptr _ _ _ hr))
  · rename_i off te id E i o hf
    cases hs
    cases hp with
    | one _ _ hp => cases hp with
      | eptr _ _ _ _ b n cap hh h0 h1 =>
        rw [fieldAddr_run hE hf, Nat.add_assoc]
        exact Out.pure h (.one _ _ (.eptr _ _ _ _ _ _ _ hh h0 h1))
  · rename_i off te bo E xs i o hf
    cases hs
    cases hp with
    | one _ _ hp => cases hp with
      | vptr _ _ _ _ _ b o' U hok h0 h1 hcell hrel =>
        rw [fieldAddr_run hE hf, show o' + (i.toNat * esize E + o) + off = o' + (i.toNat * esize E + (o + off)) by omega]
        exact Out.pure h (.one _ _ (.vptr _ _ _ _ _ _ _ U hok h0 h1 hcell hrel))
  · cases hs

theorem kindOf_slc {e : Env} (hE : ∀ t ti, e.tt t = some ti → TOK P t ti) {t : TypeId} {E : K} (hk : kindOf e t = some (.slc E)) :
    ∃ el ie z, P.underlying t = some (.slice el) ∧ P.info? el = some ie ∧ ie.size = esize E ∧ ie.bytes ≤ 128 ∧ ie.zero = some z ∧ All2 ZRel z.cells.toList (enc E (dflt E)) := by
  unfold kindOf at hk
  split at hk
  · rename_i ti hti
    have hT := (hE t ti hti).kind
    rw [Option.some.inj hk] at hT
    exact hT
  · cases hk
theorem kindOf_arr {e : Env} (hE : ∀ t ti, e.tt t = some ti → TOK P t ti) {t : TypeId} {n : Nat} {el : TypeId} (hk : kindOf e t = some (.arr n el)) : P.underlying t = some (.array n el) := by
  unfold kindOf at hk
  split at hk
  · rename_i ti hti
    have hT := (hE t ti hti).kind
    rw [Option.some.inj hk] at hT
    exact hT
  · cases hk

theorem idx_spec {n : Nat} {i : Int} (h : idx n i = true) : 0 ≤ i ∧ i < n := by simpa [idx] using h
end
end Go.Proofs.Ytipfipnhgpbceaa.Sx
