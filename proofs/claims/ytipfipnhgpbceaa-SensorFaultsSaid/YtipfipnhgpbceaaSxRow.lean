/- A statement's arguments, opened; and handed back (plain theorems). -/
import Derived.Test.YtipfipnhgpbceaaSxTypes
import Derived.WalkKit
import Derived.ProofKit
import Derived.OpenShut
import Derived.ChangeOld
import Derived.Below
import Derived.SizedLaws
set_option linter.unusedVariables false
set_option linter.unusedSimpArgs false
namespace Go.Proofs.Ytipfipnhgpbceaa.Sx
open Go Go.ChangeShapes Go.WideShapes Go.RowKit

def okW (W : World) : Okp := fun _ b => b < W.heap.size
def rho0 : Rho := fun _ => none

section
variable {P : Program}
/-- What a type's cells are, read as data. -/
def Opens (P : Program) (t : TypeId) (R : List Sc → Prop) : Prop :=
  ∀ (H : Type) (enc : TypeId × Value → H) (W : World) (fuel : Nat) (cs : List Value) (x : DataW H × List MemPlace),
    DataW.trod enc P W 0 (fun _ => true) true fuel t cs = some x → ∃ l, R l ∧ All2 (SRel W rho0 (okW W)) cs l
def isInt (k : IntKind) (l : List Sc) : Prop := ∃ n, l = [.int k n] ∧ (Lit.int k n).wf = true
def isBool (l : List Sc) : Prop := ∃ b, l = [.bool b]
def isVec (E : K) (Q : D E → Prop) (l : List Sc) : Prop := ∃ xs : List (D E), l = [.vec false E xs] ∧ ∀ x ∈ xs, Q x
def RAll : List (List Sc → Prop) → List Sc → Prop
  | [], l => l = []
  | R :: Rs, l => ∃ a b, l = a ++ b ∧ R a ∧ RAll Rs b
def FieldsOK (P : Program) (tot : Nat) : Nat → List Field → List (List Sc → Prop) → Prop
  | off, [], [] => off = tot
  | off, f :: fs, R :: Rs => f.offset = off ∧ Opens P f.type R ∧ FieldsOK P tot (off + P.cellsOf f.type) fs Rs
  | _, _, _ => False

theorem opens_int {t : TypeId} {k : IntKind} (ht : P.underlying t = some (.int k)) : Opens P t (isInt k) := by
  intro H enc W fuel cs x h
  obtain ⟨n, rfl, _, hw⟩ := DataW.trod_int ht h
  exact ⟨[.int k n], ⟨n, rfl, hw⟩, .int _ _, trivial⟩
theorem opens_bool {t : TypeId} (ht : P.underlying t = some .bool) : Opens P t isBool := by
  intro H enc W fuel cs x h
  obtain ⟨b, rfl, _⟩ := DataW.trod_bool ht h
  exact ⟨[.bool b], ⟨b, rfl⟩, .bool _, trivial⟩

theorem fields_open {H : Type} {enc : TypeId × Value → H} {W : World} {n tot : Nat} {cs : List Value} : ∀ {fs : List Field} {Rs : List (List Sc → Prop)} {off : Nat}, FieldsOK P tot off fs Rs → cs.length = tot →
    (∀ f ∈ fs, ∃ x, DataW.trod enc P W 0 (fun _ => true) true n f.type ((cs.drop f.offset).take (P.cellsOf f.type)) = some x) → ∃ l, RAll Rs l ∧ All2 (SRel W rho0 (okW W)) (cs.drop off) l
  | [], [], off, h, hl, _ => by
    have h' : off = tot := h
    exact ⟨[], rfl, by rw [List.drop_of_length_le (by omega)]; trivial⟩
  | f :: fs, R :: Rs, off, h, hl, hf => by
    obtain ⟨h1, h2, h3⟩ := h
    obtain ⟨x, hx⟩ := hf f (by simp)
    rw [h1] at hx
    obtain ⟨a, ha, hra⟩ := h2 _ _ _ _ _ _ hx
    obtain ⟨b, hb, hrb⟩ := fields_open h3 hl (fun g hg => hf g (by simp [hg]))
    refine ⟨a ++ b, ⟨a, b, rfl, ha, hb⟩, ?_⟩
    have : cs.drop off = (cs.drop off).take (P.cellsOf f.type) ++ cs.drop (off + P.cellsOf f.type) := by
      rw [← List.drop_drop, List.take_append_drop]
    rw [this]
    exact hra.append hrb
  | [], _ :: _, _, h, _, _ => h.elim
  | _ :: _, [], _, h, _, _ => h.elim
theorem opens_struct {t : TypeId} {fs : Array Field} {Rs : List (List Sc → Prop)} (ht : P.underlying t = some (.struct fs)) (hf : FieldsOK P (P.cellsOf t) 0 fs.toList Rs) : Opens P t (RAll Rs) := by
  intro H enc W fuel cs x h
  obtain ⟨xs, n, rfl, rfl, hl, hx, hall⟩ := DataW.trod_struct ht h
  have := fields_open (enc := enc) (W := W) (n := n) hf hl (fun f hf => by
    obtain ⟨i, hi⟩ := List.getElem?_of_mem hf
    have h1 : fs[i]? = some f := by simpa using hi
    have h2 := hall i f h1
    have h3 : i < xs.length := by rw [hx]; exact (Array.getElem?_eq_some_iff.1 h1).1
    rw [List.getElem?_eq_getElem h3] at h2
    exact ⟨_, h2⟩)
  simpa using this
theorem opens_imp {t : TypeId} {R R' : List Sc → Prop} (h : Opens P t R) (hi : ∀ l, R l → R' l) : Opens P t R' :=
  fun H enc W fuel cs x hx => by obtain ⟨l, h1, h2⟩ := h H enc W fuel cs x hx; exact ⟨l, hi l h1, h2⟩

theorem cells?_get {W : World} {a : Addr} {n : Nat} {cs : List Value} (h : W.cells? 0 a n = some cs) : cs.length = n ∧ ∀ i, i < n → W.cell? (a.add i) = cs[i]? := by
  obtain ⟨_, h1, h2⟩ := World.cells?_some h
  exact ⟨h1, h2⟩
theorem All2.idx {α β : Type} {R : α → β → Prop} : ∀ {as : List α} {bs : List β}, All2 R as bs → ∀ (j : Nat) (d : α) (b : β), bs[j]? = some b → R (as.getD j d) b
  | as, bs, h, j, d, b, hb => by
    obtain ⟨a, ha, hr⟩ := h.get hb
    rw [List.getD_eq_getElem?_getD, ha]
    exact hr

/-- A slice whose elements open. -/
theorem opens_slice {t e : TypeId} {E : K} {Q : D E → Prop} (ht : P.underlying t = some (.slice e)) (hc : P.cellsOf e = esize E) (he : Opens P e (fun l => ∃ x : D E, l = enc E x ∧ Q x)) : Opens P t (isVec E Q) := by
  intro H en W fuel cs x h
  rcases DataW.trod_slice ht h with ⟨rfl, _⟩ | ⟨a, len, cap, elems, rest, n, rfl, rfl, _, _, hlc, _, hel, hall, _, _⟩
  · exact ⟨[.vec false E []], ⟨[], rfl, fun _ hx => by simp at hx⟩, .vec0 _ _ _ _, trivial⟩
  · rw [hc] at hall
    -- each element's cells, and what they hold
    have key : ∀ i, i < len → ∃ (cl : List Value) (d : D E), cl.length = esize E ∧ (∀ j, j < esize E → W.cell? ((a.add (i * esize E)).add j) = cl[j]?) ∧ Q d ∧ All2 (SRel W rho0 (okW W)) cl (enc E d) := by
      intro i hi
      have h1 := hall i hi
      rw [List.getElem?_eq_getElem (by omega)] at h1
      obtain ⟨cl, h2, h3⟩ := Option.bind_eq_some_iff.1 h1
      obtain ⟨g1, g2⟩ := cells?_get h2
      obtain ⟨l, ⟨d, rfl, hq⟩, hr⟩ := he _ _ _ _ _ _ h3
      exact ⟨cl, d, g1, g2, hq, hr⟩
    by_cases h0 : len = 0
    · subst h0
      exact ⟨[.vec false E []], ⟨[], rfl, fun _ hx => by simp at hx⟩, .vec0 _ _ _ _, trivial⟩
    obtain ⟨blk, off, spot⟩ := a
    have hspot : spot = none := by
      obtain ⟨cl, d, g1, g2, _⟩ := key 0 (by omega)
      have hp := esize_pos E
      have h5 := g2 0 hp
      rw [List.getElem?_eq_getElem (by omega)] at h5
      simpa [Addr.add] using World.cell?_spot h5
    subst hspot
    have hblk : blk < W.heap.size := by
      obtain ⟨cl, d, g1, g2, _⟩ := key 0 (by omega)
      have hp := esize_pos E
      have h5 := g2 0 hp
      rw [List.getElem?_eq_getElem (by omega)] at h5
      simpa [Addr.add] using World.block_lt_of_cell? _ _ h5
    have key2 : ∀ i : Nat, ∃ (d : D E), i < len → Q d ∧ ∃ cl : List Value, cl.length = esize E ∧ (∀ j, j < esize E → W.cell? ⟨blk, off + (i * esize E + j), none⟩ = cl[j]?) ∧ All2 (SRel W rho0 (okW W)) cl (enc E d) := by
      intro i
      by_cases hi : i < len
      · obtain ⟨cl, d, g1, g2, g3, g4⟩ := key i hi
        exact ⟨d, fun _ => ⟨g3, cl, g1, fun j hj => by have := g2 j hj; rwa [add_plain, add_plain, Nat.add_assoc] at this, g4⟩⟩
      · exact ⟨dflt E, fun h => absurd h hi⟩
    let dd : Nat → D E := fun i => Classical.choose (key2 i)
    have hdd : ∀ i, i < len → Q (dd i) ∧ ∃ cl : List Value, cl.length = esize E ∧ (∀ j, j < esize E → W.cell? ⟨blk, off + (i * esize E + j), none⟩ = cl[j]?) ∧ All2 (SRel W rho0 (okW W)) cl (enc E (dd i)) := fun i hi => Classical.choose_spec (key2 i) hi
    let xs : List (D E) := (List.range len).map dd
    have hxl : xs.length = len := by simp [xs]
    have hxg : ∀ i, i < len → xs.getD i (dflt E) = dd i := fun i hi => by
      rw [List.getD_eq_getElem?_getD, List.getElem?_eq_getElem (by omega)]
      simp [xs]
    let U : Nat → Value := fun k => (W.cell? ⟨blk, off + k, none⟩).getD undef
    have hU : ∀ i j, i < len → j < esize E → ∃ cl : List Value, cl.length = esize E ∧ W.cell? ⟨blk, off + (i * esize E + j), none⟩ = some (cl.getD j undef) ∧ All2 (SRel W rho0 (okW W)) cl (enc E (dd i)) := fun i j hi hj => by
      obtain ⟨_, cl, g1, g2, g3⟩ := hdd i hi
      refine ⟨cl, g1, ?_, g3⟩
      rw [g2 j hj, List.getD_eq_getElem?_getD, List.getElem?_eq_getElem (by omega)]
      rfl
    refine ⟨[.vec false E xs], ⟨xs, rfl, fun x hx => ?_⟩, ?_, trivial⟩
    · obtain ⟨i, hi, rfl⟩ := List.mem_map.1 hx
      exact (hdd i (List.mem_range.1 hi)).1
    · have hp := esize_pos E
      have dm : ∀ k, k < len * esize E → k / esize E < len ∧ k % esize E < esize E ∧ k = k / esize E * esize E + k % esize E := fun k hk =>
        ⟨Nat.div_lt_of_lt_mul (by rw [Nat.mul_comm]; exact hk), Nat.mod_lt _ hp, by rw [Nat.mul_comm]; exact (Nat.div_add_mod k _).symm⟩
      have := SRel.vec (w := W) (ρ := rho0) (ok := okW W) false E xs blk off cap U (by omega) hblk (fun k hk => by
        rw [hxl] at hk
        obtain ⟨d1, d2, d3⟩ := dm k hk
        obtain ⟨cl, c1, c2, c3⟩ := hU _ _ d1 d2
        rw [← d3] at c2
        show _ = some ((W.cell? ⟨blk, off + k, none⟩).getD undef)
        rw [c2]; rfl) (fun k s hs => by
        have hk : k < len * esize E := by
          have := (List.getElem?_eq_some_iff.1 hs).1
          rw [flat_len, hxl] at this
          exact this
        obtain ⟨d1, d2, d3⟩ := dm k hk
        obtain ⟨cl, c1, c2, c3⟩ := hU _ _ d1 d2
        rw [← d3] at c2
        rw [d3, flat_get E xs _ _ (by omega) d2, hxg _ d1] at hs
        have := c3.idx _ undef _ hs
        show SRel W rho0 (okW W) ((W.cell? ⟨blk, off + k, none⟩).getD undef) s
        rw [c2]
        exact this)
      rw [hxl] at this
      exact this

/-- An argument: what it is. -/
def ArgTy (P : Program) (t : TypeId) (R : AV → Prop) : Prop :=
  ∀ (H : Type) (enc : TypeId × Value → H) (W : World) (base : Nat) (v : Value) (d : DataW H) (ps : List MemPlace), Value.okWide P W .any base t v → DataW.Trod enc P W 0 (fun _ => true) true t v d ps → ∃ a, R a ∧ VRel W rho0 (okW W) v a
theorem arg_int {t : TypeId} {k : IntKind} (ht : P.underlying t = some (.int k)) : ArgTy P t (fun a => ∃ n, a = .one (.int k n) ∧ (Lit.int k n).wf = true) := by
  intro H enc W base v d ps hv hd
  obtain ⟨n, rfl, _, _, hw⟩ := open_int ht hv hd
  exact ⟨_, ⟨n, rfl, hw⟩, .one _ _ (.int _ _)⟩
theorem arg_slice {t e : TypeId} {E : K} {Q : D E → Prop} (ht : P.underlying t = some (.slice e)) (hc : P.cellsOf e = esize E) (he : Opens P e (fun l => ∃ x : D E, l = enc E x ∧ Q x)) : ArgTy P t (fun a => ∃ xs : List (D E), a = .one (.vec false E xs) ∧ ∀ x ∈ xs, Q x) := by
  intro H en W base v d ps hv hd
  obtain ⟨A, len, cap, rfl⟩ := okWide_slice ht hv
  obtain ⟨fuel, hf⟩ := hd
  obtain ⟨l, ⟨xs, rfl, hq⟩, hr⟩ := opens_slice ht hc he _ _ _ _ _ _ hf
  have hr' : SRel W rho0 (okW W) (.slice A len cap) (.vec false E xs) := by
    simpa [Value.cells, All2] using hr
  exact ⟨_, ⟨xs, rfl, hq⟩, .one _ _ hr'⟩
theorem arg_struct {t : TypeId} {fs : Array Field} {R : List Sc → Prop} (ht : P.underlying t = some (.struct fs)) (ho : Opens P t R) : ArgTy P t (fun a => ∃ l, a = .agg l ∧ R l) := by
  intro H en W base v d ps hv hd
  obtain ⟨cs, rfl, _⟩ := okWide_struct ht hv
  obtain ⟨fuel, hf⟩ := hd
  obtain ⟨l, hl, hr⟩ := ho _ _ _ _ _ _ hf
  exact ⟨_, ⟨l, rfl, hl⟩, .agg _ _ hr⟩
theorem arg_imp {t : TypeId} {R R' : AV → Prop} (h : ArgTy P t R) (hi : ∀ a, R a → R' a) : ArgTy P t R' :=
  fun H enc W base v d ps h1 h2 => by obtain ⟨a, ha, hr⟩ := h H enc W base v d ps h1 h2; exact ⟨a, hi a ha, hr⟩

def ArgsTy (P : Program) : List TypeId → List (AV → Prop) → Prop
  | [], [] => True
  | t :: ts, R :: Rs => ArgTy P t R ∧ ArgsTy P ts Rs
  | _, _ => False
def AVs : List (AV → Prop) → List AV → Prop
  | [], [] => True
  | R :: Rs, a :: as => R a ∧ AVs Rs as
  | _, _ => False
theorem args_open {H : Type} {enc : TypeId × Value → H} {W : World} {base : Nat} : ∀ {ts : List TypeId} {Rs : List (AV → Prop)} {vs : List Value} {ds : List (DataW H)} {ps : List MemPlace}, ArgsTy P ts Rs → DataW.TrodAll enc P W 0 (fun _ => true) true ts vs ds ps →
    (∀ (j : Nat) t v, ts[j]? = some t → vs[j]? = some v → Value.okWide P W .any base t v) → ∃ as, AVs Rs as ∧ All2 (VRel W rho0 (okW W)) vs as
  | [], [], vs, ds, ps, _, h, _ => by
    obtain ⟨rfl, _, _⟩ := trodAll_nil h
    exact ⟨[], trivial, trivial⟩
  | t :: ts, R :: Rs, vs, ds, ps, hT, h, hv => by
    obtain ⟨v, vs', d, ds', p, q, rfl, rfl, rfl, h1, h2⟩ := trodAll_cons h
    obtain ⟨a, ha, hr⟩ := hT.1 _ _ _ _ _ _ _ (hv 0 t v rfl rfl) h1
    obtain ⟨as, has, hrs⟩ := args_open hT.2 h2 (fun j t v ht hv' => hv (j + 1) t v (by simpa using ht) (by simpa using hv'))
    exact ⟨a :: as, ⟨ha, has⟩, hr, hrs⟩
  | [], _ :: _, _, _, _, hT, _, _ => hT.elim
  | _ :: _, [], _, _, _, hT, _, _ => hT.elim
theorem args_back {H : Type} {enc : TypeId × Value → H} (hl : laidOutB P = true) {W W' : World} (hb : Below W.heap.size W W') : ∀ {ts : List TypeId} {vs : List Value} {ds : List (DataW H)} {ps : List MemPlace}, (ts.all fun t => P.readableRec t && decide (t < P.types.size)) = true →
    DataW.TrodAll enc P W 0 (fun _ => true) true ts vs ds ps → DataW.TrodAll enc P W' 0 (fun b => decide (b < W.heap.size)) true ts vs ds ps
  | [], vs, ds, ps, _, h => by
    obtain ⟨rfl, rfl, rfl⟩ := trodAll_nil h
    exact trodAll_mk0
  | t :: ts, vs, ds, ps, hr, h => by
    obtain ⟨v, vs', d, ds', p, q, rfl, rfl, rfl, h1, h2⟩ := trodAll_cons h
    rw [List.all_cons, Bool.and_eq_true, Bool.and_eq_true, decide_eq_true_eq] at hr
    have hlt : ∀ x ∈ p, x.block < W.heap.size := by obtain ⟨m, hm⟩ := h1; exact DataW.trod_lt m _ _ _ hm
    exact trodAll_cons_mk (Below.trod hl hr.1.1 hr.1.2 h1 hb hlt) (args_back hl hb hr.2 h2)

theorem hrel_empty (W : World) : HRel W rho0 (okW W) (initMem 0 []).get where
  cells := fun id off s h => by cases h
  rows := fun id off E xs h => by cases h
  dist := fun l l' b h => by obtain ⟨⟨c, hc⟩, _⟩ := h; cases hc
  oks := fun x b h => ⟨h, fun l hl => by obtain ⟨⟨c, hc⟩, _⟩ := hl; cases hc⟩
  cont := fun id off s h => by cases h

/-- A law that its contract proves. -/
theorem law_calls {f : FuncId} {sp : Spec} (hs : SpecOK P f sp) {W : World} {vs : List Value} {as : List AV} (hr : All2 (VRel W rho0 (okW W)) vs as) (ht : (sp.run as []).den = some (.one (.bool true), [])) :
    Calls P f vs.toArray W fun e W' => e = .returned (.bool true) ∧ Below W.heap.size W W' := by
  refine (hs W rho0 (okW W) vs as [] _ _ (hrel_empty W) (fun _ _ => rfl) hr ht).mono ?_
  rintro e W' ⟨v, ρ', okf, rfl, hp, hv⟩
  have hv' : v = .bool true := by
    cases hv with
    | one _ _ h => cases h; rfl
  subst hv'
  have hf := hp.fr
  refine ⟨rfl, hf.os, hf.tape, hf.output, hf.size, fun b hb => hf.heap b hb ?_⟩
  intro hM
  obtain ⟨l, ⟨⟨c, hc⟩, _⟩⟩ := hM
  cases hc
end
end Go.Proofs.Ytipfipnhgpbceaa.Sx
