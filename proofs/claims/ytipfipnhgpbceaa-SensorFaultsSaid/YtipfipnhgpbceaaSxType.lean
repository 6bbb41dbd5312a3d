/- The symbolic machine: types, and single operations that look at memory or make some (plain theorems). -/
import Derived.Test.YtipfipnhgpbceaaSxHeap
import Derived.Laws.IdiomCopy
import Derived.WalkKit
set_option linter.unusedVariables false
set_option linter.unusedSimpArgs false
namespace Go.Proofs.Ytipfipnhgpbceaa.Sx
open Go

def aggD : TypeDesc → Bool
  | .struct _ => true
  | .array _ _ => true
  | _ => false
def ZRel (v : Value) (s : Sc) : Prop := ∀ w ρ ok, SRel w ρ ok v s
def KOK (P : Program) (t : TypeId) : TK → Prop
  | .scal z => ∃ d, P.underlying t = some d ∧ aggD d = false ∧ (∀ k n, z = .int k n → d = .int k) ∧ (∀ b, z = .bool b → d = .bool)
  | .strct fs => ∃ F : Array Field, P.underlying t = some (.struct F) ∧ F.toList.map (fun f => (f.offset, f.type)) = fs ∧ ∀ f ∈ F, (P.info? f.type).isSome = true
  | .slc E => ∃ el ie z, P.underlying t = some (.slice el) ∧ P.info? el = some ie ∧ ie.size = esize E ∧ ie.bytes ≤ 128 ∧ ie.zero = some z ∧ All2 ZRel z.cells.toList (enc E (dflt E))
  | .arr n el => P.underlying t = some (.array n el)
/-- What is said of a type is so. -/
structure TOK (P : Program) (t : TypeId) (ti : TI) : Prop where
  info : ∃ i z, P.info? t = some i ∧ i.size = ti.size ∧ i.zero = some z ∧ All2 ZRel z.cells.toList ti.zero
  kind : KOK P t ti.kind

theorem TOK.size {P : Program} {t : TypeId} {ti : TI} (h : TOK P t ti) (w : World) : (sizeOf t).run P w = .ok ti.size w := by
  obtain ⟨i, z, h1, h2, h3, h4⟩ := h.info
  simp [sizeOf, typeInfo, h1, h2]
theorem TOK.zero {P : Program} {t : TypeId} {ti : TI} (h : TOK P t ti) : ∃ z, (∀ w, (zeroValue t).run P w = .ok z w) ∧ All2 ZRel z.cells.toList ti.zero := by
  obtain ⟨i, z, h1, h2, h3, h4⟩ := h.info
  exact ⟨z, fun w => by simp [zeroValue, typeInfo, h1, h3], h4⟩
theorem TOK.und {P : Program} {t : TypeId} {ti : TI} (h : TOK P t ti) : ∃ d, P.underlying t = some d ∧ aggD d = ti.isAgg := by
  have hk := h.kind
  unfold TI.isAgg
  cases hkk : ti.kind with
  | scal z => rw [hkk] at hk; obtain ⟨d, h1, h2, _⟩ := hk; exact ⟨d, h1, h2⟩
  | strct fs => rw [hkk] at hk; obtain ⟨F, h1, _⟩ := hk; exact ⟨_, h1, rfl⟩
  | slc E => rw [hkk] at hk; obtain ⟨el, ie, z, h1, _⟩ := hk; exact ⟨_, h1, rfl⟩
  | arr n el => rw [hkk] at hk; exact ⟨_, hk, rfl⟩
theorem TOK.agg {P : Program} {t : TypeId} {ti : TI} (h : TOK P t ti) (w : World) : (isAgg t).run P w = .ok ti.isAgg w := by
  obtain ⟨d, h1, h2⟩ := h.und
  rw [← h2]
  unfold isAgg
  rw [Sem.run_bind, run_underlying h1]
  cases d <;> rfl

theorem addr_add (b o n : Nat) : (⟨b, o, none⟩ : Addr).add n = ⟨b, o + n, none⟩ := by unfold Addr.add; split <;> simp_all

/-- A read of a type, its cells known. -/
theorem run_loadVar {P : Program} {t : TypeId} {ti : TI} (h : TOK P t ti) (w : World) (b o : Nat) (us : List Value) (hl : us.length = ti.size) (hc : ∀ j u, us[j]? = some u → w.cell? ⟨b, o + j, none⟩ = some u) (hn : ti.isAgg = false → ti.size = 1) :
    (loadVar t ⟨b, o, none⟩).run P w = .ok (if ti.isAgg then .agg us.toArray else us.getD 0 undef) w := by
  unfold loadVar
  rw [Sem.run_bind, h.agg, Result.andThen_ok]
  cases ha : ti.isAgg with
  | true =>
    have hc' : ∀ j u, us[j]? = some u → w.cell? ((⟨b, o, none⟩ : Addr).add j) = some u := fun j u hu => by rw [addr_add]; exact hc j u hu
    have := run_loadCells_list (P := P) w ⟨b, o, none⟩ us hc'
    rw [hl] at this
    simp [h.size, this]
  | false =>
    have h1 := hn ha
    rw [h1] at hl
    match us, hl with
    | [u], _ =>
      have := hc 0 u rfl
      simp only [Nat.add_zero] at this
      simp [this]

theorem mkAV_rel {w : World} {ρ : Rho} {ok : Okp} {agg : Bool} {us : List Value} {l : List Sc} {v : AV} (h : All2 (SRel w ρ ok) us l) (hv : mkAV agg l = some v) :
    VRel w ρ ok (if agg then .agg us.toArray else us.getD 0 undef) v ∧ (agg = false → l.length = 1) := by
  unfold mkAV at hv
  cases agg with
  | true => simp at hv; subst hv; exact ⟨.agg _ _ (by simpa using h), by simp⟩
  | false =>
    simp at hv
    match l, us, h, hv with
    | [s], [u], h, hv => simp at hv; subst hv; exact ⟨.one _ _ h.1, by simp⟩
    | [], _, _, hv => simp at hv
    | _ :: _ :: _, _, _, hv => simp at hv
    | [_], [], h, _ => exact h.elim
    | [_], _ :: _ :: _, h, _ => exact h.2.elim

theorem cellsAt_rel {w : World} {ρ : Rho} {ok : Okp} {g : Get} (h : HRel w ρ ok g) (id b : Nat) (hr : ρ id = some (.pointer (some ⟨b, 0, none⟩))) : ∀ (n off : Nat) (l : List Sc), cellsAt g id off n = some l →
    ∃ us : List Value, us.length = n ∧ All2 (SRel w ρ ok) us l ∧ (∀ j u, us[j]? = some u → w.cell? ⟨b, off + j, none⟩ = some u) ∧ (∀ j, j < n → w.frozen? ⟨b, off + j, none⟩ = false ∧ ∃ s, g (id, off + j) = some (.cell s))
  | 0, off, l, hl => by
    simp [cellsAt] at hl; subst hl
    exact ⟨[], rfl, trivial, by simp, by omega⟩
  | n + 1, off, l, hl => by
    unfold cellsAt at hl
    split at hl
    · rename_i s hg
      split at hl
      · rename_i l' hl'
        simp at hl; subst hl
        obtain ⟨us, h1, h2, h3, h4⟩ := cellsAt_rel h id b hr n (off + 1) l' hl'
        obtain ⟨b', v, c1, c2, c3, c4⟩ := h.cells id off s hg
        have : b' = b := by have := Option.some.inj (c1.symm.trans hr); simpa using this
        subst this
        refine ⟨v :: us, by simp [h1], ⟨c4, h2⟩, ?_, ?_⟩
        · intro j u hu
          cases j with
          | zero => simp at hu; subst hu; simpa using c2
          | succ j => have := h3 j u (by simpa using hu); rwa [show off + (j + 1) = off + 1 + j by omega]
        · intro j hj
          cases j with
          | zero => exact ⟨by simpa using c3, s, by simpa using hg⟩
          | succ j => have := h4 j (by omega); rwa [show off + (j + 1) = off + 1 + j by omega]
      · cases hl
    · cases hl

theorem All2.left {α β : Type} {R : α → β → Prop} {as : List α} {bs : List β} (h : All2 R as bs) {a : α} (ha : a ∈ as) : ∃ b, R a b := by
  obtain ⟨j, hj⟩ := List.getElem?_of_mem ha
  obtain ⟨b, _, hr⟩ := h.get' hj
  exact ⟨b, hr⟩

/-- Stores, one cell behind the other. -/
theorem CRel.setCells {C : Ctx} {ρ : Rho} {ok : Okp} {id b : Nat} (hr : ρ id = some (.pointer (some ⟨b, 0, none⟩))) : ∀ (vs : List Value) (l : List Sc) (off : Nat) (w : World) (g : Get), CRel C w ρ ok g →
    All2 (SRel w ρ ok) vs l → (∀ j, j < l.length → ∃ s, g (id, off + j) = some (.cell s)) →
    CRel C (w.setCells b off vs) ρ ok (updG g (putCells id off l)) ∧ Ext w ρ ok (w.setCells b off vs) ρ ok
  | [], [], off, w, g, h, _, _ => ⟨h, Ext.refl _ _ _⟩
  | v :: vs, s :: l, off, w, g, h, hv, hg => by
    obtain ⟨s0, hs0⟩ := hg 0 (by simp)
    obtain ⟨h1, h2⟩ := h.setCell hr (by simpa using hs0) hv.1
    obtain ⟨h3, h4⟩ := CRel.setCells hr vs l (off + 1) _ _ h1 (hv.2.imp fun _ _ => SRel.mono h2) (fun j hj => by
      rw [upd1_ne g _ (by intro e; have := congrArg Prod.snd e; simp at this; omega)]
      have := hg (j + 1) (by simp; omega)
      rwa [show off + 1 + j = off + (j + 1) by omega])
    exact ⟨h3, h2.trans h4⟩
  | [], _ :: _, _, _, _, _, hv, _ => hv.elim
  | _ :: _, [], _, _, _, _, hv, _ => hv.elim

/-- Cells of a new block become known. -/
theorem CRel.addCells {C : Ctx} {w : World} {ρ : Rho} {ok : Okp} {id b : Nat} (hr : ρ id = some (.pointer (some ⟨b, 0, none⟩))) (hk : ∀ x, ¬ ok x b) (hown : C.w0.heap.size ≤ b ∨ C.M0 b)
    : ∀ (vs : List Value) (l : List Sc) (off : Nat) (g : Get), CRel C w ρ ok g → All2 (SRel w ρ ok) vs l → (∀ j u, vs[j]? = some u → w.cell? ⟨b, off + j, none⟩ = some u ∧ w.frozen? ⟨b, off + j, none⟩ = false) →
    off + l.length ≤ 64 → (∀ o, o < off → ∃ s', g (id, o) = some (.cell s')) → (∀ l', LiveAt g ρ l' b → l'.1 = id) → CRel C w ρ ok (updG g (putCells id off l))
  | [], [], off, g, h, _, _, _, _, _ => h
  | v :: vs, s :: l, off, g, h, hv, hc, ho, hp, hd => by
    have h0 := hc 0 v (by simp)
    simp only [Nat.add_zero] at h0
    have h1 := h.addCell hr h0.1 h0.2 hv.1 (by simp at ho; omega) hp hd hk hown
    refine CRel.addCells hr hk hown vs l (off + 1) _ h1 hv.2 (fun j u hu => ?_) (by simp at ho; omega) (fun o ho' => ?_) (fun l' hl' => ?_)
    · have := hc (j + 1) u (by simpa using hu)
      rwa [show off + (j + 1) = off + 1 + j by omega] at this
    · by_cases e : o = off
      · subst e; exact ⟨s, upd1_same _ _ _⟩
      · rw [upd1_ne g _ (by intro e'; exact e (congrArg Prod.snd e').symm)]; exact hp o (by omega)
    · rcases live_upd hl' with ⟨rfl, _⟩ | h'
      · rfl
      · exact hd l' h'
  | [], _ :: _, _, _, _, hv, _, _, _, _ => hv.elim
  | _ :: _, [], _, _, _, hv, _, _, _, _ => hv.elim

/-- A new variable. -/
theorem CRel.allocBox {C : Ctx} {w : World} {ρ : Rho} {ok : Okp} {g : Get} (h : CRel C w ρ ok g) {id : Nat} (hf : ρ id = none) (t : TypeId) (vs : Array Value) (l : List Sc)
    (hv : All2 (SRel w ρ ok) vs.toList l) (h64 : l.length ≤ 64) :
    CRel C (w.alloc (.cells vs t)) (updR ρ id (.pointer (some ⟨w.heap.size, 0, none⟩))) ok (updG g (putCells id 0 l)) ∧ Ext w ρ ok (w.alloc (.cells vs t)) (updR ρ id (.pointer (some ⟨w.heap.size, 0, none⟩))) ok := by
  obtain ⟨h1, h2⟩ := h.newBlock hf (.cells vs t) (.pointer (some ⟨w.heap.size, 0, none⟩))
  refine ⟨?_, h2⟩
  have hnl : ∀ l', ¬ LiveAt g (updR ρ id (.pointer (some ⟨w.heap.size, 0, none⟩))) l' w.heap.size := by
    rintro ⟨i, o⟩ ⟨⟨c, hc⟩, u, hu, hb⟩
    by_cases hi : i = id
    · subst hi; rw [h.fresh hf] at hc; cases hc
    · rw [updR_ne ρ _ hi] at hu
      have := h.live_lt (l := (i, o)) ⟨⟨c, hc⟩, u, hu, hb⟩
      omega
  refine CRel.addCells (b := w.heap.size) (updR_same _ _ _) (fun x hx => by have := (h.oks x _ hx).1; omega) (.inl h.fr.size) vs.toList l 0 g h1 (hv.imp fun _ _ => SRel.mono h2) (fun j u hu => ?_) (by omega) (by omega) (fun l' hl' => (hnl l' hl').elim)
  rw [Nat.zero_add, World.cell?_alloc_new]
  exact ⟨by simpa using hu, World.frozen?_alloc_new _ _ _ _⟩

theorem ptr_rel {w : World} {ρ : Rho} {ok : Okp} {v : Value} {id off : Nat} (h : VRel w ρ ok v (.one (.ptr id off))) : ∃ b, v = .pointer (some ⟨b, off, none⟩) ∧ ρ id = some (.pointer (some ⟨b, 0, none⟩)) := by
  cases h with
  | one v s h => cases h with
    | ptr id off b h => exact ⟨b, rfl, h⟩
theorem int_rel {w : World} {ρ : Rho} {ok : Okp} {v : Value} {k : IntKind} {n : Int} (h : VRel w ρ ok v (.one (.int k n))) : v = .int k n := by
  cases h with
  | one v s h => cases h; rfl
theorem bool_rel {w : World} {ρ : Rho} {ok : Okp} {v : Value} {b : Bool} (h : VRel w ρ ok v (.one (.bool b))) : v = .bool b := by
  cases h with
  | one v s h => cases h; rfl
end Go.Proofs.Ytipfipnhgpbceaa.Sx
