/- The symbolic machine: slices written out, structs built, new variables (plain theorems). -/
import Derived.Test.YtipfipnhgpbceaaSxOps5
set_option linter.unusedVariables false
set_option linter.unusedSimpArgs false
namespace Go.Proofs.Ytipfipnhgpbceaa.Sx
open Go

section
variable {C : Ctx} {w : World} {ρ : Rho} {ok : Okp} {g gv : Get} {fresh : Nat} {P : Program}

theorem run_mapM {α β : Type} (f : α → Sem β) (q : α → β) (xs : Array α) (w : World) (h : ∀ x ∈ xs, (f x).run P w = .ok (q x) w) : (xs.mapM f).run P w = .ok (xs.map q) w := by
  obtain ⟨l⟩ := xs
  have key : ∀ l : List α, (∀ x ∈ l, (f x).run P w = .ok (q x) w) → (l.mapM f).run P w = .ok (l.map q) w := by
    intro l
    induction l with
    | nil => intro _; rfl
    | cons x l ih =>
      intro h
      rw [List.mapM_cons, Sem.run_bind, h x (by simp), Result.andThen_ok, Sem.run_bind, ih (fun y hy => h y (by simp [hy])), Result.andThen_ok]
      rfl
  have := key l (fun x hx => h x (by simpa using hx))
  rw [List.mapM_toArray, Sem.run_map, this]
  simp

theorem set_fold (off : Nat) : ∀ (l : List Value) (k : Nat) (cells : Array Value), off + k + l.length ≤ cells.size →
    ((l.zipIdx k).foldl (fun (cs : Array Value) (p : Value × Nat) => cs.setIfInBounds (off + p.2) p.1) cells).toList = cells.toList.take (off + k) ++ l ++ cells.toList.drop (off + k + l.length)
  | [], k, cells, _ => by simp
  | v :: l, k, cells, h => by
    simp only [List.length_cons] at h
    rw [List.zipIdx_cons, List.foldl_cons, set_fold off l (k + 1) _ (by rw [Array.size_setIfInBounds]; omega)]
    simp only [Array.toList_setIfInBounds, List.length_cons]
    have hlt : off + k < cells.toList.length := by simp; omega
    rw [List.take_set, List.drop_set_of_lt (by omega), ← Nat.add_assoc, List.take_succ_eq_append_getElem hlt, List.set_append]
    simp only [List.length_take, Nat.min_eq_left (Nat.le_of_lt hlt), Nat.lt_irrefl, if_false, Nat.sub_self, List.set_cons_zero]
    rw [show off + k + (l.length + 1) = off + k + 1 + l.length by omega]
    simp
theorem set_fold' (off : Nat) (vc : Array Value) (cells : Array Value) (h : off + vc.size ≤ cells.size) :
    (vc.zipIdx.foldl (fun (cs : Array Value) (p : Value × Nat) => cs.setIfInBounds (off + p.2) p.1) cells).toList = cells.toList.take off ++ vc.toList ++ cells.toList.drop (off + vc.size) := by
  have := set_fold off vc.toList 0 cells (by simpa using h)
  rw [← Array.foldl_toList, Array.toList_zipIdx]
  simpa using this

/-- Parts, filled in. -/
theorem fill_rel {place : Nat → Option (Nat × Nat)} {place' : Nat → Option (Nat × Nat)} (hp : ∀ i p, place' i = some p → place i = some p) : ∀ (parts : List (Nat × Value)) (ps : List (Nat × AV)) (cells : Array Value) (z l : List Sc), All2 (SRel w ρ ok) cells.toList z →
    All2 (fun (a : Nat × Value) (b : Nat × AV) => a.1 = b.1 ∧ VRel w ρ ok a.2 b.2) parts ps → buildCells place' z (ps.map fun p => (p.1, p.2.cells)) = some l →
    ∃ cells', Instr.fill place cells parts = some cells' ∧ All2 (SRel w ρ ok) cells'.toList l
  | [], [], cells, z, l, hz, _, hb => by simp [buildCells] at hb; subst hb; exact ⟨cells, rfl, hz⟩
  | (i, v) :: parts, (j, x) :: ps, cells, z, l, hz, hps, hb => by
    obtain ⟨⟨hij, hv⟩, hps⟩ := hps
    simp only at hij hv
    subst hij
    simp only [List.map_cons, buildCells] at hb
    split at hb
    · rename_i off size hpl
      split at hb
      · rename_i hc
        have hxc := hv.cells (by intro e0; rw [e0] at hc; simp at hc; omega)
        have hsz : v.cells.size = size := by have := hxc.length; simp at this; omega
        have hcz : cells.size = z.length := by have := hz.length; simpa using this
        have hfold := set_fold' off v.cells cells (by omega)
        have hall : All2 (SRel w ρ ok) (v.cells.zipIdx.foldl (fun (cs : Array Value) (p : Value × Nat) => cs.setIfInBounds (off + p.2) p.1) cells).toList (splice z off x.cells) := by
          rw [hfold]
          unfold splice
          have hl2 : x.cells.length = v.cells.size := by omega
          rw [hl2]
          exact ((hz.take off).append hxc).append (hz.drop _)
        obtain ⟨cells', h1, h2⟩ := fill_rel hp parts ps _ _ l hall hps hb
        refine ⟨cells', ?_, h2⟩
        unfold Instr.fill
        rw [hp _ _ hpl]
        have hn : ¬ (v.cells.size ≠ size ∨ off + v.cells.size > cells.size) := by omega
        simp only [ne_eq, hsz, not_true_eq_false, decide_false, Bool.false_or, gt_iff_lt]
        rw [if_neg (by simp; omega)]
        exact h1
      · cases hb
    · cases hb
  | [], _ :: _, _, _, _, _, h, _ => h.elim
  | _ :: _, [], _, _, _, _, h, _ => h.elim

theorem build_out (h : CRel C w ρ ok g) {e : Env} (hE : ∀ t ti, e.tt t = some ti → TOK P t ti) {t : TypeId} {parts : Array (Nat × Value)} {ps : List (Nat × AV)} (hps : All2 (fun (a : Nat × Value) (b : Nat × AV) => a.1 = b.1 ∧ VRel w ρ ok a.2 b.2) parts.toList ps) {v : AV}
    (hs : (doBuild e t ps).den = some v) : Out C w ρ ok g fresh ((do pure (.value (← Instr.build t parts)) : Sem Next).run P w) v [] := by
  unfold doBuild at hs
  split at hs
  · rename_i ti hti
    have hT := hE t ti hti
    obtain ⟨z, hz, hzr⟩ := hT.zero
    have hzr' : All2 (SRel w ρ ok) z.cells.toList ti.zero := hzr.imp fun _ _ q => q _ _ _
    split at hs
    · rename_i fs hk
      split at hs
      · rename_i l hb
        cases hs
        have hkind := hT.kind
        rw [hk] at hkind
        obtain ⟨F, f1, f2, f3⟩ := hkind
        obtain ⟨cells', h1, h2⟩ := fill_rel (place := fun i => (F.map fun f => (f.offset, P.cellsOf f.type))[i]?) (fun i p hp => by
          cases hfa : fieldAt e t i with
          | none => rw [hfa] at hp; cases hp
          | some r =>
            rw [hfa] at hp
            simp at hp
            subst hp
            obtain ⟨F', fl, q1, q2, q3, q4, q5⟩ := field_at hE (off := r.1) (te := r.2) hfa
            have : F' = F := by rw [f1] at q1; simpa using q1.symm
            subst this
            obtain ⟨i', z', w1, w2, _⟩ := q4.info
            simp [q2, q3, Program.cellsOf, w1, w2]) parts.toList ps z.cells ti.zero l hzr' hps hb
        have hmap : (F.mapM fun f => do pure (f.offset, ← sizeOf f.type) : Sem (Array (Nat × Nat))).run P w = .ok (F.map fun f => (f.offset, P.cellsOf f.type)) w := by
          refine run_mapM _ _ F w fun f hf => ?_
          have := f3 f hf
          cases hi : P.info? f.type with
          | none => rw [hi] at this; cases this
          | some i => simp [sizeOf, typeInfo, hi, Program.cellsOf]
        have hrun : (do pure (.value (← Instr.build t parts)) : Sem Next).run P w = .ok (.value (.agg cells')) w := by
          simp only [Instr.build, Sem.run_bind, hz, Result.andThen_ok, run_underlying f1, hmap]
          rw [h1]
          simp
        rw [hrun]
        exact Out.pure h (.agg _ _ h2)
      · cases hs
    · rename_i n el hk
      split at hs
      · rename_i te hte
        split at hs
        · rename_i l hb
          cases hs
          have hkind := hT.kind
          rw [hk] at hkind
          have hTe := hE el te hte
          obtain ⟨cells', h1, h2⟩ := fill_rel (place := fun i => some (i * te.size, te.size)) (fun i p hp => by
            split at hp
            · exact hp
            · cases hp) parts.toList ps z.cells ti.zero l hzr' hps hb
          have hrun : (do pure (.value (← Instr.build t parts)) : Sem Next).run P w = .ok (.value (.agg cells')) w := by
            have hu : P.underlying t = some (.array n el) := hkind
            simp only [Instr.build, Sem.run_bind, hz, Result.andThen_ok, run_underlying hu, hTe.size]
            rw [h1]
            simp
          rw [hrun]
          exact Out.pure h (.agg _ _ h2)
        · cases hs
      · cases hs
    · cases hs
  · cases hs

theorem Ext.more {ok' : Okp} (h : ∀ x b, ok x b → ok' x b) : Ext w ρ ok w ρ ok' := ⟨fun _ _ _ => rfl, h, fun _ _ h => h⟩

/-- A slice of the call's own becomes one that is only read. -/
theorem thaw_one (h : CRel C w ρ ok g) (hg : ∀ l c, gv l = some c → g l = some c) {ok1 : Okp} {g1 : Get} (h1 : CRel C w ρ ok1 g1) (hsub : ∀ l c, g1 l = some c → g l = some c) (hok : ∀ x b, ok x b → ok1 x b)
    {v : Value} {s s' : Sc} {u : Upd} (hv : SRel w ρ ok v s) (ht : thawOne gv s = some (s', u)) :
    ∃ ok2, CRel C w ρ ok2 (updG g1 u) ∧ (∀ x b, ok1 x b → ok2 x b) ∧ (∀ l c, updG g1 u l = some c → g l = some c) ∧ SRel w ρ ok2 v s' := by
  unfold thawOne at ht
  split at ht
  · rename_i id
    split at ht
    · rename_i E xs hgr
      cases ht
      obtain ⟨A, cap, rfl, hr, hcap, hA⟩ := row_rel h.toHRel (hg _ _ hgr) (.one _ _ hv)
      have hkill := h1.kill (id := id) (fun s e0 => by have := hsub _ _ e0; rw [hg _ _ hgr] at this; cases this)
      have hsub' : ∀ l c, upd1 g1 (id, 0) none l = some c → g l = some c ∧ l ≠ (id, 0) := by
        intro l c hc
        by_cases hl : (id, 0) = l
        · subst hl; rw [upd1_same] at hc; cases hc
        · rw [upd1_ne g1 _ hl] at hc; exact ⟨hsub _ _ hc, fun e0 => hl e0.symm⟩
      rcases hA with ⟨rfl, rfl⟩ | ⟨b, T, cur, rfl, hheap, hcs, hall⟩
      · have : xs = [] := List.eq_nil_of_length_eq_zero (by omega)
        subst this
        exact ⟨ok1, hkill, fun _ _ h => h, fun l c hc => (hsub' l c hc).1, .vec0 _ _ _ _⟩
      · have hlive : LiveAt g ρ (id, 0) b := ⟨⟨_, hg _ _ hgr⟩, _, hr, rfl⟩
        have hnl : ∀ l', ¬ LiveAt (upd1 g1 (id, 0) none) ρ l' b := by
          rintro l' ⟨⟨c, hc⟩, hb⟩
          obtain ⟨hc', hne⟩ := hsub' _ _ hc
          have := h.dist (id, 0) l' b hlive ⟨⟨c, hc'⟩, hb⟩
          obtain ⟨i, o⟩ := l'
          have hid : id = i := this
          subst hid
          cases c with
          | rows E2 xs2 =>
            obtain ⟨rfl, _⟩ := h.rows id o E2 xs2 hc'
            exact hne rfl
          | cell s =>
            obtain ⟨b1, v1, hb1, _⟩ := h.cells id o s hc'
            rw [hr] at hb1; cases hb1
        obtain ⟨c1, c2⟩ := hkill.more (ok' := fun x b' => ok1 x b' ∨ b' = b) (fun x b' hb => .inl hb) (fun x b' hb => hb.imp (fun q => q) fun e0 => by
          subst e0
          exact ⟨h.live_lt hlive, hnl, h.own _ _ hlive⟩)
        refine ⟨_, c1, fun x b' hb => .inl hb, fun l c hc => (hsub' l c hc).1, ?_⟩
        refine SRel.vec false E xs b 0 cap (fun k => cur.toList.getD k undef) hcap (.inr rfl) ?_ ?_
        · intro k hk
          have hlt : k < cur.size := by rw [hcs]; have := Nat.mul_le_mul_right (esize E) hcap; omega
          simp [World.cell?, hheap, Array.getElem?_eq_getElem hlt]
        · intro k s hks
          obtain ⟨a, ha, hr'⟩ := hall.get hks
          have hlt : k < xs.length * esize E := by
            rw [← flat_len]; exact (List.getElem?_eq_some_iff.1 hks).1
          rw [List.getElem?_take_of_lt hlt] at ha
          simp only [List.getD_eq_getElem?_getD, ha]
          exact hr'.mono (Ext.more fun x b' hb => .inl (hok x b' hb))
    · cases ht
  · cases ht
  · cases ht
    exact ⟨ok1, h1, fun _ _ h => h, hsub, hv.mono (Ext.more hok)⟩

theorem freeze_all (h : CRel C w ρ ok g) (hg : ∀ l c, gv l = some c → g l = some c) : ∀ (l l' : List Sc) (u : Upd) (us : List Value) (ok1 : Okp) (g1 : Get), CRel C w ρ ok1 g1 → (∀ l c, g1 l = some c → g l = some c) → (∀ x b, ok x b → ok1 x b) →
    All2 (SRel w ρ ok) us l → freeze gv l = some (l', u) →
    ∃ ok2, CRel C w ρ ok2 (updG g1 u) ∧ (∀ x b, ok1 x b → ok2 x b) ∧ (∀ l c, updG g1 u l = some c → g l = some c) ∧ All2 (SRel w ρ ok2) us l'
  | [], l', u, [], ok1, g1, h1, hsub, hok, _, hf => by
    simp [freeze] at hf
    obtain ⟨rfl, rfl⟩ := hf
    exact ⟨ok1, h1, fun _ _ h => h, hsub, trivial⟩
  | s :: l, l', u, v :: us, ok1, g1, h1, hsub, hok, hv, hf => by
    unfold freeze at hf
    split at hf
    · rename_i s' u1 l'' u2 ht hf'
      cases hf
      obtain ⟨ok2, a1, a2, a3, a4⟩ := thaw_one h hg h1 hsub hok hv.1 ht
      obtain ⟨ok3, b1, b2, b3, b4⟩ := freeze_all h hg l l'' u2 us ok2 _ a1 a3 (fun x b hb => a2 x b (hok x b hb)) hv.2 hf'
      rw [updG_append]
      exact ⟨ok3, b1, fun x b hb => b2 x b (a2 x b hb), b3, a4.mono (Ext.more b2), b4⟩
    · cases hf
  | [], _, _, _ :: _, _, _, _, _, _, hv, _ => hv.elim
  | _ :: _, _, _, [], _, _, _, _, _, hv, _ => hv.elim

theorem dec_nil (E : K) : dec E [] = none := by cases E <;> rfl
theorem drop_past {α : Type} (X c : List α) (n N : Nat) (h : X.length = n) (hN : n ≤ N) : (X ++ c.drop n).drop N = c.drop N := by
  rw [List.drop_append, List.drop_of_length_le (by omega), List.nil_append, List.drop_drop, h]
  congr 1
  omega
theorem lit_elems (h : CRel C w ρ ok g) (hg : ∀ l c, gv l = some c → g l = some c) (E : K) : ∀ (ps : List (Nat × AV)) (parts : List (Nat × Value)) (i : Nat) (xs : List (D E)) (u : Upd) (ok1 : Okp) (g1 : Get), CRel C w ρ ok1 g1 → (∀ l c, g1 l = some c → g l = some c) → (∀ x b, ok x b → ok1 x b) →
    All2 (fun (a : Nat × Value) (b : Nat × AV) => a.1 = b.1 ∧ VRel w ρ ok a.2 b.2) parts ps → litElems E gv i ps = some (xs, u) →
    ∃ ok2, CRel C w ρ ok2 (updG g1 u) ∧ (∀ x b, ok1 x b → ok2 x b) ∧ (∀ l c, updG g1 u l = some c → g l = some c) ∧ All2 (SRel w ρ ok2) (parts.flatMap fun p => p.2.cells.toList) (flat E xs) ∧
      parts.length = xs.length ∧ (∀ j p, parts[j]? = some p → p.1 = i + j ∧ p.2.cells.size = esize E)
  | [], [], i, xs, u, ok1, g1, h1, hsub, hok, _, hl => by
    simp [litElems] at hl
    obtain ⟨rfl, rfl⟩ := hl
    exact ⟨ok1, h1, fun _ _ h => h, hsub, trivial, rfl, by simp⟩
  | (j, x) :: ps, (j', v) :: parts, i, xs, u, ok1, g1, h1, hsub, hok, hps, hl => by
    obtain ⟨⟨hjj, hv⟩, hps⟩ := hps
    simp only at hjj hv
    subst hjj
    unfold litElems at hl
    split at hl
    · rename_i hij
      split at hl
      · rename_i cs u1 hf
        split at hl
        · rename_i y ys u2 hd hr
          cases hl
          have hne : x.cells ≠ [] := by
            intro e0
            rw [e0] at hf
            simp [freeze] at hf
            obtain ⟨rfl, rfl⟩ := hf
            rw [dec_nil] at hd
            cases hd
          have hxc := hv.cells hne
          obtain ⟨ok2, a1, a2, a3, a4⟩ := freeze_all h hg _ _ _ _ ok1 g1 h1 hsub hok hxc hf
          obtain ⟨ok3, b1, b2, b3, b4, b5, b6⟩ := lit_elems h hg E ps parts (i + 1) ys u2 ok2 _ a1 a3 (fun x b hb => a2 x b (hok x b hb)) hps hr
          rw [updG_append]
          have hd' := dec_rel hd a4
          refine ⟨ok3, b1, fun x b hb => b2 x b (a2 x b hb), b3, ?_, by simp [b5], ?_⟩
          · rw [List.flatMap_cons, flat_cons]
            exact (hd'.imp fun _ _ => SRel.mono (Ext.more b2)).append b4
          · intro k p hk
            cases k with
            | zero =>
              simp at hk
              subst hk
              refine ⟨by simpa using (beq_iff_eq.1 hij).symm, ?_⟩
              have := hd'.length
              rw [enc_len] at this
              simpa using this
            | succ k =>
              have := b6 k p (by simpa using hk)
              exact ⟨by omega, this.2⟩
        · cases hl
      · cases hl
    · cases hl
  | [], _ :: _, _, _, _, _, _, _, _, _, h, _ => h.elim
  | _ :: _, [], _, _, _, _, _, _, _, _, h, _ => h.elim

theorem fill_seq (size : Nat) (hpos : 0 < size) : ∀ (parts : List (Nat × Value)) (i : Nat) (cells : Array Value), (∀ j p, parts[j]? = some p → p.1 = i + j ∧ p.2.cells.size = size) → (i + parts.length) * size ≤ cells.size →
    ∃ cells', Instr.fill (fun i => some (i * size, size)) cells parts = some cells' ∧ cells'.toList = cells.toList.take (i * size) ++ parts.flatMap (fun p => p.2.cells.toList) ++ cells.toList.drop ((i + parts.length) * size)
  | [], i, cells, _, _ => ⟨cells, rfl, by simp⟩
  | (j, v) :: parts, i, cells, hp, hl => by
    obtain ⟨hj, hs⟩ := hp 0 (j, v) (by simp)
    simp only [Nat.add_zero] at hj hs
    subst hj
    simp only [List.length_cons] at hl
    have hle : j * size + size ≤ cells.size := by
      have h1 : (j + 1) * size ≤ (j + (parts.length + 1)) * size := Nat.mul_le_mul_right _ (by omega)
      rw [Nat.succ_mul] at h1
      omega
    have hfold := set_fold' (j * size) v.cells cells (by omega)
    obtain ⟨cells', h1, h2⟩ := fill_seq size hpos parts (j + 1) (v.cells.zipIdx.foldl (fun (cs : Array Value) (p : Value × Nat) => cs.setIfInBounds (j * size + p.2) p.1) cells) (fun k p hk => by
      have := hp (k + 1) p (by simpa using hk)
      exact ⟨by omega, this.2⟩) (by
      have : (v.cells.zipIdx.foldl (fun (cs : Array Value) (p : Value × Nat) => cs.setIfInBounds (j * size + p.2) p.1) cells).size = cells.size := by
        rw [← Array.length_toList, hfold]
        simp only [List.length_append, List.length_take, List.length_drop, Array.length_toList]
        omega
      rw [this]
      have e1 : j + 1 + parts.length = j + (parts.length + 1) := by omega
      rw [e1]
      exact hl)
    refine ⟨cells', ?_, ?_⟩
    · unfold Instr.fill
      dsimp only
      have hc : (decide (v.cells.size ≠ size) || decide (j * size + v.cells.size > cells.size)) = false := by simp; omega
      simp only [ne_eq, hs, not_true_eq_false, decide_false, Bool.false_or]
      rw [if_neg (by simp; omega)]
      exact h1
    · rw [h2, hfold]
      have hvl : v.cells.toList.length = size := by simpa using hs
      have e1 : (j + 1) * size = j * size + size := Nat.succ_mul _ _
      have e2 : (j + 1 + parts.length) * size = (j + (parts.length + 1)) * size := by congr 1; omega
      have hlt : (cells.toList.take (j * size)).length = j * size := by simp; omega
      have hle2 : j * size + size ≤ (j + (parts.length + 1)) * size := by
        rw [← e1]; exact Nat.mul_le_mul_right _ (by omega)
      rw [List.flatMap_cons, e1, e2, hs]
      rw [take_at _ _ (j * size + size) (by rw [List.length_append, hlt, hvl])]
      rw [drop_past _ _ (j * size + size) _ (by rw [List.length_append, hlt, hvl]) hle2]
      simp

theorem lit_out (h : CRel C w ρ ok g) (hg : ∀ l c, gv l = some c → g l = some c) (hf : ρ fresh = none) {e : Env} (hE : ∀ t ti, e.tt t = some ti → TOK P t ti) {t : TypeId} {n : Nat} {parts : Array (Nat × Value)} {ps : List (Nat × AV)} (hps : All2 (fun (a : Nat × Value) (b : Nat × AV) => a.1 = b.1 ∧ VRel w ρ ok a.2 b.2) parts.toList ps) {v : AV} {u : Upd}
    (hs : (doLit e t n ps gv fresh).den = some (v, u)) : Out C w ρ ok g fresh ((do pure (.value (← Instr.buildSlice t n parts)) : Sem Next).run P w) v u := by
  unfold doLit at hs
  split at hs
  · rename_i E hk
    obtain ⟨el, ie, z, k1, k2, k3, k4, k5, k6⟩ := sliceElem_spec hE hk
    split at hs
    · rename_i xs u0 hl
      split at hs
      · rename_i hc
        obtain ⟨hc1, hc2⟩ := hc
        cases hs
        obtain ⟨ok2, a1, a2, a3, a4, a5, a6⟩ := lit_elems h hg E ps parts.toList 0 xs u0 ok g h (fun _ _ q => q) (fun _ _ q => q) hps hl
        have hzl : z.cells.size = esize E := by have := k6.length; simpa [enc_len] using this
        have hlen : parts.toList.length = n := by omega
        obtain ⟨cells', f1, f2⟩ := fill_seq (esize E) (esize_pos E) parts.toList 0 ((Array.range (n * esize E)).map ((if n * esize E = 0 then #[] else z.cells)[· % (if n * esize E = 0 then #[] else z.cells).size]!)) a6 (by simp [← hlen])
        have hcells : cells'.toList = parts.toList.flatMap fun p => p.2.cells.toList := by
          rw [f2]
          simp only [Nat.zero_mul, List.take_zero, List.nil_append, Nat.zero_add]
          rw [List.drop_of_length_le (by simp [hlen]), List.append_nil]
        have hcl : cells'.toList.length = n * esize E := by rw [hcells, a4.length, flat_len, hc1]
        obtain ⟨c1, c2⟩ := a1.newRows hf el cells' (E := E) (xs := xs) (n := n) (cap := n) hc1.symm (by omega) (by simpa using hcl) (by
          rw [List.take_of_length_le (by rw [hcl, hc1]; exact Nat.le_refl _), hcells]; exact a4)
        refine ⟨_, _, ok2, .slice (some ⟨w.heap.size, 0, none⟩) n n, .value _, ?_, .inl rfl, ?_, (Ext.more a2).trans c2, fresh_ne ρ _, .one _ _ (.row _ _ _ _ (updR_same _ _ _))⟩
        · by_cases h0 : n * esize E = 0
          · simp only [h0, if_true] at f1
            have hn : ¬ (n * esize E > 2 ^ 24) := by omega
            simp [Instr.buildSlice, run_underlying k1, sizeOf, typeInfo, k2, k3, h0, newRow]
            rw [show (Array.map (fun x => (#[] : Array Value)[x % (#[] : Array Value).size]!) (Array.range 0) : Array Value) = #[] from by simp] at f1
            rw [show (Array.map (fun x => (default : Value)) (Array.range 0) : Array Value) = #[] from by simp, f1]
            simp
          · simp only [h0, if_false] at f1
            have hn : ¬ (16777216 < n * esize E) := by omega
            simp [Instr.buildSlice, run_underlying k1, sizeOf, typeInfo, zeroValue, k2, k3, k5, h0, hn, newRow]
            rw [f1]
            simp
        · rw [updG_append]; exact c1
      · cases hs
    · cases hs
  · cases hs

theorem alloc_out (h : CRel C w ρ ok g) (hf : ρ fresh = none) {t : TypeId} {ti : TI} (hT : TOK P t ti) (h64 : ti.zero.length ≤ 64) :
    Out C w ρ ok g fresh ((do pure (.value (← Instr.alloc t true (.tuple #[]))) : Sem Next).run P w) (.one (.ptr fresh 0)) (putCells fresh 0 ti.zero) := by
  obtain ⟨z, hz, hzr⟩ := hT.zero
  obtain ⟨c1, c2⟩ := h.allocBox hf t z.cells ti.zero (hzr.imp fun _ _ q => q _ _ _) h64
  refine ⟨_, _, ok, .pointer (some ⟨w.heap.size, 0, none⟩), .value _, ?_, .inl rfl, c1, c2, fresh_ne ρ _, .one _ _ (.ptr _ _ _ (updR_same _ _ _))⟩
  simp [Instr.alloc, hz, newVar, newRow]
theorem box_out (h : CRel C w ρ ok g) (hf : ρ fresh = none) {t : TypeId} {xv : Value} {x : AV} (hx : VRel w ρ ok xv x) (hn : x.cells ≠ []) (h64 : x.cells.length ≤ 64) :
    Out C w ρ ok g fresh ((do pure (.value (← Instr.box t xv)) : Sem Next).run P w) (.one (.ptr fresh 0)) (putCells fresh 0 x.cells) := by
  obtain ⟨c1, c2⟩ := h.allocBox hf t xv.cells x.cells (hx.cells hn) h64
  refine ⟨_, _, ok, .pointer (some ⟨w.heap.size, 0, none⟩), .value _, ?_, .inl rfl, c1, c2, fresh_ne ρ _, .one _ _ (.ptr _ _ _ (updR_same _ _ _))⟩
  simp [Instr.box, newVar, newRow]
end
end Go.Proofs.Ytipfipnhgpbceaa.Sx
