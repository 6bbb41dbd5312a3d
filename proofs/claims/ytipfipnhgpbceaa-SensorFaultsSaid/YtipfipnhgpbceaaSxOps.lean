/- The symbolic machine's single operations tell what the program's do (calls apart; plain theorems). -/
import Derived.Test.YtipfipnhgpbceaaSxType
set_option linter.unusedVariables false
set_option linter.unusedSimpArgs false
namespace Go.Proofs.Ytipfipnhgpbceaa.Sx
open Go

/-- What an operation comes to. -/
def Out (C : Ctx) (w : World) (ρ : Rho) (ok : Okp) (g : Get) (fresh : Nat) (r : Result Next) (v : AV) (u : Upd) : Prop :=
  ∃ w' ρ' ok' cv nx, r = .ok nx w' ∧ (nx = .value cv ∨ (nx = .skip ∧ cv = undef)) ∧ CRel C w' ρ' ok' (updG g u) ∧ Ext w ρ ok w' ρ' ok' ∧
    (∀ id, (id < fresh ∨ fresh + stride ≤ id) → ρ' id = ρ id) ∧ VRel w' ρ' ok' cv v

theorem take_at {α : Type} (A B : List α) (n : Nat) (h : A.length = n) : (A ++ B).take n = A := by subst h; simp
theorem drop_at {α : Type} (A B : List α) (n : Nat) (h : A.length = n) : (A ++ B).drop n = B := by subst h; simp
theorem cut_at {α : Type} (l : List α) (n : Nat) (h : n ≤ l.length) : ∃ A B, l = A ++ B ∧ A.length = n := ⟨l.take n, l.drop n, by simp, by simp; omega⟩
theorem row_splice {α : Type} (cur vs : List α) (N p q off : Nat) (h1 : off + vs.length ≤ q) (h2 : p + q ≤ N) (h3 : N ≤ cur.length) :
    (cur.take N).take p ++ (((cur.drop p).take q).take off ++ vs ++ ((cur.drop p).take q).drop (off + vs.length)) ++ (cur.take N).drop (p + q) =
    (cur.take (p + off) ++ vs ++ cur.drop (p + off + vs.length)).take N := by
  obtain ⟨A, c, rfl, hA⟩ := cut_at cur p (by omega)
  simp only [List.length_append] at h3
  obtain ⟨B, c, rfl, hB⟩ := cut_at c off (by omega)
  simp only [List.length_append] at h3
  obtain ⟨V, c, rfl, hV⟩ := cut_at c vs.length (by omega)
  simp only [List.length_append] at h3
  obtain ⟨R, c, rfl, hR⟩ := cut_at c (q - off - vs.length) (by omega)
  simp only [List.length_append] at h3
  obtain ⟨S, Z, rfl, hS⟩ := cut_at c (N - p - q) (by omega)
  rw [show A ++ (B ++ (V ++ (R ++ (S ++ Z)))) = (A ++ B ++ V ++ R ++ S) ++ Z by simp, take_at _ Z N (by simp; omega)]
  rw [show A ++ B ++ V ++ R ++ S = A ++ (B ++ V ++ R ++ S) by simp, take_at A _ p hA]
  rw [show (A ++ (B ++ V ++ R ++ S)) ++ Z = A ++ ((B ++ V ++ R) ++ (S ++ Z)) by simp, drop_at A _ p hA, take_at _ _ q (by simp; omega)]
  rw [show B ++ V ++ R = B ++ (V ++ R) by simp, take_at B _ off hB]
  rw [show B ++ (V ++ R) = (B ++ V) ++ R by simp, drop_at _ R _ (by simp; omega)]
  rw [show A ++ (B ++ V ++ R ++ S) = (A ++ B ++ V ++ R) ++ S by simp, drop_at _ S _ (by simp; omega)]
  rw [show A ++ (B ++ V ++ R ++ (S ++ Z)) = (A ++ B) ++ (V ++ R ++ S ++ Z) by simp, take_at (A ++ B) (V ++ R ++ S ++ Z) (p + off) (by simp; omega)]
  rw [show (A ++ B) ++ (V ++ R ++ S ++ Z) = (A ++ B ++ V) ++ (R ++ S ++ Z) by simp, drop_at (A ++ B ++ V) (R ++ S ++ Z) (p + off + vs.length) (by simp; omega)]
  rw [show A ++ B ++ vs ++ (R ++ S ++ Z) = (A ++ B ++ vs ++ R ++ S) ++ Z by simp, take_at _ Z N (by simp; omega)]
  simp

section
variable {C : Ctx} {w : World} {ρ : Rho} {ok : Okp} {g gv : Get} {fresh : Nat} {P : Program}

theorem Out.pure (h : CRel C w ρ ok g) {cv : Value} {v : AV} (hv : VRel w ρ ok cv v) : Out C w ρ ok g fresh (.ok (.value cv) w) v [] :=
  ⟨w, ρ, ok, cv, .value cv, rfl, .inl rfl, h, Ext.refl _ _ _, fun _ _ => rfl, hv⟩

theorem cellsAt_sub (hg : ∀ l c, gv l = some c → g l = some c) (id : Nat) : ∀ (n off : Nat) (l : List Sc), cellsAt gv id off n = some l → cellsAt g id off n = some l
  | 0, _, _, h => h
  | n + 1, off, l, h => by
    unfold cellsAt at h ⊢
    split at h
    · rename_i s hs
      rw [hg _ _ hs]
      dsimp only
      split at h
      · rename_i l' hl'
        rw [cellsAt_sub hg id n (off + 1) l' hl']
        exact h
      · cases h
    · cases h

/-- A list's element's cells, where a vector or a row of the call's own lies. -/
theorem elem_cells {us : List Value} {xs : Nat → Value} {l : List Sc} (hx : ∀ j s, l[j]? = some s → SRel w ρ ok (xs j) s) (off n : Nat) (hn : off + n ≤ l.length) :
    All2 (SRel w ρ ok) ((List.range n).map fun j => xs (off + j)) ((l.drop off).take n) := by
  refine All2.of_get (by simp; omega) fun j a b ha hb => ?_
  rw [List.getElem?_map] at ha
  by_cases hj : j < n
  · rw [List.getElem?_range hj] at ha
    simp at ha
    subst ha
    rw [List.getElem?_take_of_lt hj, List.getElem?_drop] at hb
    exact hx _ _ hb
  · rw [List.getElem?_eq_none (by simpa using hj)] at ha
    cases ha

theorem load_out (h : CRel C w ρ ok g) (hg : ∀ l c, gv l = some c → g l = some c) {e : Env} (hE : ∀ t ti, e.tt t = some ti → TOK P t ti) {t : TypeId} {pv : Value} {p : AV} (hp : VRel w ρ ok pv p) {v : AV} {u : Upd}
    (hs : (doLoad e t p gv).den = some (v, u)) : Out C w ρ ok g fresh ((do pure (.value (← Instr.loadAt t pv)) : Sem Next).run P w) v u := by
  unfold doLoad at hs
  split at hs
  · cases hs
  · rename_i ti hti
    have hT := hE t ti hti
    split at hs
    · rename_i id off
      split at hs
      · rename_i l hl
        split at hs
        · rename_i v' hv'
          cases hs
          obtain ⟨b, rfl, hr⟩ := ptr_rel hp
          obtain ⟨us, h1, h2, h3, _⟩ := cellsAt_rel h.toHRel id b hr _ _ _ (cellsAt_sub hg _ _ _ _ hl)
          obtain ⟨hv, hone⟩ := mkAV_rel h2 hv'
          have hlen : l.length = ti.size := by rw [← h2.length, h1]
          have := run_loadVar hT w b off us h1 h3 (fun ha => by rw [← hlen]; exact hone ha)
          simp only [Instr.loadAt, Instr.sureAddr, Sem.run_bind, Sem.run_pure, Result.andThen_ok, this]
          exact Out.pure h hv
        · cases hs
      · cases hs
    · rename_i id E' i off
      split at hs
      · rename_i E xs hgr
        split at hs
        · rename_i hc
          obtain ⟨rfl, hc⟩ := hc
          split at hs
          · rename_i v' hv'
            cases hs
            cases hp with
            | one _ _ hp => cases hp with
              | eptr _ _ _ _ b n cap hh h0 h1 =>
                obtain ⟨_, v0, hr0, A, cap', rfl, hcap, hA⟩ := h.rows _ _ _ _ (hg _ _ hgr)
                have heq := Option.some.inj (hh.symm.trans hr0)
                simp at heq
                obtain ⟨hA1, rfl, rfl⟩ := heq
                rcases hA with ⟨rfl, _⟩ | ⟨b', T, cur, rfl, hheap, hcs, hall⟩
                · simp at hA1
                · simp at hA1
                  subst hA1
                  have hi : i.toNat < xs.length := by omega
                  have hx : ∀ j s, (enc E' (xs.getD i.toNat (dflt E')))[j]? = some s → SRel w ρ ok (cur.toList.getD (i.toNat * esize E' + j) undef) s := by
                    intro j s hjs
                    have hj : j < esize E' := by rw [← enc_len E' (xs.getD i.toNat (dflt E'))]; exact (List.getElem?_eq_some_iff.1 hjs).1
                    rw [← flat_get E' xs i.toNat j hi hj] at hjs
                    obtain ⟨a, ha, hr⟩ := hall.get hjs
                    have hlt := flat_idx_lt hi hj
                    rw [List.getElem?_take_of_lt hlt] at ha
                    rw [List.getD_eq_getElem?_getD, ha]
                    exact hr
                  have h2 := elem_cells (us := []) hx off ti.size (by rw [enc_len]; exact hc)
                  obtain ⟨hv, hone⟩ := mkAV_rel h2 hv'
                  have hcells : ∀ j u, ((List.range ti.size).map fun j => cur.toList.getD (i.toNat * esize E' + (off + j)) undef)[j]? = some u → w.cell? ⟨b, i.toNat * esize E' + off + j, none⟩ = some u := by
                    intro j u hu
                    rw [List.getElem?_map] at hu
                    by_cases hj : j < ti.size
                    · rw [List.getElem?_range hj] at hu
                      simp at hu
                      have hlt : i.toNat * esize E' + (off + j) < cur.size := by
                        rw [hcs]
                        have := flat_idx_lt (E := E') hi (show off + j < esize E' by omega)
                        have h3 : xs.length * esize E' ≤ cap * esize E' := Nat.mul_le_mul_right _ hcap
                        omega
                      simp only [World.cell?, hheap]
                      rw [show i.toNat * esize E' + off + j = i.toNat * esize E' + (off + j) by omega]
                      simp [Array.getElem?_eq_getElem hlt] at hu ⊢
                      exact hu
                    · rw [List.getElem?_eq_none (by simpa using hj)] at hu
                      cases hu
                  have := run_loadVar hT w b (i.toNat * esize E' + off) _ (by simp) hcells (fun ha => by
                    have := hone ha
                    rw [List.length_take, List.length_drop, enc_len] at this
                    omega)
                  simp only [Instr.loadAt, Instr.sureAddr, Sem.run_bind, Sem.run_pure, Result.andThen_ok, this]
                  exact Out.pure h hv
          · cases hs
        · cases hs
      · cases hs
    · rename_i bo E xs i off
      split at hs
      · rename_i hc
        split at hs
        · rename_i v' hv'
          cases hs
          cases hp with
          | one _ _ hp => cases hp with
            | vptr _ _ _ _ _ b o U hok h0 h1 hcell hrel =>
              have h2 := elem_cells (us := []) hrel off ti.size (by rw [enc_len]; exact hc)
              obtain ⟨hv, hone⟩ := mkAV_rel h2 hv'
              have hcells : ∀ j u, ((List.range ti.size).map fun j => U (off + j))[j]? = some u → w.cell? ⟨b, o + (i.toNat * esize E + off) + j, none⟩ = some u := by
                intro j u hu
                rw [List.getElem?_map] at hu
                by_cases hj : j < ti.size
                · rw [List.getElem?_range hj] at hu
                  simp at hu
                  subst hu
                  rw [show o + (i.toNat * esize E + off) + j = o + (i.toNat * esize E + (off + j)) by omega]
                  exact hcell _ (by omega)
                · rw [List.getElem?_eq_none (by simpa using hj)] at hu
                  cases hu
              have := run_loadVar hT w b (o + (i.toNat * esize E + off)) _ (by simp) hcells (fun ha => by
                have := hone ha
                rw [List.length_take, List.length_drop, enc_len] at this
                omega)
              simp only [Instr.loadAt, Instr.sureAddr, Sem.run_bind, Sem.run_pure, Result.andThen_ok, this]
              exact Out.pure h hv
        · cases hs
      · cases hs
    · cases hs

theorem nils_to {E : K} : ∀ (l : List Sc) {us : List Value}, All2 (SRel w ρ ok) us (l ++ [.nils]) → All2 (SRel w ρ ok) us (l ++ [.vec false E []])
  | [], [u], h => ⟨by have h1 := h.1; cases h1; exact .vec0 _ _ _ _, trivial⟩
  | [], [], h => h.elim
  | [], _ :: _ :: _, h => h.2.elim
  | s :: l, u :: us, h => ⟨h.1, nils_to l h.2⟩
  | _ :: _, [], h => h.elim
/-- Cells told as an element hold what the element's cells hold. -/
theorem dec_rel {E : K} {l : List Sc} {x : D E} {us : List Value} (hd : dec E l = some x) (h : All2 (SRel w ρ ok) us l) : All2 (SRel w ρ ok) us (enc E x) := by
  unfold dec at hd
  split at hd
  case h_12 => cases hd; exact nils_to [_, _, _] h
  case h_14 => cases hd; exact nils_to [_, _] h
  case h_19 => cases hd; exact nils_to [_, _] h
  case h_21 => cases hd; exact nils_to [] h
  case h_23 => cases hd; exact nils_to [] h
  case h_25 => cases hd; exact nils_to [] h
  all_goals first | (cases hd; exact h) | (cases hd; done)

theorem storeVar_run {t : TypeId} {ti : TI} (hT : TOK P t ti) (w : World) (b off : Nat) (v : Value) (hs : v.cells.size = ti.size)
    (hc : ∀ j, j < ti.size → (w.cell? ⟨b, off + j, none⟩).isSome = true) (hf : ∀ j, j < ti.size → w.frozen? ⟨b, off + j, none⟩ = false) (h1 : ∀ u ∈ v.cells.toList, u.oneCell' = true) :
    (storeVar t ⟨b, off, none⟩ v).run P w = .ok () (w.setCells b off v.cells.toList) := by
  have := run_storeCells_cells (P := P) b off v.cells.toList 0 w (by simpa [hs] using hc) (by simpa [hs] using hf) h1
  simp [storeVar, hT.size, hs, this]

theorem heap_setCells (b : Nat) : ∀ (vs : List Value) (off : Nat) (w : World) (cur : Array Value) (T : TypeId) (fz : Nat × Nat), w.heap[b]? = some (.cells cur T fz) → off + vs.length ≤ cur.size →
    (w.setCells b off vs).heap[b]? = some (.cells (cur.toList.take off ++ vs ++ cur.toList.drop (off + vs.length)).toArray T fz)
  | [], off, w, cur, T, fz, h, _ => by simp [World.setCells, h]
  | v :: vs, off, w, cur, T, fz, h, hl => by
    rw [World.setCells]
    have h1 : (w.setCell ⟨b, off, none⟩ v).heap[b]? = some (.cells (cur.setIfInBounds off v) T fz) := by
      simp only [World.setCell, Array.getElem?_modify, h, if_true, Option.map_some, Option.isSome_none, Bool.false_eq_true, if_false]
    rw [heap_setCells b vs (off + 1) _ _ T fz h1 (by simp at hl ⊢; omega)]
    congr 2
    simp at hl
    have hlt : off < cur.toList.length := by simp; omega
    rw [Array.toList_setIfInBounds, List.take_set, List.drop_set_of_lt (by omega)]
    rw [List.take_succ_eq_append_getElem hlt, List.set_append]
    simp only [List.length_take, Nat.min_eq_left (Nat.le_of_lt hlt), Nat.lt_irrefl, if_false, Nat.sub_self, List.set_cons_zero, List.length_cons]
    rw [show off + (vs.length + 1) = off + 1 + vs.length by omega]
    simp
theorem heap_setCells_ne (b : Nat) : ∀ (vs : List Value) (off : Nat) (w : World) (k : Nat), k ≠ b → (w.setCells b off vs).heap[k]? = w.heap[k]?
  | [], _, _, _, _ => rfl
  | v :: vs, off, w, k, h => by rw [World.setCells, heap_setCells_ne b vs _ _ _ h, RowKit.Below.heap_setCell _ _ _ _ h]
theorem size_setCells (b : Nat) : ∀ (vs : List Value) (off : Nat) (w : World), (w.setCells b off vs).heap.size = w.heap.size
  | [], _, _ => rfl
  | v :: vs, off, w => by rw [World.setCells, size_setCells b vs, World.size_setCell]
theorem same_setCells (b : Nat) : ∀ (vs : List Value) (off : Nat) (w : World), (w.setCells b off vs).os = w.os ∧ (w.setCells b off vs).tape = w.tape ∧ (w.setCells b off vs).output = w.output
  | [], _, _ => ⟨rfl, rfl, rfl⟩
  | v :: vs, off, w => by
    obtain ⟨h1, h2, h3⟩ := same_setCells b vs (off + 1) (w.setCell ⟨b, off, none⟩ v)
    exact ⟨h1, h2, h3⟩

/-- The world's block of a slice of the call's own is written. -/
theorem CRel.turnRow (h : CRel C w ρ ok g) {id : Nat} {E E' : K} {xs : List (D E)} {xs' : List (D E')} (hgr : g (id, 0) = some (.rows E xs)) {w' : World} {b : Nat} {A : Option Addr} {n cap : Nat} (hr : ρ id = some (.slice A n cap)) (hA : A = some ⟨b, 0, none⟩)
    (hne : ∀ k, k ≠ b → w'.heap[k]? = w.heap[k]?) (hsz : w'.heap.size = w.heap.size) (hsame : w'.os = w.os ∧ w'.tape = w.tape ∧ w'.output = w.output)
    (hrow : Ext w ρ ok w' ρ ok → RRel w' ρ ok (.slice A n cap) E' xs') : CRel C w' ρ ok (upd1 g (id, 0) (some (.rows E' xs'))) ∧ Ext w ρ ok w' ρ ok := by
  have hlive : LiveAt g ρ (id, 0) b := ⟨⟨_, hgr⟩, _, hr, by rw [hA]; rfl⟩
  have hnok : ∀ x b', ok x b' → b' ≠ b := fun x b' hb he => (h.oks x b' hb).2 _ (he ▸ hlive)
  have he : Ext w ρ ok w' ρ ok := ⟨fun x b' hb => hne _ (hnok x b' hb), fun _ _ h => h, fun _ _ h => h⟩
  have hup : ∀ l b', LiveAt (upd1 g (id, 0) (some (.rows E' xs'))) ρ l b' → LiveAt g ρ l b' := by
    intro l b' hl
    rcases live_upd hl with ⟨rfl, v', hv', hb'⟩ | h'
    · exact ⟨⟨_, hgr⟩, v', hv', hb'⟩
    · exact h'
  refine ⟨{ cells := ?_, rows := ?_, dist := fun l l' b' hl hl' => h.dist l l' b' (hup _ _ hl) (hup _ _ hl'), oks := fun x b' hb => ⟨by rw [hsz]; exact (h.oks x b' hb).1, fun l hl => (h.oks x b' hb).2 l (hup _ _ hl)⟩, cont := ?_, own := fun l b' hl => h.own l b' (hup _ _ hl), ok0 := h.ok0, okn := h.okn, fr := ?_ }, he⟩
  · intro i o s hc
    have hl : (id, 0) ≠ (i, o) := by intro e; rw [← e, upd1_same] at hc; cases hc
    rw [upd1_ne g _ hl] at hc
    obtain ⟨b', v', a1, a2, a3, a4⟩ := h.cells i o s hc
    have hbb : b' ≠ b := by
      rintro rfl
      have := h.dist (id, 0) (i, o) b' hlive ⟨⟨_, hc⟩, _, a1, rfl⟩
      have hid : id = i := this
      subst hid
      rw [hr] at a1; cases a1
    exact ⟨b', v', a1, by rw [World.cell?_of_block (w := w) (hne b' hbb)]; exact a2, by rw [World.frozen?_of_block (w := w) (hne b' hbb)]; exact a3, a4.mono he⟩
  · intro i o E'' xs'' hc
    by_cases hl : (id, 0) = (i, o)
    · rw [← hl, upd1_same] at hc
      have h1 : id = i := congrArg Prod.fst hl
      have h2 : 0 = o := congrArg Prod.snd hl
      subst h1 h2
      cases hc
      exact ⟨rfl, _, hr, hrow he⟩
    · rw [upd1_ne g _ hl] at hc
      obtain ⟨a0, v', a1, A', cap', a2, a3, a4⟩ := h.rows i o E'' xs'' hc
      refine ⟨a0, v', a1, A', cap', a2, a3, ?_⟩
      rcases a4 with a4 | ⟨b', T, cur, b1, b2, b3, b4⟩
      · exact .inl a4
      · have hbb : b' ≠ b := by
          rintro rfl
          have := h.dist (id, 0) (i, o) b' hlive ⟨⟨_, hc⟩, v', a1, by rw [a2, b1]; rfl⟩
          have hid : id = i := this
          subst hid a0
          exact hl rfl
        exact .inr ⟨b', T, cur, b1, by rw [hne b' hbb]; exact b2, b3, b4.imp fun _ _ => SRel.mono he⟩
  · intro i o s hc
    have hl : (id, 0) ≠ (i, o) := by intro e; rw [← e, upd1_same] at hc; cases hc
    rw [upd1_ne g _ hl] at hc
    obtain ⟨d1, d2⟩ := h.cont i o s hc
    refine ⟨d1, fun o' ho => ?_⟩
    obtain ⟨s', hs'⟩ := d2 o' ho
    refine ⟨s', ?_⟩
    rw [upd1_ne]
    · exact hs'
    · intro e
      rw [← e, hgr] at hs'
      cases hs'
  · refine ⟨hsame.1.trans h.fr.os, hsame.2.1.trans h.fr.tape, hsame.2.2.trans h.fr.output, by rw [hsz]; exact h.fr.size, fun k hk hm => ?_⟩
    rw [hne]
    · exact h.fr.heap k hk hm
    · rintro rfl
      rcases h.own _ _ hlive with h' | h'
      · omega
      · exact hm h'

theorem splice_len {α : Type} (l new : List α) (off : Nat) (h : off + new.length ≤ l.length) : (l.take off ++ new ++ l.drop (off + new.length)).length = l.length := by
  simp only [List.length_append, List.length_take, List.length_drop]; omega
theorem flat_set (E : K) (xs : List (D E)) (i : Nat) (y : D E) (hi : i < xs.length) : flat E (xs.set i y) = (flat E xs).take (i * esize E) ++ enc E y ++ (flat E xs).drop ((i + 1) * esize E) := by
  rw [flat_take, flat_drop, List.set_eq_take_append_cons_drop, if_pos hi, flat_append, flat_cons, List.append_assoc]

theorem store_out (h : CRel C w ρ ok g) (hg : ∀ l c, gv l = some c → g l = some c) {e : Env} (hE : ∀ t ti, e.tt t = some ti → TOK P t ti) {t : TypeId} {pv xv : Value} {p x : AV} (hp : VRel w ρ ok pv p) (hx : VRel w ρ ok xv x) {v : AV} {u : Upd}
    (hs : (doStore e t p x gv).den = some (v, u)) : Out C w ρ ok g fresh ((do Instr.storeAt t pv xv; pure .skip : Sem Next).run P w) v u := by
  unfold doStore at hs
  split at hs
  · cases hs
  · rename_i ti hti
    have hT := hE t ti hti
    split at hs
    · rename_i id off
      split at hs
      · rename_i l hl
        split at hs
        · rename_i hc
          simp at hc
          cases hs
          obtain ⟨b, rfl, hr⟩ := ptr_rel hp
          have hxc := hx.cells (by intro e0; rw [e0] at hc; simp at hc; omega)
          obtain ⟨us, h1, h2, h3, h4⟩ := cellsAt_rel h.toHRel id b hr _ _ _ (cellsAt_sub hg _ _ _ _ hl)
          have hsz : xv.cells.size = ti.size := by have := hxc.length; simp at this; omega
          have hrun := storeVar_run hT w b off xv hsz (fun j hj => by
              have := h3 j (us[j]'(by omega)) (List.getElem?_eq_getElem _)
              rw [this]; rfl) (fun j hj => (h4 j hj).1) (fun a ha => by obtain ⟨_, hr⟩ := hxc.left ha; exact hr.one)
          obtain ⟨c1, c2⟩ := CRel.setCells hr xv.cells.toList x.cells off w g h hxc (fun j hj => (h4 j (by omega)).2)
          refine ⟨_, ρ, ok, undef, .skip, ?_, .inr ⟨rfl, rfl⟩, c1, c2, fun _ _ => rfl, .any _⟩
          simp [Instr.storeAt, Instr.sureAddr, hrun]
        · cases hs
      · cases hs
    · rename_i id E' i off
      split at hs
      · rename_i E xs hgr
        split at hs
        · rename_i y hy
          split at hs
          · rename_i hc
            obtain ⟨rfl, hc1, hc2, hc3⟩ := hc
            cases hs
            cases hp with
            | one _ _ hp => cases hp with
              | eptr _ _ _ _ b n cap hh h0 h1 =>
                obtain ⟨_, v0, hr0, A, cap', rfl, hcap, hA⟩ := h.rows _ _ _ _ (hg _ _ hgr)
                have heq := Option.some.inj (hh.symm.trans hr0)
                simp at heq
                obtain ⟨hA1, rfl, rfl⟩ := heq
                rcases hA with ⟨rfl, _⟩ | ⟨b', T, cur, rfl, hheap, hcs, hall⟩
                · simp at hA1
                · simp at hA1
                  subst hA1
                  have hi : i.toNat < xs.length := by omega
                  have hxc := hx.cells (by intro e0; rw [e0] at hc1; simp at hc1; omega)
                  have hsz : xv.cells.size = ti.size := by have := hxc.length; simp at this; omega
                  have hend : i.toNat * esize E' + off + ti.size ≤ xs.length * esize E' := by
                    have : (i.toNat + 1) * esize E' ≤ xs.length * esize E' := Nat.mul_le_mul_right _ hi
                    rw [Nat.succ_mul] at this
                    omega
                  have hcapm : xs.length * esize E' ≤ cap * esize E' := Nat.mul_le_mul_right _ hcap
                  have hrun := storeVar_run hT w b (i.toNat * esize E' + off) xv hsz (fun j hj => by
                    simp only [World.cell?, hheap]
                    rw [Array.getElem?_eq_getElem (by omega)]; rfl) (fun j hj => by simp [World.frozen?, hheap]) (fun a ha => by obtain ⟨_, hr⟩ := hxc.left ha; exact hr.one)
                  have hnew := heap_setCells b xv.cells.toList (i.toNat * esize E' + off) w cur T (0, 0) hheap (by simp; omega)
                  obtain ⟨c1, c2⟩ := h.turnRow (hg _ _ hgr) (w' := w.setCells b (i.toNat * esize E' + off) xv.cells.toList) (E' := E') (xs' := xs.set i.toNat y) hr0 rfl
                    (fun k hk => heap_setCells_ne b _ _ _ _ hk) (size_setCells b _ _ _) (same_setCells b _ _ _) (fun he => by
                      refine ⟨_, cap, by rw [List.length_set], by rw [List.length_set]; exact hcap, .inr ⟨b, T, _, rfl, hnew, ?_, ?_⟩⟩
                      · simp only [List.size_toArray]
                        rw [splice_len _ _ _ (by simp; omega)]
                        simpa using hcs
                      · rw [List.length_set, flat_set E' xs _ y hi]
                        have hall' := hall.imp (S := SRel (w.setCells b (i.toNat * esize E' + off) xv.cells.toList) ρ ok) fun _ _ => SRel.mono he
                        have hxc' := hxc.imp (S := SRel (w.setCells b (i.toNat * esize E' + off) xv.cells.toList) ρ ok) fun _ _ => SRel.mono he
                        -- the element's own cells
                        have hel : All2 (SRel (w.setCells b (i.toNat * esize E' + off) xv.cells.toList) ρ ok) ((cur.toList.drop (i.toNat * esize E')).take (esize E')) (enc E' (xs.getD i.toNat (dflt E'))) := by
                          have h5 := (hall'.drop (i.toNat * esize E')).take (esize E')
                          have e1 : ((flat E' xs).drop (i.toNat * esize E')).take (esize E') = enc E' (xs.getD i.toNat (dflt E')) := by
                            rw [flat_drop, List.drop_eq_getElem_cons hi, flat_cons]
                            rw [List.take_append_of_le_length (by rw [enc_len]; exact Nat.le_refl _), List.take_of_length_le (by rw [enc_len]; exact Nat.le_refl _)]
                            simp [List.getD_eq_getElem?_getD, List.getElem?_eq_getElem hi]
                          rw [e1, List.drop_take, List.take_take, Nat.min_eq_left (by have := flat_idx_lt (E := E') hi (j := esize E' - 1) (by have := esize_pos E'; omega); have := esize_pos E'; omega)] at h5
                          exact h5
                        have hsp : All2 (SRel (w.setCells b (i.toNat * esize E' + off) xv.cells.toList) ρ ok) (((cur.toList.drop (i.toNat * esize E')).take (esize E')).take off ++ xv.cells.toList ++ ((cur.toList.drop (i.toNat * esize E')).take (esize E')).drop (off + x.cells.length)) (splice (enc E' (xs.getD i.toNat (dflt E'))) off x.cells) :=
                          ((hel.take off).append hxc').append (hel.drop _)
                        have hy' := dec_rel hy hsp
                        have := ((hall'.take (i.toNat * esize E')).append hy').append (hall'.drop ((i.toNat + 1) * esize E'))
                        refine cast (congrArg (fun z => All2 _ z _) ?_) this
                        have hl1 : xv.cells.toList.length = x.cells.length := hxc.length
                        have hcl : cur.toList.length = cap * esize E' := by simpa using hcs
                        have := row_splice cur.toList xv.cells.toList (xs.length * esize E') (i.toNat * esize E') (esize E') off (by omega) (by rw [← Nat.succ_mul]; exact Nat.mul_le_mul_right _ hi) (by omega)
                        rw [hl1] at this
                        rw [Nat.succ_mul, this, hl1])
                  refine ⟨_, ρ, ok, undef, .skip, ?_, .inr ⟨rfl, rfl⟩, c1, c2, fun _ _ => rfl, .any _⟩
                  simp [Instr.storeAt, Instr.sureAddr, hrun]
          · cases hs
        · cases hs
      · cases hs
    · cases hs
end
end Go.Proofs.Ytipfipnhgpbceaa.Sx
