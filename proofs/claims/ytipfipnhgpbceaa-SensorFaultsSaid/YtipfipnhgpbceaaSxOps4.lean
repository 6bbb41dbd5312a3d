/- The symbolic machine: slices cut, made, written out and appended to; structs built (plain theorems). -/
import Derived.Test.YtipfipnhgpbceaaSxOps3
set_option linter.unusedVariables false
set_option linter.unusedSimpArgs false
namespace Go.Proofs.Ytipfipnhgpbceaa.Sx
open Go

section
variable {C : Ctx} {w : World} {ρ : Rho} {ok : Okp} {g gv : Get} {fresh : Nat} {P : Program}

theorem slice_run {t el : TypeId} {ie : TypeInfo} (ht : P.underlying t = some (.slice el)) (hi : P.info? el = some ie) (w : World) (A : Option Addr) (n cap l h : Nat) (lov hiv : Option Value)
    (hlo : (lov = none ∧ l = 0) ∨ lov = some (.int .i64 l)) (hhi : (hiv = none ∧ h = n) ∨ hiv = some (.int .i64 h)) (h1 : l ≤ h) (h2 : h ≤ n) (h3 : n ≤ cap) :
    (do pure (.value (← Instr.sliceAt t (.slice A n cap) lov hiv none)) : Sem Next).run P w = .ok (.value (.slice (if cap = l then A else A.map (·.add (l * ie.size))) (h - l) (cap - l))) w := by
  have hc : h ≤ cap := Nat.le_trans h2 h3
  rcases hlo with ⟨rfl, rfl⟩ | rfl <;> rcases hhi with ⟨rfl, rfl⟩ | rfl <;>
    simp [Instr.sliceAt, run_underlying ht, Instr.slice, Instr.sliceBounds, Instr.sliceBound, asIntOf, sizeOf, typeInfo, hi, hc, h1]

theorem bound_spec {o : Option AV} {ov : Option Value} (ho : ∀ x, o = some x → ∃ v, ov = some v ∧ VRel w ρ ok v x) (hn : o = none → ov = none) {d n : Int} (h : bound o d = some n) : (ov = none ∧ n = d) ∨ ov = some (.int .i64 n) := by
  unfold bound at h
  split at h
  · cases h; exact .inl ⟨hn rfl, rfl⟩
  · cases h
    obtain ⟨v, h1, h2⟩ := ho _ rfl
    exact .inr (by rw [h1, int_rel h2])
  · cases h

/-- What a slice's cells hold, cut. -/
theorem cut_rel {bo : Bool} {E : K} {xs : List (D E)} {b o cap : Nat} {U : Nat → Value} (hok : ok bo b) (hcap : xs.length ≤ cap) (hcell : ∀ k, k < xs.length * esize E → w.cell? ⟨b, o + k, none⟩ = some (U k))
    (hrel : ∀ k s, (flat E xs)[k]? = some s → SRel w ρ ok (U k) s) (l h : Nat) (h1 : l ≤ h) (h2 : h ≤ xs.length) :
    SRel w ρ ok (.slice (if cap = l then some ⟨b, o, none⟩ else (some ⟨b, o, none⟩ : Option Addr).map (·.add (l * esize E))) (h - l) (cap - l)) (.vec bo E ((xs.take h).drop l)) := by
  have hlen : ((xs.take h).drop l).length = h - l := by simp; omega
  by_cases hz : h - l = 0
  · have : (xs.take h).drop l = [] := List.eq_nil_of_length_eq_zero (by omega)
    rw [this, hz]
    exact .vec0 _ _ _ _
  · have hne : ¬ cap = l := by omega
    rw [if_neg hne]
    simp only [Option.map_some, addr_add]
    have hfl : flat E ((xs.take h).drop l) = ((flat E xs).take (h * esize E)).drop (l * esize E) := by rw [flat_take, flat_drop]
    have := SRel.vec (w := w) (ρ := ρ) (ok := ok) bo E ((xs.take h).drop l) b (o + l * esize E) (cap - l) (fun k => U (l * esize E + k)) (by omega) hok
      (fun k hk => by
        rw [hlen, Nat.sub_mul] at hk
        rw [Nat.add_assoc]
        exact hcell _ (by have := Nat.mul_le_mul_right (esize E) h2; omega))
      (fun k s hs => by
        rw [hfl, List.getElem?_drop] at hs
        have hlt : l * esize E + k < h * esize E := by
          rcases Nat.lt_or_ge (l * esize E + k) (h * esize E) with h' | h'
          · exact h'
          · rw [List.getElem?_eq_none (by rw [List.length_take]; omega)] at hs; cases hs
        rw [List.getElem?_take_of_lt hlt] at hs
        exact hrel _ _ hs)
    rwa [hlen] at this

theorem slice_out (h : CRel C w ρ ok g) (hg : ∀ l c, gv l = some c → g l = some c) {e : Env} (hE : ∀ t ti, e.tt t = some ti → TOK P t ti) {t : TypeId} {xv : Value} {x : AV} (hx : VRel w ρ ok xv x) {lo hi : Option AV} {lov hiv : Option Value}
    (hlo : ∀ x, lo = some x → ∃ v, lov = some v ∧ VRel w ρ ok v x) (hlo' : lo = none → lov = none) (hhi : ∀ x, hi = some x → ∃ v, hiv = some v ∧ VRel w ρ ok v x) (hhi' : hi = none → hiv = none) {v : AV} {u : Upd}
    (hs : (doSlice e t x lo hi gv).den = some (v, u)) : Out C w ρ ok g fresh ((do pure (.value (← Instr.sliceAt t xv lov hiv none)) : Sem Next).run P w) v u := by
  unfold doSlice at hs
  split at hs
  · rename_i E' hk
    obtain ⟨el, ie, z, k1, k2, k3, _⟩ := sliceElem_spec hE hk
    have bounds : ∀ (bor : Bool) (E : K) (xs : List (D E)) (u' : Upd), (cutList bor E xs u' lo hi).den = some (v, u) → ∃ l h : Nat, l ≤ h ∧ h ≤ xs.length ∧ v = .one (.vec bor E ((xs.take h).drop l)) ∧ u = u' ∧ ((lov = none ∧ l = 0) ∨ lov = some (.int .i64 l)) ∧ ((hiv = none ∧ h = xs.length) ∨ hiv = some (.int .i64 h)) := by
      intro bor E xs u' hc
      unfold cutList at hc
      split at hc
      · rename_i l0 h0 hl hh
        obtain ⟨hb, hc⟩ := need_den hc
        simp at hb
        cases hc
        have b1 := bound_spec hlo hlo' hl
        have b2 := bound_spec hhi hhi' hh
        refine ⟨l0.toNat, h0.toNat, by omega, by omega, rfl, rfl, ?_, ?_⟩
        · rcases b1 with ⟨q1, q2⟩ | q1
          · exact .inl ⟨q1, by omega⟩
          · exact .inr (by rw [q1, Int.toNat_of_nonneg hb.1])
        · rcases b2 with ⟨q1, q2⟩ | q1
          · exact .inl ⟨q1, by omega⟩
          · exact .inr (by rw [q1, Int.toNat_of_nonneg (by omega)])
      · cases hc
    split at hs
    · rename_i b E xs
      split at hs
      · rename_i hEE
        subst hEE
        obtain ⟨l, hh, q1, q2, rfl, rfl, q3, q4⟩ := bounds _ _ _ _ hs
        cases hx with
        | one _ _ hx => cases hx with
          | vec0 _ _ A cap =>
            simp at q2
            subst q2
            obtain rfl : l = 0 := by omega
            rw [slice_run k1 k2 w A 0 cap 0 0 lov hiv q3 q4 (Nat.le_refl _) (Nat.le_refl _) (Nat.zero_le _)]
            refine Out.pure h (.one _ _ ?_)
            simp only [List.take_nil, List.drop_nil]
            exact .vec0 _ _ _ _
          | vec _ _ _ bb o cap U hcap hok hcell hrel =>
            rw [slice_run k1 k2 w (some ⟨bb, o, none⟩) xs.length cap l hh lov hiv q3 q4 q1 q2 hcap, k3]
            exact Out.pure h (.one _ _ (cut_rel hok hcap hcell hrel l hh q1 q2))
      · cases hs
    · rename_i id
      split at hs
      · rename_i E xs hgr
        split at hs
        · rename_i hEE
          subst hEE
          obtain ⟨l, hh, q1, q2, rfl, rfl, q3, q4⟩ := bounds _ _ _ _ hs
          obtain ⟨A, cap, rfl, hr, hcap, hA⟩ := row_rel h.toHRel (hg _ _ hgr) hx
          rw [slice_run k1 k2 w A xs.length cap l hh lov hiv q3 q4 q1 q2 hcap, k3]
          have hkill := h.kill (id := id) (fun s e0 => by rw [hg _ _ hgr] at e0; cases e0)
          rcases hA with ⟨rfl, rfl⟩ | ⟨b, T, cur, rfl, hheap, hcs, hall⟩
          · obtain rfl : hh = 0 := by omega
            obtain rfl : l = 0 := by omega
            refine ⟨w, ρ, ok, _, _, rfl, .inl rfl, hkill, Ext.refl _ _ _, fun _ _ => rfl, .one _ _ ?_⟩
            simp only [List.take_zero, List.drop_zero]
            exact .vec0 _ _ _ _
          · have hlive : LiveAt g ρ (id, 0) b := ⟨⟨_, hg _ _ hgr⟩, _, hr, rfl⟩
            have hnl : ∀ l', ¬ LiveAt (upd1 g (id, 0) none) ρ l' b := by
              rintro l' ⟨⟨c, hc⟩, hb⟩
              by_cases hl' : (id, 0) = l'
              · subst hl'; rw [upd1_same] at hc; cases hc
              · rw [upd1_ne g _ hl'] at hc
                have := h.dist (id, 0) l' b hlive ⟨⟨c, hc⟩, hb⟩
                obtain ⟨i, o⟩ := l'
                have hid : id = i := this
                subst hid
                cases c with
                | rows E2 xs2 =>
                  obtain ⟨rfl, _⟩ := h.rows id o E2 xs2 hc
                  exact hl' rfl
                | cell s =>
                  obtain ⟨b1, v1, hb1, _⟩ := h.cells id o s hc
                  rw [hr] at hb1; cases hb1
            obtain ⟨c1, c2⟩ := hkill.more (ok' := fun x b' => ok x b' ∨ b' = b) (fun x b' hb => .inl hb) (fun x b' hb => hb.imp (fun hb => hb) fun e0 => by
              subst e0
              exact ⟨h.live_lt hlive, hnl, h.own _ _ hlive⟩)
            refine ⟨w, ρ, _, _, _, rfl, .inl rfl, c1, c2, fun _ _ => rfl, .one _ _ ?_⟩
            refine cut_rel (b := b) (o := 0) (cap := cap) (U := fun k => cur.toList.getD k undef) (.inr rfl) hcap ?_ ?_ l hh q1 q2
            · intro k hk
              have hlt : k < cur.size := by rw [hcs]; have := Nat.mul_le_mul_right (esize E') hcap; omega
              simp [World.cell?, hheap, Array.getElem?_eq_getElem hlt]
            · intro k s hks
              obtain ⟨a, ha, hr'⟩ := hall.get hks
              have hlt : k < xs.length * esize E' := by
                rw [← flat_len]; exact (List.getElem?_eq_some_iff.1 hks).1
              rw [List.getElem?_take_of_lt hlt] at ha
              simp only [List.getD_eq_getElem?_getD, ha]
              exact hr'.mono c2
        · cases hs
      · cases hs
    · cases hs
  · cases hs

theorem flat_replicate (E : K) (n : Nat) (x : D E) (j : Nat) (hj : j < n * esize E) : (flat E (List.replicate n x))[j]? = (enc E x)[j % esize E]? := by
  have hp := esize_pos E
  have hdm := Nat.div_add_mod j (esize E)
  have hlt : j / esize E < n := Nat.div_lt_of_lt_mul (by rw [Nat.mul_comm]; exact hj)
  have := flat_get E (List.replicate n x) (j / esize E) (j % esize E) (by simpa using hlt) (Nat.mod_lt _ hp)
  rw [Nat.mul_comm] at hdm
  rw [hdm] at this
  rw [this]
  simp [List.getD_eq_getElem?_getD, hlt]

theorem fresh_ne (ρ : Rho) {fresh : Nat} (v : Value) (id : Nat) (hid : id < fresh ∨ fresh + stride ≤ id) : updR ρ fresh v id = ρ id :=
  updR_ne ρ v (by have : stride = 16 := rfl; omega)
/-- A new block of a slice, under a new number. -/
theorem CRel.newRows (h : CRel C w ρ ok g) {id : Nat} (hf : ρ id = none) (T : TypeId) (cur : Array Value) {E : K} {xs : List (D E)} {n cap : Nat} (hn : n = xs.length) (hcap : xs.length ≤ cap) (hcs : cur.size = cap * esize E)
    (hall : All2 (SRel w ρ ok) (cur.toList.take (xs.length * esize E)) (flat E xs)) :
    CRel C (w.alloc (.cells cur T)) (updR ρ id (.slice (some ⟨w.heap.size, 0, none⟩) n cap)) ok (upd1 g (id, 0) (some (.rows E xs))) ∧
    Ext w ρ ok (w.alloc (.cells cur T)) (updR ρ id (.slice (some ⟨w.heap.size, 0, none⟩) n cap)) ok := by
  obtain ⟨h1, h2⟩ := h.newBlock hf (.cells cur T) (.slice (some ⟨w.heap.size, 0, none⟩) n cap)
  refine ⟨h1.addRows (updR_same _ _ _) ?_ (fun s e0 => by rw [h.fresh hf] at e0; cases e0) ?_, h2⟩
  · subst hn
    refine ⟨_, cap, rfl, hcap, .inr ⟨_, T, cur, rfl, ?_, hcs, hall.imp fun _ _ => SRel.mono h2⟩⟩
    exact heap_alloc_new w _
  · intro b hb
    simp [blkOf] at hb
    subst hb
    refine ⟨?_, fun x hx => by have := (h.oks x _ hx).1; omega, .inl h.fr.size⟩
    rintro ⟨i, o⟩ ⟨⟨c, hc⟩, u, hu, hb⟩
    by_cases hi : i = id
    · exact hi
    · rw [updR_ne ρ _ hi] at hu
      have := h.live_lt (l := (i, o)) ⟨⟨c, hc⟩, u, hu, hb⟩
      omega

theorem make_out (h : CRel C w ρ ok g) (hf : ρ fresh = none) {e : Env} (hE : ∀ t ti, e.tt t = some ti → TOK P t ti) {t : TypeId} {lv cv : Value} {l c : AV} (hl : VRel w ρ ok lv l) (hc : VRel w ρ ok cv c) {v : AV} {u : Upd}
    (hs : (doMake e t l c fresh).den = some (v, u)) : Out C w ρ ok g fresh ((do pure (.value (← Instr.makeSlice t lv cv)) : Sem Next).run P w) v u := by
  unfold doMake at hs
  split at hs
  · rename_i E n c' hk
    obtain ⟨hb, hs⟩ := need_den hs
    cases hs
    simp at hb
    obtain ⟨h0, h1, rfl⟩ := hb
    obtain ⟨el, ie, z, k1, k2, k3, k4, k5, k6⟩ := sliceElem_spec hE hk
    have e1 := int_rel hl
    have e2 := int_rel hc
    subst e1 e2
    have hlim : n ≤ 1048576 := h1
    have hrun := run_make (P := P) w t el ie z k1 k2 k5 .i64 .i64 n n h0 (Int.le_refl _) (by
      have : (ie.bytes : Int) * n ≤ 128 * 1048576 := Int.mul_le_mul (by omega) hlim h0 (by omega)
      omega) (by omega)
    obtain ⟨c1, c2⟩ := h.newRows hf el (madeCells z.cells (n.toNat * ie.size)) (E := E) (xs := List.replicate n.toNat (dflt E)) (n := n.toNat) (cap := n.toNat) (by simp) (by simp) (by rw [size_madeCells, k3]) (by
      rw [List.length_replicate, List.take_of_length_le (by simp [size_madeCells, k3])]
      have hzl : z.cells.size = esize E := by have := k6.length; simpa [enc_len] using this
      refine All2.of_get (by simp [size_madeCells, k3, flat_len]) fun j a b ha hb => ?_
      have hj : j < n.toNat * esize E := by
        have := (List.getElem?_eq_some_iff.1 hb).1
        rwa [flat_len, List.length_replicate] at this
      rw [flat_replicate E _ _ j hj] at hb
      obtain ⟨a', ha', hr⟩ := k6.get hb
      have hmod : j % esize E < z.cells.size := by rw [hzl]; exact Nat.mod_lt _ (esize_pos E)
      have : a = a' := by
        simp only [madeCells, Array.toList_map, List.getElem?_map, k3, hzl] at ha
        rw [Array.toList_range, List.getElem?_range hj] at ha
        simp at ha ha'
        rw [← ha]
        rw [Array.getElem?_eq_getElem hmod] at ha'
        simp [hmod] at ha'
        simpa [hmod] using ha'
      subst this
      exact hr _ _ _)
    refine ⟨_, _, _, .slice (some ⟨w.heap.size, 0, none⟩) n.toNat n.toNat, .value _, ?_, .inl rfl, c1, c2, fresh_ne ρ _, .one _ _ (.row _ _ _ _ (updR_same _ _ _))⟩
    simp only [Sem.run_bind, hrun, Result.andThen_ok, Sem.run_pure]
  · cases hs
end
end Go.Proofs.Ytipfipnhgpbceaa.Sx
