/- The symbolic machine: appends, slices written out, structs built (plain theorems). -/
import Derived.Test.YtipfipnhgpbceaaSxOps4
set_option linter.unusedVariables false
set_option linter.unusedSimpArgs false
namespace Go.Proofs.Ytipfipnhgpbceaa.Sx
open Go

section
variable {C : Ctx} {w : World} {ρ : Rho} {ok : Okp} {g gv : Get} {fresh : Nat} {P : Program}

theorem firstCells_some (w : World) (size n b o m cap : Nat) (us : List Value) (hl : us.length = n * size) (hc : ∀ j u, us[j]? = some u → w.cell? ⟨b, o + j, none⟩ = some u) :
    (Builtin.firstCells size n (.slice (some ⟨b, o, none⟩) m cap)).run P w = .ok us.toArray w := by
  have := run_loadCells_list (P := P) w ⟨b, o, none⟩ us (fun j u hu => by rw [addr_add]; exact hc j u hu)
  rw [hl] at this
  simpa [Builtin.firstCells] using this

theorem heap_cell {w w' : World} (hw : w'.heap = w.heap) (a : Addr) : w'.cell? a = w.cell? a := by unfold World.cell?; rw [hw]

/-- What an append's source holds. -/
theorem src_cells (h : CRel C w ρ ok g) (hg : ∀ l c, gv l = some c → g l = some c) {xv : Value} {x : AV} (hx : VRel w ρ ok xv x) (E : K) {ys : List (D E)}
    (hl : (match listOf gv x with | some .nil => some [] | some (.of _ E' xs) => asK E E' xs | none => none) = some ys) :
    ∃ A cap news, xv = .slice A ys.length cap ∧ news.length = ys.length * esize E ∧ All2 (SRel w ρ ok) news (flat E ys) ∧ ∀ w' : World, w'.heap = w.heap → (Builtin.firstCells (esize E) ys.length xv).run P w' = .ok news.toArray w' := by
  have nilc : ∀ (A : Option Addr) (cap : Nat) (w' : World), (Builtin.firstCells (esize E) 0 (.slice A 0 cap)).run P w' = .ok (#[] : Array Value) w' := by
    intro A cap w'
    cases A with
    | none => rfl
    | some a => simp [Builtin.firstCells, loadCells, loadCellsFrom]
  unfold listOf at hl
  split at hl
  · rename_i hlo
    cases hl
    split at hlo
    · cases hx with
      | one _ _ hx => cases hx; exact ⟨_, _, [], rfl, by simp, trivial, fun w' _ => nilc _ _ _⟩
    · cases hlo
    · split at hlo <;> cases hlo
    · cases hlo
  · rename_i bo E' xs hlo
    unfold asK at hl
    split at hl
    · rename_i hEE
      subst hEE
      cases hl
      split at hlo
      · cases hlo
      · cases hlo
        cases hx with
        | one _ _ hx => cases hx with
          | vec0 _ _ A cap => exact ⟨_, _, [], rfl, by simp, trivial, fun w' _ => nilc _ _ _⟩
          | vec _ _ _ b o cap U hc hok hcell hrel =>
            refine ⟨_, _, (List.range (xs.length * esize E')).map U, rfl, by simp, ?_, fun w' hw' => ?_⟩
            · refine All2.of_get (by simp [flat_len]) fun j a s ha hs => ?_
              have hj : j < xs.length * esize E' := by rw [← flat_len]; exact (List.getElem?_eq_some_iff.1 hs).1
              rw [List.getElem?_map, List.getElem?_range hj] at ha
              simp at ha
              subst ha
              exact hrel _ _ hs
            · refine firstCells_some w' _ _ b o _ _ _ (by simp) fun j u hu => ?_
              rw [heap_cell hw']
              by_cases hj : j < xs.length * esize E'
              · rw [List.getElem?_map, List.getElem?_range hj] at hu
                simp at hu
                subst hu
                exact hcell j hj
              · rw [List.getElem?_eq_none (by simpa using hj)] at hu; cases hu
      · rename_i id
        split at hlo
        · rename_i E'' xs' hgr
          cases hlo
          obtain ⟨A, cap, rfl, hr, hcap, hA⟩ := row_rel h.toHRel (hg _ _ hgr) hx
          rcases hA with ⟨rfl, rfl⟩ | ⟨b, T, cur, rfl, hheap, hcs, hall⟩
          · have : xs = [] := List.eq_nil_of_length_eq_zero (by omega)
            subst this
            exact ⟨_, _, [], rfl, by simp, trivial, fun w' _ => nilc _ _ _⟩
          · refine ⟨_, _, cur.toList.take (xs.length * esize E'), rfl, ?_, hall, fun w' hw' => ?_⟩
            · rw [hall.length, flat_len]
            · refine firstCells_some w' _ _ b 0 _ _ _ (by rw [hall.length, flat_len]) fun j u hu => ?_
              rw [heap_cell hw', Nat.zero_add]
              simp only [World.cell?, hheap]
              by_cases hj : j < xs.length * esize E'
              · rw [List.getElem?_take_of_lt hj] at hu
                simpa using hu
              · rw [List.getElem?_eq_none (by simp; omega)] at hu; cases hu
        · cases hlo
      · cases hlo
    · cases hl
  · cases hl

theorem append_grow_run {t ty el : TypeId} {ie : TypeInfo} {z : Value} (ht : P.underlying t = some (.slice el)) (hi : P.info? el = some ie) (hz : ie.zero = some z) (A : Option Addr) (n cap : Nat) (A' : Option Addr) (m cap' : Nat) (olds news : List Value)
    (ho : ∀ w' : World, w'.heap = w.heap → (Builtin.firstCells ie.size n (.slice A n cap)).run P w' = .ok olds.toArray w') (hn : ∀ w' : World, w'.heap = w.heap → (Builtin.firstCells ie.size m (.slice A' m cap')).run P w' = .ok news.toArray w')
    (hgrow : cap < n + m) (hsm : n + m ≤ 2097152) (hby : ie.bytes ≤ 128) :
    (Builtin.append_ #[t, t] ty #[.slice A n cap, .slice A' m cap']).run P w = .ok (.slice (some ⟨w.heap.size, 0, none⟩) (n + m) (grownCap w (n + m) cap el))
      (w.drew.alloc (.cells (olds.toArray ++ news.toArray ++ Builtin.zeroCells z.cells (grownCap w (n + m) cap el - (n + m))) el)) := by
  have hn1 : ¬ (n + m ≤ cap) := by omega
  have h63' : ¬ (9223372036854775807 < ((n : Int) + (m : Int))) := by omega
  have hgl : ∀ r c, c ≤ 4194304 → Builtin.growBy (n + m) r c ≤ 4194304 := by
    intro r
    induction r with
    | zero => intro c hc; simpa [Builtin.growBy] using hc
    | succ r ih =>
      intro c hc
      unfold Builtin.growBy
      split
      · omega
      · exact ih _ (by omega)
  have hcap : Builtin.nextslicecap (n + m) cap ≤ 4194304 := by
    unfold Builtin.nextslicecap
    split
    · omega
    · split
      · omega
      · exact hgl _ _ (by omega)
  have h48 : Builtin.nextslicecap (n + m) cap * ie.bytes ≤ 4194304 * 128 := Nat.mul_le_mul hcap hby
  have h48' : ¬ (281474976710656 < Builtin.nextslicecap (n + m) cap * ie.bytes) := by omega
  have hf := hn w.drew rfl
  have hfo := ho w.drew rfl
  simp [Builtin.append_, run_underlying ht, sizeOf, typeInfo, zeroValue, hi, hz, Builtin.lenOf, hn1, h63', h48', Question.forced, hf, hfo, newRow, grownCap]
  congr 2
  apply Array.ext'
  simp [List.append_assoc]

theorem append_room_run {t ty el : TypeId} {ie : TypeInfo} (ht : P.underlying t = some (.slice el)) (hi : P.info? el = some ie) (b n cap : Nat) (A' : Option Addr) (m cap' : Nat) (news : List Value)
    (hn : (Builtin.firstCells ie.size m (.slice A' m cap')).run P w = .ok news.toArray w) (hroom : n + m ≤ cap) (T : TypeId) (cur : Array Value) (hheap : w.heap[b]? = some (.cells cur T (0, 0))) (hfit : n * ie.size + news.length ≤ cur.size) (h1 : ∀ u ∈ news, u.oneCell' = true) :
    (Builtin.append_ #[t, t] ty #[.slice (some ⟨b, 0, none⟩) n cap, .slice A' m cap']).run P w = .ok (.slice (some ⟨b, 0, none⟩) (n + m) cap) (w.setCells b (n * ie.size) news) := by
  have hst := run_storeCells_cells (P := P) b (n * ie.size) news 0 w (fun j hj => by simp only [World.cell?, hheap]; rw [Array.getElem?_eq_getElem (by omega)]; rfl) (fun j hj => by simp [World.frozen?, hheap]) h1
  simp only [Nat.add_zero] at hst
  simp [Builtin.append_, run_underlying ht, sizeOf, typeInfo, hi, Builtin.lenOf, hroom, hn, addr_add, hst]
theorem append_none_run {t ty el : TypeId} {ie : TypeInfo} (ht : P.underlying t = some (.slice el)) (hi : P.info? el = some ie) (A' : Option Addr) (cap' : Nat)
    (hn : (Builtin.firstCells ie.size 0 (.slice A' 0 cap')).run P w = .ok #[] w) :
    (Builtin.append_ #[t, t] ty #[.slice none 0 0, .slice A' 0 cap']).run P w = .ok (.slice none 0 0) w := by
  simp [Builtin.append_, run_underlying ht, sizeOf, typeInfo, hi, Builtin.lenOf, hn]

theorem CRel.drew (h : CRel C w ρ ok g) : CRel C w.drew ρ ok g ∧ Ext w ρ ok w.drew ρ ok :=
  h.world (fun _ _ => rfl) (Nat.le_refl _) ⟨rfl, rfl, rfl⟩ (fun _ _ _ => rfl)

/-- An append's outcome, the old slice having been let go. -/
theorem append_core (h : CRel C w ρ ok g) (hf : ρ fresh = none) {E : K} {xs ys : List (D E)} {t ty el : TypeId} {ie : TypeInfo} {z : Value} (k1 : P.underlying t = some (.slice el)) (k2 : P.info? el = some ie) (k3 : ie.size = esize E) (k4 : ie.bytes ≤ 128) (k5 : ie.zero = some z) (k6 : All2 ZRel z.cells.toList (enc E (dflt E)))
    (hlim : xs.length + ys.length ≤ 1048576) {A : Option Addr} {cap : Nat} (hcap : xs.length ≤ cap)
    (hA : (A = none ∧ cap = 0) ∨ ∃ b T cur, A = some ⟨b, 0, none⟩ ∧ w.heap[b]? = some (.cells cur T (0, 0)) ∧ cur.size = cap * esize E ∧ All2 (SRel w ρ ok) (cur.toList.take (xs.length * esize E)) (flat E xs) ∧
      (∀ x, ¬ ok x b) ∧ (∀ l, ¬ LiveAt g ρ l b) ∧ (C.w0.heap.size ≤ b ∨ C.M0 b))
    {A' : Option Addr} {cap' : Nat} {news : List Value} (hnl : news.length = ys.length * esize E) (hna : All2 (SRel w ρ ok) news (flat E ys)) (hnr : ∀ w' : World, w'.heap = w.heap → (Builtin.firstCells (esize E) ys.length (.slice A' ys.length cap')).run P w' = .ok news.toArray w') :
    ∃ w' ρ' cv, (Builtin.append_ #[t, t] ty #[.slice A xs.length cap, .slice A' ys.length cap']).run P w = .ok cv w' ∧ CRel C w' ρ' ok (upd1 g (fresh, 0) (some (.rows E (xs ++ ys)))) ∧ Ext w ρ ok w' ρ' ok ∧
      (∀ id, (id < fresh ∨ fresh + stride ≤ id) → ρ' id = ρ id) ∧ SRel w' ρ' ok cv (.row fresh) := by
  rw [← k3] at hnr
  have holds : ∃ olds : List Value, All2 (SRel w ρ ok) olds (flat E xs) ∧ ∀ w' : World, w'.heap = w.heap → (Builtin.firstCells ie.size xs.length (.slice A xs.length cap)).run P w' = .ok olds.toArray w' := by
    rcases hA with ⟨rfl, rfl⟩ | ⟨b, T, cur, rfl, hheap, hcs, hall, _⟩
    · have : xs = [] := List.eq_nil_of_length_eq_zero (by omega)
      subst this
      exact ⟨[], trivial, fun _ _ => rfl⟩
    · refine ⟨_, hall, fun w' hw' => firstCells_some w' _ _ b 0 _ _ _ (by rw [hall.length, flat_len, k3]) fun j u hu => ?_⟩
      rw [heap_cell hw', Nat.zero_add]
      simp only [World.cell?, hheap]
      by_cases hj : j < xs.length * esize E
      · rw [List.getElem?_take_of_lt hj] at hu
        simpa using hu
      · rw [List.getElem?_eq_none (by simp; omega)] at hu; cases hu
  obtain ⟨olds, ho1, ho2⟩ := holds
  by_cases hroom : xs.length + ys.length ≤ cap
  · rcases hA with ⟨rfl, rfl⟩ | ⟨b, T, cur, rfl, hheap, hcs, hall, hk, hnlive, hown⟩
    · have e1 : xs = [] := List.eq_nil_of_length_eq_zero (by omega)
      have e2 : ys = [] := List.eq_nil_of_length_eq_zero (by omega)
      subst e1 e2
      have e3 : news = [] := List.eq_nil_of_length_eq_zero (by simpa using hnl)
      subst e3
      obtain ⟨c1, c2⟩ := h.name hf (.slice none 0 0)
      refine ⟨w, _, _, append_none_run k1 k2 A' cap' (hnr w rfl), c1.addRows (updR_same _ _ _) ⟨none, 0, rfl, by simp, .inl ⟨rfl, rfl⟩⟩ (fun s e0 => by rw [h.fresh hf] at e0; cases e0) (fun b hb => by simp [blkOf] at hb), c2, fresh_ne ρ _, .row _ _ _ _ (updR_same _ _ _)⟩
    · have hfit : xs.length * ie.size + news.length ≤ cur.size := by
        rw [hnl, hcs, k3, ← Nat.add_mul]; exact Nat.mul_le_mul_right _ hroom
      have hrun := append_room_run (ty := ty) k1 k2 b xs.length cap A' ys.length cap' news (hnr w rfl) hroom T cur hheap hfit (fun u hu => by obtain ⟨_, hr⟩ := hna.left hu; exact hr.one)
      obtain ⟨s1, s2, s3⟩ := same_setCells b news (xs.length * ie.size) w
      obtain ⟨c1, c2⟩ := h.world (w' := w.setCells b (xs.length * ie.size) news) (fun b' hb' => heap_setCells_ne b _ _ _ _ (by
          rintro rfl
          rcases hb' with ⟨x, hx⟩ | ⟨l, hl⟩
          · exact hk x hx
          · exact hnlive l hl)) (by rw [size_setCells]; exact Nat.le_refl _) ⟨s1, s2, s3⟩ (fun b' hb' hm => heap_setCells_ne b _ _ _ _ (by
          rintro rfl
          rcases hown with h' | h'
          · omega
          · exact hm h'))
      obtain ⟨c3, c4⟩ := c1.name hf (.slice (some ⟨b, 0, none⟩) (xs.length + ys.length) cap)
      have hnew := heap_setCells b news (xs.length * ie.size) w cur T (0, 0) hheap hfit
      have hex := c2.trans c4
      refine ⟨_, _, _, hrun, c3.addRows (updR_same _ _ _) ⟨some ⟨b, 0, none⟩, cap, by rw [List.length_append], by rw [List.length_append]; exact hroom, .inr ⟨b, T, _, rfl, hnew, ?_, ?_⟩⟩ (fun s e0 => by rw [h.fresh hf] at e0; cases e0) ?_, hex, fresh_ne ρ _, .row _ _ _ _ (updR_same _ _ _)⟩
      · simp only [List.size_toArray]
        rw [splice_len _ _ _ (by simpa using hfit)]
        simpa using hcs
      · rw [List.length_append, flat_append]
        have hl1 : (cur.toList.take (xs.length * esize E)).length = xs.length * esize E := by rw [hall.length, flat_len]
        have := (hall.append hna).imp (S := SRel (w.setCells b (xs.length * ie.size) news) (updR ρ fresh (.slice (some ⟨b, 0, none⟩) (xs.length + ys.length) cap)) ok) fun _ _ => SRel.mono hex
        refine cast (congrArg (fun q => All2 _ q _) ?_) this
        simp only [k3]
        rw [take_at _ _ _ (by rw [List.length_append, hl1, hnl, Nat.add_mul])]
      · intro b' hb'
        simp [blkOf] at hb'
        subst hb'
        refine ⟨?_, hk, hown⟩
        rintro ⟨i, o⟩ ⟨⟨c, hc⟩, u, hu, hb⟩
        by_cases hi : i = fresh
        · exact hi
        · rw [updR_ne ρ _ hi] at hu
          exact (hnlive (i, o) ⟨⟨c, hc⟩, u, hu, hb⟩).elim
  · have hrun := append_grow_run (ty := ty) (w := w) k1 k2 k5 A xs.length cap A' ys.length cap' olds news ho2 hnr (by omega) (by omega) k4
    obtain ⟨d1, d2⟩ := h.drew
    have hge := grownCap_ge w (xs.length + ys.length) cap el
    have hzl : z.cells.size = esize E := by have := k6.length; simpa [enc_len] using this
    have hol : olds.length = xs.length * esize E := by rw [ho1.length, flat_len]
    have hcat : All2 (SRel w.drew ρ ok) (olds ++ news) (flat E (xs ++ ys)) := by
      rw [flat_append]
      exact (ho1.append hna).imp fun _ _ => SRel.mono d2
    obtain ⟨c1, c2⟩ := d1.newRows hf el (olds.toArray ++ news.toArray ++ Builtin.zeroCells z.cells (grownCap w (xs.length + ys.length) cap el - (xs.length + ys.length))) (E := E) (xs := xs ++ ys) (n := xs.length + ys.length) (cap := grownCap w (xs.length + ys.length) cap el)
      (by rw [List.length_append]) (by rw [List.length_append]; exact hge) (by
        simp only [Array.size_append, List.size_toArray, size_zeroCells, hzl, hol, hnl, ← Nat.add_mul]
        congr 1
        omega) (by
        simp only [Array.toList_append]
        rw [take_at _ _ _ (by simp only [List.length_append, hol, hnl, Nat.add_mul])]
        exact hcat)
    exact ⟨_, _, _, hrun, c1, d2.trans c2, fresh_ne ρ _, .row _ _ _ _ (updR_same _ _ _)⟩

theorem append_out (h : CRel C w ρ ok g) (hg : ∀ l c, gv l = some c → g l = some c) (hf : ρ fresh = none) {e : Env} (hE : ∀ t ti, e.tt t = some ti → TOK P t ti) {t ty : TypeId} {sv xv : Value} {s x : AV} (hs' : VRel w ρ ok sv s) (hx : VRel w ρ ok xv x) {v : AV} {u : Upd}
    (hs : (doAppend e t s x gv fresh).den = some (v, u)) : Out C w ρ ok g fresh ((do pure (.value (← Builtin.append_ #[t, t] ty #[sv, xv])) : Sem Next).run P w) v u := by
  unfold doAppend at hs
  split at hs
  · cases hs
  · rename_i E hk
    obtain ⟨el, ie, z, k1, k2, k3, k4, k5, k6⟩ := sliceElem_spec hE hk
    dsimp only at hs
    split at hs
    · rename_i xs u0 ys hold hnew
      obtain ⟨hb, hs⟩ := need_den hs
      have hlim : xs.length + ys.length ≤ 1048576 := of_decide_eq_true hb
      cases hs
      obtain ⟨A', cap', news, rfl, n1, n2, n3⟩ := src_cells (P := P) h hg hx E hnew
      split at hold
      · cases hold
        cases hs' with
        | one _ _ hs' => cases hs' with
          | nils =>
            obtain ⟨w', ρ', cv, r1, r2, r3, r4, r5⟩ := append_core (ty := ty) h hf (xs := []) k1 k2 k3 k4 k5 k6 hlim (A := none) (cap := 0) (by simp) (.inl ⟨rfl, rfl⟩) n1 n2 n3
            refine ⟨w', ρ', ok, cv, .value cv, ?_, .inl rfl, by simpa [updG] using r2, r3, r4, .one _ _ r5⟩
            simp only [List.length_nil] at r1
            simp only [Sem.run_bind, r1, Result.andThen_ok, Sem.run_pure]
      · rename_i id
        split at hold
        · rename_i E' xs' hgr
          unfold asK at hold
          split at hold
          · rename_i hEE
            subst hEE
            simp at hold
            obtain ⟨rfl, rfl⟩ := hold
            obtain ⟨A, cap, rfl, hr, hcap, hA⟩ := row_rel h.toHRel (hg _ _ hgr) hs'
            have hkill := h.kill (id := id) (fun s e0 => by rw [hg _ _ hgr] at e0; cases e0)
            obtain ⟨w', ρ', cv, r1, r2, r3, r4, r5⟩ := append_core (ty := ty) hkill hf (xs := xs') (ys := ys) k1 k2 k3 k4 k5 k6 hlim (A := A) (cap := cap) hcap (hA.imp (fun q => q) fun ⟨b, T, cur, q1, q2, q3, q4⟩ => by
              subst q1
              have hlive : LiveAt g ρ (id, 0) b := ⟨⟨_, hg _ _ hgr⟩, _, hr, rfl⟩
              refine ⟨b, T, cur, rfl, q2, q3, q4, fun x hx => (h.oks x b hx).2 _ hlive, ?_, h.own _ _ hlive⟩
              rintro l' ⟨⟨c, hc⟩, hb⟩
              by_cases hl' : (id, 0) = l'
              · subst hl'; rw [upd1_same] at hc; cases hc
              · rw [upd1_ne g _ hl'] at hc
                have := h.dist (id, 0) l' b hlive ⟨⟨c, hc⟩, hb⟩
                obtain ⟨i, o⟩ := l'
                have hid : id = i := this
                subst hid
                cases c with
                | rows E2 xs2 =>
                  obtain ⟨rfl, _⟩ := h.rows id o E2 xs2 hc
                  exact hl' rfl
                | cell s =>
                  obtain ⟨b1, v1, hb1, _⟩ := h.cells id o s hc
                  rw [hr] at hb1; cases hb1) n1 n2 n3
            refine ⟨w', ρ', ok, cv, .value cv, ?_, .inl rfl, by simpa [updG] using r2, r3, r4, .one _ _ r5⟩
            simp only [Sem.run_bind, r1, Result.andThen_ok, Sem.run_pure]
          · cases hold
        · cases hold
      · cases hold
    · cases hs
end
end Go.Proofs.Ytipfipnhgpbceaa.Sx
