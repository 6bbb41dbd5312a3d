/- What a call hands back as its own may be taken for what is only read (plain theorems). -/
import Derived.Test.YtipfipnhgpbceaaSxTypes
set_option linter.unusedVariables false
set_option linter.unusedSimpArgs false
namespace Go.Proofs.Ytipfipnhgpbceaa.Sx
open Go

inductive TC (os : List Ob) (n : Nat) : Sc → Sc → Prop
  | same (s : Sc) : TC os n s s
  | nils (E : K) : TC os n .nils (.vec false E [])
  | row (id : Nat) (E : K) (xs : List (D E)) (h : n ≤ id) (ho : os[id]? = some (.rows E xs)) : TC os n (.row id) (.vec false E xs)
inductive TA (os : List Ob) (n : Nat) : AV → AV → Prop
  | one (s s' : Sc) (h : TC os n s s') (hu : s ≠ .undef) : TA os n (.one s) (.one s')
  | agg (l l' : List Sc) (h : All2 (TC os n) l l') : TA os n (.agg l) (.agg l')
  | tup (l l' : List (Bool × List Sc)) (h : All2 (fun p q => p.1 = q.1 ∧ All2 (TC os n) p.2 q.2) l l') : TA os n (.tup l) (.tup l')
theorem all2_tc_refl {os : List Ob} {n : Nat} : ∀ (l : List Sc), All2 (TC os n) l l
  | [] => trivial
  | s :: l => ⟨.same s, all2_tc_refl l⟩

theorem get_take {os : List Ob} {n : Nat} {l : Loc} {c : MC} (h : (initMem 0 (os.take n)).get l = some c) : l.1 < n ∧ (initMem 0 os).get l = some c := by
  obtain ⟨id, o⟩ := l
  have h0 := get_initMem (os.take n) 0 id o
  have h1 := get_initMem os 0 id o
  rw [Nat.zero_add] at h0 h1
  rw [h] at h0
  rw [h1]
  by_cases hid : id < n
  · rw [List.getElem?_take_of_lt hid] at h0
    exact ⟨hid, h0.symm⟩
  · rw [List.getElem?_eq_none (by rw [List.length_take]; omega)] at h0
    cases h0
theorem take_get {os : List Ob} {n : Nat} {l : Loc} (hl : l.1 < n) : (initMem 0 (os.take n)).get l = (initMem 0 os).get l := by
  obtain ⟨id, o⟩ := l
  have h0 := get_initMem (os.take n) 0 id o
  have h1 := get_initMem os 0 id o
  rw [Nat.zero_add] at h0 h1
  rw [h0, h1, List.getElem?_take_of_lt hl]

section
variable {w w' : World} {ρ ρ' : Rho} {ok : Okp} {obs os : List Ob} {okf : Nat → Prop}
theorem live_take {n : Nat} {l : Loc} {b : Nat} (h : LiveAt (initMem 0 (os.take n)).get ρ' l b) : l.1 < n ∧ LiveAt (initMem 0 os).get ρ' l b := by
  obtain ⟨⟨c, hc⟩, hv⟩ := h
  exact ⟨(get_take hc).1, ⟨c, (get_take hc).2⟩, hv⟩
def okThaw (os : List Ob) (n : Nat) (ρ' : Rho) (okf : Nat → Prop) (b : Nat) : Prop := okf b ∨ ∃ id, n ≤ id ∧ LiveAt (initMem 0 os).get ρ' (id, 0) b
theorem ext_thaw {n : Nat} : Ext w' ρ' (fun _ b => okf b) w' ρ' (fun _ b => okThaw os n ρ' okf b) := ⟨fun _ _ _ => rfl, fun _ _ h => .inl h, fun _ _ h => h⟩
theorem thaw_post (h : CallPost w ρ ok obs w' ρ' okf os) : CallPost w ρ ok obs w' ρ' (okThaw os obs.length ρ' okf) (os.take obs.length) where
  heap := {
    cells := fun id off s hc => by
      obtain ⟨b, v, a1, a2, a3, a4⟩ := h.heap.cells id off s (get_take hc).2
      exact ⟨b, v, a1, a2, a3, a4.mono ext_thaw⟩
    rows := fun id off E xs hc => by
      obtain ⟨a1, v, a2, A, cap, a3, a4, a5⟩ := h.heap.rows id off E xs (get_take hc).2
      exact ⟨a1, v, a2, A, cap, a3, a4, a5.imp (fun q => q) fun ⟨b, T, cur, r1, r2, r3, r4⟩ => ⟨b, T, cur, r1, r2, r3, r4.imp fun _ _ q => q.mono ext_thaw⟩⟩
    dist := fun l l' b h1 h2 => h.heap.dist l l' b (live_take h1).2 (live_take h2).2
    oks := fun x b hb => by
      rcases hb with hb | ⟨id, hid, hl⟩
      · exact ⟨(h.heap.oks x b hb).1, fun l hl => (h.heap.oks x b hb).2 l (live_take hl).2⟩
      · refine ⟨h.heap.live_lt hl, fun l hl' => ?_⟩
        have h1 := live_take hl'
        have h2 := h.heap.dist _ _ _ hl h1.2
        have h3 : id = l.1 := h2
        omega
    cont := fun id off s hc => by
      have h1 := get_take hc
      obtain ⟨h2, h3⟩ := h.heap.cont id off s h1.2
      refine ⟨h2, fun o ho => ?_⟩
      obtain ⟨s', hs'⟩ := h3 o ho
      exact ⟨s', by rw [take_get (l := (id, o)) h1.1]; exact hs'⟩ }
  rho := h.rho
  okn := fun b hb => by
    rcases hb with hb | ⟨id, _, hl⟩
    · exact h.okn b hb
    · exact .inr (h.own _ _ hl)
  own := fun l b hl => h.own l b (live_take hl).2
  fr := h.fr
theorem thaw_cell (h : CallPost w ρ ok obs w' ρ' okf os) {v : Value} {s s' : Sc} (hv : SRel w' ρ' (fun _ b => okf b) v s) (ht : TC os obs.length s s') : SRel w' ρ' (fun _ b => okThaw os obs.length ρ' okf b) v s' := by
  cases ht with
  | same => exact hv.mono ext_thaw
  | nils E => cases hv; exact .vec0 _ _ _ _
  | row id E xs hid ho =>
    cases hv with
    | row _ A n cap hr =>
      have hg : (initMem 0 os).get (id, 0) = some (.rows E xs) := by
        have := get_initMem os 0 id 0
        rw [Nat.zero_add, ho] at this
        exact this
      obtain ⟨_, v, h1, A', cap', h2, h3, h4⟩ := h.heap.rows id 0 E xs hg
      rw [hr] at h1
      cases h1
      cases h2
      rcases h4 with ⟨rfl, rfl⟩ | ⟨b, T, cur, rfl, hheap, hcs, hall⟩
      · have : xs = [] := List.eq_nil_of_length_eq_zero (by omega)
        subst this
        exact .vec0 _ _ _ _
      · have hlive : LiveAt (initMem 0 os).get ρ' (id, 0) b := ⟨⟨_, hg⟩, _, hr, rfl⟩
        refine SRel.vec false E xs b 0 cap (fun k => cur.toList.getD k undef) h3 (.inr ⟨id, hid, hlive⟩) ?_ ?_
        · intro k hk
          have hlt : k < cur.size := by rw [hcs]; have := Nat.mul_le_mul_right (esize E) h3; omega
          simp [World.cell?, hheap, Array.getElem?_eq_getElem hlt]
        · intro k s hks
          obtain ⟨a, ha, hr'⟩ := hall.get hks
          have hlt : k < xs.length * esize E := by
            rw [← flat_len]; exact (List.getElem?_eq_some_iff.1 hks).1
          rw [List.getElem?_take_of_lt hlt] at ha
          simp only [List.getD_eq_getElem?_getD, ha]
          exact hr'.mono ext_thaw
theorem All2.map2 {α β γ : Type} {R : α → β → Prop} {S : β → γ → Prop} {T : α → γ → Prop} (h : ∀ a b c, R a b → S b c → T a c) : ∀ {as : List α} {bs : List β} {cs : List γ}, All2 R as bs → All2 S bs cs → All2 T as cs
  | [], [], [], _, _ => trivial
  | _ :: _, _ :: _, _ :: _, h1, h2 => ⟨h _ _ _ h1.1 h2.1, All2.map2 h h1.2 h2.2⟩
  | [], _ :: _, _, h1, _ => h1.elim
  | _ :: _, [], _, h1, _ => h1.elim
  | [], [], _ :: _, _, h2 => h2.elim
  | _ :: _, _ :: _, [], _, h2 => h2.elim
theorem thaw_av (h : CallPost w ρ ok obs w' ρ' okf os) {v : Value} {a a' : AV} (hv : VRel w' ρ' (fun _ b => okf b) v a) (ht : TA os obs.length a a') : VRel w' ρ' (fun _ b => okThaw os obs.length ρ' okf b) v a' := by
  cases ht with
  | one s s' h1 hu =>
    cases hv with
    | any => exact absurd rfl hu
    | one _ _ h2 => exact .one _ _ (thaw_cell h h2 h1)
  | agg l l' h1 =>
    cases hv with
    | agg vs _ h2 => exact .agg _ _ (All2.map2 (R := SRel w' ρ' (fun _ b => okf b)) (S := TC os obs.length) (T := SRel w' ρ' (fun _ b => okThaw os obs.length ρ' okf b)) (fun a b c q1 q2 => thaw_cell h q1 q2) h2 h1)
  | tup l l' h1 =>
    cases hv with
    | tup vs _ h2 =>
      refine .tup _ _ (All2.map2 (fun a b c q1 q2 => ?_) h2 h1)
      rcases q1 with ⟨e1, us, e2, e3⟩ | ⟨e1, s, e2, e3⟩
      · exact .inl ⟨by rw [← q2.1, e1], us, e2, All2.map2 (R := SRel w' ρ' (fun _ b => okf b)) (S := TC os obs.length) (T := SRel w' ρ' (fun _ b => okThaw os obs.length ρ' okf b)) (fun a b c q1 q2 => thaw_cell h q1 q2) e3 q2.2⟩
      · have h3 := q2.2
        rw [e2] at h3
        obtain ⟨q21, q22⟩ := c
        cases q22 with
        | nil => exact h3.elim
        | cons s' r =>
          cases r with
          | nil => exact .inr ⟨by rw [← q2.1, e1], s', rfl, thaw_cell h e3 h3.1⟩
          | cons _ _ => exact h3.2.elim
end
theorem spec_thaw {P : Program} {f : FuncId} {a b : Spec} (h : ∀ av ob r' os', (b.run av ob).den = some (r', os') → ∃ r os, (a.run av ob).den = some (r, os) ∧ os' = os.take ob.length ∧ TA os ob.length r r') (ha : SpecOK P f a) : SpecOK P f b := by
  intro w ρ ok vs av obs r' os' h1 h2 h3 h4
  obtain ⟨r, os, g1, rfl, g3⟩ := h _ _ _ _ h4
  refine (ha w ρ ok vs av obs r os h1 h2 h3 g1).mono ?_
  rintro e w' ⟨v, ρ', okf, rfl, hp, hv⟩
  exact ⟨v, ρ', _, rfl, thaw_post hp, thaw_av hp hv g3⟩
/-- A slice among results, as a list. -/
def slO (E : K) (n : Nat) (os : List Ob) : Sc → Option (List (D E))
  | .nils => some []
  | .vec false E' xs => if h : E' = E then some (h ▸ xs) else none
  | .row id => if n ≤ id then (match os[id]? with
    | some (.rows E' xs) => if h : E' = E then some (h ▸ xs) else none
    | _ => none) else none
  | _ => none
theorem slO_ok {E : K} {n : Nat} {os : List Ob} {s : Sc} {xs : List (D E)} (h : slO E n os s = some xs) : TC os n s (.vec false E xs) := by
  unfold slO at h
  split at h
  · cases h; exact .nils E
  · split at h
    · rename_i he
      subst he
      cases h
      exact .same _
    · cases h
  · split at h
    · rename_i hn
      split at h
      · rename_i ho
        split at h
        · rename_i he
          subst he
          cases h
          exact .row _ _ _ hn ho
        · cases h
      · cases h
    · cases h
  · cases h
theorem slO_nils {E : K} {n : Nat} {os : List Ob} : slO E n os .nils = some [] := rfl
theorem slO_vec {E : K} {n : Nat} {os : List Ob} {xs : List (D E)} : slO E n os (.vec false E xs) = some xs := by simp [slO]
theorem slO_row {E : K} {n : Nat} {os : List Ob} {xs : List (D E)} {id : Nat} (hn : n ≤ id) (ho : os[id]? = some (.rows E xs)) : slO E n os (.row id) = some xs := by
  simp [slO, hn, ho]
/-- The machine's own word as a contract. -/
def machS (e : Env) (fn : Func) (keep : Code → Keep) (fl : List AV → List Ob → Nat) (wr : Bool) : Spec := ⟨wr, fun av ob => evalF e fn keep (fl av ob) av ob⟩
theorem machS_run (e : Env) (fn : Func) (keep : Code → Keep) (fl : List AV → List Ob → Nat) (wr : Bool) (av : List AV) (ob : List Ob) : (machS e fn keep fl wr).run av ob = evalF e fn keep (fl av ob) av ob := rfl
theorem machS_ok {P : Program} {e : Env} (hE : EnvOK P e) (hm : P.follows .mixedOrders = true) {f : FuncId} {fn : Func} (hf : P.funcs[f]? = some fn) (keep : Code → Keep) (fl : List AV → List Ob → Nat) (wr : Bool) : SpecOK P f (machS e fn keep fl wr) :=
  specOK_of hE hm hf keep fun av ob r os h => ⟨_, h⟩
end Go.Proofs.Ytipfipnhgpbceaa.Sx
