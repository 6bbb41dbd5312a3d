/- The symbolic machine: memory under other numbers (plain theorems). -/
import Derived.Test.YtipfipnhgpbceaaSxOps6
set_option linter.unusedVariables false
set_option linter.unusedSimpArgs false
namespace Go.Proofs.Ytipfipnhgpbceaa.Sx
open Go

theorem enc_noid (f : Nat → Option Nat) (E : K) (x : D E) : ∀ s ∈ enc E x, s.ren f = s := by
  cases E <;> (intro s hs; simp only [enc, List.mem_cons, List.not_mem_nil, or_false] at hs) <;> (rcases hs with rfl | rfl | rfl | rfl | rfl | rfl | rfl | rfl | rfl | rfl) <;> rfl
theorem flat_noid (f : Nat → Option Nat) (E : K) (xs : List (D E)) (k : Nat) (s : Sc) (h : (flat E xs)[k]? = some s) : s.ren f = s := by
  have := List.mem_of_getElem? h
  obtain ⟨x, _, hx⟩ := List.mem_flatMap.1 this
  exact enc_noid f E x s hx

section
variable {w : World} {ρ ρ2 : Rho} {ok ok2 : Okp} {f : Nat → Option Nat}

theorem SRel.ren (hf : ∀ id id2 v, f id = some id2 → ρ id = some v → ρ2 id2 = some v) (hok : ∀ x b, ok x b → ok2 x b) {v : Value} {s : Sc} (h : SRel w ρ ok v s) : SRel w ρ2 ok2 v (s.ren f) := by
  induction h with
  | undef v h => exact .undef v h
  | int k n => exact .int k n
  | bool b => exact .bool b
  | nils => exact .nils
  | vec0 b E A cap => exact .vec0 b E A cap
  | vec b E xs blk off cap U hc hok' hcell hrel ih =>
    exact .vec b E xs blk off cap U hc (hok _ _ hok') hcell (fun k s hs => by have := ih k s hs; rwa [flat_noid f E xs k s hs] at this)
  | row id A n cap h =>
    simp only [Sc.ren]
    split
    · rename_i j hj; exact .row j A n cap (hf _ _ _ hj h)
    · exact .undef _ rfl
  | ptr id off b h =>
    simp only [Sc.ren]
    split
    · rename_i j hj; exact .ptr j off b (hf _ _ _ hj h)
    · exact .undef _ rfl
  | eptr id E i off b n cap h h0 h1 =>
    simp only [Sc.ren]
    split
    · rename_i j hj; exact .eptr j E i off b n cap (hf _ _ _ hj h) h0 h1
    · exact .undef _ rfl
  | vptr b E xs i off blk o U hok' h0 h1 hcell hrel ih =>
    exact .vptr b E xs i off blk o U (hok _ _ hok') h0 h1 hcell (fun j s hs => by
      have := ih j s hs
      rwa [enc_noid f E _ s (List.mem_of_getElem? hs)] at this)

theorem All2.mapR {α β γ : Type} {R : α → β → Prop} {S : α → γ → Prop} {q : β → γ} (h : ∀ a b, R a b → S a (q b)) : ∀ {as : List α} {bs : List β}, All2 R as bs → All2 S as (bs.map q)
  | [], [], _ => trivial
  | _ :: _, _ :: _, hh => ⟨h _ _ hh.1, All2.mapR h hh.2⟩
  | [], _ :: _, hh => hh.elim
  | _ :: _, [], hh => hh.elim

theorem VRel.ren (hf : ∀ id id2 v, f id = some id2 → ρ id = some v → ρ2 id2 = some v) (hok : ∀ x b, ok x b → ok2 x b) {v : Value} {a : AV} (h : VRel w ρ ok v a) : VRel w ρ2 ok2 v (a.ren f) := by
  cases h with
  | any v => exact .any v
  | one v s h => exact .one v _ (h.ren hf hok)
  | agg vs l h => exact .agg vs _ (All2.mapR (fun _ _ q => q.ren hf hok) h)
  | tup vs l h =>
    refine .tup vs _ (All2.mapR (fun a b q => ?_) h)
    rcases q with ⟨h1, us, h2, h3⟩ | ⟨h1, s, h2, h3⟩
    · exact .inl ⟨h1, us, h2, All2.mapR (fun _ _ q => q.ren hf hok) h3⟩
    · exact .inr ⟨h1, s.ren f, by simp [h2], h3.ren hf hok⟩

def renMC (f : Nat → Option Nat) : MC → MC
  | .cell s => .cell (s.ren f)
  | .rows E xs => .rows E xs

theorem RRel.ren (hf : ∀ id id2 v, f id = some id2 → ρ id = some v → ρ2 id2 = some v) (hok : ∀ x b, ok x b → ok2 x b) {v : Value} {E : K} {xs : List (D E)} (h : RRel w ρ ok v E xs) : RRel w ρ2 ok2 v E xs := by
  obtain ⟨A, cap, a2, a3, a4⟩ := h
  refine ⟨A, cap, a2, a3, a4.imp (fun q => q) fun ⟨b, T, cur, b1, b2, b3, b4⟩ => ⟨b, T, cur, b1, b2, b3, ?_⟩⟩
  refine All2.of_get b4.length fun j a s ha hs => ?_
  obtain ⟨a', ha', hr⟩ := b4.get hs
  rw [ha] at ha'
  cases ha'
  have := hr.ren (f := f) hf hok
  rwa [flat_noid f E xs j s hs] at this

theorem HRel.rhoOf {g : Get} (h : HRel w ρ ok g) {id off : Nat} {c : MC} (hg : g (id, off) = some c) : ∃ v, ρ id = some v := by
  cases c with
  | cell s => obtain ⟨b, v, h1, _⟩ := h.cells id off s hg; exact ⟨_, h1⟩
  | rows E xs => obtain ⟨_, v, h1, _⟩ := h.rows id off E xs hg; exact ⟨_, h1⟩

theorem HRel.trans_live {g g2 : Get} {inv : Nat → Option Nat} (h : HRel w ρ ok g) (hinv : ∀ id2 id, inv id2 = some id → f id = some id2) (hf : ∀ id id2 v, f id = some id2 → ρ id = some v → ρ2 id2 = some v)
    (hg : ∀ id2 off c2, g2 (id2, off) = some c2 → ∃ id c, inv id2 = some id ∧ g (id, off) = some c ∧ c2 = renMC f c) {l : Loc} {b : Nat} (hl : LiveAt g2 ρ2 l b) : ∃ id, inv l.1 = some id ∧ LiveAt g ρ (id, l.2) b := by
  obtain ⟨id2, off⟩ := l
  obtain ⟨⟨c2, hc2⟩, v, hv, hb⟩ := hl
  obtain ⟨id, c, h1, h2, h3⟩ := hg id2 off c2 hc2
  obtain ⟨v', hv'⟩ := h.rhoOf h2
  have := hf id id2 v' (hinv _ _ h1) hv'
  have hvv : v = v' := Option.some.inj (hv.symm.trans this)
  subst hvv
  exact ⟨id, h1, ⟨c, h2⟩, v, hv', hb⟩

theorem HRel.trans {g g2 : Get} {inv : Nat → Option Nat} (h : HRel w ρ ok g) (hinv : ∀ id2 id, inv id2 = some id → f id = some id2) (hf : ∀ id id2 v, f id = some id2 → ρ id = some v → ρ2 id2 = some v)
    (hg : ∀ id2 off c2, g2 (id2, off) = some c2 → ∃ id c, inv id2 = some id ∧ g (id, off) = some c ∧ c2 = renMC f c)
    (hg' : ∀ id2 id off s, inv id2 = some id → (∃ o c, g2 (id2, o) = some c) → g (id, off) = some (.cell s) → ∃ s', g2 (id2, off) = some (.cell s'))
    (hok : ∀ x b, ok x b → ok2 x b) (hok2 : ∀ x b, ok2 x b → b < w.heap.size ∧ ∀ l, ¬ LiveAt g2 ρ2 l b) : HRel w ρ2 ok2 g2 := by
  refine { cells := ?_, rows := ?_, dist := ?_, oks := hok2, cont := ?_ }
  · intro id2 off s hc
    obtain ⟨id, c, h1, h2, h3⟩ := hg _ _ _ hc
    cases c with
    | rows E xs => cases h3
    | cell s0 =>
      have hs : s = s0.ren f := by injection h3
      subst hs
      obtain ⟨b, v, a1, a2, a3, a4⟩ := h.cells _ _ _ h2
      exact ⟨b, v, hf _ _ _ (hinv _ _ h1) a1, a2, a3, a4.ren hf hok⟩
  · intro id2 off E xs hc
    obtain ⟨id, c, h1, h2, h3⟩ := hg _ _ _ hc
    cases c with
    | cell s0 => cases h3
    | rows E0 xs0 =>
      cases h3
      obtain ⟨a0, v, a1, a2⟩ := h.rows _ _ _ _ h2
      exact ⟨a0, v, hf _ _ _ (hinv _ _ h1) a1, a2.ren hf hok⟩
  · intro l l' b hl hl'
    obtain ⟨id, h1, h2⟩ := h.trans_live hinv hf hg hl
    obtain ⟨id', h3, h4⟩ := h.trans_live hinv hf hg hl'
    have hid : id = id' := h.dist _ _ _ h2 h4
    subst hid
    have e1 := hinv _ _ h1
    have e2 := hinv _ _ h3
    exact Option.some.inj (e1.symm.trans e2)
  · intro id2 off s hc
    obtain ⟨id, c, h1, h2, h3⟩ := hg _ _ _ hc
    cases c with
    | rows E xs => cases h3
    | cell s0 =>
      obtain ⟨d1, d2⟩ := h.cont _ _ _ h2
      exact ⟨d1, fun o ho => let ⟨s', hs'⟩ := d2 o ho; hg' id2 id o s' h1 ⟨off, _, hc⟩ hs'⟩
end

/-! ### Memory made out of objects -/
theorem findAt_spec {id : Nat} : ∀ {ids : List Nat} {i j : Nat}, findAt id i ids = some j → i ≤ j ∧ ids[j - i]? = some id
  | [], _, _, h => by cases h
  | x :: r, i, j, h => by
    unfold findAt at h
    split at h
    · rename_i hx
      cases h
      exact ⟨Nat.le_refl _, by simpa using hx⟩
    · obtain ⟨h1, h2⟩ := findAt_spec h
      refine ⟨by omega, ?_⟩
      rw [show j - i = (j - (i + 1)) + 1 by omega]
      simpa using h2
theorem findAt_get {id : Nat} : ∀ {ids : List Nat} {i j : Nat}, ids.Nodup → ids[j]? = some id → findAt id i ids = some (i + j)
  | [], _, _, _, h => by simp at h
  | x :: r, i, 0, _, h => by
    simp at h
    subst h
    simp [findAt]
  | x :: r, i, j + 1, hn, h => by
    have h' : r[j]? = some id := by simpa using h
    have hne : x ≠ id := by
      rintro rfl
      exact (List.nodup_cons.1 hn).1 (List.mem_of_getElem? h')
    unfold findAt
    rw [if_neg (by simpa using hne), findAt_get (List.nodup_cons.1 hn).2 h']
    congr 1
    omega
theorem findAt_mem {id i : Nat} {ids : List Nat} (h : id ∈ ids) : ∃ j, findAt id i ids = some j := by
  induction ids generalizing i with
  | nil => simp at h
  | cons x r ih =>
    unfold findAt
    split
    · exact ⟨_, rfl⟩
    · rename_i hx
      rcases List.mem_cons.1 h with rfl | h'
      · simp at hx
      · exact ih h'

theorem get_append (m m' : Mem) (l : Loc) (h : ∀ p ∈ m, p.1 ≠ l) : Mem.get (m ++ m') l = Mem.get m' l := by
  induction m with
  | nil => rfl
  | cons p m ih =>
    obtain ⟨l', c⟩ := p
    rw [List.cons_append, get_cons, if_neg (h (l', c) (by simp)), ih (fun q hq => h q (by simp [hq]))]
theorem get_putCells (id : Nat) (m : Mem) : ∀ (l : List Sc) (off o : Nat), Mem.get (putCells id off l ++ m) (id, o) = if off ≤ o ∧ o < off + l.length then (l[o - off]?).map MC.cell else Mem.get m (id, o)
  | [], off, o => by simp [putCells]; omega
  | s :: l, off, o => by
    rw [putCells, List.cons_append, get_cons, get_putCells id m l (off + 1) o]
    by_cases h : o = off
    · subst h; simp
    · rw [if_neg (by intro e; exact h (congrArg Prod.snd e).symm)]
      by_cases h2 : off + 1 ≤ o ∧ o < off + 1 + l.length
      · rw [if_pos h2, if_pos (by simp; omega), show o - off = (o - (off + 1)) + 1 by omega]
        simp
      · rw [if_neg h2, if_neg (by simp; omega)]
theorem putCells_ids (id : Nat) : ∀ (l : List Sc) (off : Nat), ∀ p ∈ putCells id off l, p.1.1 = id
  | [], _, p, h => by simp [putCells] at h
  | s :: l, off, p, h => by
    rcases List.mem_cons.1 h with rfl | h
    · rfl
    · exact putCells_ids id l (off + 1) p h
/-- What an object says of a place. -/
def obGet : Ob → Nat → Option MC
  | .box l, o => (l[o]?).map MC.cell
  | .rows E xs, 0 => some (.rows E xs)
  | .rows _ _, _ + 1 => none
  | .dead, _ => none
theorem initMem_ids : ∀ (os : List Ob) (i : Nat), ∀ p ∈ initMem i os, i ≤ p.1.1
  | [], _, p, h => by simp [initMem] at h
  | .box l :: r, i, p, h => by
    rcases List.mem_append.1 h with h | h
    · rw [putCells_ids i l 0 p h]; exact Nat.le_refl _
    · have := initMem_ids r (i + 1) p h; omega
  | .rows E xs :: r, i, p, h => by
    rcases List.mem_cons.1 h with rfl | h
    · exact Nat.le_refl _
    · have := initMem_ids r (i + 1) p h; omega
  | .dead :: r, i, p, h => by have := initMem_ids r (i + 1) p h; omega
theorem get_initMem_lt (os : List Ob) (i id o : Nat) (h : id < i) : (initMem i os).get (id, o) = none := by
  have : ∀ m : Mem, (∀ p ∈ m, i ≤ p.1.1) → m.get (id, o) = none := by
    intro m
    induction m with
    | nil => intro _; rfl
    | cons p m ih =>
      intro hp
      obtain ⟨l', c⟩ := p
      rw [get_cons, if_neg, ih (fun q hq => hp q (by simp [hq]))]
      intro e0
      have := hp (l', c) (by simp)
      rw [e0] at this
      simp at this
      omega
  exact this _ (initMem_ids os i)
theorem get_initMem : ∀ (os : List Ob) (i j o : Nat), (initMem i os).get (i + j, o) = match os[j]? with | some ob => obGet ob o | none => none
  | [], i, j, o => by simp [initMem, Mem.get]
  | .box l :: r, i, 0, o => by
    simp only [initMem, Nat.add_zero, List.getElem?_cons_zero]
    rw [get_putCells]
    by_cases h : o < l.length
    · rw [if_pos (by omega)]; simp [obGet]
    · rw [if_neg (by omega), get_initMem_lt r (i + 1) i o (by omega)]
      simp [obGet, List.getElem?_eq_none (Nat.le_of_not_lt h)]
  | .box l :: r, i, j + 1, o => by
    simp only [initMem, List.getElem?_cons_succ]
    rw [get_append _ _ _ (fun p hp e0 => by have := putCells_ids i l 0 p hp; rw [e0] at this; simp at this), show i + (j + 1) = i + 1 + j by omega]
    exact get_initMem r (i + 1) j o
  | .rows E xs :: r, i, 0, o => by
    simp only [initMem, Nat.add_zero, List.getElem?_cons_zero]
    rw [get_cons]
    cases o with
    | zero => simp [obGet]
    | succ o => rw [if_neg (by simp), get_initMem_lt r (i + 1) i _ (by omega)]; rfl
  | .rows E xs :: r, i, j + 1, o => by
    simp only [initMem, List.getElem?_cons_succ]
    rw [get_cons, if_neg (by intro e; have := congrArg Prod.fst e; simp at this), show i + (j + 1) = i + 1 + j by omega]
    exact get_initMem r (i + 1) j o
  | .dead :: r, i, 0, o => by
    simp only [initMem, Nat.add_zero, List.getElem?_cons_zero, obGet]
    exact get_initMem_lt r (i + 1) i o (by omega)
  | .dead :: r, i, j + 1, o => by
    simp only [initMem, List.getElem?_cons_succ]
    rw [show i + (j + 1) = i + 1 + j by omega]
    exact get_initMem r (i + 1) j o

/-- A variable's cells, all of them. -/
theorem boxAt_spec (g : Get) (id : Nat) : ∀ (n off : Nat), (∀ o s, g (id, o) = some (.cell s) → off ≤ o → o < off + n ∧ ∀ o', off ≤ o' → o' < o → ∃ s', g (id, o') = some (.cell s')) →
    ∀ o, off ≤ o → ((boxAt g id n off)[o - off]?).map MC.cell = match g (id, o) with | some (.cell s) => some (.cell s) | _ => none
  | 0, off, h, o, ho => by
    simp [boxAt]
    split
    · rename_i s hs; have := (h o s hs ho).1; omega
    · rfl
  | n + 1, off, h, o, ho => by
    unfold boxAt
    split
    · rename_i s hs
      by_cases he : o = off
      · subst he; simp [hs]
      · rw [show o - off = (o - (off + 1)) + 1 by omega, List.getElem?_cons_succ]
        refine boxAt_spec g id n (off + 1) (fun o' s' hs' ho' => ?_) o (by omega)
        obtain ⟨h1, h2⟩ := h o' s' hs' (by omega)
        exact ⟨by omega, fun o'' h3 h4 => h2 o'' (by omega) h4⟩
    · rename_i hn
      simp
      split
      · rename_i s hs
        by_cases he : o = off
        · subst he; exact absurd hs (hn s)
        · obtain ⟨_, h2⟩ := h o s hs ho
          obtain ⟨s', hs'⟩ := h2 off (Nat.le_refl _) (by omega)
          exact absurd hs' (hn s')
      · rfl
theorem HRel.boxAt {w : World} {ρ : Rho} {ok : Okp} {g : Get} (h : HRel w ρ ok g) (id o : Nat) : ((Sx.boxAt g id 64 0)[o]?).map MC.cell = match g (id, o) with | some (.cell s) => some (.cell s) | _ => none := by
  have := boxAt_spec g id 64 0 (fun o s hs _ => by
    obtain ⟨d1, d2⟩ := h.cont id o s hs
    exact ⟨by omega, fun o' _ ho' => d2 o' ho'⟩) o (Nat.zero_le _)
  simpa using this
/-- An object, taken out of memory. -/
theorem obAt_get {w : World} {ρ : Rho} {ok : Okp} {g : Get} (h : HRel w ρ ok g) (f : Nat → Option Nat) (id o : Nat) : obGet (obAt g f id) o = (g (id, o)).map (renMC f) := by
  unfold obAt
  split
  · rename_i E xs hg
    cases o with
    | zero => simp [obGet, hg, renMC]
    | succ o =>
      simp [obGet]
      cases hc : g (id, o + 1) with
      | none => rfl
      | some c =>
        cases c with
        | cell s =>
          obtain ⟨_, d2⟩ := h.cont _ _ _ hc
          obtain ⟨s', hs'⟩ := d2 0 (by omega)
          rw [hg] at hs'; cases hs'
        | rows E' xs' => have := (h.rows _ _ _ _ hc).1; omega
  · rename_i s hg
    simp only [obGet, List.getElem?_map]
    have := h.boxAt id o
    cases hc : g (id, o) with
    | none => rw [hc] at this; simp at this; simp [this]
    | some c =>
      cases c with
      | cell s' =>
        rw [hc] at this
        simp at this
        simp [this, renMC]
      | rows E' xs' =>
        obtain ⟨rfl, _⟩ := h.rows _ _ _ _ hc
        rw [hg] at hc; cases hc
  · rename_i hg
    simp [obGet]
    cases hc : g (id, o) with
    | none => rfl
    | some c =>
      cases c with
      | cell s =>
        by_cases ho : o = 0
        · subst ho; rw [hg] at hc; cases hc
        · obtain ⟨_, d2⟩ := h.cont _ _ _ hc
          obtain ⟨s', hs'⟩ := d2 0 (by omega)
          rw [hg] at hs'; cases hs'
      | rows E' xs' =>
        obtain ⟨rfl, _⟩ := h.rows _ _ _ _ hc
        rw [hg] at hc; cases hc
end Go.Proofs.Ytipfipnhgpbceaa.Sx
