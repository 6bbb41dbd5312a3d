/- The symbolic machine: what a store, a new block, a slice's growth do to the relation with the world (plain theorems). -/
import Derived.Test.YtipfipnhgpbceaaSxBase
set_option linter.unusedVariables false
set_option linter.unusedSimpArgs false
namespace Go.Proofs.Ytipfipnhgpbceaa.Sx
open Go

theorem upd1_same (g : Get) (l : Loc) (c : Option MC) : upd1 g l c l = c := by simp [upd1]
theorem upd1_ne (g : Get) {l l' : Loc} (c : Option MC) (h : l ≠ l') : upd1 g l c l' = g l' := by simp [upd1, h]
theorem live_upd {g : Get} {ρ : Rho} {l l' : Loc} {c : Option MC} {b : Nat} (h : LiveAt (upd1 g l c) ρ l' b) : (l' = l ∧ ∃ v, ρ l.1 = some v ∧ blkOf v = some b) ∨ LiveAt g ρ l' b := by
  obtain ⟨⟨x, hx⟩, v, hv, hb⟩ := h
  by_cases he : l = l'
  · subst he; exact .inl ⟨rfl, v, hv, hb⟩
  · rw [upd1_ne g c he] at hx
    exact .inr ⟨⟨x, hx⟩, v, hv, hb⟩

/-- More may be looked at: blocks that no place leads to. -/
theorem CRel.more {C : Ctx} {w : World} {ρ : Rho} {ok ok' : Okp} {g : Get} (h : CRel C w ρ ok g) (h1 : ∀ x b, ok x b → ok' x b)
    (h2 : ∀ x b, ok' x b → ok x b ∨ (b < w.heap.size ∧ (∀ l, ¬ LiveAt g ρ l b) ∧ (C.w0.heap.size ≤ b ∨ C.M0 b))) : CRel C w ρ ok' g ∧ Ext w ρ ok w ρ ok' := by
  have he : Ext w ρ ok w ρ ok' := ⟨fun _ _ _ => rfl, h1, fun _ _ h => h⟩
  refine ⟨{ cells := ?_, rows := ?_, dist := h.dist, oks := ?_, cont := h.cont, own := h.own, ok0 := fun x b hb => h1 _ _ (h.ok0 x b hb), okn := ?_, fr := h.fr }, he⟩
  · intro id off s hg
    obtain ⟨b, v, a1, a2, a3, a4⟩ := h.cells id off s hg
    exact ⟨b, v, a1, a2, a3, a4.mono he⟩
  · intro id off E xs hg
    obtain ⟨a0, v, a1, A, cap, a2, a3, a4⟩ := h.rows id off E xs hg
    refine ⟨a0, v, a1, A, cap, a2, a3, ?_⟩
    rcases a4 with a4 | ⟨b, T, vs, b1, b2, b3, b4⟩
    · exact .inl a4
    · exact .inr ⟨b, T, vs, b1, b2, b3, b4.imp fun _ _ => SRel.mono he⟩
  · intro x b hb
    rcases h2 x b hb with h3 | ⟨h3, h4, _⟩
    · exact h.oks x b h3
    · exact ⟨h3, h4⟩
  · intro b hb
    rcases h2 false b hb with h3 | ⟨_, _, h4⟩
    · exact h.okn b h3
    · exact .inr h4

/-- A store into a cell of the call's own. -/
theorem CRel.setCell {C : Ctx} {w : World} {ρ : Rho} {ok : Okp} {g : Get} (h : CRel C w ρ ok g) {id off b : Nat} {s s0 : Sc} {v : Value}
    (hr : ρ id = some (.pointer (some ⟨b, 0, none⟩))) (hg : g (id, off) = some (.cell s0)) (hv : SRel w ρ ok v s) :
    CRel C (w.setCell ⟨b, off, none⟩ v) ρ ok (upd1 g (id, off) (some (.cell s))) ∧ Ext w ρ ok (w.setCell ⟨b, off, none⟩ v) ρ ok := by
  have hlive : LiveAt g ρ (id, off) b := ⟨⟨_, hg⟩, _, hr, rfl⟩
  have hnok : ∀ x b', ok x b' → b' ≠ b := fun x b' hb he => (h.oks x b' hb).2 _ (he ▸ hlive)
  have hsame : ∀ k, k ≠ b → (w.setCell ⟨b, off, none⟩ v).heap[k]? = w.heap[k]? := fun k hk => RowKit.Below.heap_setCell w _ v k hk
  have he : Ext w ρ ok (w.setCell ⟨b, off, none⟩ v) ρ ok := ⟨fun x b' hb => hsame _ (hnok x b' hb), fun _ _ h => h, fun _ _ h => h⟩
  obtain ⟨b0, v0, c1, c2, c3, c4⟩ := h.cells id off s0 hg
  have hb0 : b0 = b := by
    have := Option.some.inj (c1.symm.trans hr)
    simpa using this
  subst hb0
  refine ⟨{ cells := ?_, rows := ?_, dist := ?_, oks := ?_, cont := ?_, own := ?_, ok0 := h.ok0, okn := h.okn, fr := ?_ }, he⟩
  · intro id' off' s' hg'
    by_cases hl : (id, off) = (id', off')
    · cases hl
      rw [upd1_same] at hg'
      cases hg'
      exact ⟨b0, v, hr, World.cell?_setCell_same w _ v c2, by rw [World.frozen?_setCell]; exact c3, hv.mono he⟩
    · rw [upd1_ne g _ hl] at hg'
      obtain ⟨b', v', a1, a2, a3, a4⟩ := h.cells id' off' s' hg'
      refine ⟨b', v', a1, ?_, by rw [World.frozen?_setCell]; exact a3, a4.mono he⟩
      rw [World.cell?_setCell_other]
      · exact a2
      · intro heq
        have hbb : b0 = b' := by injection heq
        have hoo : off = off' := by injection heq
        subst hbb hoo
        have := h.dist (id, off) (id', off) b0 hlive ⟨⟨_, hg'⟩, _, a1, rfl⟩
        exact hl (by simp at this; rw [this])
  · intro id' off' E xs hg'
    have hl : (id, off) ≠ (id', off') := by
      intro heq; cases heq; rw [upd1_same] at hg'; cases hg'
    rw [upd1_ne g _ hl] at hg'
    obtain ⟨a0, v', a1, A, cap, a2, a3, a4⟩ := h.rows id' off' E xs hg'
    refine ⟨a0, v', a1, A, cap, a2, a3, ?_⟩
    rcases a4 with a4 | ⟨b', T, vs, b1, b2, b3, b4⟩
    · exact .inl a4
    · refine .inr ⟨b', T, vs, b1, ?_, b3, b4.imp fun _ _ => SRel.mono he⟩
      rw [hsame]
      · exact b2
      · rintro rfl
        have := h.dist (id, off) (id', off') b' hlive ⟨⟨_, hg'⟩, v', a1, by rw [a2, b1]; rfl⟩
        have hid : id = id' := this
        subst hid
        rw [hr] at a1
        cases a1; cases a2
  · intro l l' b' hl hl'
    refine h.dist l l' b' ?_ ?_
    · rcases live_upd hl with ⟨rfl, v', hv', hb'⟩ | h'
      · exact ⟨⟨_, hg⟩, v', hv', hb'⟩
      · exact h'
    · rcases live_upd hl' with ⟨rfl, v', hv', hb'⟩ | h'
      · exact ⟨⟨_, hg⟩, v', hv', hb'⟩
      · exact h'
  · intro x b' hb
    refine ⟨by rw [World.size_setCell]; exact (h.oks x b' hb).1, fun l hl => ?_⟩
    rcases live_upd hl with ⟨rfl, v', hv', hb'⟩ | h'
    · exact (h.oks x b' hb).2 _ ⟨⟨_, hg⟩, v', hv', hb'⟩
    · exact (h.oks x b' hb).2 _ h'
  · intro id' off' s' hg'
    have key : ∃ s'', g (id', off') = some (.cell s'') := by
      by_cases hl : (id, off) = (id', off')
      · cases hl; exact ⟨s0, hg⟩
      · rw [upd1_ne g _ hl] at hg'; exact ⟨s', hg'⟩
    obtain ⟨s'', hg''⟩ := key
    obtain ⟨d1, d2⟩ := h.cont id' off' s'' hg''
    refine ⟨d1, fun o ho => ?_⟩
    by_cases hl : (id, off) = (id', o)
    · exact ⟨s, by rw [← hl, upd1_same]⟩
    · rw [upd1_ne g _ hl]; exact d2 o ho
  · intro l b' hl
    rcases live_upd hl with ⟨rfl, v', hv', hb'⟩ | h'
    · exact h.own _ b' ⟨⟨_, hg⟩, v', hv', hb'⟩
    · exact h.own l b' h'
  · refine ⟨h.fr.os, h.fr.tape, h.fr.output, by rw [World.size_setCell]; exact h.fr.size, fun k hk hm => ?_⟩
    rw [hsame]
    · exact h.fr.heap k hk hm
    · rintro rfl
      rcases h.own _ _ hlive with h' | h'
      · omega
      · exact hm h'

def updR (ρ : Rho) (id : Nat) (v : Value) : Rho := fun i => if i = id then some v else ρ i
theorem updR_same (ρ : Rho) (id : Nat) (v : Value) : updR ρ id v id = some v := by simp [updR]
theorem updR_ne (ρ : Rho) {id i : Nat} (v : Value) (h : i ≠ id) : updR ρ id v i = ρ i := by simp [updR, h]

/-- A place of an id that has no handle holds nothing. -/
theorem HRel.fresh {w : World} {ρ : Rho} {ok : Okp} {g : Get} (h : HRel w ρ ok g) {id : Nat} (hf : ρ id = none) (off : Nat) : g (id, off) = none := by
  cases hg : g (id, off) with
  | none => rfl
  | some c =>
    cases c with
    | cell s => obtain ⟨b, v, h1, _⟩ := h.cells id off s hg; rw [hf] at h1; cases h1
    | rows E xs => obtain ⟨_, v, h1, _⟩ := h.rows id off E xs hg; rw [hf] at h1; cases h1

/-- A new block, and a number for what it is known by. Nothing is said of its cells yet. -/
theorem CRel.newBlock {C : Ctx} {w : World} {ρ : Rho} {ok : Okp} {g : Get} (h : CRel C w ρ ok g) {id : Nat} (hf : ρ id = none) (o : Obj) (v : Value) :
    CRel C (w.alloc o) (updR ρ id v) ok g ∧ Ext w ρ ok (w.alloc o) (updR ρ id v) ok := by
  have hold : ∀ k, k < w.heap.size → (w.alloc o).heap[k]? = w.heap[k]? := fun k hk => RowKit.Below.heap_alloc w o k hk
  have hrho : ∀ i u, ρ i = some u → updR ρ id v i = some u := fun i u hu => by
    rw [updR_ne]; exact hu
    rintro rfl; rw [hf] at hu; cases hu
  have he : Ext w ρ ok (w.alloc o) (updR ρ id v) ok := ⟨fun x b hb => hold b (h.oks x b hb).1, fun _ _ h => h, hrho⟩
  have hlive : ∀ l b, LiveAt g (updR ρ id v) l b → LiveAt g ρ l b := by
    rintro ⟨i, off⟩ b ⟨⟨c, hc⟩, u, hu, hb⟩
    by_cases hi : i = id
    · subst hi; rw [h.fresh hf off] at hc; cases hc
    · exact ⟨⟨c, hc⟩, u, by simpa [updR_ne ρ v hi] using hu, hb⟩
  refine ⟨{ cells := ?_, rows := ?_, dist := ?_, oks := ?_, cont := h.cont, own := fun l b hl => h.own l b (hlive l b hl), ok0 := h.ok0, okn := h.okn, fr := ?_ }, he⟩
  · intro i off s hg
    obtain ⟨b, u, a1, a2, a3, a4⟩ := h.cells i off s hg
    have hlt := World.block_lt_of_cell? _ _ a2
    exact ⟨b, u, hrho _ _ a1, by rw [World.cell?_alloc_lt _ _ _ hlt]; exact a2, by rw [World.frozen?_alloc_old _ _ _ (Nat.ne_of_lt hlt)]; exact a3, a4.mono he⟩
  · intro i off E xs hg
    obtain ⟨a0, u, a1, A, cap, a2, a3, a4⟩ := h.rows i off E xs hg
    refine ⟨a0, u, hrho _ _ a1, A, cap, a2, a3, ?_⟩
    rcases a4 with a4 | ⟨b, T, vs, b1, b2, b3, b4⟩
    · exact .inl a4
    · exact .inr ⟨b, T, vs, b1, by rw [hold b (Array.getElem?_eq_some_iff.1 b2).1]; exact b2, b3, b4.imp fun _ _ => SRel.mono he⟩
  · exact fun l l' b hl hl' => h.dist l l' b (hlive _ _ hl) (hlive _ _ hl')
  · exact fun x b hb => ⟨by rw [World.size_alloc]; have := (h.oks x b hb).1; omega, fun l hl => (h.oks x b hb).2 l (hlive _ _ hl)⟩
  · refine ⟨h.fr.os, h.fr.tape, h.fr.output, by rw [World.size_alloc]; have := h.fr.size; omega, fun k hk hm => ?_⟩
    rw [hold k (by have := h.fr.size; omega)]
    exact h.fr.heap k hk hm

/-- The world goes on, but for what is known or looked at. -/
theorem CRel.world {C : Ctx} {w w' : World} {ρ : Rho} {ok : Okp} {g : Get} (h : CRel C w ρ ok g) (hk : ∀ b, ((∃ x, ok x b) ∨ ∃ l, LiveAt g ρ l b) → w'.heap[b]? = w.heap[b]?)
    (hsz : w.heap.size ≤ w'.heap.size) (hsame : w'.os = w.os ∧ w'.tape = w.tape ∧ w'.output = w.output) (hfr : ∀ b, b < C.w0.heap.size → ¬ C.M0 b → w'.heap[b]? = w.heap[b]?) :
    CRel C w' ρ ok g ∧ Ext w ρ ok w' ρ ok := by
  have he : Ext w ρ ok w' ρ ok := ⟨fun x b hb => hk b (.inl ⟨x, hb⟩), fun _ _ h => h, fun _ _ h => h⟩
  refine ⟨{ cells := ?_, rows := ?_, dist := h.dist, oks := fun x b hb => ⟨by have := (h.oks x b hb).1; omega, (h.oks x b hb).2⟩, cont := h.cont, own := h.own, ok0 := h.ok0, okn := h.okn, fr := ?_ }, he⟩
  · intro i off s hg
    obtain ⟨b, u, a1, a2, a3, a4⟩ := h.cells i off s hg
    have hb := hk b (.inr ⟨(i, off), ⟨_, hg⟩, _, a1, rfl⟩)
    exact ⟨b, u, a1, by rw [World.cell?_of_block (w := w) hb]; exact a2, by rw [World.frozen?_of_block (w := w) hb]; exact a3, a4.mono he⟩
  · intro i off E xs hg
    obtain ⟨a0, u, a1, A, cap, a2, a3, a4⟩ := h.rows i off E xs hg
    refine ⟨a0, u, a1, A, cap, a2, a3, ?_⟩
    rcases a4 with a4 | ⟨b, T, vs, b1, b2, b3, b4⟩
    · exact .inl a4
    · exact .inr ⟨b, T, vs, b1, by rw [hk b (.inr ⟨(i, off), ⟨_, hg⟩, u, a1, by rw [a2, b1]; rfl⟩)]; exact b2, b3, b4.imp fun _ _ => SRel.mono he⟩
  · exact ⟨hsame.1.trans h.fr.os, hsame.2.1.trans h.fr.tape, hsame.2.2.trans h.fr.output, by have := h.fr.size; omega, fun b hb hm => (hfr b hb hm).trans (h.fr.heap b hb hm)⟩
/-- A number for what has had none. -/
theorem CRel.name {C : Ctx} {w : World} {ρ : Rho} {ok : Okp} {g : Get} (h : CRel C w ρ ok g) {id : Nat} (hf : ρ id = none) (v : Value) :
    CRel C w (updR ρ id v) ok g ∧ Ext w ρ ok w (updR ρ id v) ok := by
  have hrho : ∀ i u, ρ i = some u → updR ρ id v i = some u := fun i u hu => by
    rw [updR_ne]; exact hu
    rintro rfl; rw [hf] at hu; cases hu
  have he : Ext w ρ ok w (updR ρ id v) ok := ⟨fun _ _ _ => rfl, fun _ _ h => h, hrho⟩
  have hlive : ∀ l b, LiveAt g (updR ρ id v) l b → LiveAt g ρ l b := by
    rintro ⟨i, off⟩ b ⟨⟨c, hc⟩, u, hu, hb⟩
    by_cases hi : i = id
    · subst hi; rw [h.fresh hf off] at hc; cases hc
    · exact ⟨⟨c, hc⟩, u, by simpa [updR_ne ρ v hi] using hu, hb⟩
  refine ⟨{ cells := ?_, rows := ?_, dist := fun l l' b hl hl' => h.dist l l' b (hlive _ _ hl) (hlive _ _ hl'), oks := fun x b hb => ⟨(h.oks x b hb).1, fun l hl => (h.oks x b hb).2 l (hlive _ _ hl)⟩, cont := h.cont, own := fun l b hl => h.own l b (hlive l b hl), ok0 := h.ok0, okn := h.okn, fr := h.fr }, he⟩
  · intro i off s hg
    obtain ⟨b, u, a1, a2, a3, a4⟩ := h.cells i off s hg
    exact ⟨b, u, hrho _ _ a1, a2, a3, a4.mono he⟩
  · intro i off E xs hg
    obtain ⟨a0, u, a1, A, cap, a2, a3, a4⟩ := h.rows i off E xs hg
    refine ⟨a0, u, hrho _ _ a1, A, cap, a2, a3, ?_⟩
    rcases a4 with a4 | ⟨b, T, vs, b1, b2, b3, b4⟩
    · exact .inl a4
    · exact .inr ⟨b, T, vs, b1, b2, b3, b4.imp fun _ _ => SRel.mono he⟩

/-- A cell more is known. -/
theorem CRel.addCell {C : Ctx} {w : World} {ρ : Rho} {ok : Okp} {g : Get} (h : CRel C w ρ ok g) {id off b : Nat} {s : Sc} {v : Value}
    (hr : ρ id = some (.pointer (some ⟨b, 0, none⟩))) (hc : w.cell? ⟨b, off, none⟩ = some v) (hz : w.frozen? ⟨b, off, none⟩ = false) (hv : SRel w ρ ok v s)
    (ho : off < 64) (hp : ∀ o, o < off → ∃ s', g (id, o) = some (.cell s')) (hd : ∀ l, LiveAt g ρ l b → l.1 = id) (hk : ∀ x, ¬ ok x b)
    (hown : C.w0.heap.size ≤ b ∨ C.M0 b) : CRel C w ρ ok (upd1 g (id, off) (some (.cell s))) := by
  have hlb : ∀ l b', LiveAt (upd1 g (id, off) (some (.cell s))) ρ l b' → (l.1 = id ∧ b' = b) ∨ LiveAt g ρ l b' := by
    intro l b' hl
    rcases live_upd hl with ⟨rfl, v', hv', hb'⟩ | h'
    · have : v' = .pointer (some ⟨b, 0, none⟩) := Option.some.inj (hv'.symm.trans hr)
      subst this
      exact .inl ⟨rfl, by simpa [blkOf, eq_comm] using hb'⟩
    · exact .inr h'
  refine { cells := ?_, rows := ?_, dist := ?_, oks := ?_, cont := ?_, own := ?_, ok0 := h.ok0, okn := h.okn, fr := h.fr }
  · intro id' off' s' hg'
    by_cases hl : (id, off) = (id', off')
    · cases hl
      rw [upd1_same] at hg'
      cases hg'
      exact ⟨b, v, hr, hc, hz, hv⟩
    · rw [upd1_ne g _ hl] at hg'
      exact h.cells id' off' s' hg'
  · intro id' off' E xs hg'
    have hl : (id, off) ≠ (id', off') := by
      intro heq; cases heq; rw [upd1_same] at hg'; cases hg'
    rw [upd1_ne g _ hl] at hg'
    exact h.rows id' off' E xs hg'
  · intro l l' b' hl hl'
    rcases hlb l b' hl with ⟨h1, rfl⟩ | h1 <;> rcases hlb l' b' hl' with ⟨h2, h2'⟩ | h2
    · rw [h1, h2]
    · rw [h1, hd l' h2]
    · subst h2'; rw [h2, hd l h1]
    · exact h.dist l l' b' h1 h2
  · intro x b' hb
    refine ⟨(h.oks x b' hb).1, fun l hl => ?_⟩
    rcases hlb l b' hl with ⟨_, rfl⟩ | h1
    · exact hk x hb
    · exact (h.oks x b' hb).2 l h1
  · intro id' off' s' hg'
    by_cases hl : (id, off) = (id', off')
    · cases hl
      refine ⟨ho, fun o h' => ?_⟩
      rw [upd1_ne g _ (by intro e; cases e; omega)]
      exact hp o h'
    · rw [upd1_ne g _ hl] at hg'
      obtain ⟨d1, d2⟩ := h.cont id' off' s' hg'
      refine ⟨d1, fun o h' => ?_⟩
      by_cases hl' : (id, off) = (id', o)
      · exact ⟨s, by rw [← hl', upd1_same]⟩
      · rw [upd1_ne g _ hl']; exact d2 o h'
  · intro l b' hl
    rcases hlb l b' hl with ⟨_, rfl⟩ | h1
    · exact hown
    · exact h.own l b' h1

/-- A slice is forgotten. -/
theorem CRel.kill {C : Ctx} {w : World} {ρ : Rho} {ok : Okp} {g : Get} (h : CRel C w ρ ok g) {id : Nat} (hg : ∀ s, g (id, 0) ≠ some (.cell s)) : CRel C w ρ ok (upd1 g (id, 0) none) := by
  have hlive : ∀ l b, LiveAt (upd1 g (id, 0) none) ρ l b → LiveAt g ρ l b ∧ l ≠ (id, 0) := by
    rintro l b ⟨⟨c, hc⟩, u⟩
    by_cases hl : (id, 0) = l
    · subst hl; rw [upd1_same] at hc; cases hc
    · rw [upd1_ne g _ hl] at hc; exact ⟨⟨⟨c, hc⟩, u⟩, fun e => hl e.symm⟩
  have hne : ∀ l c, upd1 g (id, 0) none l = some c → g l = some c := by
    intro l c hc
    by_cases hl : (id, 0) = l
    · subst hl; rw [upd1_same] at hc; cases hc
    · rw [upd1_ne g _ hl] at hc; exact hc
  refine { cells := fun i off s hc => h.cells i off s (hne _ _ hc), rows := fun i off E xs hc => h.rows i off E xs (hne _ _ hc), dist := fun l l' b hl hl' => h.dist l l' b (hlive _ _ hl).1 (hlive _ _ hl').1, oks := fun x b hb => ⟨(h.oks x b hb).1, fun l hl => (h.oks x b hb).2 l (hlive _ _ hl).1⟩, cont := ?_, own := fun l b hl => h.own l b (hlive _ _ hl).1, ok0 := h.ok0, okn := h.okn, fr := h.fr }
  intro i off s hc
  obtain ⟨d1, d2⟩ := h.cont i off s (hne _ _ hc)
  refine ⟨d1, fun o ho => ?_⟩
  obtain ⟨s', hs'⟩ := d2 o ho
  refine ⟨s', ?_⟩
  rw [upd1_ne]
  · exact hs'
  · rintro e
    have h1 : id = i := congrArg Prod.fst e
    have h2 : 0 = o := congrArg Prod.snd e
    subst h1 h2
    exact hg _ hs'

/-- A slice is known, anew or otherwise. -/
theorem CRel.addRows {C : Ctx} {w : World} {ρ : Rho} {ok : Okp} {g : Get} (h : CRel C w ρ ok g) {id : Nat} {v : Value} {E : K} {xs : List (D E)}
    (hr : ρ id = some v) (hv : RRel w ρ ok v E xs) (hg : ∀ s, g (id, 0) ≠ some (.cell s)) (hd : ∀ b, blkOf v = some b → (∀ l, LiveAt g ρ l b → l.1 = id) ∧ (∀ x, ¬ ok x b) ∧ (C.w0.heap.size ≤ b ∨ C.M0 b)) :
    CRel C w ρ ok (upd1 g (id, 0) (some (.rows E xs))) := by
  have hlb : ∀ l b', LiveAt (upd1 g (id, 0) (some (.rows E xs))) ρ l b' → (l.1 = id ∧ blkOf v = some b') ∨ LiveAt g ρ l b' := by
    intro l b' hl
    rcases live_upd hl with ⟨rfl, v', hv', hb'⟩ | h'
    · have : v' = v := Option.some.inj (hv'.symm.trans hr)
      subst this
      exact .inl ⟨rfl, hb'⟩
    · exact .inr h'
  refine { cells := ?_, rows := ?_, dist := ?_, oks := ?_, cont := ?_, own := ?_, ok0 := h.ok0, okn := h.okn, fr := h.fr }
  · intro id' off' s' hg'
    have hl : (id, 0) ≠ (id', off') := by
      intro heq; cases heq; rw [upd1_same] at hg'; cases hg'
    rw [upd1_ne g _ hl] at hg'
    exact h.cells id' off' s' hg'
  · intro id' off' E' xs' hg'
    by_cases hl : (id, 0) = (id', off')
    · cases hl
      rw [upd1_same] at hg'
      cases hg'
      exact ⟨rfl, v, hr, hv⟩
    · rw [upd1_ne g _ hl] at hg'
      exact h.rows id' off' E' xs' hg'
  · intro l l' b' hl hl'
    rcases hlb l b' hl with ⟨h1, h1'⟩ | h1 <;> rcases hlb l' b' hl' with ⟨h2, h2'⟩ | h2
    · rw [h1, h2]
    · rw [h1, (hd b' h1').1 l' h2]
    · rw [h2, (hd b' h2').1 l h1]
    · exact h.dist l l' b' h1 h2
  · intro x b' hb
    refine ⟨(h.oks x b' hb).1, fun l hl => ?_⟩
    rcases hlb l b' hl with ⟨_, h1⟩ | h1
    · exact (hd b' h1).2.1 x hb
    · exact (h.oks x b' hb).2 l h1
  · intro id' off' s' hg'
    have hl : (id, 0) ≠ (id', off') := by
      intro heq; cases heq; rw [upd1_same] at hg'; cases hg'
    rw [upd1_ne g _ hl] at hg'
    obtain ⟨d1, d2⟩ := h.cont id' off' s' hg'
    refine ⟨d1, fun o ho => ?_⟩
    obtain ⟨s', hs'⟩ := d2 o ho
    refine ⟨s', ?_⟩
    rw [upd1_ne]
    · exact hs'
    · rintro e
      have h1 : id = id' := congrArg Prod.fst e
      have h2 : 0 = o := congrArg Prod.snd e
      subst h1 h2
      exact hg _ hs'
  · intro l b' hl
    rcases hlb l b' hl with ⟨_, h1⟩ | h1
    · exact (hd b' h1).2.2
    · exact h.own l b' h1
end Go.Proofs.Ytipfipnhgpbceaa.Sx
