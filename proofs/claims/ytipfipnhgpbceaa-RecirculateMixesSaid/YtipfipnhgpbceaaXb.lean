/- Plain theorems and definitions for the claim, put together out of several texts. -/
import Derived.Test.YtipfipnhgpbceaaXa1
import Derived.Maps.Views
import Derived.Laws.StructEq
import Derived.WalkKit
import Derived.ProofKit
import Derived.OpenShut
import Derived.ChangeOld
import Derived.Below
import Derived.SizedLaws
/- The symbolic machine: maps from numbers to Bools that the call has made (plain theorems). -/


set_option linter.unusedVariables false
set_option linter.unusedSimpArgs false
namespace Go.Proofs.Ytipfipnhgpbceaa.Sx
open Go Go.Maps

theorem keyOf_any {P P' : Program} (h : MapP P) (h' : MapP P') : keyOf P 3 = keyOf P' 3 := by
  funext v
  simp [keyOf, mapKey, h.1, h'.1]
theorem plain_any {P P' : Program} (h : MapP P) (h' : MapP P') : plainElem (H := Unit) P 4 = plainElem P' 4 := by
  funext v
  unfold plainElem
  rw [h.2, h'.2]
theorem rd_any {P P' : Program} (h : MapP P) (h' : MapP P') : WideElems.rd (H := Unit) P 3 (plainElem P 4) = WideElems.rd P' 3 (plainElem P' 4) := by
  funext x
  unfold WideElems.rd
  rw [keyOf_any h h', plain_any h h']
theorem rg_any {P P' : Program} (h : MapP P) (h' : MapP P') : WideElems.rg (H := Unit) P 3 (plainElem P 4) = WideElems.rg P' 3 (plainElem P' 4) := by
  funext x
  unfold WideElems.rg
  rw [rd_any h h']
theorem owns_any {P P' : Program} (h : MapP P) (h' : MapP P') {w : World} {b n : Nat} {D : DataW Unit} (g : w.ownsMap P 3 (plainElem P 4) b n D) : w.ownsMap P' 3 (plainElem P' 4) b n D := by
  obtain ⟨es, clock, h1, h2, h3, h4⟩ := g
  refine ⟨es, clock, h1, ⟨h2.size, h2.stamped, fun x hx => ?_⟩, h3, ?_⟩
  · rw [← rd_any h h']
    exact h2.reads x hx
  · rw [h4, rg_any h h']
theorem MapIs.mk {P : Program} (h : MapP P) {w : World} {b : Nat} {xs : List Int} (g : w.ownsMap P 3 (plainElem P 4) b xs.length (keysD xs.reverse)) : MapIs w b xs := fun P' h' => owns_any h h' g

section
variable {C : Ctx} {w : World} {ρ : Rho} {ok : Okp} {g gv : Get} {fresh : Nat} {P : Program}
theorem keys_make (h : CRel C w ρ ok g) (hf : ρ fresh = none) (t : TypeId) : Out C w ρ ok g fresh ((do pure (.value (← Instr.makeMap t none)) : Sem Next).run P w) (.one (.mp fresh)) [((fresh, 0), some (.keys []))] := by
  obtain ⟨c1, c2⟩ := h.newBlock hf (.map #[] 0) (.map (some w.heap.size))
  have c3 := c1.addKeys (B := w.heap.size) (xs := []) rfl (by rw [World.size_alloc]; omega) (updR_same _ _ _) (fun P hP => World.ownsMap_made w P 3 (plainElem P 4)) (fun s e0 => by rw [h.fresh hf] at e0; cases e0) (fun b hb => by
    simp [blkOf] at hb
    subst hb
    refine ⟨?_, fun x hx => by have := (h.oks x _ hx).1; omega, .inl h.fr.size⟩
    rintro ⟨i, o⟩ ⟨⟨c, hc⟩, u, hu, hb⟩
    by_cases hi : i = fresh
    · exact hi
    · rw [updR_ne ρ _ hi] at hu
      have := h.live_lt (l := (i, o)) ⟨⟨c, hc⟩, u, hu, hb⟩
      omega)
  refine ⟨_, _, ok, .map (some w.heap.size), .value _, ?_, .inl rfl, c3, c2, fresh_ne ρ _, .one _ _ (.mp _ _ (updR_same _ _ _))⟩
  have e : (Instr.makeMap t none).run P w = .ok (.map (some w.heap.size)) (w.alloc (.map #[] 0)) := rfl
  simp [e]
/-- Whether a place of a map of one's own is another one's. -/
theorem keys_other (h : HRel w ρ ok g) {id B : Nat} (hr : ρ id = some (.map (some B))) {xs : List Int} (hg : g (id, 0) = some (.keys xs)) {l : Loc} {b : Nat} (hl : LiveAt (upd1 g (id, 0) none) ρ l b) : b ≠ B := by
  rintro rfl
  have hlive : LiveAt g ρ (id, 0) b := ⟨⟨_, hg⟩, _, hr, rfl⟩
  obtain ⟨⟨c, hc⟩, hb⟩ := hl
  by_cases hl' : (id, 0) = l
  · subst hl'; rw [upd1_same] at hc; cases hc
  · rw [upd1_ne g _ hl'] at hc
    have := h.dist (id, 0) l b hlive ⟨⟨c, hc⟩, hb⟩
    obtain ⟨i, o⟩ := l
    have hid : id = i := this
    subst hid
    cases c with
    | rows E2 xs2 => obtain ⟨rfl, _⟩ := h.rows id o E2 xs2 hc; exact hl' rfl
    | keys ys => obtain ⟨rfl, _⟩ := h.keys id o ys hc; exact hl' rfl
    | cell s =>
      obtain ⟨b1, v1, hb1, _⟩ := h.cells id o s hc
      rw [hr] at hb1; cases hb1
theorem int_wf {n : Int} (h : i64In n = true) : (Lit.int .i64 n).wf = true := by
  simp only [i64In, Bool.and_eq_true, decide_eq_true_eq] at h
  have h1 : IntKind.i64.min = -9223372036854775808 := by decide
  have h2 : IntKind.i64.max = 9223372036854775807 := by decide
  simp [Lit.wf, h1, h2]
  omega
theorem keys_put (h : CRel C w ρ ok g) (hg : ∀ l c, gv l = some c → g l = some c) {e : Env} (hM : ∀ t, e.mt t = true → P.underlying t = some (.map 3 4) ∧ MapP P) {t : TypeId} {mv kv xv : Value} {m k x : AV} (hm : VRel w ρ ok mv m) (hk : VRel w ρ ok kv k) (hx : VRel w ρ ok xv x) {v : AV} {u : Upd}
    (hs : (doPut e t m k x gv).den = some (v, u)) : Out C w ρ ok g fresh ((do Instr.mapUpdate t mv kv xv; pure .skip : Sem Next).run P w) v u := by
  unfold doPut at hs
  split at hs
  · rename_i id n b
    split at hs
    · rename_i xs hgv
      split at hs
      · rename_i hmt
        obtain ⟨hb, hs⟩ := need_den hs
        cases hs
        simp only [Bool.and_eq_true, decide_eq_true_eq] at hb
        obtain ⟨rfl, hn, hlen⟩ := hb
        obtain ⟨ht, hP⟩ := hM t hmt
        have hg0 := hg _ _ hgv
        obtain ⟨_, B, hr, hlt, hMap⟩ := h.keys id 0 xs hg0
        have em : mv = .map (some B) := by
          cases hm with
          | one _ _ q => cases q with
            | mp _ b' q' => rw [hr] at q'; cases q'; rfl
        have ek : kv = .int .i64 n := by
          cases hk with
          | one _ _ q => cases q; rfl
        have ex : xv = .bool true := by
          cases hx with
          | one _ _ q => cases q; rfl
        subst em ek ex
        have hL : lim = 1048576 := rfl
        have hL2 : (1048576 : Nat) < maxLen := by decide
        have hmax : xs.length < maxLen := by omega
        obtain ⟨w', hrun, hown, hgr⟩ := (hMap P hP).update (int_keyed hP.1) ht hmax (keyOf_int_mk hP.1 (int_wf hn)) (plainElem_bool hP.2 true)
        have hother := fun {l : Loc} {b : Nat} (hl : LiveAt (upd1 g (id, 0) none) ρ l b) => keys_other h.toHRel hr hg0 hl
        have hlive : LiveAt g ρ (id, 0) B := ⟨⟨_, hg0⟩, _, hr, rfl⟩
        have hokB : ∀ x b, ok x b → b ≠ B := fun x b hb e0 => (h.oks x b hb).2 _ (e0 ▸ hlive)
        have hkill := h.kill (id := id) (fun s e0 => by rw [hg0] at e0; cases e0)
        obtain ⟨c1, c2⟩ := hkill.world (w' := w') (fun b hb => by
          rcases hb with ⟨x, hb⟩ | ⟨l, hl⟩
          · exact hgr.block b (h.oks x b hb).1 (by simpa using hokB x b hb)
          · exact hgr.block b (hkill.live_lt hl) (by simpa using hother hl)) hgr.size ⟨hgr.os, hgr.tape, hgr.output⟩ (fun b hb hm0 => by
          refine hgr.block b (by have := h.fr.size; omega) ?_
          simp only [ne_eq, Option.some.injEq]
          rintro rfl
          rcases h.own _ _ hlive with h' | h'
          · omega
          · exact hm0 h')
        have c3 := c1.addKeys (B := B) (xs := xs ++ [n]) rfl (by have := hgr.size; omega) hr (MapIs.mk hP (by
          rw [List.length_append, List.reverse_append]
          exact hown)) (fun s e0 => by rw [upd1_same] at e0; cases e0) (fun b hb => by
          simp [blkOf] at hb
          subst hb
          refine ⟨fun l hl => absurd rfl (hother hl), fun x hx => hokB x _ hx rfl, h.own _ _ hlive⟩)
        have hu : upd1 (upd1 g (id, 0) none) (id, 0) (some (.keys (xs ++ [n]))) = updG g [((id, 0), some (.keys (xs ++ [n])))] := by
          funext l
          simp only [updG, upd1]
          split <;> rfl
        rw [hu] at c3
        exact ⟨w', ρ, ok, undef, .skip, by simp [hrun], .inr ⟨rfl, rfl⟩, c3, c2, fun _ _ => rfl, .any _⟩
      · cases hs
    · cases hs
  · cases hs
theorem keysD_map : ∀ l : List Int, IsMap (keysD l)
  | [] => isMap_empty
  | n :: l => (keysD_map l).put _ _
theorem keysD_at (n : Int) : ∀ l : List Int, (keysD l).atKey (.int .i64 n) (.lit (.bool false)) = .lit (.bool (l.contains n))
  | [] => rfl
  | m :: l => by
    rw [keysD]
    by_cases c : m = n
    · subst c
      rw [atKey_put_same (k := .int .i64 m) (keysD_map l) trivial]
      simp
    · rw [atKey_put_other (fun e0 => c (by injection e0 with _ e1; exact e1.symm)), keysD_at n l]
      have : ¬ n = m := fun e0 => c e0.symm
      simp [this]
theorem keys_look (h : CRel C w ρ ok g) (hg : ∀ l c, gv l = some c → g l = some c) {e : Env} (hM : ∀ t, e.mt t = true → P.underlying t = some (.map 3 4) ∧ MapP P) (hz : ∀ t, e.mt t = true → (zeroValue 4).run P w = .ok (.bool false) w) {t : TypeId} {mv kv : Value} {m k : AV} (hm : VRel w ρ ok mv m) (hk : VRel w ρ ok kv k) {v : AV} {u : Upd}
    (hs : (doLook e t m k gv).den = some (v, u)) : Out C w ρ ok g fresh ((do pure (.value (← Instr.lookup t mv kv false)) : Sem Next).run P w) v u := by
  unfold doLook at hs
  split at hs
  · rename_i id n
    split at hs
    · rename_i xs hgv
      split at hs
      · rename_i hmt
        obtain ⟨hn, hs⟩ := need_den hs
        cases hs
        obtain ⟨ht, hP⟩ := hM t hmt
        have hg0 := hg _ _ hgv
        obtain ⟨_, B, hr, hlt, hMap⟩ := h.keys id 0 xs hg0
        have em : mv = .map (some B) := by
          cases hm with
          | one _ _ q => cases q with
            | mp _ b' q' => rw [hr] at q'; cases q'; rfl
        have ek : kv = .int .i64 n := by
          cases hk with
          | one _ _ q => cases q; rfl
        subst em ek
        obtain ⟨y, ps, hrun, hy⟩ := (hMap P hP).lookup (int_keyed hP.1) ht (hz t hmt) (plainElem_bool hP.2 false) (keyOf_int_mk hP.1 (int_wf hn))
        rw [keysD_at] at hy
        have ey : y = .bool (xs.contains n) := by
          unfold plainElem at hy
          rw [hP.2] at hy
          cases y <;> simp at hy
          rw [hy.1]
          simp
        subst ey
        exact ⟨w, ρ, ok, _, .value _, by simp [hrun], .inl rfl, h, Ext.refl _ _ _, fun _ _ => rfl, .one _ _ (.bool _)⟩
      · cases hs
    · cases hs
  · cases hs
end
end Go.Proofs.Ytipfipnhgpbceaa.Sx
/- The symbolic machine: each operation (plain theorems). -/

set_option linter.unusedVariables false
set_option linter.unusedSimpArgs false
namespace Go.Proofs.Ytipfipnhgpbceaa.Sx
open Go

structure EnvOK (P : Program) (e : Env) : Prop where
  types : ∀ t ti, e.tt t = some ti → TOK P t ti
  eqs : ∀ t E, e.eqk t = some E → QOK P t E
  fns : ∀ f sp, e.fn f = some sp → SpecOK P f sp ∧ FnOK P f
  maps : ∀ t, e.mt t = true → P.underlying t = some (.map 3 4) ∧ MapP P
  mapz : ∀ t, e.mt t = true → ∀ w : World, (zeroValue 4).run P w = .ok (.bool false) w

/-- An operation has done what is told. -/
def StepR (C : Ctx) (w : World) (ρ : Rho) (ok : Okp) (g : Get) (fresh : Nat) (v : AV) (u : Upd) (w' : World) (cv : Value) : Prop :=
  ∃ ρ' ok', CRel C w' ρ' ok' (updG g u) ∧ Ext w ρ ok w' ρ' ok' ∧ (∀ id, (id < fresh ∨ fresh + stride ≤ id) → ρ' id = ρ id) ∧ VRel w' ρ' ok' cv v

section
variable {C : Ctx} {w : World} {ρ : Rho} {ok : Okp} {g gv : Get} {fresh : Nat} {P : Program}

theorem wp_of_out {o : Oper} {a : Act} {next : Act → World → Prop} {Q : Exit → Act → World → Prop} {v : AV} {u : Upd} (ho : Out C w ρ ok g fresh ((execOp a.eval o).run P w) v u)
    (hn : ∀ w' cv, StepR C w ρ ok g fresh v u w' cv → next (a.put o.dst cv) w') : o.wp P a w next Q := by
  obtain ⟨w', ρ', ok', cv, nx, h1, h2, h3, h4, h5, h6⟩ := ho
  unfold Oper.wp
  rw [h1]
  have := hn w' cv ⟨ρ', ok', h3, h4, h5, h6⟩
  rcases h2 with rfl | ⟨rfl, rfl⟩
  · exact this
  · exact this

/-- What an operation looks at is seen. -/
def Sees (e : Env) (o : Op) (r : Rd) (g gv : Get) : Prop :=
  match o with
  | .call c => match c.callee with
    | .value _ => Agree g gv (tids g (c.args.toList.map r))
    | _ => True
  | _ => True
theorem argLocs_mem {args : List AV} {id : Nat} (h : id ∈ tids g args) {l : Loc} (hl : l ∈ boxLocs g id 65 0) : l ∈ argLocs g args :=
  List.mem_flatMap.2 ⟨id, h, hl⟩
theorem view_sub (g : Get) (ls : List Loc) : ∀ l c, view g ls l = some c → g l = some c := by
  intro l c h
  unfold view at h
  split at h
  · exact h
  · cases h
theorem view_mem (g : Get) {ls : List Loc} {l : Loc} (h : l ∈ ls) : view g ls l = g l := by
  unfold view
  rw [if_pos (hasLoc_iff.2 h)]
theorem sees_view (e : Env) (o : Op) (r : Rd) (g : Get) : Sees e o r g (view g (readsOf e o r g)) := by
  unfold Sees
  split
  · rename_i c
    split
    · rename_i f hc
      intro id hid l hl
      refine view_mem g ?_
      simp only [readsOf, hc]
      exact argLocs_mem hid hl
    · trivial
  · trivial

theorem all2_rd {a : Act} {tmps : List AV} (hT : TRel w ρ ok a tmps) (l : List Operand) : All2 (VRel w ρ ok) (l.map a.eval) (l.map (rd tmps)) := by
  induction l with
  | nil => trivial
  | cons x l ih => exact ⟨hT.rd x, ih⟩
theorem all2_parts {a : Act} {tmps : List AV} (hT : TRel w ρ ok a tmps) (l : List (Nat × Operand)) :
    All2 (fun (a : Nat × Value) (b : Nat × AV) => a.1 = b.1 ∧ VRel w ρ ok a.2 b.2) (l.map fun p => (p.1, a.eval p.2)) (l.map fun p => (p.1, rd tmps p.2)) := by
  induction l with
  | nil => trivial
  | cons x l ih => exact ⟨⟨rfl, hT.rd x.2⟩, ih⟩

theorem bind_ret_den {α : Type} {t : Tr α} {v' : α} {u : Upd} (h : (t.bind fun v => Tr.ret (v, ([] : Upd))).den = some (v', u)) : t.den = some v' ∧ u = [] := by
  rw [Tr.den_bind] at h
  obtain ⟨x, hx, hx'⟩ := Option.bind_eq_some_iff.1 h
  simp only [Tr.den] at hx'
  cases hx'
  exact ⟨hx, rfl⟩

set_option maxHeartbeats 1000000 in
theorem sem_wp {e : Env} (hE : EnvOK P e) (h : CRel C w ρ ok g) {a : Act} {tmps : List AV} (hT : TRel w ρ ok a tmps) (hf : ∀ id, fresh ≤ id → id < fresh + stride → ρ id = none)
    (hg : ∀ l c, gv l = some c → g l = some c) {o : Oper} (hsee : Sees e o.op (rd tmps) g gv) {v : AV} {u : Upd} (hs : (sem e o.op (rd tmps) gv fresh).den = some (v, u))
    {next : Act → World → Prop} {Q : Exit → Act → World → Prop} (hn : ∀ w' cv, StepR C w ρ ok g fresh v u w' cv → next (a.put o.dst cv) w') : o.wp P a w next Q := by
  have hf0 : ρ fresh = none := hf fresh (Nat.le_refl _) (by have : stride = 16 := rfl; omega)
  obtain ⟨dst, op, type, pos, after, guard⟩ := o
  simp only at hsee hs hn
  have go : ∀ (s : Sem Next), execOp a.eval ⟨dst, op, type, pos, after, guard⟩ = s → Out C w ρ ok g fresh (s.run P w) v u → Oper.wp P ⟨dst, op, type, pos, after, guard⟩ a w next Q :=
    fun s hs' ho => wp_of_out (by rw [hs']; exact ho) hn
  cases op <;> simp only [sem] at hs <;> try (cases hs; done)
  case move x => cases hs; exact go _ rfl (Out.pure h (hT.rd x))
  case assign x => cases hs; exact go _ rfl (Out.pure h (hT.rd x))
  case pick c x y =>
    split at hs
    · rename_i t ht
      have hc := hT.rd c
      rw [ht] at hc
      have hev : a.eval c = .bool t := by
        generalize a.eval c = cv at hc
        cases hc with
        | one _ _ h1 => cases h1; rfl
      refine go (pure (.value (if t then a.eval x else a.eval y))) ?_ ?_
      · simp [execOp, hev, asBool]
      · cases t with
        | true => cases hs; exact Out.pure h (hT.rd x)
        | false => cases hs; exact Out.pure h (hT.rd y)
    · cases hs
  case alloc t =>
    split at hs
    · rename_i ti hti
      split at hs
      · rename_i h64
        cases hs
        exact go _ rfl (alloc_out h hf0 (hE.types _ _ hti) h64)
      · cases hs
    · cases hs
  case makeMap t r =>
    cases r with
    | some r => cases hs
    | none =>
      simp only at hs
      split at hs
      · cases hs
        exact go _ rfl (keys_make h hf0 t)
      · cases hs
  case mapUpdate t m k x => exact go _ rfl (keys_put h hg hE.maps (hT.rd m) (hT.rd k) (hT.rd x) hs)
  case lookup t m k c =>
    cases c with
    | true => cases hs
    | false => exact go _ rfl (keys_look h hg hE.maps (fun t ht => hE.mapz t ht w) (hT.rd m) (hT.rd k) hs)
  case box t x =>
    split at hs
    · rename_i ti hti
      split at hs
      · rename_i h64
        simp only [Bool.and_eq_true, beq_iff_eq, decide_eq_true_eq] at h64
        cases hs
        refine go _ rfl (box_out h hf0 (hT.rd x) ?_ (by omega))
        intro e0
        rw [e0] at h64
        simp at h64
        omega
      · cases hs
    · cases hs
  case load t p => exact go _ rfl (load_out h hg hE.types (hT.rd p) hs)
  case store t p x => exact go _ rfl (store_out h hg hE.types (hT.rd p) (hT.rd x) hs)
  case nilCheck x =>
    obtain ⟨b, hb, ho⟩ := nil_out (fresh := fresh) h (hT.rd x) hs
    refine go (pure (.value (a.eval x))) ?_ ho
    simp only [execOp, hb]
  case binOp op t x y s =>
    obtain ⟨h1, rfl⟩ := bind_ret_den hs
    exact go _ rfl (bin_out h hE.types hE.eqs (hT.rd x) (hT.rd y) h1)
  case unOp op t x =>
    obtain ⟨h1, rfl⟩ := bind_ret_den hs
    exact go _ rfl (un_out h (hT.rd x) h1)
  case convert s d x =>
    obtain ⟨h1, rfl⟩ := bind_ret_den hs
    exact go _ rfl (conv_out h hE.types (hT.rd x) h1)
  case extract x i => exact go _ rfl (extract_out h (hT.rd x) hs)
  case field s x f =>
    unfold doField at hs
    split at hs
    · rename_i off ti l hfa hx
      split at hs
      · rename_i v' hm
        cases hs
        exact go _ rfl (field_out h hE.types hfa (hx ▸ hT.rd x) hm)
      · cases hs
    · cases hs
  case fieldAddr s x f => exact go _ rfl (fieldAddr_out h hE.types (hT.rd x) hs)
  case indexAddr t x ix => exact go _ rfl (indexAddr_out h hg hE.types (hT.rd x) (hT.rd ix) hs)
  case index t x ix => exact go _ rfl (index_out h hE.types (hT.rd x) (hT.rd ix) hs)
  case build t parts =>
    obtain ⟨h1, rfl⟩ := bind_ret_den hs
    exact go _ rfl (build_out h hE.types (by rw [Array.toList_map]; exact all2_parts hT _) h1)
  case buildSlice t n parts => exact go _ rfl (lit_out h hg hf0 hE.types (by rw [Array.toList_map]; exact all2_parts hT _) hs)
  case makeSlice t l c => exact go _ rfl (make_out h hf0 hE.types (hT.rd l) (hT.rd c) hs)
  case slice t x lo hi mx =>
    cases mx with
    | some _ => cases hs
    | none =>
      refine go _ rfl (slice_out h hg hE.types (hT.rd x) (lov := lo.map a.eval) (hiv := hi.map a.eval) ?_ ?_ ?_ ?_ hs)
      · intro x hx; cases lo with
        | none => cases hx
        | some l => cases hx; exact ⟨_, rfl, hT.rd l⟩
      · intro hx; cases lo with
        | none => rfl
        | some l => cases hx
      · intro x hx; cases hi with
        | none => cases hx
        | some l => cases hx; exact ⟨_, rfl, hT.rd l⟩
      · intro hx; cases hi with
        | none => rfl
        | some l => cases hx
  case call c =>
    obtain ⟨callee, args, argTypes⟩ := c
    cases callee with
    | invoke r m => cases hs
    | value f =>
      cases f <;> try (cases hs; done)
      rename_i f
      simp only [Sees] at hsee
      simp only at hs
      rw [doCall_view e f _ fresh hsee] at hs
      cases hfn : e.fn f with
      | none => unfold doCall at hs; rw [hfn] at hs; cases hs
      | some sp =>
        obtain ⟨hsp, fn, hf1, hf2, hf3⟩ := hE.fns f sp hfn
        have hargs := all2_rd hT args.toList
        rw [← Array.toList_map] at hargs
        have hc := callRel h hf hsp hfn (vs := (args.map a.eval).toList) hargs hs
        have hname : fn.name ≠ "runtime.NumGoroutine" := by simpa using hf3
        have hrun : (execOp a.eval ⟨dst, .call ⟨.value (.func f), args, argTypes⟩, type, pos, after, guard⟩).run P w = .ok (.enter f (args.map a.eval)) w := by
          have hb : fn.body ≠ none := by intro e0; rw [e0] at hf2; cases hf2
          simp [execOp, resolve, Deferred.ofValue, Act.eval, invoke, callFunc, hf1, hname, hb]
        unfold Oper.wp
        rw [hrun, Oper.upon_enter]
        simp only [Array.toArray_toList] at hc
        refine hc.mono ?_
        rintro e' w' ⟨cv, rfl, hst⟩
        exact hn w' cv hst
    | builtin b =>
      cases b <;> simp only [doBuiltin] at hs <;> try (cases hs; done)
      case len =>
        obtain ⟨args⟩ := args
        match args, hs with
        | [x], hs => exact go (do pure (.value (← Builtin.len_ argTypes type #[a.eval x]))) (by simp [execOp, resolve, invoke, builtin]) (len_out h hg hE.types (hT.rd x) hs)
        | [], hs => cases hs
        | _ :: _ :: _, hs => cases hs
      case append =>
        obtain ⟨args⟩ := args
        obtain ⟨argTypes⟩ := argTypes
        match args, hs with
        | [s, x], hs =>
          match argTypes, hs with
          | [t, t'], hs =>
            simp only [List.map_cons, List.map_nil] at hs
            split at hs
            · rename_i ht
              subst ht
              exact go (do pure (.value (← Builtin.append_ #[t, t] type #[a.eval s, a.eval x]))) (by simp [execOp, resolve, invoke, builtin]) (append_out h hg hf0 hE.types (hT.rd s) (hT.rd x) hs)
            · cases hs
          | [], hs => cases hs
          | [_], hs => cases hs
          | _ :: _ :: _ :: _, hs => cases hs
        | [], hs => cases hs
        | [_], hs => cases hs
        | _ :: _ :: _ :: _, hs => cases hs
      case max => exact go _ rfl (max_out h (by rw [Array.toList_map]; exact all2_rd hT _) hs)
      case min => exact go _ rfl (min_out h (by rw [Array.toList_map]; exact all2_rd hT _) hs)
end
end Go.Proofs.Ytipfipnhgpbceaa.Sx
/- The symbolic machine: regions (plain theorems). -/

set_option linter.unusedVariables false
set_option linter.unusedSimpArgs false
namespace Go.Proofs.Ytipfipnhgpbceaa.Sx
open Go

/-! ### One operation of a region -/
def dstOf (ops : Array Oper) (i : Nat) : Option Tmp := (ops[i]?).bind (·.dst)
def opRun (e : Env) (o : Oper) (t : List AV) (g : Get) (fresh : Nat) : Option (AV × List Loc × Upd) :=
  ((sem e o.op (rd t) (view g (readsOf e o.op (rd t) g)) fresh).den).map fun r => (r.1, readsOf e o.op (rd t) g, r.2)
def opAt (e : Env) (ops : Array Oper) (base i : Nat) (t : List AV) (g : Get) : Option (AV × List Loc × Upd) :=
  match ops[i]? with
  | none => none
  | some o => match o.guard with
    | none => opRun e o t g (base + i * stride)
    | some (j, want) => match (ops[j]?).bind (·.dst) with
      | some d => match t.getD d (.one .undef) with
        | .one (.bool b) => if b == want then opRun e o t g (base + i * stride) else some (.tup [], [], [])
        | .tup [] => some (.tup [], [], [])
        | _ => none
      | none => none

theorem execOne_den {e : Env} {o : Oper} {s : RS} {fresh : Nat} {r : RS × List Loc × Upd} (h : (execOne e o s fresh).den = some r) :
    ∃ v, opRun e o s.tmps s.mem.get fresh = some (v, r.2.1, r.2.2) ∧ r.1.tmps = setTmp s.tmps o.dst v ∧ r.1.mem.get = updG s.mem.get r.2.2 := by
  unfold execOne at h
  dsimp only at h
  rw [Tr.den_bind] at h
  obtain ⟨x, hx, hx'⟩ := Option.bind_eq_some_iff.1 h
  simp only [Tr.den] at hx'
  cases hx'
  exact ⟨x.1, by simp [opRun, hx], rfl, get_app _ _⟩
theorem learn_eq {s : RS} {t : Tmp} {b : Bool} (h : s.tmps.getD t (.one .undef) = .one (.bool b)) : learn s t b = s := by
  unfold learn
  have : s.tmps.set t (.one (.bool b)) = s.tmps := by
    rw [List.getD_eq_getElem?_getD] at h
    cases hh : s.tmps[t]? with
    | none => rw [hh] at h; cases h
    | some x =>
      rw [hh] at h
      simp only [Option.getD_some] at h
      subst h
      obtain ⟨hlt, he⟩ := List.getElem?_eq_some_iff.1 hh
      rw [← he]
      exact List.set_getElem_self hlt
  rw [this]
theorem learnO_eq {l : List AV} {c : Operand} {b : Bool} (h : rd l c = .one (.bool b)) : learnO c b l = l := by
  cases c <;> try rfl
  rename_i t
  exact congrArg RS.tmps (learn_eq (s := ⟨l, []⟩) (t := t) (b := b) h)
theorem runOp_den {e : Env} {ops : Array Oper} {base i : Nat} {s : RS} {r : RS × List Loc × Upd} (h : (runOp e ops base i s).den = some r) :
    ∃ v, opAt e ops base i s.tmps s.mem.get = some (v, r.2.1, r.2.2) ∧ r.1.tmps = setTmp s.tmps (dstOf ops i) v ∧ r.1.mem.get = updG s.mem.get r.2.2 := by
  unfold runOp at h
  unfold opAt dstOf
  split at h
  · cases h
  · rename_i o ho
    rw [ho]
    dsimp only [Option.bind_some]
    split at h
    · rename_i hgd
      rw [hgd]
      exact execOne_den h
    · rename_i j want hgd
      rw [hgd]
      dsimp only
      split at h
      · rename_i t ht
        rw [ht]
        dsimp only
        split at h
        · rename_i b hb
          rw [hb]
          dsimp only
          have hl := learn_eq hb
          cases want <;> cases b <;> simp only [Tr.den, hl, Bool.false_eq_true, if_false, if_true] at h ⊢
          · exact execOne_den h
          · cases h
            exact ⟨.tup [], rfl, rfl, rfl⟩
          · cases h
            exact ⟨.tup [], rfl, rfl, rfl⟩
          · exact execOne_den h
        · rename_i hb
          rw [hb]
          dsimp only
          cases h
          exact ⟨.tup [], rfl, rfl, rfl⟩
        · cases h
      · cases h

/-! ### What an operation looks at -/
theorem flatMap_congr' {α β : Type} {l : List α} {f f' : α → List β} (h : ∀ x ∈ l, f x = f' x) : l.flatMap f = l.flatMap f' := by
  induction l with
  | nil => rfl
  | cons x l ih => rw [List.flatMap_cons, List.flatMap_cons, h x (by simp), ih fun y hy => h y (by simp [hy])]
theorem map_congr_ops {l : List (Nat × Operand)} {r r' : Rd} (h : ∀ x ∈ (l.map (·.2)), r x = r' x) : (l.map fun p => (p.1, r p.2)) = l.map fun p => (p.1, r' p.2) :=
  List.map_congr_left fun p hp => by rw [h p.2 (List.mem_map.2 ⟨p, hp, rfl⟩)]
theorem sem_congr {e : Env} {o : Op} {r r' : Rd} (h : ∀ x ∈ o.operands, r x = r' x) (g : Get) (fresh : Nat) : sem e o r g fresh = sem e o r' g fresh := by
  cases o <;> simp only [Op.operands] at h <;> simp only [sem] <;> try (first | rfl | (simp_all; done))
  case build t ps => rw [map_congr_ops fun x hx => h x (by simpa using hx)]
  case buildSlice t n ps => rw [map_congr_ops fun x hx => h x (by simpa using hx)]
  case slice t x lo hi mx => cases mx <;> cases lo <;> cases hi <;> simp_all
  case makeMap t q => cases q <;> rfl
  case lookup t x k c =>
    have h1 := h x (by simp)
    have h2 := h k (by simp)
    cases c
    · show doLook e t (r x) (r k) g = doLook e t (r' x) (r' k) g
      rw [h1, h2]
    · rfl
  case call c =>
    have ha : c.args.toList.map r = c.args.toList.map r' := List.map_congr_left fun x hx => h x (by simp [Call.operands]; exact .inr (by simpa using hx))
    rw [ha]
theorem readsOf_congr {e : Env} {o : Op} {r r' : Rd} (h : ∀ x ∈ o.operands, r x = r' x) (g : Get) : readsOf e o r g = readsOf e o r' g := by
  cases o <;> simp only [Op.operands] at h <;> simp only [readsOf] <;> try (first | rfl | (simp_all; done))
  case buildSlice t n ps =>
    have : ∀ p ∈ ps.toList, rowLocs (r p.2).cells = rowLocs (r' p.2).cells := fun p hp => by rw [h p.2 (by simp; exact ⟨p.1, by simpa using hp⟩)]
    rw [flatMap_congr' this]
  case call c =>
    have hx : ∀ x ∈ c.args.toList, r x = r' x := fun x hx => h x (by simp [Call.operands]; exact .inr (by simpa using hx))
    have ha : c.args.toList.map r = c.args.toList.map r' := List.map_congr_left hx
    rw [ha, flatMap_congr' fun x hx' => by rw [hx x hx']]
theorem argLocs_stable {g g' : Get} {args : List AV} (h : ∀ l ∈ argLocs g args, g' l = g l) : argLocs g' args = argLocs g args := by
  have ha : Agree g g' (tids g args) := fun id hid l hl => h l (argLocs_mem hid hl)
  unfold argLocs
  rw [tids_view args ha]
  exact flatMap_congr' fun id hid => boxLocs_view id 65 0 (ha id hid)
theorem readsOf_stable {e : Env} {o : Op} {r : Rd} {g g' : Get} (h : ∀ l ∈ readsOf e o r g, g' l = g l) : readsOf e o r g' = readsOf e o r g := by
  cases o <;> simp only [readsOf] at h ⊢
  case call c =>
    split
    · rename_i f hc
      simp only [hc] at h
      exact argLocs_stable h
    · rfl
theorem view_congr {g g' : Get} {ls : List Loc} (h : ∀ l ∈ ls, g' l = g l) : view g' ls = view g ls := by
  funext l
  unfold view
  split
  · rename_i hl; exact h l (hasLoc_iff.1 hl)
  · rfl
theorem rd_congr {t t' : List AV} {x : Operand} (h : ∀ d, x = .tmp d → t'.getD d (.one .undef) = t.getD d (.one .undef)) : rd t' x = rd t x := by
  cases x <;> simp only [rd]
  exact h _ rfl
theorem opRun_stable {e : Env} {ops : Array Oper} {o : Oper} {t t' : List AV} {g g' : Get} {fresh : Nat} {v : AV} {rs : List Loc} {u : Upd} (h : opRun e o t g fresh = some (v, rs, u))
    (ht : ∀ d ∈ o.looksAt ops, t'.getD d (.one .undef) = t.getD d (.one .undef)) (hg : ∀ l ∈ rs, g' l = g l) : opRun e o t' g' fresh = some (v, rs, u) := by
  have hr : ∀ x ∈ o.op.operands, rd t' x = rd t x := fun x hx => rd_congr fun d hd => ht d (by
    subst hd
    exact List.mem_append_left _ (List.mem_filterMap.2 ⟨.tmp d, by simpa using hx, rfl⟩))
  have hrs : readsOf e o.op (rd t) g = rs := by
    unfold opRun at h
    obtain ⟨x, _, hx⟩ := Option.map_eq_some_iff.1 h
    cases hx; rfl
  unfold opRun at h ⊢
  have h1 : readsOf e o.op (rd t') g' = rs := by
    rw [readsOf_congr hr, readsOf_stable (g := g) (by rw [hrs]; exact hg), hrs]
  rw [hrs] at h
  rw [h1, sem_congr hr, view_congr hg]
  exact h
theorem opAt_stable {e : Env} {ops : Array Oper} {base i : Nat} {t t' : List AV} {g g' : Get} {v : AV} {rs : List Loc} {u : Upd} (h : opAt e ops base i t g = some (v, rs, u))
    (ht : ∀ o d, ops[i]? = some o → d ∈ o.looksAt ops → t'.getD d (.one .undef) = t.getD d (.one .undef)) (hg : ∀ l ∈ rs, g' l = g l) : opAt e ops base i t' g' = some (v, rs, u) := by
  unfold opAt at h ⊢
  split at h
  · cases h
  · rename_i o ho
    split at h
    · rename_i hgd
      exact opRun_stable h (ht o · ho) hg
    · rename_i j want hgd
      split at h
      · rename_i d hd
        rw [ht o d ho (List.mem_append_right _ (by simp [hgd, hd]))]
        split at h
        · rename_i b hb
          split at h
          · rename_i hw
            rw [if_pos hw]
            exact opRun_stable h (ht o · ho) hg
          · rename_i hw
            rw [if_neg hw]
            exact h
        · rename_i hb
          exact h
        · cases h
      · cases h

/-! ### Several operations, in an order -/
structure Item1 where
  i : Nat
  v : AV
  rs : List Loc
  u : Upd
def wrs (x : Item1) : List Loc := x.u.map (·.1)
abbrev St := List AV × Get
def stepS (ops : Array Oper) (s : St) (x : Item1) : St := (setTmp s.1 (dstOf ops x.i) x.v, updG s.2 x.u)
def RunL (e : Env) (ops : Array Oper) (base : Nat) : List Item1 → St → St → Prop
  | [], s, f => f = s
  | x :: l, s, f => opAt e ops base x.i s.1 s.2 = some (x.v, x.rs, x.u) ∧ RunL e ops base l (stepS ops s x) f

def Free (ops : Array Oper) (x y : Item1) : Prop := apartB ops x.i y.i = true ∧ meets (wrs x) y.rs = false ∧ meets (wrs x) (wrs y) = false ∧ meets (wrs y) x.rs = false

theorem meets_false {a b : List Loc} (h : meets a b = false) : ∀ l ∈ a, l ∉ b := by
  intro l hl hb
  have : meets a b = true := List.any_eq_true.2 ⟨l, hl, hasLoc_iff.2 hb⟩
  rw [h] at this
  cases this
theorem updG_off {u : Upd} {g : Get} {l : Loc} (h : l ∉ u.map (·.1)) : updG g u l = g l :=
  updG_other u g l fun p hp e => h (List.mem_map.2 ⟨p, hp, e⟩)
theorem updG_on : ∀ {u : Upd} {g g' : Get} {l : Loc}, l ∈ u.map (·.1) → updG g u l = updG g' u l
  | [], _, _, _, h => by simp at h
  | (l', c) :: u, g, g', l, h => by
    by_cases hu : l ∈ u.map (·.1)
    · exact updG_on (u := u) hu
    · have : l = l' := by simpa [hu] using h
      subst this
      rw [updG, updG, updG_off hu, updG_off hu, upd1_same, upd1_same]
theorem updG_comm {u u' : Upd} (h : meets (u.map (·.1)) (u'.map (·.1)) = false) (g : Get) : updG (updG g u) u' = updG (updG g u') u := by
  funext l
  by_cases h1 : l ∈ u.map (·.1)
  · have h2 := meets_false h l h1
    rw [updG_off h2, updG_on h1]
  · by_cases h2 : l ∈ u'.map (·.1)
    · rw [updG_off h1, updG_on h2]
    · rw [updG_off h2, updG_off h1, updG_off h1, updG_off h2]
theorem setTmp_comm (t : List AV) {x y : Option Tmp} (v v' : AV) (h : ∀ d, x = some d → y ≠ some d) : setTmp (setTmp t x v) y v' = setTmp (setTmp t y v') x v := by
  cases x with
  | none => rfl
  | some d =>
    cases y with
    | none => rfl
    | some e =>
      have hne : d ≠ e := fun he => h d rfl (he ▸ rfl)
      simp only [setTmp]
      exact List.set_comm _ _ hne
theorem setTmp_get (t : List AV) {x : Option Tmp} (v : AV) {d : Nat} (h : x ≠ some d) : (setTmp t x v).getD d (.one .undef) = t.getD d (.one .undef) := by
  cases x with
  | none => rfl
  | some e =>
    have hne : e ≠ d := fun he => h (he ▸ rfl)
    simp [setTmp, List.getD_eq_getElem?_getD, List.getElem?_set_ne hne]

theorem apartB_spec {ops : Array Oper} {i j : Nat} (h : apartB ops i j = true) : ∃ x y, ops[i]? = some x ∧ ops[j]? = some y ∧ (∀ d, x.dst = some d → d ∉ y.looksAt ops) ∧ (∀ d, x.dst = some d → y.dst ≠ some d) ∧ (∀ d, y.dst = some d → d ∉ x.looksAt ops) := by
  unfold apartB at h
  split at h
  · rename_i x y hx hy
    simp only [Bool.and_eq_true] at h
    obtain ⟨h1, h2, h3⟩ := Oper.apart_spec h.1
    exact ⟨x, y, hx, hy, h1, h2, h3⟩
  · cases h

theorem RunL.swap {e : Env} {ops : Array Oper} {base : Nat} {x y : Item1} {l : List Item1} {s f : St} (h : RunL e ops base (x :: y :: l) s f) (hf : Free ops x y) : RunL e ops base (y :: x :: l) s f := by
  obtain ⟨h1, h2, h3⟩ := h
  obtain ⟨ha, m1, m2, m3⟩ := hf
  obtain ⟨ox, oy, hx, hy, a1, a2, a3⟩ := apartB_spec ha
  have hdx : dstOf ops x.i = ox.dst := by simp [dstOf, hx]
  have hdy : dstOf ops y.i = oy.dst := by simp [dstOf, hy]
  have hcomm : stepS ops (stepS ops s y) x = stepS ops (stepS ops s x) y := by
    simp only [stepS, hdx, hdy]
    rw [setTmp_comm s.1 x.v y.v a2, updG_comm (u := x.u) (u' := y.u) m2]
  refine ⟨?_, ?_, ?_⟩
  · refine opAt_stable (t := (stepS ops s x).1) (g := (stepS ops s x).2) h2 (fun o d ho hd => ?_) (fun l hl => ?_)
    · rw [hy] at ho; cases ho
      exact (setTmp_get s.1 x.v (by rw [hdx]; exact fun e0 => a1 d e0 hd)).symm
    · exact (updG_off fun hc => meets_false m1 l hc hl).symm
  · refine opAt_stable (t := s.1) (g := s.2) h1 (fun o d ho hd => ?_) (fun l hl => ?_)
    · rw [hx] at ho; cases ho
      exact setTmp_get s.1 y.v (by rw [hdy]; exact fun e0 => a3 d e0 hd)
    · exact updG_off fun hc => meets_false m3 l hc hl
  · rw [hcomm]; exact h3
theorem RunL.front {e : Env} {ops : Array Oper} {base : Nat} {y : Item1} : ∀ {l1 l2 : List Item1} {s f : St}, RunL e ops base (l1 ++ y :: l2) s f → (∀ x ∈ l1, Free ops x y) → RunL e ops base (y :: (l1 ++ l2)) s f
  | [], _, _, _, h, _ => h
  | x :: l1, l2, s, f, h, hf => by
    obtain ⟨h1, h2⟩ := h
    have h3 := RunL.front h2 (fun z hz => hf z (by simp [hz]))
    have h4 : RunL e ops base (x :: y :: (l1 ++ l2)) s f := ⟨h1, h3⟩
    exact h4.swap (hf x (by simp))

/-! ### The world's side -/
section
variable {C : Ctx} {P : Program} {e : Env} {ops : Array Oper} {base : Nat} {Q : Exit → Act → World → Prop}

/-- The state and the world. -/
structure Now (C : Ctx) (ρ0 : Rho) (lo hi : Nat) (w : World) (ρ : Rho) (ok : Okp) (a : Act) (s : St) : Prop where
  c : CRel C w ρ ok s.2
  t : TRel w ρ ok a s.1
  out : ∀ id, (id < lo ∨ hi ≤ id) → ρ id = ρ0 id

theorem opAt_wp (hE : EnvOK P e) {w : World} {ρ : Rho} {ok : Okp} {a : Act} {s : St} {x : Item1} (hc : CRel C w ρ ok s.2) (ht : TRel w ρ ok a s.1)
    (hf : ∀ id, base + x.i * stride ≤ id → id < base + x.i * stride + stride → ρ id = none) (hop : opAt e ops base x.i s.1 s.2 = some (x.v, x.rs, x.u))
    {K : Act → World → Prop} (hn : ∀ w' cv, StepR C w ρ ok s.2 (base + x.i * stride) x.v x.u w' cv → K (a.put (dstOf ops x.i) cv) w') : wpOp P ops Q x.i K a w := by
  obtain ⟨i, v, rs, u⟩ := x
  obtain ⟨t, g⟩ := s
  simp only at *
  unfold opAt at hop
  unfold wpOp
  split at hop
  · cases hop
  · rename_i o ho
    rw [ho]
    have hd : dstOf ops i = o.dst := by simp [dstOf, ho]
    rw [hd] at hn
    have run : opRun e o t g (base + i * stride) = some (v, rs, u) → o.wp P a w K Q := by
      intro h
      unfold opRun at h
      obtain ⟨r, hr, hr'⟩ := Option.map_eq_some_iff.1 h
      cases hr'
      exact sem_wp hE hc ht hf (view_sub g _) (sees_view e o.op (rd t) g) hr hn
    have skip : (v, rs, u) = (.tup [], [], []) → K (a.put o.dst undef) w := by
      intro h
      cases h
      exact hn w undef ⟨ρ, ok, hc, Ext.refl _ _ _, fun _ _ => rfl, .tup #[] [] trivial⟩
    dsimp only
    split at hop
    · rename_i hg
      have : Region.wanted o (yielded ops a.tmps) = true := by simp [Region.wanted, hg]
      rw [if_pos this]
      exact .inl (run hop)
    · rename_i j want hg
      split at hop
      · rename_i d hd'
        split at hop
        · rename_i b hb
          have h1 := ht.tm d
          rw [hb] at h1
          have h2 : a.tmps.getD d undef = .bool b := by
            generalize hv : a.tmps.getD d undef = cv at h1
            cases h1 with
            | one _ _ h1 => cases h1; rfl
          have h3 : a.tmps[d]? = some (.bool b) := by
            rw [Array.getD_eq_getD_getElem?] at h2
            cases h4 : a.tmps[d]? with
            | none => rw [h4] at h2; simp [undef] at h2
            | some cv => rw [h4] at h2; simp at h2; rw [h2]
          have hy : yielded ops a.tmps j = some b := by simp only [yielded, hd', Option.bind_some, h3]
          have hw : Region.wanted o (yielded ops a.tmps) = (b == want) := by
            simp only [Region.wanted, hg, hy]
            cases b <;> cases want <;> rfl
          rw [hw]
          split at hop
          · rename_i hbw
            rw [if_pos hbw]
            exact .inl (run hop)
          · rename_i hbw
            rw [if_neg hbw]
            exact skip (Option.some.inj hop).symm
        · rename_i hb
          have h1 := ht.tm d
          rw [hb] at h1
          have h2 : a.tmps.getD d undef = .tuple #[] := by
            generalize hv : a.tmps.getD d undef = cv at h1
            cases h1 with
            | tup vs l h =>
              obtain ⟨vs⟩ := vs
              cases vs with
              | nil => rfl
              | cons _ _ => exact h.elim
          have hy : yielded ops a.tmps j = none := by
            simp only [yielded, hd', Option.bind_some]
            rw [Array.getD_eq_getD_getElem?] at h2
            cases h4 : a.tmps[d]? with
            | none => rfl
            | some cv =>
              rw [h4] at h2
              simp only [Option.getD_some] at h2
              subst h2
              rfl
          have hw : Region.wanted o (yielded ops a.tmps) = false := by
            simp only [Region.wanted, hg, hy]
            rfl
          rw [hw]
          simp only [Bool.false_eq_true, if_false]
          exact skip (Option.some.inj hop).symm
        · cases hop
      · cases hop

theorem Now.step {ρ0 : Rho} {lo hi : Nat} {w : World} {ρ : Rho} {ok : Okp} {a : Act} {s : St} (h : Now C ρ0 lo hi w ρ ok a s) {x : Item1} {w' : World} {cv : Value}
    (hlo : lo ≤ base + x.i * stride) (hhi : base + x.i * stride + stride ≤ hi)
    (hst : StepR C w ρ ok s.2 (base + x.i * stride) x.v x.u w' cv) : ∃ ρ' ok', Now C ρ0 lo hi w' ρ' ok' (a.put (dstOf ops x.i) cv) (stepS ops s x) ∧
      (∀ id, (id < base + x.i * stride ∨ base + x.i * stride + stride ≤ id) → ρ' id = ρ id) := by
  obtain ⟨ρ', ok', h1, h2, h3, h4⟩ := hst
  refine ⟨ρ', ok', ⟨h1, (h.t.mono h2).put _ h4, fun id hid => ?_⟩, h3⟩
  rw [h3 id (by omega), h.out id hid]

theorem stride_disj {i j : Nat} (h : i ≠ j) {id : Nat} (h1 : base + j * stride ≤ id) (h2 : id < base + j * stride + stride) : id < base + i * stride ∨ base + i * stride + stride ≤ id := by
  have hs : stride = 16 := rfl
  rw [hs] at h1 h2 ⊢
  omega
theorem stride_hi {i n : Nat} (h : i < n) : base + i * stride + stride ≤ base + n * stride := by
  have : stride = 16 := rfl
  rw [this]
  omega

/-- In the order of the text. -/
theorem ops_wp (hE : EnvOK P e) {ρ0 : Rho} : ∀ (l : List Item1) (w : World) (ρ : Rho) (ok : Okp) (a : Act) (s f : St), RunL e ops base l s f → (l.map (·.i)).Nodup → (∀ x ∈ l, x.i < ops.size) →
    Now C ρ0 base (base + ops.size * stride) w ρ ok a s → (∀ x ∈ l, ∀ id, base + x.i * stride ≤ id → id < base + x.i * stride + stride → ρ id = none) →
    (∀ w' ρ' ok' a', Now C ρ0 base (base + ops.size * stride) w' ρ' ok' a' f → Q .normal a' w') → wpOps P ops Q (l.map (·.i)) a w
  | [], w, ρ, ok, a, s, f, h, _, _, hN, _, hQ => by
    have h0 : f = s := h
    subst h0
    exact hQ _ _ _ _ hN
  | x :: l, w, ρ, ok, a, s, f, h, hnd, hlt, hN, hfr, hQ => by
    obtain ⟨h1, h2⟩ := h
    rw [List.map_cons, wpOps_cons]
    refine opAt_wp hE hN.c hN.t (hfr x (by simp)) h1 fun w' cv hst => ?_
    obtain ⟨ρ', ok', hN', hout⟩ := hN.step (ops := ops) (by omega) (stride_hi (hlt x (by simp))) hst
    rw [List.map_cons, List.nodup_cons] at hnd
    refine ops_wp hE l w' ρ' ok' _ _ f h2 hnd.2 (fun y hy => hlt y (by simp [hy])) hN' (fun y hy id hi1 hi2 => ?_) hQ
    have hne : x.i ≠ y.i := fun e0 => hnd.1 (e0 ▸ List.mem_map.2 ⟨y, hy, rfl⟩)
    rw [hout id (stride_disj hne hi1 hi2)]
    exact hfr y (by simp [hy]) id hi1 hi2

/-! ### In any order -/
def Before (ops : Array Oper) (i j : Nat) : Prop := ((Region.before ops).getD j 0).testBit i = true
def PairR (ops : Array Oper) (x y : Item1) : Prop := Before ops x.i y.i ∨ Free ops x y

theorem before_fold (l : List Edge) (acc : Array Nat) (i : Nat) : ∀ (s : Nat), (l.foldl (fun s e => if Region.binds .any e then s ||| 2 ^ e.on ||| acc.getD e.on 0 else s) s).testBit i = true →
    s.testBit i = true ∨ ∃ ed ∈ l, Region.binds .any ed = true ∧ (ed.on = i ∨ (acc.getD ed.on 0).testBit i = true) := by
  induction l with
  | nil => intro s h; exact .inl h
  | cons ed l ih =>
    intro s h
    rw [List.foldl_cons] at h
    rcases ih _ h with h1 | ⟨ed', h1, h2⟩
    · split at h1
      · rename_i hb
        rw [Nat.testBit_or, Nat.testBit_or, Bool.or_eq_true, Bool.or_eq_true] at h1
        rcases h1 with (h1 | h1) | h1
        · exact .inl h1
        · refine .inr ⟨ed, by simp, hb, .inl ?_⟩
          rw [Nat.testBit_two_pow] at h1
          simpa using h1
        · exact .inr ⟨ed, by simp, hb, .inr h1⟩
      · exact .inl h1
    · exact .inr ⟨ed', by simp [h1], h2⟩
def BOk (done : List Oper) (acc : Array Nat) : Prop := acc.size = done.length ∧ ∀ (j i : Nat), (acc.getD j 0).testBit i = true → ∃ o, done[j]? = some o ∧ ∃ ed ∈ o.after.toList, Region.binds .any ed = true ∧ (ed.on = i ∨ (acc.getD ed.on 0).testBit i = true)
theorem before_list : ∀ (l done : List Oper) (acc : Array Nat), (∀ o ∈ done ++ l, True) → BOk done acc → (∀ (j : Nat) (o : Oper), (done ++ l)[j]? = some o → ∀ ed ∈ o.after.toList, Region.binds .any ed = true → ed.on < j) →
    BOk (done ++ l) (l.foldl (fun acc o => acc.push (o.after.foldl (fun s e => if Region.binds .any e then s ||| 2 ^ e.on ||| acc.getD e.on 0 else s) 0)) acc)
  | [], done, acc, _, h, _ => by simpa using h
  | o :: l, done, acc, _, h, hb => by
    rw [List.foldl_cons, show done ++ o :: l = (done ++ [o]) ++ l by simp]
    refine before_list l (done ++ [o]) _ (fun _ _ => trivial) ⟨by simp [h.1], fun j i hji => ?_⟩ (by simpa using hb)
    have hpush : ∀ k, k < acc.size → ∀ v, (acc.push v).getD k 0 = acc.getD k 0 := fun k hk v => by simp [Array.getElem?_push, Nat.ne_of_lt hk]
    by_cases hj : j < acc.size
    · rw [hpush j hj] at hji
      obtain ⟨o', h1, ed, h2, h3, h4⟩ := h.2 j i hji
      have hjd : j < done.length := by rw [← h.1]; exact hj
      have hon := hb j o' (by rw [List.getElem?_append_left hjd]; exact h1) ed h2 h3
      refine ⟨o', by rw [List.getElem?_append_left hjd]; exact h1, ed, h2, h3, ?_⟩
      rw [hpush _ (by omega)]
      exact h4
    · by_cases hj2 : j = acc.size
      · subst hj2
        have : (acc.push (o.after.foldl (fun s e => if Region.binds .any e then s ||| 2 ^ e.on ||| acc.getD e.on 0 else s) 0)).getD acc.size 0 = o.after.foldl (fun s e => if Region.binds .any e then s ||| 2 ^ e.on ||| acc.getD e.on 0 else s) 0 := by simp
        rw [this, ← Array.foldl_toList] at hji
        rcases before_fold _ _ _ _ hji with h1 | ⟨ed, h1, h2, h3⟩
        · simp at h1
        · have hon := hb acc.size o (by rw [h.1]; simp) ed h1 h2
          refine ⟨o, by rw [h.1]; simp, ed, h1, h2, ?_⟩
          rw [hpush _ hon]
          exact h3
      · have : ∀ v, (acc.push v).getD j 0 = 0 := fun v => by
          rw [Array.getD_eq_getD_getElem?, Array.getElem?_eq_none (by simp; omega)]; rfl
        rw [this] at hji
        simp at hji
theorem backEdges_spec {ops : Array Oper} (h : backEdges ops = true) (j : Nat) (o : Oper) (ho : ops[j]? = some o) : ∀ ed ∈ o.after.toList, Region.binds .any ed = true → ed.on < j := by
  intro ed hed hbi
  unfold backEdges at h
  have hj : j < ops.size := (Array.getElem?_eq_some_iff.1 ho).1
  have := List.all_eq_true.1 h j (List.mem_range.2 hj)
  rw [ho] at this
  have h2 := List.all_eq_true.1 this ed hed
  rw [hbi] at h2
  simpa using h2
theorem before_spec {ops : Array Oper} (hb : backEdges ops = true) {i j : Nat} (h : Before ops i j) : ∃ o, ops[j]? = some o ∧ ∃ ed ∈ o.after.toList, Region.binds .any ed = true ∧ (ed.on = i ∨ Before ops i ed.on) := by
  have := before_list ops.toList [] #[] (fun _ _ => trivial) ⟨rfl, fun j i h => by simp at h⟩ (fun j o ho => backEdges_spec hb j o (by simpa using ho))
  have hB : Region.before ops = ops.toList.foldl (fun acc o => acc.push (o.after.foldl (fun s e => if Region.binds .any e then s ||| 2 ^ e.on ||| acc.getD e.on 0 else s) 0)) #[] := by
    unfold Region.before
    rw [← Array.foldl_toList]
  rw [← hB] at this
  obtain ⟨o, h1, h2⟩ := this.2 j i h
  exact ⟨o, by simpa using h1, h2⟩

/-- What has been done has been done with all that must stand before it. -/
def Closed (ops : Array Oper) (listed : Array Bool) : Prop := listed.size = ops.size ∧ ∀ j o, ops[j]? = some o → listed.getD j false = true → ∀ ed ∈ o.after.toList, Region.binds .any ed = true → listed.getD ed.on false = true
theorem Closed.before {ops : Array Oper} (hb : backEdges ops = true) {listed : Array Bool} (hc : Closed ops listed) {i : Nat} : ∀ (n j : Nat), j < n → Before ops i j → listed.getD j false = true → listed.getD i false = true
  | 0, j, h, _, _ => by omega
  | n + 1, j, h, hbf, hl => by
    obtain ⟨o, ho, ed, h1, h2, h3⟩ := before_spec hb hbf
    have h4 := hc.2 j o ho hl ed h1 h2
    have h5 := backEdges_spec hb j o ho ed h1 h2
    rcases h3 with rfl | h3
    · exact h4
    · exact Closed.before hb hc n ed.on (by omega) h3 h4
theorem ready_before {ops : Array Oper} (hb : backEdges ops = true) {listed : Array Bool} (hc : Closed ops listed) {i j : Nat} (hj : j ∈ Region.ready .any ops listed) (h : Before ops i j) : listed.getD i false = true := by
  obtain ⟨h0, o, ho, hall⟩ := mem_ready.1 hj
  obtain ⟨o', ho', ed, h1, h2, h3⟩ := before_spec hb h
  rw [ho] at ho'
  cases ho'
  have h4 := hall ed (by simpa using h1) h2
  rcases h3 with rfl | h3
  · exact h4
  · exact hc.before hb (ed.on + 1) ed.on (by omega) h3 h4
theorem ready_some {ops : Array Oper} (hb : backEdges ops = true) {listed : Array Bool} (hs : listed.size = ops.size) : ∀ (n j : Nat), j < n → j < ops.size → listed.getD j true = false → Region.ready .any ops listed ≠ []
  | 0, j, h, _, _ => by omega
  | n + 1, j, h, hj, hl => by
    by_cases hr : j ∈ Region.ready .any ops listed
    · intro e0; rw [e0] at hr; simp at hr
    · rw [mem_ready] at hr
      have ho : ops[j]? = some ops[j] := by simp [hj]
      have : ¬ ∀ ed ∈ ops[j].after, Region.binds .any ed = true → listed.getD ed.on false = true := fun hh => hr ⟨hl, _, ho, hh⟩
      obtain ⟨ed, hed, hbi, hh⟩ : ∃ ed, ed ∈ ops[j].after ∧ Region.binds .any ed = true ∧ listed.getD ed.on false ≠ true := Classical.byContradiction fun hne => this fun ed hed hbi => Classical.byContradiction fun hnl => hne ⟨ed, hed, hbi, hnl⟩
      have hlt := backEdges_spec hb j _ ho ed (by simpa using hed) hbi
      refine ready_some hb hs n ed.on (by omega) (by omega) ?_
      have hlt2 : ed.on < listed.size := by omega
      simp only [Array.getD_eq_getD_getElem?, Array.getElem?_eq_getElem hlt2, Option.getD_some] at hh ⊢
      simpa using hh

theorem any_wp (hE : EnvOK P e) (hb : backEdges ops = true) {ρ0 : Rho} : ∀ (n : Nat) (listed : Array Bool) (l : List Item1) (w : World) (ρ : Rho) (ok : Okp) (a : Act) (s f : St), l.length = n → RunL e ops base l s f →
    (l.map (·.i)).Nodup → (∀ i, i ∈ l.map (·.i) ↔ i < ops.size ∧ listed.getD i true = false) → Closed ops listed → l.Pairwise (PairR ops) →
    Now C ρ0 base (base + ops.size * stride) w ρ ok a s → (∀ x ∈ l, ∀ id, base + x.i * stride ≤ id → id < base + x.i * stride + stride → ρ id = none) →
    (∀ w' ρ' ok' a', Now C ρ0 base (base + ops.size * stride) w' ρ' ok' a' f → Q .normal a' w') → wpAny P .any ops Q n listed a w := by
  intro n
  have hreadyl : ∀ {listed : Array Bool} {l : List Item1}, (∀ i, i ∈ l.map (·.i) ↔ i < ops.size ∧ listed.getD i true = false) → ∀ i ∈ Region.ready .any ops listed, i ∈ l.map (·.i) := by
    intro listed l hl i hi
    obtain ⟨h0, o, ho, _⟩ := mem_ready.1 hi
    exact (hl i).2 ⟨(Array.getElem?_eq_some_iff.1 ho).1, h0⟩
  induction n with
  | zero =>
    intro listed l w ρ ok a s f hn hR hnd hl hc hp hN hfr hQ
    have : l = [] := List.length_eq_zero_iff.1 hn
    subst this
    have h0 : f = s := hR
    subst h0
    refine ⟨?_, hQ _ _ _ _ hN⟩
    cases hr : Region.ready .any ops listed with
    | nil => rfl
    | cons i _ => have := hreadyl hl i (by rw [hr]; simp); simp at this
  | succ n ih =>
    intro listed l w ρ ok a s f hn hR hnd hl hc hp hN hfr hQ
    refine ⟨fun hr => ?_, fun i hi => ?_⟩
    · cases l with
      | nil => simp at hn
      | cons x l =>
        have := (hl x.i).1 (by simp)
        exact absurd hr (ready_some hb hc.1 (x.i + 1) x.i (by omega) this.1 this.2)
    · obtain ⟨x, hx, rfl⟩ := List.mem_map.1 (hreadyl hl i hi)
      obtain ⟨l1, l2, rfl⟩ := List.append_of_mem hx
      have hp' := List.pairwise_append.1 hp
      have hfree : ∀ y ∈ l1, Free ops y x := fun y hy => by
        rcases hp'.2.2 y hy x (by simp) with h1 | h1
        · have h2 := ready_before hb hc hi h1
          have h3 := (hl y.i).1 (List.mem_map.2 ⟨y, by simp [hy], rfl⟩)
          have h4 : y.i < listed.size := by rw [hc.1]; exact h3.1
          simp only [Array.getD_eq_getD_getElem?, Array.getElem?_eq_getElem h4, Option.getD_some] at h2 h3
          rw [h2] at h3
          cases h3.2
        · exact h1
      obtain ⟨g1, g2⟩ := hR.front hfree
      have hxl := (hl x.i).1 (List.mem_map.2 ⟨x, by simp, rfl⟩)
      refine opAt_wp hE hN.c hN.t (hfr x (by simp)) g1 fun w' cv hst => ?_
      obtain ⟨ρ', ok', hN', hout⟩ := hN.step (ops := ops) (by omega) (stride_hi hxl.1) hst
      have hnd2 : (x.i :: (l1 ++ l2).map (·.i)).Nodup := by
        refine List.Perm.nodup (List.Perm.map (·.i) (l₁ := l1 ++ x :: l2) (l₂ := x :: (l1 ++ l2)) List.perm_middle) hnd
      rw [List.nodup_cons] at hnd2
      have hnx : ∀ y ∈ l1 ++ l2, x.i ≠ y.i := fun y hy e0 => hnd2.1 (e0 ▸ List.mem_map.2 ⟨y, hy, rfl⟩)
      have hmem : ∀ y ∈ l1 ++ l2, y ∈ l1 ++ x :: l2 := fun y hy => by
        rcases List.mem_append.1 hy with h | h
        · exact List.mem_append_left _ h
        · exact List.mem_append_right _ (List.mem_cons_of_mem _ h)
      refine ih (listed.setIfInBounds x.i true) (l1 ++ l2) w' ρ' ok' _ _ f (by simp at hn ⊢; omega) g2 hnd2.2 (fun k => ?_) ⟨by simp [hc.1], fun j o ho hj ed hed hbi => ?_⟩ ?_ hN' (fun y hy id hi1 hi2 => ?_) hQ
      · by_cases hk : x.i = k
        · subst hk
          refine ⟨fun h => absurd h hnd2.1, fun h => ?_⟩
          have : (listed.setIfInBounds x.i true).getD x.i true = true := by
            have h4 : x.i < listed.size := by rw [hc.1]; exact hxl.1
            simp [h4]
          rw [this] at h
          cases h.2
        · rw [getD_set_ne true hk, ← hl k]
          simp only [List.map_append, List.map_cons, List.mem_append, List.mem_cons]
          exact ⟨fun h => h.imp (fun q => q) .inr, fun h => by
            rcases h with h | rfl | h
            · exact .inl h
            · exact absurd rfl hk
            · exact .inr h⟩
      · by_cases hk : x.i = j
        · subst hk
          obtain ⟨_, o', ho', hall⟩ := mem_ready.1 hi
          rw [ho] at ho'
          cases ho'
          exact getD_set_true (hall ed (by simpa using hed) hbi)
        · rw [getD_set_ne false hk] at hj
          exact getD_set_true (hc.2 j o ho hj ed hed hbi)
      · rw [List.pairwise_append]
        refine ⟨hp'.1, (List.pairwise_cons.1 hp'.2.1).2, fun y hy z hz => hp'.2.2 y hy z (by simp [hz])⟩
      · rw [hout id (stride_disj (hnx y hy) hi1 hi2)]
        exact hfr y (hmem y hy) id hi1 hi2

/-! ### From the machine's run -/
theorem runOps_run : ∀ (l : List Nat) (s s' : RS), (runOps e ops base l s).den = some s' → ∃ L : List Item1, L.map (·.i) = l ∧ RunL e ops base L (s.tmps, s.mem.get) (s'.tmps, s'.mem.get)
  | [], s, s', h => by
    cases h
    exact ⟨[], rfl, rfl⟩
  | i :: l, s, s', h => by
    unfold runOps at h
    rw [Tr.den_bind] at h
    obtain ⟨r, hr, hr'⟩ := Option.bind_eq_some_iff.1 h
    obtain ⟨v, h1, h2, h3⟩ := runOp_den hr
    obtain ⟨L, h4, h5⟩ := runOps_run l _ _ hr'
    refine ⟨⟨i, v, r.2.1, r.2.2⟩ :: L, by simp [h4], h1, ?_⟩
    rw [h2, h3] at h5
    exact h5
theorem free_of {x : Item1} {i : Nat} {v : AV} {rs : List Loc} {u : Upd} (hi : x.i < i) (h : freeOf ops (Region.before ops) i rs (u.map (·.1)) ⟨x.i, x.rs, wrs x⟩ = true) : PairR ops x ⟨i, v, rs, u⟩ := by
  unfold freeOf at h
  simp only at h
  rw [Nat.max_eq_left (Nat.le_of_lt hi), Nat.min_eq_right (Nat.le_of_lt hi), Bool.or_eq_true] at h
  rcases h with h | h
  · exact .inl h
  · simp only [Bool.and_eq_true, Bool.not_eq_true'] at h
    exact .inr ⟨h.1.1.1, h.1.1.2, h.1.2, h.2⟩
theorem runOpsD_run : ∀ (l : List Nat) (s s' : RS) (log : List Item1), (runOpsD e ops (Region.before ops) base l s (log.map fun x => ⟨x.i, x.rs, wrs x⟩)).den = some s' → l.Pairwise (· < ·) → (∀ x ∈ log, ∀ i ∈ l, x.i < i) →
    ∃ L : List Item1, L.map (·.i) = l ∧ RunL e ops base L (s.tmps, s.mem.get) (s'.tmps, s'.mem.get) ∧ L.Pairwise (PairR ops) ∧ ∀ x ∈ log, ∀ y ∈ L, PairR ops x y
  | [], s, s', log, h, _, _ => by
    cases h
    exact ⟨[], rfl, rfl, .nil, fun _ _ _ hy => by simp at hy⟩
  | i :: l, s, s', log, h, hs, hlog => by
    unfold runOpsD at h
    rw [Tr.den_bind] at h
    obtain ⟨r, hr, hr'⟩ := Option.bind_eq_some_iff.1 h
    dsimp only at hr'
    split at hr'
    · rename_i hall
      obtain ⟨v, h1, h2, h3⟩ := runOp_den hr
      have hs' := List.pairwise_cons.1 hs
      obtain ⟨L, h4, h5, h6, h7⟩ := runOpsD_run l _ _ (⟨i, v, r.2.1, r.2.2⟩ :: log) hr' hs'.2 (fun x hx k hk => by
        rcases List.mem_cons.1 hx with rfl | hx
        · exact hs'.1 k hk
        · exact hlog x hx k (by simp [hk]))
      refine ⟨⟨i, v, r.2.1, r.2.2⟩ :: L, by simp [h4], ⟨h1, ?_⟩, List.pairwise_cons.2 ⟨fun y hy => h7 _ (by simp) y hy, h6⟩, fun x hx y hy => ?_⟩
      · rw [h2, h3] at h5
        exact h5
      · rcases List.mem_cons.1 hy with rfl | hy
        · exact free_of (hlog x hx i (by simp)) (List.all_eq_true.1 hall _ (List.mem_map.2 ⟨x, hx, rfl⟩))
        · exact h7 x (by simp [hx]) y hy
    · cases hr'

theorem region_wp (hE : EnvOK P e) (hm : P.follows .mixedOrders = true) {id : Nat} {draw : Bool} {w : World} {ρ : Rho} {ok : Okp} {a : Act} {s s' : RS} (hc : CRel C w ρ ok s.mem.get) (ht : TRel w ρ ok a s.tmps)
    (hfr : ∀ i, base ≤ i → ρ i = none) (hs : (runRegion e ops draw base s).den = some s')
    (hQ : ∀ w' ρ' ok' a', CRel C w' ρ' ok' s'.mem.get → TRel w' ρ' ok' a' s'.tmps → (∀ i, (i < base ∨ base + ops.size * stride ≤ i) → ρ' i = ρ i) → Q .normal a' w') : (Code.region id ops draw).wp P Q a w := by
  unfold runRegion at hs
  cases draw with
  | false =>
    obtain ⟨L, h1, h2⟩ := runOps_run _ _ _ hs
    refine wp_region ?_
    rw [← h1]
    refine ops_wp (C := C) (ρ0 := ρ) hE L w ρ ok a _ _ h2 (by rw [h1]; exact List.nodup_range) (fun x hx => ?_) ⟨hc, ht, fun _ _ => rfl⟩ (fun x hx i h3 _ => hfr i (by omega)) (fun w' ρ' ok' a' hN => hQ w' ρ' ok' a' hN.c hN.t hN.out)
    have : x.i ∈ L.map (·.i) := List.mem_map.2 ⟨x, hx, rfl⟩
    rw [h1] at this
    exact List.mem_range.1 this
  | true =>
    simp only [if_true] at hs
    split at hs
    · cases hs
    · rename_i hb
      have hb' : backEdges ops = true := by simpa using hb
      obtain ⟨L, h1, h2, h3, _⟩ := runOpsD_run (e := e) (ops := ops) (base := base) _ _ _ [] hs List.pairwise_lt_range (fun x hx => by simp at hx)
      have hlen : L.length = ops.size := by
        have := congrArg List.length h1
        simpa using this
      refine wp_region_any hm ?_
      obtain ⟨c1, c2⟩ := hc.drew
      refine any_wp (C := C) (ρ0 := ρ) hE hb' ops.size _ L _ ρ ok a _ _ hlen h2 (by rw [h1]; exact List.nodup_range) (fun i => ?_) ⟨by simp, fun j o ho hj => ?_⟩ h3 ⟨c1, ht.mono c2, fun _ _ => rfl⟩ (fun x hx i h3 _ => hfr i (by omega)) (fun w' ρ' ok' a' hN => hQ w' ρ' ok' a' hN.c hN.t hN.out)
      · rw [h1, List.mem_range]
        refine ⟨fun h => ⟨h, by simp [h]⟩, fun h => h.1⟩
      · have hlt : j < ops.size := (Array.getElem?_eq_some_iff.1 ho).1
        simp [hlt] at hj
end
end Go.Proofs.Ytipfipnhgpbceaa.Sx
/- The symbolic machine: code, loops, functions (plain theorems). -/

set_option linter.unusedVariables false
set_option linter.unusedSimpArgs false
namespace Go.Proofs.Ytipfipnhgpbceaa.Sx
open Go

section
variable {C : Ctx} {P : Program} {e : Env}

/-- The symbolic state and the world. -/
structure SRelS (C : Ctx) (w : World) (ρ : Rho) (ok : Okp) (a : Act) (s : State) : Prop where
  c : CRel C w ρ ok s.mem.get
  t : TRel w ρ ok a s.tmps
  fr : ∀ i, s.next ≤ i → ρ i = none

def items : List It → List Item
  | [] => []
  | .code c :: k => .code c :: items k
  | .blk id :: k => .inBlock id :: items k
  | .lp c :: k => .inLoop c :: items k
  | .cut c :: k => .code c :: items k

theorem exitTo_items {id : Nat} : ∀ {k : List It}, hasBlk id k = true → exitTo id (items k) = some (items (popTo id k))
  | [], h => by cases h
  | .blk id' :: k, h => by
    simp only [items, exitTo, popTo]
    by_cases hi : id' = id
    · simp [hi]
    · have h' : hasBlk id k = true := by simpa [hasBlk, hi] using h
      simp [hi, exitTo_items h']
  | .code c :: k, h => exitTo_items (k := k) h
  | .lp c :: k, h => exitTo_items (k := k) h
  | .cut c :: k, h => exitTo_items (k := k) h

/-- From a machine to a function's end. -/
def Ends (P : Program) (b : Go.Frame) (cs : List Go.Frame) (m : Machine) (a : Act) (w : World) : Prop := ∃ todo, Steps P m (lone { b.at a todo with mode := .returning } cs w)
theorem Ends.of {b : Go.Frame} {cs : List Go.Frame} {m m' : Machine} {a : Act} {w : World} (h : Steps P m m') (h' : Ends P b cs m' a w) : Ends P b cs m a w := h'.imp fun _ q => h.trans q

/-- Where a leaf is. -/
def At (P : Program) (b : Go.Frame) (cs : List Go.Frame) (m : Machine) (C : Ctx) (ρ0 : Rho) (k0 : Nat) : Leaf → Prop
  | .done s => ∃ a w ρ ok, Ends P b cs m a w ∧ SRelS C w ρ ok a s ∧ ∀ i, i < k0 → ρ i = ρ0 i
  | .head stk s => ∃ a w ρ ok, Steps P m (lone (b.at a (items (openHead stk))) cs w) ∧ SRelS C w ρ ok a s ∧ ∀ i, i < k0 → ρ i = ρ0 i
theorem At.of {b : Go.Frame} {cs : List Go.Frame} {m m' : Machine} {ρ0 ρ1 : Rho} {k0 : Nat} {l : Leaf} (h : Steps P m m') (hr : ∀ i, i < k0 → ρ1 i = ρ0 i) (h' : At P b cs m' C ρ1 k0 l) : At P b cs m C ρ0 k0 l := by
  cases l with
  | done s =>
    obtain ⟨a, w, ρ, ok, h1, h2, h3⟩ := h'
    exact ⟨a, w, ρ, ok, h1.of h, h2, fun i hi => (h3 i hi).trans (hr i hi)⟩
  | head stk s =>
    obtain ⟨a, w, ρ, ok, h1, h2, h3⟩ := h'
    exact ⟨a, w, ρ, ok, h.trans h1, h2, fun i hi => (h3 i hi).trans (hr i hi)⟩

theorem go_at (hE : EnvOK P e) (hm : P.follows .mixedOrders = true) {b : Go.Frame} {cs : List Go.Frame} {k0 : Nat} : ∀ (n : Nat) (stk : List It) (s : State) (leaf : Leaf), (go e n stk s).den = some leaf →
    ∀ ⦃w : World⦄ ⦃ρ : Rho⦄ ⦃ok : Okp⦄ ⦃a : Act⦄, SRelS C w ρ ok a s → k0 ≤ s.next → At P b cs (lone (b.at a (items stk)) cs w) C ρ k0 leaf
  | 0, _, _, _, h => by cases h
  | n + 1, [], s, leaf, h => by
    intro w ρ ok a hS _
    cases h
    exact ⟨a, w, ρ, ok, ⟨_, .one step_end⟩, hS, fun _ _ => rfl⟩
  | n + 1, .blk id :: k, s, leaf, h => by
    intro w ρ ok a hS hk
    exact (go_at hE hm n k s leaf h hS hk).of (.one step_inBlock) fun _ _ => rfl
  | n + 1, .lp c :: k, s, leaf, h => by
    intro w ρ ok a hS _
    cases h
    exact ⟨a, w, ρ, ok, .one step_inLoop, hS, fun _ _ => rfl⟩
  | n + 1, .cut c :: k, s, leaf, h => by
    intro w ρ ok a hS _
    cases h
    exact ⟨a, w, ρ, ok, .refl _ _, hS, fun _ _ => rfl⟩
  | n + 1, .code c :: k, s, leaf, h => by
    intro w ρ ok a hS hk
    cases c <;> simp only [go] at h <;> try (cases h; done)
    case skip => exact (go_at hE hm n k s leaf h hS hk).of (.one step_skip) fun _ _ => rfl
    case region id ops d =>
      rw [Tr.den_bind] at h
      obtain ⟨r, hr, h⟩ := Option.bind_eq_some_iff.1 h
      have hw := region_wp (P := P) (C := C) (Q := fun x a' w' => x = .normal ∧ ∃ ρ' ok', CRel C w' ρ' ok' r.mem.get ∧ TRel w' ρ' ok' a' r.tmps ∧ (∀ i, (i < s.next ∨ s.next + ops.size * stride ≤ i) → ρ' i = ρ i)) hE hm (id := id) (s := ⟨s.tmps, s.mem⟩) hS.c hS.t hS.fr hr
        (fun w' ρ' ok' a' h1 h2 h3 => ⟨rfl, ρ', ok', h1, h2, h3⟩)
      obtain ⟨x, a', w', ⟨rfl, ρ', ok', h1, h2, h3⟩, harr⟩ := hw b (items k) cs
      have hS' : SRelS C w' ρ' ok' a' ⟨r.tmps, r.mem, s.next + ops.size * stride⟩ := ⟨h1, h2, fun i hi => by
        rw [h3 i (.inr hi)]
        exact hS.fr i (by simp only at hi; omega)⟩
      exact (go_at hE hm n k _ leaf h hS' (by simp only; omega)).of harr fun i hi => h3 i (.inl (by omega))
    case seq x y =>
      have hi : items ((if cutAt e y = true then It.cut y else It.code y) :: k) = .code y :: items k := by split <;> rfl
      have h1 := go_at (b := b) (cs := cs) (k0 := k0) hE hm n (.code x :: (if cutAt e y = true then It.cut y else It.code y) :: k) s leaf h hS hk
      rw [items, hi] at h1
      exact h1.of (.one step_seq) fun _ _ => rfl
    case cond c x y =>
      split at h
      · rename_i t ht
        have hv := hS.t.rd c
        rw [ht] at hv
        have hev : a.eval c = .bool t := by
          generalize a.eval c = cv at hv
          cases hv with
          | one _ _ h1 => cases h1; rfl
        have hl := learnO_eq ht
        cases t with
        | true =>
          simp only [Tr.den, hl, if_true] at h
          exact (go_at hE hm n (.code x :: k) s leaf h hS hk).of (.one (step_cond hev)) fun _ _ => rfl
        | false =>
          simp only [Tr.den, hl, Bool.false_eq_true, if_false] at h
          exact (go_at hE hm n (.code y :: k) s leaf h hS hk).of (.one (step_cond hev)) fun _ _ => rfl
      · cases h
    case block id c => exact (go_at hE hm n (.code c :: .blk id :: k) s leaf h hS hk).of (.one step_block) fun _ _ => rfl
    case loop c =>
      cases h
      exact ⟨a, w, ρ, ok, .one step_loop, hS, fun _ _ => rfl⟩
    case exit id =>
      split at h
      · rename_i hb
        exact (go_at hE hm n (popTo id k) s leaf h hS hk).of (.one (step_exit (exitTo_items hb))) fun _ _ => rfl
      · cases h
    case ret =>
      cases h
      exact ⟨a, w, ρ, ok, ⟨_, .one step_ret⟩, hS, fun _ _ => rfl⟩

/-! ### The state anew -/
theorem TRel.tell {w : World} {ρ : Rho} {ok : Okp} {a : Act} {tmps : List AV} (h : TRel w ρ ok a tmps) {t : Nat} {x : AV} (hx : VRel w ρ ok (a.tmps.getD t undef) x) : TRel w ρ ok a (tmps.set t x) := by
  refine ⟨h.defers, by rw [h.size, List.length_set], fun t' => ?_⟩
  by_cases ht : t = t'
  · subst ht
    by_cases hl : t < tmps.length
    · simpa [List.getD_eq_getElem?_getD, hl] using hx
    · rw [List.getD_eq_getElem?_getD, List.getElem?_eq_none (by simpa using Nat.le_of_not_lt hl)]
      exact .any _
  · rw [List.getD_eq_getElem?_getD, List.getElem?_set_ne ht, ← List.getD_eq_getElem?_getD]
    exact h.tm t'
theorem nils_rel {w : World} {ρ : Rho} {ok : Okp} {v : Value} (h : SRel w ρ ok v .nils) : v = .slice none 0 0 := by cases h; rfl
/-- A nil slice as an empty one of the call's own. -/
theorem CRel.grow {w : World} {ρ : Rho} {ok : Okp} {g : Get} (h : CRel C w ρ ok g) {id : Nat} (hf : ρ id = none) (E : K) :
    CRel C w (updR ρ id (.slice none 0 0)) ok (upd1 g (id, 0) (some (.rows E []))) ∧ Ext w ρ ok w (updR ρ id (.slice none 0 0)) ok := by
  obtain ⟨h1, h2⟩ := h.name hf (.slice none 0 0)
  refine ⟨h1.addRows (updR_same _ _ _) ⟨none, 0, rfl, Nat.le_refl _, .inl ⟨rfl, rfl⟩⟩ (fun s e0 => by rw [h.fresh hf] at e0; cases e0) (fun b hb => by cases hb), h2⟩
theorem get_cons1 (l : Loc) (c : Option MC) (m : Mem) : Mem.get ((l, c) :: m) = upd1 m.get l c := by
  funext l'
  rw [get_cons]; rfl

theorem growT_rel : ∀ (l : List (Nat × K)) {w : World} {ρ : Rho} {ok : Okp} {a : Act} {s : State}, SRelS C w ρ ok a s → ∃ ρ', SRelS C w ρ' ok a (growT l s) ∧ s.next ≤ (growT l s).next ∧ ∀ i, i < s.next → ρ' i = ρ i
  | [], w, ρ, ok, a, s, h => ⟨ρ, h, Nat.le_refl _, fun _ _ => rfl⟩
  | (t, E) :: r, w, ρ, ok, a, s, h => by
    unfold growT
    split
    · rename_i ht
      have hv := h.t.tm t
      rw [ht] at hv
      have hv' : a.tmps.getD t undef = .slice none 0 0 := by
        generalize a.tmps.getD t undef = cv at hv
        cases hv with
        | one _ _ h1 => exact nils_rel h1
      obtain ⟨h1, h2⟩ := h.c.grow (h.fr s.next (Nat.le_refl _)) E
      have hS : SRelS C w (updR ρ s.next (.slice none 0 0)) ok a ⟨s.tmps.set t (.one (.row s.next)), ((s.next, 0), some (.rows E [])) :: s.mem, s.next + 1⟩ := by
        refine ⟨by rw [get_cons1]; exact h1, (h.t.mono h2).tell ?_, fun i hi => ?_⟩
        · rw [hv']
          exact .one _ _ (.row _ _ _ _ (updR_same _ _ _))
        · simp only at hi
          rw [updR_ne _ _ (by omega)]
          exact h.fr i (by omega)
      obtain ⟨ρ', h3, h4, h5⟩ := growT_rel r hS
      refine ⟨ρ', h3, by simp only at h4; omega, fun i hi => ?_⟩
      rw [h5 i (by simp only; omega), updR_ne _ _ (by omega)]
    · exact growT_rel r h

theorem growC_rel : ∀ (l : List (Nat × Nat × K)) {w : World} {ρ : Rho} {ok : Okp} {a : Act} {s : State}, SRelS C w ρ ok a s → ∃ ρ' ok', SRelS C w ρ' ok' a (growC l s) ∧ s.next ≤ (growC l s).next ∧ ∀ i, i < s.next → ρ' i = ρ i
  | [], w, ρ, ok, a, s, h => ⟨ρ, ok, h, Nat.le_refl _, fun _ _ => rfl⟩
  | (t, off, E) :: r, w, ρ, ok, a, s, h => by
    unfold growC
    split
    · rename_i id o ht
      split
      · rename_i hc
        obtain ⟨b, v, c1, c2, c3, c4⟩ := h.c.cells _ _ _ hc
        have hv : v = .slice none 0 0 := nils_rel c4
        subst hv
        have hf := h.fr s.next (Nat.le_refl _)
        obtain ⟨h1, h2⟩ := h.c.grow hf E
        have hne : s.next ≠ id := fun e0 => by rw [← e0, hf] at c1; cases c1
        have hc' : upd1 s.mem.get (s.next, 0) (some (.rows E [])) (id, o + off) = some (.cell .nils) := by
          rw [upd1_ne _ _ (fun e0 => hne (congrArg Prod.fst e0))]
          exact hc
        have hr' := h2.rho _ _ c1
        have hl : LiveAt (upd1 s.mem.get (s.next, 0) (some (.rows E []))) (updR ρ s.next (.slice none 0 0)) (id, o + off) b := ⟨⟨_, hc'⟩, _, hr', rfl⟩
        obtain ⟨d1, d2⟩ := h1.cont _ _ _ hc'
        have h3 := h1.addCell (s := .row s.next) hr' c2 c3 (.row _ _ _ _ (updR_same _ _ _)) d1 d2 (fun l hl' => h1.dist _ _ _ hl' hl) (fun x hx => (h1.oks x b hx).2 _ hl) (h1.own _ _ hl)
        have hS : SRelS C w (updR ρ s.next (.slice none 0 0)) ok a ⟨s.tmps, ((id, o + off), some (.cell (.row s.next))) :: ((s.next, 0), some (.rows E [])) :: s.mem, s.next + 1⟩ := by
          refine ⟨by rw [get_cons1, get_cons1]; exact h3, h.t.mono h2, fun i hi => ?_⟩
          simp only at hi
          rw [updR_ne _ _ (by omega)]
          exact h.fr i (by omega)
        obtain ⟨ρ', ok', h4, h5, h6⟩ := growC_rel r hS
        refine ⟨ρ', ok', h4, by simp only at h5; omega, fun i hi => ?_⟩
        rw [h6 i (by simp only; omega), updR_ne _ _ (by omega)]
      · exact growC_rel r h
    · rename_i id ht
      split
      · rename_i E' xs hc
        have hv := h.t.tm t
        rw [ht] at hv
        have hv' : SRel w ρ ok (a.tmps.getD t undef) (.row id) := by
          generalize a.tmps.getD t undef = cv at hv
          cases hv with
          | one _ _ h1 => exact h1
        have hth : thawOne s.mem.get (.row id) = some (.vec false E' xs, [((id, 0), none)]) := by
          simp only [thawOne, hc]
        obtain ⟨ok2, b1, b2, _, b4⟩ := thaw_one h.c (fun _ _ q => q) h.c (fun _ _ q => q) (fun _ _ q => q) hv' hth
        have hS : SRelS C w ρ ok2 a ⟨s.tmps.set t (.one (.vec false E' xs)), ((id, 0), none) :: s.mem, s.next⟩ := by
          refine ⟨by rw [get_cons1]; exact b1, (h.t.mono (Ext.more b2)).tell (.one _ _ b4), h.fr⟩
        obtain ⟨ρ', ok', h4, h5, h6⟩ := growC_rel r hS
        exact ⟨ρ', ok', h4, h5, h6⟩
      · exact growC_rel r h
    · exact growC_rel r h

theorem keepTmps_get (l : List AV) (ks : List Nat) : ∀ (n i j : Nat), (keepTmps l ks i n).getD j (.one .undef) = .one .undef ∨ (keepTmps l ks i n).getD j (.one .undef) = l.getD (i + j) (.one .undef)
  | 0, i, j => by left; simp [keepTmps]
  | n + 1, i, 0 => by
    unfold keepTmps
    split
    · right; simp
    · left; simp
  | n + 1, i, j + 1 => by
    unfold keepTmps
    have := keepTmps_get l ks n (i + 1) j
    rw [show i + 1 + j = i + (j + 1) by omega] at this
    simpa using this
theorem keepTmps_len (l : List AV) (ks : List Nat) : ∀ (n i : Nat), (keepTmps l ks i n).length = n
  | 0, _ => rfl
  | n + 1, i => by simp [keepTmps, keepTmps_len l ks n]
theorem keep_rel {w : World} {ρ : Rho} {ok : Okp} {a : Act} {s : State} (ks : List Nat) (h : SRelS C w ρ ok a s) : SRelS C w ρ ok a ⟨keepTmps s.tmps ks 0 s.tmps.length, s.mem, s.next⟩ := by
  refine ⟨h.c, ⟨h.t.defers, by rw [keepTmps_len]; exact h.t.size, fun t => ?_⟩, h.fr⟩
  rcases keepTmps_get s.tmps ks s.tmps.length 0 t with h1 | h1
  · rw [h1]; exact .any _
  · rw [h1, Nat.zero_add]; exact h.t.tm t

def renRho (ids : List Nat) (ρ : Rho) : Rho := fun i => match ids[i]? with | some id => ρ id | none => none
theorem renRho_get {ids : List Nat} {ρ : Rho} {i id : Nat} (h : ids[i]? = some id) : renRho ids ρ i = ρ id := by unfold renRho; rw [h]
/-- Memory under other numbers. -/
theorem CRel.renew {w : World} {ρ : Rho} {ok : Okp} {g : Get} (h : CRel C w ρ ok g) {ids : List Nat} (hnd : ids.Nodup) :
    CRel C w (renRho ids ρ) ok (initMem 0 (ids.map (obAt g fun id => findAt id 0 ids))).get ∧ (∀ id id2 v, findAt id 0 ids = some id2 → ρ id = some v → renRho ids ρ id2 = some v) ∧
    (∀ l b, LiveAt (initMem 0 (ids.map (obAt g fun id => findAt id 0 ids))).get (renRho ids ρ) l b → ∃ id, ids[l.1]? = some id ∧ LiveAt g ρ (id, l.2) b) := by
  have hto1 : ∀ i id : Nat, ids[i]? = some id → findAt id 0 ids = some i := fun i id hh => by simpa using findAt_get (i := 0) hnd hh
  have hto2 : ∀ id i : Nat, findAt id 0 ids = some i → ids[i]? = some id := fun id i hh => by simpa using (findAt_spec hh).2
  have hρto : ∀ id id2 v, findAt id 0 ids = some id2 → ρ id = some v → renRho ids ρ id2 = some v := fun id id2 v h1 h2 => by rw [renRho_get (hto2 _ _ h1), h2]
  generalize hto : (fun id => findAt id 0 ids) = to
  have hto1' : ∀ i id : Nat, ids[i]? = some id → to id = some i := fun i id hh => by subst hto; exact hto1 i id hh
  have hρto' : ∀ id id2 v, to id = some id2 → ρ id = some v → renRho ids ρ id2 = some v := fun id id2 v h1 h2 => by subst hto; exact hρto id id2 v h1 h2
  generalize hobs : ids.map (obAt g to) = obs
  have hgob : ∀ id2 off c2, (initMem 0 obs).get (id2, off) = some c2 → ∃ id c, ids[id2]? = some id ∧ g (id, off) = some c ∧ c2 = renMC to c := by
    intro id2 off c2 hc
    have h0 := get_initMem obs 0 id2 off
    rw [Nat.zero_add, hc] at h0
    rw [← hobs, List.getElem?_map] at h0
    cases hid : ids[id2]? with
    | none => rw [hid] at h0; simp at h0
    | some id =>
      rw [hid] at h0
      simp only [Option.map_some] at h0
      rw [obAt_get h.toHRel] at h0
      cases hgc : g (id, off) with
      | none => rw [hgc] at h0; cases h0
      | some c => rw [hgc] at h0; exact ⟨id, c, rfl, hgc, by cases h0; rfl⟩
  have hgob' : ∀ id2 id off c, ids[id2]? = some id → g (id, off) = some c → (initMem 0 obs).get (id2, off) = some (renMC to c) := by
    intro id2 id off c hid hc
    have h0 := get_initMem obs 0 id2 off
    rw [Nat.zero_add] at h0
    rw [h0, ← hobs, List.getElem?_map, hid]
    simp only [Option.map_some]
    rw [obAt_get h.toHRel, hc]; rfl
  have hlive : ∀ {l : Loc} {b : Nat}, LiveAt (initMem 0 obs).get (renRho ids ρ) l b → ∃ id, ids[l.1]? = some id ∧ LiveAt g ρ (id, l.2) b := fun {l b} hl =>
    h.toHRel.trans_live (f := to) (inv := fun i => ids[i]?) hto1' hρto' hgob hl
  have hH : HRel w (renRho ids ρ) ok (initMem 0 obs).get := by
    refine h.toHRel.trans (f := to) (inv := fun i => ids[i]?) hto1' hρto' hgob (fun id2 id off s hi _ hc => ⟨_, hgob' id2 id off _ hi hc⟩) (fun x b hb => hb) (fun x b hb => ?_)
    exact ⟨(h.oks x b hb).1, fun l hl => by obtain ⟨id, _, h2⟩ := hlive hl; exact (h.oks x b hb).2 _ h2⟩
  exact ⟨{ toHRel := hH, own := fun l b hl => by obtain ⟨id, _, h2⟩ := hlive hl; exact h.own _ _ h2, ok0 := h.ok0, okn := h.okn, fr := h.fr }, hρto, fun l b hl => hlive hl⟩

theorem addNew_prefix : ∀ (l a : List Nat), ∃ r, addNew a l = a ++ r
  | [], a => ⟨[], by simp [addNew]⟩
  | y :: l, a => by
    unfold addNew
    split
    · exact addNew_prefix l a
    · obtain ⟨r, hr⟩ := addNew_prefix l (a ++ [y])
      exact ⟨[y] ++ r, by rw [hr]; simp⟩
theorem outIds_nodup (g : Get) (k : Nat) (v : List Sc) : (outIds g k v).Nodup := addNew_nodup _ _ (addNew_nodup _ _ (rangeFrom_nodup _ _))
theorem outIds_get (g : Get) (k : Nat) (v : List Sc) {i : Nat} (hi : i < k) : (outIds g k v)[i]? = some i := by
  unfold outIds
  obtain ⟨r1, h1⟩ := addNew_prefix (idsSc v) (rangeFrom 0 k)
  obtain ⟨r2, h2⟩ := addNew_prefix ((addNew (rangeFrom 0 k) (idsSc v)).flatMap fun id => idsOf (boxAt g id 64 0)) (addNew (rangeFrom 0 k) (idsSc v))
  dsimp only
  rw [h2, h1, List.append_assoc, List.getElem?_append_left (by rw [rangeFrom_len]; exact hi), rangeFrom_get, if_pos hi, Nat.zero_add]
theorem outIds_len (g : Get) (k : Nat) (v : List Sc) : k ≤ (outIds g k v).length := by
  unfold outIds
  obtain ⟨r1, h1⟩ := addNew_prefix (idsSc v) (rangeFrom 0 k)
  obtain ⟨r2, h2⟩ := addNew_prefix ((addNew (rangeFrom 0 k) (idsSc v)).flatMap fun id => idsOf (boxAt g id 64 0)) (addNew (rangeFrom 0 k) (idsSc v))
  dsimp only
  rw [h2, h1]
  simp [rangeFrom_len]

theorem renew_rel {w : World} {ρ : Rho} {ok : Okp} {a : Act} {s : State} {k : Nat} (h : SRelS C w ρ ok a s) : ∃ ρ', SRelS C w ρ' ok a (renew k s) ∧ k ≤ (renew k s).next ∧ ∀ i, i < k → ρ' i = ρ i := by
  unfold renew
  dsimp only
  generalize hids : outIds s.mem.get k (s.tmps.flatMap AV.all) = ids
  have hnd : ids.Nodup := hids ▸ outIds_nodup _ _ _
  have hpre : ∀ i, i < k → ids[i]? = some i := fun i hi => hids ▸ outIds_get _ _ _ hi
  have hlen : k ≤ ids.length := hids ▸ outIds_len _ _ _
  obtain ⟨h1, h2, _⟩ := h.c.renew hnd
  refine ⟨renRho ids ρ, ⟨h1, ⟨h.t.defers, by rw [List.length_map]; exact h.t.size, fun t => ?_⟩, fun i hi => ?_⟩, hlen, fun i hi => renRho_get (hpre i hi)⟩
  · have hv := h.t.tm t
    rw [List.getD_eq_getElem?_getD, List.getElem?_map]
    rw [List.getD_eq_getElem?_getD] at hv
    cases ht : s.tmps[t]? with
    | none => exact .any _
    | some x =>
      rw [ht] at hv
      exact hv.ren h2 (fun _ _ hb => hb)
  · unfold renRho
    rw [List.getElem?_eq_none hi]

theorem canon_rel {w : World} {ρ : Rho} {ok : Okp} {a : Act} {s : State} {k : Nat} (kp : Keep) (hk : k ≤ s.next) (h : SRelS C w ρ ok a s) : ∃ ρ' ok', SRelS C w ρ' ok' a (canon k kp s) ∧ k ≤ (canon k kp s).next ∧ ∀ i, i < k → ρ' i = ρ i := by
  unfold canon
  dsimp only
  obtain ⟨ρ1, h1, n1, e1⟩ := growT_rel kp.rowsT h
  obtain ⟨ρ2, ok2, h2, n2, e2⟩ := growC_rel kp.rowsC h1
  obtain ⟨ρ3, h3, n3, e3⟩ := renew_rel (k := k) (keep_rel kp.tmps h2)
  exact ⟨ρ3, ok2, h3, n3, fun i hi => by rw [e3 i hi, e2 i (by omega), e1 i (by omega)]⟩

theorem go_next : ∀ (n : Nat) (stk : List It) (s : State) (leaf : Leaf), (go e n stk s).den = some leaf → s.next ≤ (match leaf with | .done s' => s'.next | .head _ s' => s'.next)
  | 0, _, _, _, h => by cases h
  | n + 1, [], s, leaf, h => by cases h; exact Nat.le_refl _
  | n + 1, .blk id :: k, s, leaf, h => go_next n k s leaf h
  | n + 1, .lp c :: k, s, leaf, h => by cases h; exact Nat.le_refl _
  | n + 1, .cut c :: k, s, leaf, h => by cases h; exact Nat.le_refl _
  | n + 1, .code c :: k, s, leaf, h => by
    cases c <;> simp only [go] at h <;> try (cases h; done)
    case skip => exact go_next n k s leaf h
    case region id ops d =>
      rw [Tr.den_bind] at h
      obtain ⟨r, hr, h⟩ := Option.bind_eq_some_iff.1 h
      have := go_next n k _ leaf h
      simp only at this
      omega
    case seq x y => exact go_next n _ s leaf h
    case cond c x y =>
      split at h
      · rename_i t ht
        have hl := learnO_eq ht
        cases t with
        | true =>
          simp only [Tr.den, hl, if_true] at h
          exact go_next n _ s leaf h
        | false =>
          simp only [Tr.den, hl, Bool.false_eq_true, if_false] at h
          exact go_next n _ s leaf h
      · cases h
    case block id c => exact go_next n _ s leaf h
    case loop c => cases h; exact Nat.le_refl _
    case exit id =>
      split at h
      · exact go_next n _ s leaf h
      · cases h
    case ret => cases h; exact Nat.le_refl _

theorem runM_at (hE : EnvOK P e) (hm : P.follows .mixedOrders = true) {b : Go.Frame} {cs : List Go.Frame} {k : Nat} {keep : Code → Keep} : ∀ (n : Nat) (stk : List It) (s s' : State), (runM e k keep n stk s).den = some s' →
    ∀ ⦃w : World⦄ ⦃ρ : Rho⦄ ⦃ok : Okp⦄ ⦃a : Act⦄, SRelS C w ρ ok a s → k ≤ s.next → At P b cs (lone (b.at a (items (openHead stk))) cs w) C ρ k (.done s')
  | 0, _, _, _, h => by cases h
  | n + 1, stk, s, s', h => by
    intro w ρ ok a hS hk
    unfold runM at h
    rw [Tr.den_bind] at h
    obtain ⟨leaf, hl, h⟩ := Option.bind_eq_some_iff.1 h
    have hA := go_at (b := b) (cs := cs) (k0 := k) hE hm fuel (openHead stk) s leaf hl hS hk
    have hN := go_next fuel (openHead stk) s leaf hl
    cases leaf with
    | done s1 =>
      cases h
      exact hA
    | head stk1 s1 =>
      obtain ⟨a1, w1, ρ1, ok1, h1, h2, h3⟩ := hA
      cases stk1 with
      | nil => cases h
      | cons x k' =>
        cases x with
        | code c =>
          obtain ⟨ρ2, ok2, h4, h5, h6⟩ := canon_rel (k := k) (keep c) (by simp only at hN; omega) h2
          exact (runM_at hE hm n (.code c :: k') _ s' h h4 h5).of h1 fun i hi => by rw [h6 i hi, h3 i hi]
        | cut c => cases h
        | blk id => cases h
        | lp c =>
          obtain ⟨ρ2, ok2, h4, h5, h6⟩ := canon_rel (k := k) (keep c) (by simp only at hN; omega) h2
          exact (runM_at hE hm n (.lp c :: k') _ s' h h4 h5).of h1 fun i hi => by rw [h6 i hi, h3 i hi]

/-! ### A function's end -/
def resRun (a : Act) : ResultVar → Sem Value
  | .tmp t => pure (a.tmps.getD t undef)
  | .cell b t => do loadVar t (← asAddr (a.tmps.getD b undef))
theorem resOne_rel (hE : EnvOK P e) {w : World} {ρ : Rho} {ok : Okp} {a : Act} {s : State} (h : SRelS C w ρ ok a s) {rv : ResultVar} {p : Bool × List Sc} (hr : resOne e s rv = some p) :
    ∃ v, (resRun a rv).run P w = .ok v w ∧ PRel w ρ ok v p := by
  cases rv with
  | tmp t =>
    simp only [resOne] at hr
    refine ⟨_, rfl, ?_⟩
    have hv := h.t.tm t
    split at hr
    · cases hr
    · rename_i x hx0 hx
      cases hr
      rw [hx] at hv
      generalize a.tmps.getD t undef = cv at hv
      cases hv with
      | any v => exact absurd rfl hx0
      | one v s hs => exact .inr ⟨rfl, _, rfl, hs⟩
    · rename_i l hx
      cases hr
      rw [hx] at hv
      generalize a.tmps.getD t undef = cv at hv
      cases hv with
      | agg vs l hs => exact .inl ⟨rfl, vs, rfl, hs⟩
    · cases hr
  | cell b t =>
    simp only [resOne] at hr
    split at hr
    · rename_i id off ti hx hti
      obtain ⟨l, hl, hl'⟩ := Option.bind_eq_some_iff.1 hr
      split at hl'
      case isFalse => cases hl'
      rename_i hcond
      cases hl'
      have hv := h.t.tm b
      rw [hx] at hv
      obtain ⟨blk, hcv, hb⟩ := ptr_rel hv
      obtain ⟨us, u1, u2, u3, _⟩ := cellsAt_rel h.c.toHRel id blk hb _ _ _ hl
      have hT := hE.types t ti hti
      have hn : ti.isAgg = false → ti.size = 1 := fun ha => by simpa [ha] using hcond
      have hrun := run_loadVar hT w blk off us u1 u3 hn
      refine ⟨if ti.isAgg then .agg us.toArray else us.getD 0 undef, ?_, ?_⟩
      · show (do loadVar t (← asAddr (a.tmps.getD b undef)) : Sem Value).run P w = _
        rw [hcv]
        simp [asAddr, hrun]
      · cases ha : ti.isAgg with
        | true => exact .inl ⟨rfl, us.toArray, rfl, by simpa using u2⟩
        | false =>
          have h1 := hn ha
          rw [h1] at u1
          match us, l, u1, u2 with
          | [u], [s0], _, u2 => exact .inr ⟨rfl, s0, rfl, u2.1⟩
          | [u], [], _, u2 => exact u2.elim
          | [u], _ :: _ :: _, _, u2 => exact u2.2.elim
    · cases hr
theorem resAll_rel (hE : EnvOK P e) {w : World} {ρ : Rho} {ok : Okp} {a : Act} {s : State} (h : SRelS C w ρ ok a s) : ∀ {l : List ResultVar} {ps : List (Bool × List Sc)}, resAll e s l = some ps →
    ∃ vs : List Value, (l.mapM (resRun a)).run P w = .ok vs w ∧ All2 (PRel w ρ ok) vs ps
  | [], ps, hr => by
    cases hr
    exact ⟨[], rfl, trivial⟩
  | x :: r, ps, hr => by
    unfold resAll at hr
    split at hr
    · rename_i p l hp hl
      cases hr
      obtain ⟨v, h1, h2⟩ := resOne_rel hE h hp
      obtain ⟨vs, h3, h4⟩ := resAll_rel hE h hl
      refine ⟨v :: vs, ?_, h2, h4⟩
      rw [List.mapM_cons, Sem.run_bind, h1, Result.andThen_ok, Sem.run_bind, h3]
      rfl
    · cases hr
theorem results_rel (hE : EnvOK P e) {w : World} {ρ : Rho} {ok : Okp} {a : Act} {s : State} (h : SRelS C w ρ ok a s) {fn : Func} {v : AV} (hr : resAV e s fn.results.toList = some v) :
    ∃ cv, (results fn a.tmps).run P w = .ok cv w ∧ VRel w ρ ok cv v := by
  unfold resAV at hr
  cases hl : resAll e s fn.results.toList with
  | none => rw [hl] at hr; cases hr
  | some ps =>
    rw [hl] at hr
    obtain ⟨vs, h1, h2⟩ := resAll_rel hE h hl
    have hrun : (results fn a.tmps).run P w = .ok (if h : vs.toArray.size = 1 then vs.toArray[0] else .tuple vs.toArray) w := by
      have hres : results fn a.tmps = (do let vs ← fn.results.mapM (resRun a); pure (if h : vs.size = 1 then vs[0] else .tuple vs)) := by
        unfold results
        congr 1
      rw [hres, Sem.run_bind, Array.mapM_eq_mapM_toList, Sem.run_map, h1]
      rfl
    match ps, vs, h2, hr, hrun with
    | [p], [v1], h2, hr, hrun =>
      refine ⟨v1, by rw [hrun]; simp, ?_⟩
      simp only at hr
      obtain ⟨pa, pl⟩ := p
      rcases h2.1 with ⟨q1, us, q2, q3⟩ | ⟨q1, s0, q2, q3⟩
      · simp only at q1 q3; subst q1 q2
        simp [mkAV] at hr; subst hr
        exact .agg _ _ q3
      · simp only at q1 q2; subst q1 q2
        simp [mkAV] at hr; subst hr
        exact .one _ _ q3
    | [], [], h2, hr, hrun =>
      cases hr
      exact ⟨.tuple #[], by rw [hrun]; simp, .tup _ _ trivial⟩
    | p :: p' :: r, v1 :: v2 :: r', h2, hr, hrun =>
      cases hr
      refine ⟨.tuple (v1 :: v2 :: r').toArray, by rw [hrun]; simp, .tup _ _ (by simpa using h2)⟩
    | [p], _ :: _ :: _, h2, _, _ => exact h2.2.elim
    | _ :: _ :: _, [_], h2, _, _ => exact h2.2.elim
    | [], _ :: _, h2, _, _ => exact h2.elim
    | _ :: _, [], h2, _, _ => exact h2.elim

/-- What does not borrow needs what lasts alone. -/
theorem enc_noBor (E : K) (x : D E) : ∀ s ∈ enc E x, noBor [s] = true := by
  cases E <;> (intro s hs; simp only [enc, List.mem_cons, List.not_mem_nil, or_false] at hs) <;> (rcases hs with rfl | rfl | rfl | rfl | rfl | rfl | rfl | rfl | rfl | rfl) <;> rfl
theorem noBor_one {w : World} {ρ : Rho} {ok : Okp} {v : Value} {s : Sc} (h : SRel w ρ ok v s) : noBor [s] = true → SRel w ρ (fun _ b => ok false b) v s := by
  induction h with
  | undef v h => intro _; exact .undef v h
  | int k n => intro _; exact .int k n
  | bool b => intro _; exact .bool b
  | nils => intro _; exact .nils
  | vec0 b E A cap => intro _; exact .vec0 b E A cap
  | vec b E xs blk off cap U hc hok hcell hrel ih =>
    intro hs
    have hb : b = false := by simpa [noBor] using hs
    subst hb
    refine .vec false E xs blk off cap U hc hok hcell fun k s hk => ih k s hk ?_
    obtain ⟨x, _, hx⟩ := List.mem_flatMap.1 (List.mem_of_getElem? hk)
    exact enc_noBor E x s hx
  | row id A n cap h => intro _; exact .row id A n cap h
  | ptr id off b h => intro _; exact .ptr id off b h
  | eptr id E i off b n cap h h0 h1 => intro hs; simp [noBor] at hs
  | vptr b E xs i off blk o U hok h0 h1 hcell hrel ih => intro hs; simp [noBor] at hs
  | mp id b h => intro _; exact .mp id b h
theorem noBor_cons {s : Sc} {l : List Sc} (h : noBor (s :: l) = true) : noBor [s] = true ∧ noBor l = true := by
  cases s <;> simp_all [noBor]
theorem noBor_append {l l' : List Sc} (h : noBor (l ++ l') = true) : noBor l = true ∧ noBor l' = true := by
  induction l with
  | nil => exact ⟨rfl, h⟩
  | cons s l ih =>
    obtain ⟨h1, h2⟩ := noBor_cons (s := s) (l := l ++ l') h
    obtain ⟨h3, h4⟩ := ih h2
    refine ⟨?_, h4⟩
    cases s <;> simp_all [noBor]
theorem noBor_mem {l : List Sc} (h : noBor l = true) : ∀ s ∈ l, noBor [s] = true := by
  induction l with
  | nil => intro s hs; simp at hs
  | cons x l ih =>
    intro s hs
    obtain ⟨h1, h2⟩ := noBor_cons h
    rcases List.mem_cons.1 hs with rfl | hs
    · exact h1
    · exact ih h2 s hs
theorem noBor_all {w : World} {ρ : Rho} {ok : Okp} : ∀ {us : List Value} {l : List Sc}, All2 (SRel w ρ ok) us l → noBor l = true → All2 (SRel w ρ fun _ b => ok false b) us l
  | [], [], _, _ => trivial
  | u :: us, s :: l, h, hn => ⟨noBor_one h.1 (noBor_cons hn).1, noBor_all h.2 (noBor_cons hn).2⟩
  | [], _ :: _, h, _ => h.elim
  | _ :: _, [], h, _ => h.elim
theorem noBor_av {w : World} {ρ : Rho} {ok : Okp} {v : Value} {a : AV} (h : VRel w ρ ok v a) (hn : noBor a.all = true) : VRel w ρ (fun _ b => ok false b) v a := by
  cases h with
  | any v => exact .any v
  | one v s h => exact .one v s (noBor_one h hn)
  | agg vs l h => exact .agg vs l (noBor_all h hn)
  | tup vs l h =>
    refine .tup vs l ?_
    simp only [AV.all] at hn
    generalize vs.toList = us at h ⊢
    clear vs
    induction l generalizing us with
    | nil => cases us with
      | nil => trivial
      | cons _ _ => exact h.elim
    | cons p l ih => cases us with
      | nil => exact h.elim
      | cons u us =>
        rw [List.flatMap_cons] at hn
        obtain ⟨h1, h2⟩ := noBor_append hn
        refine ⟨?_, ih h2 us h.2⟩
        rcases h.1 with ⟨q1, us', q2, q3⟩ | ⟨q1, s, q2, q3⟩
        · exact .inl ⟨q1, us', q2, noBor_all q3 h1⟩
        · exact .inr ⟨q1, s, q2, noBor_one q3 (by rw [q2] at h1; exact h1)⟩

theorem obs_noBor {obs : List Ob} (h : obs.all noBorOb = true) {id off : Nat} {s : Sc} (hg : (initMem 0 obs).get (id, off) = some (.cell s)) : noBor [s] = true := by
  have h0 := get_initMem obs 0 id off
  rw [Nat.zero_add, hg] at h0
  cases ho : obs[id]? with
  | none => rw [ho] at h0; cases h0
  | some ob =>
    rw [ho] at h0
    have hb := List.all_eq_true.1 h ob (List.mem_of_getElem? ho)
    cases ob with
    | box l =>
      simp only [obGet] at h0
      cases hl : l[off]? with
      | none => rw [hl] at h0; cases h0
      | some s' =>
        rw [hl] at h0
        have : s' = s := by simpa using h0.symm
        subst this
        exact noBor_mem hb _ (List.mem_of_getElem? hl)
    | rows E xs => cases off <;> cases h0
    | keys xs => cases off <;> cases h0
    | dead => cases h0

/-- A function's body does what the machine tells. -/
theorem evalF_ok (hE : EnvOK P e) (hm : P.follows .mixedOrders = true) {f : FuncId} {fn : Func} (hf : P.funcs[f]? = some fn) {keep : Code → Keep} {n : Nat} {w : World} {ρ : Rho} {ok : Okp} {vs : List Value} {as : List AV} {obs : List Ob} {r : AV} {os : List Ob}
    (hH : HRel w ρ ok (initMem 0 obs).get) (hρ : ∀ i, obs.length ≤ i → ρ i = none) (hv : All2 (VRel w ρ ok) vs as) (hs : (evalF e fn keep n as obs).den = some (r, os)) :
    Calls P f vs.toArray w fun e w' => ∃ v ρ' okf, e = .returned v ∧ CallPost w ρ ok obs w' ρ' okf os ∧ VRel w' ρ' (fun _ b => okf b) v r := by
  unfold evalF at hs
  split at hs
  · cases hs
  · rename_i c hb
    rw [Tr.den_bind] at hs
    obtain ⟨s', hrun, hs⟩ := Option.bind_eq_some_iff.1 hs
    let C : Ctx := ⟨w, handedBlocks obs ρ, ok⟩
    have hC : CRel C w ρ ok (initMem 0 obs).get := { toHRel := hH, own := fun l b hl => .inr ⟨l, hl⟩, ok0 := fun _ _ hb => hb, okn := fun b hb => .inl hb, fr := ⟨rfl, rfl, rfl, Nat.le_refl _, fun _ _ _ => rfl⟩ }
    have hlen := hv.length
    have hT : TRel w ρ ok { tmps := vs.toArray ++ Array.replicate (fn.ntmps - vs.toArray.size) undef, defers := [] } (initTmps fn.ntmps as) := by
      refine ⟨rfl, by simp [initTmps, hlen], fun t => ?_⟩
      unfold initTmps
      simp only [Array.getD_eq_getD_getElem?, List.getD_eq_getElem?_getD]
      by_cases ht : t < vs.length
      · rw [Array.getElem?_append_left (by simpa using ht), List.getElem?_append_left (by omega)]
        obtain ⟨a, ha, hr⟩ := hv.get (j := t) (b := as[t]'(by omega)) (by simp)
        have ha' : vs[t]? = some a := ha
        rw [List.getElem?_toArray, ha', List.getElem?_eq_getElem (by omega)]
        exact hr
      · rw [List.getElem?_append_right (by omega)]
        have : ((List.replicate (fn.ntmps - as.length) (AV.one .undef))[t - as.length]?).getD (.one .undef) = .one .undef := by
          rw [List.getElem?_replicate]
          split <;> rfl
        rw [this]
        exact .any _
    have hS : SRelS C w ρ ok { tmps := vs.toArray ++ Array.replicate (fn.ntmps - vs.toArray.size) undef, defers := [] } ⟨initTmps fn.ntmps as, initMem 0 obs, obs.length⟩ := ⟨hC, hT, hρ⟩
    intro cs
    let b : Go.Frame := { (default : Go.Frame) with fn := f, kind := .normal }
    have henter : Frame.enter P f vs.toArray .normal = b.at { tmps := vs.toArray ++ Array.replicate (fn.ntmps - vs.toArray.size) undef, defers := [] } [.code c] := by
      simp [Frame.enter, Go.Frame.at, hf, hb, b]
    have hA := runM_at (b := b) (cs := cs) (k := obs.length) hE hm n _ _ _ hrun hS (Nat.le_refl _)
    obtain ⟨a1, w1, ρ1, ok1, ⟨todo, hst⟩, h1, h2⟩ := hA
    unfold finish at hs
    split at hs
    · cases hs
    · rename_i v hres
      dsimp only at hs
      generalize hids : outIds s'.mem.get obs.length v.all = ids at hs
      have hnd : ids.Nodup := hids ▸ outIds_nodup _ _ _
      have hpre : ∀ i, i < obs.length → ids[i]? = some i := fun i hi => hids ▸ outIds_get _ _ _ hi
      split at hs
      case isFalse => cases hs
      rename_i hnb
      obtain ⟨nb1, nb2⟩ := hnb
      cases hs
      obtain ⟨cv, hcv, hvr⟩ := results_rel hE h1 hres
      obtain ⟨c1, c2, c3⟩ := h1.c.renew hnd
      have hst' : Steps P (lone (Frame.enter P f vs.toArray .normal) cs w) (lone { b.at a1 todo with mode := .returning } cs w1) := by
        rw [henter]; exact hst
      refine ⟨.returned cv, w1, _, ⟨cv, renRho ids ρ1, fun b => ok1 false b, rfl, ?_, (noBor_av hvr nb1).ren c2 (fun _ _ hb => hb)⟩, hst', rfl, rfl, h1.t.defers, rfl, fn, hf, hcv⟩
      have hh := c1.toHRel
      refine { heap := ?_, rho := fun i v0 hi hv0 => by rw [renRho_get (hpre i hi), h2 i hi, hv0], okn := fun b hb => c1.okn b hb, own := fun l b hl => c1.own l b hl, fr := c1.fr }
      refine { cells := fun id off s hc => ?_, rows := fun id off E xs hc => ?_, keys := hh.keys, dist := hh.dist, oks := fun x b hb => hh.oks false b hb, cont := hh.cont }
      · obtain ⟨b, v, q1, q2, q3, q4⟩ := hh.cells id off s hc
        exact ⟨b, v, q1, q2, q3, noBor_one q4 (obs_noBor nb2 hc)⟩
      · obtain ⟨q1, v, q2, A, cap, q3, q4, q5⟩ := hh.rows id off E xs hc
        refine ⟨q1, v, q2, A, cap, q3, q4, q5.imp (fun q => q) fun ⟨b, T, cur, r1, r2, r3, r4⟩ => ⟨b, T, cur, r1, r2, r3, All2.of_get r4.length fun j a s ha hs => ?_⟩⟩
        obtain ⟨a', ha', hr⟩ := r4.get hs
        rw [ha] at ha'
        cases ha'
        refine noBor_one hr ?_
        obtain ⟨x, _, hx⟩ := List.mem_flatMap.1 (List.mem_of_getElem? hs)
        exact enc_noBor E x s hx
end
end Go.Proofs.Ytipfipnhgpbceaa.Sx
/- The symbolic machine: a table of types, checked (plain theorems). -/


set_option linter.unusedVariables false
set_option linter.unusedSimpArgs false
namespace Go.Proofs.Ytipfipnhgpbceaa.Sx
open Go Go.RowKit

def zrelB : Value → Sc → Bool
  | .int k n, .int k' n' => decide (k = k') && n == n'
  | .bool b, .bool b' => b == b'
  | .slice none 0 0, .nils => true
  | .slice _ 0 _, .vec _ _ [] => true
  | _, _ => false
def zrelAll : List Value → List Sc → Bool
  | [], [] => true
  | v :: vs, s :: l => zrelB v s && zrelAll vs l
  | _, _ => false
theorem zrelB_ok {v : Value} {s : Sc} (h : zrelB v s = true) : ZRel v s := by
  intro w ρ ok
  unfold zrelB at h
  split at h
  · simp only [Bool.and_eq_true, decide_eq_true_eq, beq_iff_eq] at h
    obtain ⟨rfl, rfl⟩ := h
    exact .int _ _
  · simp only [beq_iff_eq] at h
    subst h
    exact .bool _
  · exact .nils
  · exact .vec0 _ _ _ _
  · cases h
theorem zrelAll_ok : ∀ {vs : List Value} {l : List Sc}, zrelAll vs l = true → All2 ZRel vs l
  | [], [], _ => trivial
  | v :: vs, s :: l, h => by
    simp only [zrelAll, Bool.and_eq_true] at h
    exact ⟨zrelB_ok h.1, zrelAll_ok h.2⟩
  | [], _ :: _, h => by cases h
  | _ :: _, [], h => by cases h

def sameFields : List Field → List (Nat × TypeId) → Bool
  | [], [] => true
  | f :: fs, (o, t) :: r => f.offset == o && f.type == t && sameFields fs r
  | _, _ => false
theorem sameFields_ok : ∀ {F : List Field} {l : List (Nat × TypeId)}, sameFields F l = true → F.map (fun f => (f.offset, f.type)) = l
  | [], [], _ => rfl
  | f :: fs, (o, t) :: r, h => by
    simp only [sameFields, Bool.and_eq_true, beq_iff_eq] at h
    rw [List.map_cons, h.1.1, h.1.2, sameFields_ok h.2]
  | [], _ :: _, h => by cases h
  | _ :: _, [], h => by cases h
def kokB (P : Program) (d : TypeDesc) : TK → Bool
  | .scal z => !aggD d && (match z with | .int k _ => (match d with | .int k' => decide (k = k') | _ => false) | .bool _ => (match d with | .bool => true | _ => false) | _ => true)
  | .strct fs => match d with
    | .struct F => sameFields F.toList fs && F.toList.all fun f => (P.info? f.type).isSome
    | _ => false
  | .slc E => match d with
    | .slice el => match P.info? el with
      | some ie => ie.size == esize E && decide (ie.bytes ≤ 128) && (match ie.zero with | some z => zrelAll z.cells.toList (enc E (dflt E)) | none => false)
      | none => false
    | _ => false
  | .arr n el => match d with
    | .array n' el' => n == n' && el == el'
    | _ => false
def tokB (P : Program) (t : TypeId) (ti : TI) : Bool :=
  match P.info? t, P.underlying t with
  | some i, some d => i.size == ti.size && (match i.zero with | some z => zrelAll z.cells.toList ti.zero | none => false) && kokB P d ti.kind
  | _, _ => false
theorem tokB_ok {P : Program} {t : TypeId} {ti : TI} (h : tokB P t ti = true) : TOK P t ti := by
  unfold tokB at h
  split at h
  · rename_i i d hi hd
    simp only [Bool.and_eq_true, beq_iff_eq] at h
    obtain ⟨⟨h1, h2⟩, h3⟩ := h
    split at h2
    · rename_i z hz
      refine ⟨⟨i, z, hi, h1, hz, zrelAll_ok h2⟩, ?_⟩
      unfold kokB at h3
      unfold KOK
      split at h3
      · rename_i z' hk
        rw [hk]
        simp only [Bool.and_eq_true, Bool.not_eq_true'] at h3
        refine ⟨d, hd, h3.1, fun k n e0 => ?_, fun b e0 => ?_⟩
        · subst e0
          have h4 := h3.2
          dsimp only at h4
          split at h4
          · rw [of_decide_eq_true h4]
          · cases h4
        · subst e0
          have h4 := h3.2
          dsimp only at h4
          split at h4
          · rfl
          · cases h4
      · rename_i fs hk
        rw [hk]
        split at h3
        · rename_i F
          simp only [Bool.and_eq_true] at h3
          exact ⟨F, hd, sameFields_ok h3.1, fun f hf => List.all_eq_true.1 h3.2 f (by simpa using hf)⟩
        · cases h3
      · rename_i E hk
        rw [hk]
        split at h3
        · rename_i el
          split at h3
          · rename_i ie hie
            simp only [Bool.and_eq_true, beq_iff_eq, decide_eq_true_eq] at h3
            obtain ⟨⟨h4, h5⟩, h6⟩ := h3
            split at h6
            · rename_i z' hz'
              exact ⟨el, ie, z', hd, hie, h4, h5, hz', zrelAll_ok h6⟩
            · cases h6
          · cases h3
        · cases h3
      · rename_i n el hk
        rw [hk]
        split at h3
        · rename_i n' el'
          simp only [Bool.and_eq_true, beq_iff_eq] at h3
          obtain ⟨rfl, rfl⟩ := h3
          exact hd
        · cases h3
    · cases h2
  · cases h

def lookT (l : List (TypeId × TI)) : TT := fun t => match l with
  | [] => none
  | (t', ti) :: r => if t' == t then some ti else lookT r t
theorem lookT_ok {P : Program} : ∀ {l : List (TypeId × TI)}, (l.all fun p => tokB P p.1 p.2) = true → ∀ t ti, lookT l t = some ti → TOK P t ti
  | [], _, t, ti, h => by cases h
  | (t', ti') :: r, hl, t, ti, h => by
    rw [List.all_cons, Bool.and_eq_true] at hl
    unfold lookT at h
    split at h
    · rename_i he
      cases h
      have : t' = t := by simpa using he
      subst this
      exact tokB_ok hl.1
    · exact lookT_ok hl.2 t ti h

/-! ### '==' of structs -/
section
variable {P : Program} {d : Nat} {xs ys : Array Value} {f : Field} {fs : List Field} {a b : Value} {r s : Bool} {w : World}
theorem eqf_cons (hn : (f.name == "_") = false) (ha : (part f.type xs f.offset).run P w = .ok a w) (hb : (part f.type ys f.offset).run P w = .ok b w) (he : (Op.equalIn d f.type a b).run P w = .ok r w) (hr : (Op.eqFields d xs ys fs).run P w = .ok s w) : (Op.eqFields d xs ys (f :: fs)).run P w = .ok (r && s) w := by
  have hn' : f.name ≠ "_" := by simpa using hn
  rw [Op.eqFields]
  simp only [if_pos hn', Sem.run_bind, ha, hb, he, Result.andThen_ok]
  cases r
  · simp
  · simpa using hr
theorem eqf_nil : (Op.eqFields d xs ys []).run P w = .ok true w := by simp [Op.eqFields]
theorem eqA_of {t : TypeId} {fs : Array Field} (hu : P.underlying t = some (.struct fs)) (hp : P.stoodInHeld t = false) (h : (Op.eqFields d xs ys fs.toList).run P w = .ok r w) : (Op.equalIn (d + 1) t (.agg xs) (.agg ys)).run P w = .ok r w := by
  have hf : P.fieldsOf t = fs := by simp [Program.fieldsOf, hu]
  rw [run_equalIn_struct (P := P) w d t xs ys (by rw [hf]; exact hu) hp, hf]
  exact h
theorem eq_int {t : TypeId} {k : IntKind} (hu : P.underlying t = some (.int k)) (x y : Int) (w : World) : (Op.equalIn (d + 1) t (.int k x) (.int k y)).run P w = .ok (x == y) w := by
  simp [Op.equalIn, run_underlying hu]
end

/-! ### The contracts that a function may use -/
def lookF (l : List (FuncId × Spec)) : FuncId → Option Spec := fun f => match l with
  | [] => none
  | (f', sp) :: r => if f' == f then some sp else lookF r f
def FnsOK (P : Program) : List (FuncId × Spec) → Prop
  | [] => True
  | (f, sp) :: r => (SpecOK P f sp ∧ FnOK P f) ∧ FnsOK P r
theorem lookF_ok {P : Program} : ∀ {l : List (FuncId × Spec)}, FnsOK P l → ∀ f sp, lookF l f = some sp → SpecOK P f sp ∧ FnOK P f
  | [], _, f, sp, h => by cases h
  | (f', sp') :: r, hl, f, sp, h => by
    unfold lookF at h
    split at h
    · rename_i he
      cases h
      have : f' = f := by simpa using he
      subst this
      exact hl.1
    · exact lookF_ok hl.2 f sp h
theorem specOK_of {P : Program} {e : Env} (hE : EnvOK P e) (hm : P.follows .mixedOrders = true) {f : FuncId} {fn : Func} (hf : P.funcs[f]? = some fn) (keep : Code → Keep) {sp : Spec}
    (h : ∀ as obs r os, (sp.run as obs).den = some (r, os) → ∃ n, (evalF e fn keep n as obs).den = some (r, os)) : SpecOK P f sp := by
  intro w ρ ok vs as obs r os hH hρ hv hs
  obtain ⟨n, hn⟩ := h as obs r os hs
  exact evalF_ok hE hm hf hH hρ hv hn
theorem fnOK_of {P : Program} {f : FuncId} {fn : Func} (hf : P.funcs[f]? = some fn) (hb : fn.body.isNone = false) (hn : (fn.name == "runtime.NumGoroutine") = false) : FnOK P f := ⟨fn, hf, hb, hn⟩

/-! ### What is kept at loops' heads -/
def keepOf (l : List (Nat × Keep)) (c : Code) : Keep :=
  match ridOf c with
  | none => ⟨[], [], []⟩
  | some i => look i l
where look (i : Nat) : List (Nat × Keep) → Keep
  | [] => ⟨[], [], []⟩
  | (j, k) :: r => if j == i then k else look i r
/-- What is left to do at a loop that is found on a way through the code. -/
def stkAt : List Nat → Code → List It → List It
  | [], .loop c, k => .lp c :: k
  | [], c, k => .code c :: k
  | 0 :: p, .seq a b, k => stkAt p a (.code b :: k)
  | _ :: p, .seq _ b, k => stkAt p b k
  | 0 :: p, .cond _ a _, k => stkAt p a k
  | _ :: p, .cond _ _ b, k => stkAt p b k
  | _ :: p, .block id c, k => stkAt p c (.blk id :: k)
  | _ :: p, .loop c, k => stkAt p c (.lp c :: k)
  | _ :: _, c, k => .code c :: k
def bodyF (fn : Func) : Option Code := fn.body
noncomputable def stkF (fn : Func) (p : List Nat) : List It := match fn.body with | some c => stkAt p c [] | none => []
end Go.Proofs.Ytipfipnhgpbceaa.Sx
/- A statement's arguments, opened; and handed back (plain theorems). -/







set_option linter.unusedVariables false
set_option linter.unusedSimpArgs false
namespace Go.Proofs.Ytipfipnhgpbceaa.Sx
open Go Go.ChangeShapes Go.WideShapes Go.RowKit

def okW (W : World) : Okp := fun _ b => b < W.heap.size
def rho0 : Rho := fun _ => none

section
variable {P : Program}
/-- What a type's cells are, read as data. -/
def Opens (P : Program) (t : TypeId) (R : List Sc → Prop) : Prop :=
  ∀ (H : Type) (enc : TypeId × Value → H) (W : World) (fuel : Nat) (cs : List Value) (x : DataW H × List MemPlace),
    DataW.trod enc P W 0 (fun _ => true) true fuel t cs = some x → ∃ l, R l ∧ All2 (SRel W rho0 (okW W)) cs l
def isInt (k : IntKind) (l : List Sc) : Prop := ∃ n, l = [.int k n] ∧ (Lit.int k n).wf = true
def isBool (l : List Sc) : Prop := ∃ b, l = [.bool b]
def isVec (E : K) (Q : D E → Prop) (l : List Sc) : Prop := ∃ xs : List (D E), l = [.vec false E xs] ∧ ∀ x ∈ xs, Q x
def RAll : List (List Sc → Prop) → List Sc → Prop
  | [], l => l = []
  | R :: Rs, l => ∃ a b, l = a ++ b ∧ R a ∧ RAll Rs b
def FieldsOK (P : Program) (tot : Nat) : Nat → List Field → List (List Sc → Prop) → Prop
  | off, [], [] => off = tot
  | off, f :: fs, R :: Rs => f.offset = off ∧ Opens P f.type R ∧ FieldsOK P tot (off + P.cellsOf f.type) fs Rs
  | _, _, _ => False

theorem opens_int {t : TypeId} {k : IntKind} (ht : P.underlying t = some (.int k)) : Opens P t (isInt k) := by
  intro H enc W fuel cs x h
  obtain ⟨n, rfl, _, hw⟩ := DataW.trod_int ht h
  exact ⟨[.int k n], ⟨n, rfl, hw⟩, .int _ _, trivial⟩
theorem opens_bool {t : TypeId} (ht : P.underlying t = some .bool) : Opens P t isBool := by
  intro H enc W fuel cs x h
  obtain ⟨b, rfl, _⟩ := DataW.trod_bool ht h
  exact ⟨[.bool b], ⟨b, rfl⟩, .bool _, trivial⟩

theorem fields_open {H : Type} {enc : TypeId × Value → H} {W : World} {n tot : Nat} {cs : List Value} : ∀ {fs : List Field} {Rs : List (List Sc → Prop)} {off : Nat}, FieldsOK P tot off fs Rs → cs.length = tot →
    (∀ f ∈ fs, ∃ x, DataW.trod enc P W 0 (fun _ => true) true n f.type ((cs.drop f.offset).take (P.cellsOf f.type)) = some x) → ∃ l, RAll Rs l ∧ All2 (SRel W rho0 (okW W)) (cs.drop off) l
  | [], [], off, h, hl, _ => by
    have h' : off = tot := h
    exact ⟨[], rfl, by rw [List.drop_of_length_le (by omega)]; trivial⟩
  | f :: fs, R :: Rs, off, h, hl, hf => by
    obtain ⟨h1, h2, h3⟩ := h
    obtain ⟨x, hx⟩ := hf f (by simp)
    rw [h1] at hx
    obtain ⟨a, ha, hra⟩ := h2 _ _ _ _ _ _ hx
    obtain ⟨b, hb, hrb⟩ := fields_open h3 hl (fun g hg => hf g (by simp [hg]))
    refine ⟨a ++ b, ⟨a, b, rfl, ha, hb⟩, ?_⟩
    have : cs.drop off = (cs.drop off).take (P.cellsOf f.type) ++ cs.drop (off + P.cellsOf f.type) := by
      rw [← List.drop_drop, List.take_append_drop]
    rw [this]
    exact hra.append hrb
  | [], _ :: _, _, h, _, _ => h.elim
  | _ :: _, [], _, h, _, _ => h.elim
theorem opens_struct {t : TypeId} {fs : Array Field} {Rs : List (List Sc → Prop)} (ht : P.underlying t = some (.struct fs)) (hf : FieldsOK P (P.cellsOf t) 0 fs.toList Rs) : Opens P t (RAll Rs) := by
  intro H enc W fuel cs x h
  obtain ⟨xs, n, rfl, rfl, hl, hx, hall⟩ := DataW.trod_struct ht h
  have := fields_open (enc := enc) (W := W) (n := n) hf hl (fun f hf => by
    obtain ⟨i, hi⟩ := List.getElem?_of_mem hf
    have h1 : fs[i]? = some f := by simpa using hi
    have h2 := hall i f h1
    have h3 : i < xs.length := by rw [hx]; exact (Array.getElem?_eq_some_iff.1 h1).1
    rw [List.getElem?_eq_getElem h3] at h2
    exact ⟨_, h2⟩)
  simpa using this
theorem opens_imp {t : TypeId} {R R' : List Sc → Prop} (h : Opens P t R) (hi : ∀ l, R l → R' l) : Opens P t R' :=
  fun H enc W fuel cs x hx => by obtain ⟨l, h1, h2⟩ := h H enc W fuel cs x hx; exact ⟨l, hi l h1, h2⟩

theorem cells?_get {W : World} {a : Addr} {n : Nat} {cs : List Value} (h : W.cells? 0 a n = some cs) : cs.length = n ∧ ∀ i, i < n → W.cell? (a.add i) = cs[i]? := by
  obtain ⟨_, h1, h2⟩ := World.cells?_some h
  exact ⟨h1, h2⟩
theorem All2.idx {α β : Type} {R : α → β → Prop} : ∀ {as : List α} {bs : List β}, All2 R as bs → ∀ (j : Nat) (d : α) (b : β), bs[j]? = some b → R (as.getD j d) b
  | as, bs, h, j, d, b, hb => by
    obtain ⟨a, ha, hr⟩ := h.get hb
    rw [List.getD_eq_getElem?_getD, ha]
    exact hr

/-- A slice whose elements open. -/
theorem opens_slice {t e : TypeId} {E : K} {Q : D E → Prop} (ht : P.underlying t = some (.slice e)) (hc : P.cellsOf e = esize E) (he : Opens P e (fun l => ∃ x : D E, l = enc E x ∧ Q x)) : Opens P t (isVec E Q) := by
  intro H en W fuel cs x h
  rcases DataW.trod_slice ht h with ⟨rfl, _⟩ | ⟨a, len, cap, elems, rest, n, rfl, rfl, _, _, hlc, _, hel, hall, _, _⟩
  · exact ⟨[.vec false E []], ⟨[], rfl, fun _ hx => by simp at hx⟩, .vec0 _ _ _ _, trivial⟩
  · rw [hc] at hall
    -- each element's cells, and what they hold
    have key : ∀ i, i < len → ∃ (cl : List Value) (d : D E), cl.length = esize E ∧ (∀ j, j < esize E → W.cell? ((a.add (i * esize E)).add j) = cl[j]?) ∧ Q d ∧ All2 (SRel W rho0 (okW W)) cl (enc E d) := by
      intro i hi
      have h1 := hall i hi
      rw [List.getElem?_eq_getElem (by omega)] at h1
      obtain ⟨cl, h2, h3⟩ := Option.bind_eq_some_iff.1 h1
      obtain ⟨g1, g2⟩ := cells?_get h2
      obtain ⟨l, ⟨d, rfl, hq⟩, hr⟩ := he _ _ _ _ _ _ h3
      exact ⟨cl, d, g1, g2, hq, hr⟩
    by_cases h0 : len = 0
    · subst h0
      exact ⟨[.vec false E []], ⟨[], rfl, fun _ hx => by simp at hx⟩, .vec0 _ _ _ _, trivial⟩
    obtain ⟨blk, off, spot⟩ := a
    have hspot : spot = none := by
      obtain ⟨cl, d, g1, g2, _⟩ := key 0 (by omega)
      have hp := esize_pos E
      have h5 := g2 0 hp
      rw [List.getElem?_eq_getElem (by omega)] at h5
      simpa [Addr.add] using World.cell?_spot h5
    subst hspot
    have hblk : blk < W.heap.size := by
      obtain ⟨cl, d, g1, g2, _⟩ := key 0 (by omega)
      have hp := esize_pos E
      have h5 := g2 0 hp
      rw [List.getElem?_eq_getElem (by omega)] at h5
      simpa [Addr.add] using World.block_lt_of_cell? _ _ h5
    have key2 : ∀ i : Nat, ∃ (d : D E), i < len → Q d ∧ ∃ cl : List Value, cl.length = esize E ∧ (∀ j, j < esize E → W.cell? ⟨blk, off + (i * esize E + j), none⟩ = cl[j]?) ∧ All2 (SRel W rho0 (okW W)) cl (enc E d) := by
      intro i
      by_cases hi : i < len
      · obtain ⟨cl, d, g1, g2, g3, g4⟩ := key i hi
        exact ⟨d, fun _ => ⟨g3, cl, g1, fun j hj => by have := g2 j hj; rwa [add_plain, add_plain, Nat.add_assoc] at this, g4⟩⟩
      · exact ⟨dflt E, fun h => absurd h hi⟩
    let dd : Nat → D E := fun i => Classical.choose (key2 i)
    have hdd : ∀ i, i < len → Q (dd i) ∧ ∃ cl : List Value, cl.length = esize E ∧ (∀ j, j < esize E → W.cell? ⟨blk, off + (i * esize E + j), none⟩ = cl[j]?) ∧ All2 (SRel W rho0 (okW W)) cl (enc E (dd i)) := fun i hi => Classical.choose_spec (key2 i) hi
    let xs : List (D E) := (List.range len).map dd
    have hxl : xs.length = len := by simp [xs]
    have hxg : ∀ i, i < len → xs.getD i (dflt E) = dd i := fun i hi => by
      rw [List.getD_eq_getElem?_getD, List.getElem?_eq_getElem (by omega)]
      simp [xs]
    let U : Nat → Value := fun k => (W.cell? ⟨blk, off + k, none⟩).getD undef
    have hU : ∀ i j, i < len → j < esize E → ∃ cl : List Value, cl.length = esize E ∧ W.cell? ⟨blk, off + (i * esize E + j), none⟩ = some (cl.getD j undef) ∧ All2 (SRel W rho0 (okW W)) cl (enc E (dd i)) := fun i j hi hj => by
      obtain ⟨_, cl, g1, g2, g3⟩ := hdd i hi
      refine ⟨cl, g1, ?_, g3⟩
      rw [g2 j hj, List.getD_eq_getElem?_getD, List.getElem?_eq_getElem (by omega)]
      rfl
    refine ⟨[.vec false E xs], ⟨xs, rfl, fun x hx => ?_⟩, ?_, trivial⟩
    · obtain ⟨i, hi, rfl⟩ := List.mem_map.1 hx
      exact (hdd i (List.mem_range.1 hi)).1
    · have hp := esize_pos E
      have dm : ∀ k, k < len * esize E → k / esize E < len ∧ k % esize E < esize E ∧ k = k / esize E * esize E + k % esize E := fun k hk =>
        ⟨Nat.div_lt_of_lt_mul (by rw [Nat.mul_comm]; exact hk), Nat.mod_lt _ hp, by rw [Nat.mul_comm]; exact (Nat.div_add_mod k _).symm⟩
      have := SRel.vec (w := W) (ρ := rho0) (ok := okW W) false E xs blk off cap U (by omega) hblk (fun k hk => by
        rw [hxl] at hk
        obtain ⟨d1, d2, d3⟩ := dm k hk
        obtain ⟨cl, c1, c2, c3⟩ := hU _ _ d1 d2
        rw [← d3] at c2
        show _ = some ((W.cell? ⟨blk, off + k, none⟩).getD undef)
        rw [c2]; rfl) (fun k s hs => by
        have hk : k < len * esize E := by
          have := (List.getElem?_eq_some_iff.1 hs).1
          rw [flat_len, hxl] at this
          exact this
        obtain ⟨d1, d2, d3⟩ := dm k hk
        obtain ⟨cl, c1, c2, c3⟩ := hU _ _ d1 d2
        rw [← d3] at c2
        rw [d3, flat_get E xs _ _ (by omega) d2, hxg _ d1] at hs
        have := c3.idx _ undef _ hs
        show SRel W rho0 (okW W) ((W.cell? ⟨blk, off + k, none⟩).getD undef) s
        rw [c2]
        exact this)
      rw [hxl] at this
      exact this

/-- An argument: what it is. -/
def ArgTy (P : Program) (t : TypeId) (R : AV → Prop) : Prop :=
  ∀ (H : Type) (enc : TypeId × Value → H) (W : World) (base : Nat) (v : Value) (d : DataW H) (ps : List MemPlace), Value.okWide P W .any base t v → DataW.Trod enc P W 0 (fun _ => true) true t v d ps → ∃ a, R a ∧ VRel W rho0 (okW W) v a
theorem arg_int {t : TypeId} {k : IntKind} (ht : P.underlying t = some (.int k)) : ArgTy P t (fun a => ∃ n, a = .one (.int k n) ∧ (Lit.int k n).wf = true) := by
  intro H enc W base v d ps hv hd
  obtain ⟨n, rfl, _, _, hw⟩ := open_int ht hv hd
  exact ⟨_, ⟨n, rfl, hw⟩, .one _ _ (.int _ _)⟩
theorem arg_slice {t e : TypeId} {E : K} {Q : D E → Prop} (ht : P.underlying t = some (.slice e)) (hc : P.cellsOf e = esize E) (he : Opens P e (fun l => ∃ x : D E, l = enc E x ∧ Q x)) : ArgTy P t (fun a => ∃ xs : List (D E), a = .one (.vec false E xs) ∧ ∀ x ∈ xs, Q x) := by
  intro H en W base v d ps hv hd
  obtain ⟨A, len, cap, rfl⟩ := okWide_slice ht hv
  obtain ⟨fuel, hf⟩ := hd
  obtain ⟨l, ⟨xs, rfl, hq⟩, hr⟩ := opens_slice ht hc he _ _ _ _ _ _ hf
  have hr' : SRel W rho0 (okW W) (.slice A len cap) (.vec false E xs) := by
    simpa [Value.cells, All2] using hr
  exact ⟨_, ⟨xs, rfl, hq⟩, .one _ _ hr'⟩
theorem arg_struct {t : TypeId} {fs : Array Field} {R : List Sc → Prop} (ht : P.underlying t = some (.struct fs)) (ho : Opens P t R) : ArgTy P t (fun a => ∃ l, a = .agg l ∧ R l) := by
  intro H en W base v d ps hv hd
  obtain ⟨cs, rfl, _⟩ := okWide_struct ht hv
  obtain ⟨fuel, hf⟩ := hd
  obtain ⟨l, hl, hr⟩ := ho _ _ _ _ _ _ hf
  exact ⟨_, ⟨l, rfl, hl⟩, .agg _ _ hr⟩
theorem arg_imp {t : TypeId} {R R' : AV → Prop} (h : ArgTy P t R) (hi : ∀ a, R a → R' a) : ArgTy P t R' :=
  fun H enc W base v d ps h1 h2 => by obtain ⟨a, ha, hr⟩ := h H enc W base v d ps h1 h2; exact ⟨a, hi a ha, hr⟩

def ArgsTy (P : Program) : List TypeId → List (AV → Prop) → Prop
  | [], [] => True
  | t :: ts, R :: Rs => ArgTy P t R ∧ ArgsTy P ts Rs
  | _, _ => False
def AVs : List (AV → Prop) → List AV → Prop
  | [], [] => True
  | R :: Rs, a :: as => R a ∧ AVs Rs as
  | _, _ => False
theorem args_open {H : Type} {enc : TypeId × Value → H} {W : World} {base : Nat} : ∀ {ts : List TypeId} {Rs : List (AV → Prop)} {vs : List Value} {ds : List (DataW H)} {ps : List MemPlace}, ArgsTy P ts Rs → DataW.TrodAll enc P W 0 (fun _ => true) true ts vs ds ps →
    (∀ (j : Nat) t v, ts[j]? = some t → vs[j]? = some v → Value.okWide P W .any base t v) → ∃ as, AVs Rs as ∧ All2 (VRel W rho0 (okW W)) vs as
  | [], [], vs, ds, ps, _, h, _ => by
    obtain ⟨rfl, _, _⟩ := trodAll_nil h
    exact ⟨[], trivial, trivial⟩
  | t :: ts, R :: Rs, vs, ds, ps, hT, h, hv => by
    obtain ⟨v, vs', d, ds', p, q, rfl, rfl, rfl, h1, h2⟩ := trodAll_cons h
    obtain ⟨a, ha, hr⟩ := hT.1 _ _ _ _ _ _ _ (hv 0 t v rfl rfl) h1
    obtain ⟨as, has, hrs⟩ := args_open hT.2 h2 (fun j t v ht hv' => hv (j + 1) t v (by simpa using ht) (by simpa using hv'))
    exact ⟨a :: as, ⟨ha, has⟩, hr, hrs⟩
  | [], _ :: _, _, _, _, hT, _, _ => hT.elim
  | _ :: _, [], _, _, _, hT, _, _ => hT.elim
theorem args_back {H : Type} {enc : TypeId × Value → H} (hl : laidOutB P = true) {W W' : World} (hb : Below W.heap.size W W') : ∀ {ts : List TypeId} {vs : List Value} {ds : List (DataW H)} {ps : List MemPlace}, (ts.all fun t => P.readableRec t && decide (t < P.types.size)) = true →
    DataW.TrodAll enc P W 0 (fun _ => true) true ts vs ds ps → DataW.TrodAll enc P W' 0 (fun b => decide (b < W.heap.size)) true ts vs ds ps
  | [], vs, ds, ps, _, h => by
    obtain ⟨rfl, rfl, rfl⟩ := trodAll_nil h
    exact trodAll_mk0
  | t :: ts, vs, ds, ps, hr, h => by
    obtain ⟨v, vs', d, ds', p, q, rfl, rfl, rfl, h1, h2⟩ := trodAll_cons h
    rw [List.all_cons, Bool.and_eq_true, Bool.and_eq_true, decide_eq_true_eq] at hr
    have hlt : ∀ x ∈ p, x.block < W.heap.size := by obtain ⟨m, hm⟩ := h1; exact DataW.trod_lt m _ _ _ hm
    exact trodAll_cons_mk (Below.trod hl hr.1.1 hr.1.2 h1 hb hlt) (args_back hl hb hr.2 h2)

theorem hrel_empty (W : World) : HRel W rho0 (okW W) (initMem 0 []).get where
  cells := fun id off s h => by cases h
  rows := fun id off E xs h => by cases h
  keys := fun id off xs h => by cases h
  dist := fun l l' b h => by obtain ⟨⟨c, hc⟩, _⟩ := h; cases hc
  oks := fun x b h => ⟨h, fun l hl => by obtain ⟨⟨c, hc⟩, _⟩ := hl; cases hc⟩
  cont := fun id off s h => by cases h

/-- A law that its contract proves. -/
theorem law_calls {f : FuncId} {sp : Spec} (hs : SpecOK P f sp) {W : World} {vs : List Value} {as : List AV} (hr : All2 (VRel W rho0 (okW W)) vs as) (ht : (sp.run as []).den = some (.one (.bool true), [])) :
    Calls P f vs.toArray W fun e W' => e = .returned (.bool true) ∧ Below W.heap.size W W' := by
  refine (hs W rho0 (okW W) vs as [] _ _ (hrel_empty W) (fun _ _ => rfl) hr ht).mono ?_
  rintro e W' ⟨v, ρ', okf, rfl, hp, hv⟩
  have hv' : v = .bool true := by
    cases hv with
    | one _ _ h => cases h; rfl
  subst hv'
  have hf := hp.fr
  refine ⟨rfl, hf.os, hf.tape, hf.output, hf.size, fun b hb => hf.heap b hb ?_⟩
  intro hM
  obtain ⟨l, ⟨⟨c, hc⟩, _⟩⟩ := hM
  cases hc
end
end Go.Proofs.Ytipfipnhgpbceaa.Sx
/- What a call hands back as its own may be taken for what is only read (plain theorems). -/

set_option linter.unusedVariables false
set_option linter.unusedSimpArgs false
namespace Go.Proofs.Ytipfipnhgpbceaa.Sx
open Go

inductive TC (os : List Ob) (n : Nat) : Sc → Sc → Prop
  | same (s : Sc) : TC os n s s
  | nils (E : K) : TC os n .nils (.vec false E [])
  | row (id : Nat) (E : K) (xs : List (D E)) (h : n ≤ id) (ho : os[id]? = some (.rows E xs)) : TC os n (.row id) (.vec false E xs)
inductive TA (os : List Ob) (n : Nat) : AV → AV → Prop
  | one (s s' : Sc) (h : TC os n s s') (hu : s ≠ .undef) : TA os n (.one s) (.one s')
  | agg (l l' : List Sc) (h : All2 (TC os n) l l') : TA os n (.agg l) (.agg l')
  | tup (l l' : List (Bool × List Sc)) (h : All2 (fun p q => p.1 = q.1 ∧ All2 (TC os n) p.2 q.2) l l') : TA os n (.tup l) (.tup l')
theorem all2_tc_refl {os : List Ob} {n : Nat} : ∀ (l : List Sc), All2 (TC os n) l l
  | [] => trivial
  | s :: l => ⟨.same s, all2_tc_refl l⟩

theorem get_take {os : List Ob} {n : Nat} {l : Loc} {c : MC} (h : (initMem 0 (os.take n)).get l = some c) : l.1 < n ∧ (initMem 0 os).get l = some c := by
  obtain ⟨id, o⟩ := l
  have h0 := get_initMem (os.take n) 0 id o
  have h1 := get_initMem os 0 id o
  rw [Nat.zero_add] at h0 h1
  rw [h] at h0
  rw [h1]
  by_cases hid : id < n
  · rw [List.getElem?_take_of_lt hid] at h0
    exact ⟨hid, h0.symm⟩
  · rw [List.getElem?_eq_none (by rw [List.length_take]; omega)] at h0
    cases h0
theorem take_get {os : List Ob} {n : Nat} {l : Loc} (hl : l.1 < n) : (initMem 0 (os.take n)).get l = (initMem 0 os).get l := by
  obtain ⟨id, o⟩ := l
  have h0 := get_initMem (os.take n) 0 id o
  have h1 := get_initMem os 0 id o
  rw [Nat.zero_add] at h0 h1
  rw [h0, h1, List.getElem?_take_of_lt hl]

section
variable {w w' : World} {ρ ρ' : Rho} {ok : Okp} {obs os : List Ob} {okf : Nat → Prop}
theorem live_take {n : Nat} {l : Loc} {b : Nat} (h : LiveAt (initMem 0 (os.take n)).get ρ' l b) : l.1 < n ∧ LiveAt (initMem 0 os).get ρ' l b := by
  obtain ⟨⟨c, hc⟩, hv⟩ := h
  exact ⟨(get_take hc).1, ⟨c, (get_take hc).2⟩, hv⟩
def okThaw (os : List Ob) (n : Nat) (ρ' : Rho) (okf : Nat → Prop) (b : Nat) : Prop := okf b ∨ ∃ id, n ≤ id ∧ LiveAt (initMem 0 os).get ρ' (id, 0) b
theorem ext_thaw {n : Nat} : Ext w' ρ' (fun _ b => okf b) w' ρ' (fun _ b => okThaw os n ρ' okf b) := ⟨fun _ _ _ => rfl, fun _ _ h => .inl h, fun _ _ h => h⟩
theorem thaw_post (h : CallPost w ρ ok obs w' ρ' okf os) : CallPost w ρ ok obs w' ρ' (okThaw os obs.length ρ' okf) (os.take obs.length) where
  heap := {
    cells := fun id off s hc => by
      obtain ⟨b, v, a1, a2, a3, a4⟩ := h.heap.cells id off s (get_take hc).2
      exact ⟨b, v, a1, a2, a3, a4.mono ext_thaw⟩
    rows := fun id off E xs hc => by
      obtain ⟨a1, v, a2, A, cap, a3, a4, a5⟩ := h.heap.rows id off E xs (get_take hc).2
      exact ⟨a1, v, a2, A, cap, a3, a4, a5.imp (fun q => q) fun ⟨b, T, cur, r1, r2, r3, r4⟩ => ⟨b, T, cur, r1, r2, r3, r4.imp fun _ _ q => q.mono ext_thaw⟩⟩
    keys := fun id off xs hc => h.heap.keys id off xs (get_take hc).2
    dist := fun l l' b h1 h2 => h.heap.dist l l' b (live_take h1).2 (live_take h2).2
    oks := fun x b hb => by
      rcases hb with hb | ⟨id, hid, hl⟩
      · exact ⟨(h.heap.oks x b hb).1, fun l hl => (h.heap.oks x b hb).2 l (live_take hl).2⟩
      · refine ⟨h.heap.live_lt hl, fun l hl' => ?_⟩
        have h1 := live_take hl'
        have h2 := h.heap.dist _ _ _ hl h1.2
        have h3 : id = l.1 := h2
        omega
    cont := fun id off s hc => by
      have h1 := get_take hc
      obtain ⟨h2, h3⟩ := h.heap.cont id off s h1.2
      refine ⟨h2, fun o ho => ?_⟩
      obtain ⟨s', hs'⟩ := h3 o ho
      exact ⟨s', by rw [take_get (l := (id, o)) h1.1]; exact hs'⟩ }
  rho := h.rho
  okn := fun b hb => by
    rcases hb with hb | ⟨id, _, hl⟩
    · exact h.okn b hb
    · exact .inr (h.own _ _ hl)
  own := fun l b hl => h.own l b (live_take hl).2
  fr := h.fr
theorem thaw_cell (h : CallPost w ρ ok obs w' ρ' okf os) {v : Value} {s s' : Sc} (hv : SRel w' ρ' (fun _ b => okf b) v s) (ht : TC os obs.length s s') : SRel w' ρ' (fun _ b => okThaw os obs.length ρ' okf b) v s' := by
  cases ht with
  | same => exact hv.mono ext_thaw
  | nils E => cases hv; exact .vec0 _ _ _ _
  | row id E xs hid ho =>
    cases hv with
    | row _ A n cap hr =>
      have hg : (initMem 0 os).get (id, 0) = some (.rows E xs) := by
        have := get_initMem os 0 id 0
        rw [Nat.zero_add, ho] at this
        exact this
      obtain ⟨_, v, h1, A', cap', h2, h3, h4⟩ := h.heap.rows id 0 E xs hg
      rw [hr] at h1
      cases h1
      cases h2
      rcases h4 with ⟨rfl, rfl⟩ | ⟨b, T, cur, rfl, hheap, hcs, hall⟩
      · have : xs = [] := List.eq_nil_of_length_eq_zero (by omega)
        subst this
        exact .vec0 _ _ _ _
      · have hlive : LiveAt (initMem 0 os).get ρ' (id, 0) b := ⟨⟨_, hg⟩, _, hr, rfl⟩
        refine SRel.vec false E xs b 0 cap (fun k => cur.toList.getD k undef) h3 (.inr ⟨id, hid, hlive⟩) ?_ ?_
        · intro k hk
          have hlt : k < cur.size := by rw [hcs]; have := Nat.mul_le_mul_right (esize E) h3; omega
          simp [World.cell?, hheap, Array.getElem?_eq_getElem hlt]
        · intro k s hks
          obtain ⟨a, ha, hr'⟩ := hall.get hks
          have hlt : k < xs.length * esize E := by
            rw [← flat_len]; exact (List.getElem?_eq_some_iff.1 hks).1
          rw [List.getElem?_take_of_lt hlt] at ha
          simp only [List.getD_eq_getElem?_getD, ha]
          exact hr'.mono ext_thaw
theorem All2.map2 {α β γ : Type} {R : α → β → Prop} {S : β → γ → Prop} {T : α → γ → Prop} (h : ∀ a b c, R a b → S b c → T a c) : ∀ {as : List α} {bs : List β} {cs : List γ}, All2 R as bs → All2 S bs cs → All2 T as cs
  | [], [], [], _, _ => trivial
  | _ :: _, _ :: _, _ :: _, h1, h2 => ⟨h _ _ _ h1.1 h2.1, All2.map2 h h1.2 h2.2⟩
  | [], _ :: _, _, h1, _ => h1.elim
  | _ :: _, [], _, h1, _ => h1.elim
  | [], [], _ :: _, _, h2 => h2.elim
  | _ :: _, _ :: _, [], _, h2 => h2.elim
theorem thaw_av (h : CallPost w ρ ok obs w' ρ' okf os) {v : Value} {a a' : AV} (hv : VRel w' ρ' (fun _ b => okf b) v a) (ht : TA os obs.length a a') : VRel w' ρ' (fun _ b => okThaw os obs.length ρ' okf b) v a' := by
  cases ht with
  | one s s' h1 hu =>
    cases hv with
    | any => exact absurd rfl hu
    | one _ _ h2 => exact .one _ _ (thaw_cell h h2 h1)
  | agg l l' h1 =>
    cases hv with
    | agg vs _ h2 => exact .agg _ _ (All2.map2 (R := SRel w' ρ' (fun _ b => okf b)) (S := TC os obs.length) (T := SRel w' ρ' (fun _ b => okThaw os obs.length ρ' okf b)) (fun a b c q1 q2 => thaw_cell h q1 q2) h2 h1)
  | tup l l' h1 =>
    cases hv with
    | tup vs _ h2 =>
      refine .tup _ _ (All2.map2 (fun a b c q1 q2 => ?_) h2 h1)
      rcases q1 with ⟨e1, us, e2, e3⟩ | ⟨e1, s, e2, e3⟩
      · exact .inl ⟨by rw [← q2.1, e1], us, e2, All2.map2 (R := SRel w' ρ' (fun _ b => okf b)) (S := TC os obs.length) (T := SRel w' ρ' (fun _ b => okThaw os obs.length ρ' okf b)) (fun a b c q1 q2 => thaw_cell h q1 q2) e3 q2.2⟩
      · have h3 := q2.2
        rw [e2] at h3
        obtain ⟨q21, q22⟩ := c
        cases q22 with
        | nil => exact h3.elim
        | cons s' r =>
          cases r with
          | nil => exact .inr ⟨by rw [← q2.1, e1], s', rfl, thaw_cell h e3 h3.1⟩
          | cons _ _ => exact h3.2.elim
end
theorem spec_thaw {P : Program} {f : FuncId} {a b : Spec} (h : ∀ av ob r' os', (b.run av ob).den = some (r', os') → ∃ r os, (a.run av ob).den = some (r, os) ∧ os' = os.take ob.length ∧ TA os ob.length r r') (ha : SpecOK P f a) : SpecOK P f b := by
  intro w ρ ok vs av obs r' os' h1 h2 h3 h4
  obtain ⟨r, os, g1, rfl, g3⟩ := h _ _ _ _ h4
  refine (ha w ρ ok vs av obs r os h1 h2 h3 g1).mono ?_
  rintro e w' ⟨v, ρ', okf, rfl, hp, hv⟩
  exact ⟨v, ρ', _, rfl, thaw_post hp, thaw_av hp hv g3⟩
/-- A slice among results, as a list. -/
def slO (E : K) (n : Nat) (os : List Ob) : Sc → Option (List (D E))
  | .nils => some []
  | .vec false E' xs => if h : E' = E then some (h ▸ xs) else none
  | .row id => if n ≤ id then (match os[id]? with
    | some (.rows E' xs) => if h : E' = E then some (h ▸ xs) else none
    | _ => none) else none
  | _ => none
theorem slO_ok {E : K} {n : Nat} {os : List Ob} {s : Sc} {xs : List (D E)} (h : slO E n os s = some xs) : TC os n s (.vec false E xs) := by
  unfold slO at h
  split at h
  · cases h; exact .nils E
  · split at h
    · rename_i he
      subst he
      cases h
      exact .same _
    · cases h
  · split at h
    · rename_i hn
      split at h
      · rename_i ho
        split at h
        · rename_i he
          subst he
          cases h
          exact .row _ _ _ hn ho
        · cases h
      · cases h
    · cases h
  · cases h
theorem slO_nils {E : K} {n : Nat} {os : List Ob} : slO E n os .nils = some [] := rfl
theorem slO_vec {E : K} {n : Nat} {os : List Ob} {xs : List (D E)} : slO E n os (.vec false E xs) = some xs := by simp [slO]
theorem slO_row {E : K} {n : Nat} {os : List Ob} {xs : List (D E)} {id : Nat} (hn : n ≤ id) (ho : os[id]? = some (.rows E xs)) : slO E n os (.row id) = some xs := by
  simp [slO, hn, ho]
/-- The machine's own word as a contract. -/
def machS (e : Env) (fn : Func) (keep : Code → Keep) (fl : List AV → List Ob → Nat) (wr : Bool) : Spec := ⟨wr, fun av ob => evalF e fn keep (fl av ob) av ob⟩
theorem machS_run (e : Env) (fn : Func) (keep : Code → Keep) (fl : List AV → List Ob → Nat) (wr : Bool) (av : List AV) (ob : List Ob) : (machS e fn keep fl wr).run av ob = evalF e fn keep (fl av ob) av ob := rfl
theorem machS_ok {P : Program} {e : Env} (hE : EnvOK P e) (hm : P.follows .mixedOrders = true) {f : FuncId} {fn : Func} (hf : P.funcs[f]? = some fn) (keep : Code → Keep) (fl : List AV → List Ob → Nat) (wr : Bool) : SpecOK P f (machS e fn keep fl wr) :=
  specOK_of hE hm hf keep fun av ob r os h => ⟨_, h⟩
end Go.Proofs.Ytipfipnhgpbceaa.Sx
