/- The symbolic machine's operations on slices, and what is built (plain theorems). -/
import Derived.Test.YtipfipnhgpbceaaSxOps2
import Derived.Laws.AppendOwn
import Derived.Laws.MakeOwn
set_option linter.unusedVariables false
set_option linter.unusedSimpArgs false
namespace Go.Proofs.Ytipfipnhgpbceaa.Sx
open Go

section
variable {C : Ctx} {w : World} {ρ : Rho} {ok : Okp} {g gv : Get} {fresh : Nat} {P : Program}

theorem indexSlice_run {t el : TypeId} {ie : TypeInfo} (ht : P.underlying t = some (.slice el)) (hi : P.info? el = some ie) (w : World) (b o n cap : Nat) (k : IntKind) (i : Int) (h0 : 0 ≤ i) (h1 : i < n) :
    (do pure (.value (← Instr.indexAt t (.slice (some ⟨b, o, none⟩) n cap) (.int k i))) : Sem Next).run P w = .ok (.value (.pointer (some ⟨b, o + i.toNat * ie.size, none⟩))) w := by
  simp [Instr.indexAt, asIntOf, run_underlying ht, h0, h1, sizeOf, typeInfo, hi, addr_add]

theorem vec_ptr {bo : Bool} {E : K} {xs : List (D E)} {sv : Value} (h : VRel w ρ ok sv (.one (.vec bo E xs))) {i : Int} (h0 : 0 ≤ i) (h1 : i < xs.length) :
    ∃ b o cap, sv = .slice (some ⟨b, o, none⟩) xs.length cap ∧ SRel w ρ ok (.pointer (some ⟨b, o + i.toNat * esize E, none⟩)) (.vptr bo E xs i 0) := by
  cases h with
  | one _ _ h => cases h with
    | vec0 => simp at h1; omega
    | vec _ _ _ b o cap U hc hok hcell hrel =>
      refine ⟨b, o, cap, rfl, ?_⟩
      have hi : i.toNat < xs.length := by omega
      have := SRel.vptr (w := w) (ρ := ρ) (ok := ok) bo E xs i 0 b o (fun j => U (i.toNat * esize E + j)) hok h0 h1 (fun j hj => hcell _ (flat_idx_lt hi hj)) (fun j s hs => by
        have hj : j < esize E := by rw [← enc_len E (xs.getD i.toNat (dflt E))]; exact (List.getElem?_eq_some_iff.1 hs).1
        rw [← flat_get E xs i.toNat j hi hj] at hs
        exact hrel _ _ hs)
      simpa using this

theorem row_rel (h : HRel w ρ ok g) {id : Nat} {E : K} {xs : List (D E)} (hg : g (id, 0) = some (.rows E xs)) {sv : Value} (hv : VRel w ρ ok sv (.one (.row id))) :
    ∃ A cap, sv = .slice A xs.length cap ∧ ρ id = some (.slice A xs.length cap) ∧ xs.length ≤ cap ∧
    ((A = none ∧ cap = 0) ∨ ∃ b T cur, A = some ⟨b, 0, none⟩ ∧ w.heap[b]? = some (.cells cur T (0, 0)) ∧ cur.size = cap * esize E ∧ All2 (SRel w ρ ok) (cur.toList.take (xs.length * esize E)) (flat E xs)) := by
  obtain ⟨_, v0, hr0, A, cap, rfl, hcap, hA⟩ := h.rows _ _ _ _ hg
  cases hv with
  | one _ _ hv => cases hv with
    | row _ A' n' cap' hh =>
      have heq := Option.some.inj (hh.symm.trans hr0)
      simp at heq
      obtain ⟨rfl, rfl, rfl⟩ := heq
      exact ⟨_, _, rfl, hr0, hcap, hA⟩

theorem indexAddr_out (h : CRel C w ρ ok g) (hg : ∀ l c, gv l = some c → g l = some c) {e : Env} (hE : ∀ t ti, e.tt t = some ti → TOK P t ti) {t : TypeId} {xv iv : Value} {x ix : AV} (hx : VRel w ρ ok xv x) (hi : VRel w ρ ok iv ix) {v : AV} {u : Upd}
    (hs : (doIndexAddr e t x ix gv).den = some (v, u)) : Out C w ρ ok g fresh ((do pure (.value (← Instr.indexAt t xv iv)) : Sem Next).run P w) v u := by
  unfold doIndexAddr at hs
  split at hs
  · rename_i E' b E xs k i hk
    split at hs
    · rename_i hEE
      subst hEE
      obtain ⟨hb, hs⟩ := need_den hs
      cases hs
      obtain ⟨h0, h1⟩ := idx_spec hb
      obtain ⟨el, ie, z, k1, k2, k3, _⟩ := kindOf_slc hE hk
      obtain ⟨bb, o, cap, rfl, hp⟩ := vec_ptr hx h0 h1
      have h3 := int_rel hi
      subst h3
      rw [indexSlice_run k1 k2 w bb o _ cap k i h0 h1, k3]
      exact Out.pure h (.one _ _ hp)
    · cases hs
  · rename_i E' id k i hk
    split at hs
    · rename_i E xs hgr
      split at hs
      · rename_i hEE
        subst hEE
        obtain ⟨hb, hs⟩ := need_den hs
        cases hs
        obtain ⟨h0, h1⟩ := idx_spec hb
        obtain ⟨el, ie, z, k1, k2, k3, _⟩ := kindOf_slc hE hk
        obtain ⟨A, cap, rfl, hr, hcap, hA⟩ := row_rel h.toHRel (hg _ _ hgr) hx
        have h3 := int_rel hi
        subst h3
        rcases hA with ⟨rfl, rfl⟩ | ⟨bb, T, cur, rfl, _⟩
        · omega
        · rw [indexSlice_run k1 k2 w bb 0 _ cap k i h0 h1, k3, Nat.zero_add]
          have := SRel.eptr (w := w) (ρ := ρ) (ok := ok) id E' i 0 bb xs.length cap hr h0 h1
          exact Out.pure h (.one _ _ (by simpa using this))
      · cases hs
    · cases hs
  · rename_i n el id off k i hk
    split at hs
    · rename_i te hte
      split at hs
      · rename_i hc
        obtain ⟨h0, h1, h2⟩ := hc
        cases hs
        obtain ⟨bb, rfl, hr⟩ := ptr_rel hx
        have h3 := int_rel hi
        subst h3
        have hT := hE el te hte
        have hrun : (do pure (.value (← Instr.indexAt t (.pointer (some ⟨bb, off, none⟩)) (.int k i))) : Sem Next).run P w = .ok (.value (.pointer (some ⟨bb, off + i.toNat * te.size, none⟩))) w := by
          simp [Instr.indexAt, asIntOf, run_underlying (kindOf_arr hE hk), Instr.sureAddr, h0, h1, hT.size, addr_add]
        rw [hrun]
        exact Out.pure h (.one _ _ (.ptr _ _ _ hr))
      · cases hs
    · cases hs
  · cases hs

theorem index_out (h : CRel C w ρ ok g) {e : Env} (hE : ∀ t ti, e.tt t = some ti → TOK P t ti) {t : TypeId} {xv iv : Value} {x ix : AV} (hx : VRel w ρ ok xv x) (hi : VRel w ρ ok iv ix) {v : AV} {u : Upd}
    (hs : (doIndex e t x ix).den = some (v, u)) : Out C w ρ ok g fresh ((do pure (.value (← Instr.index t xv iv)) : Sem Next).run P w) v u := by
  unfold doIndex at hs
  split at hs
  · rename_i n el l k i hk
    split at hs
    · rename_i te hte
      split at hs
      · rename_i hc
        obtain ⟨h0, h1⟩ := hc
        split at hs
        · rename_i v' hm
          cases hs
          have hT := hE el te hte
          obtain ⟨vs, rfl, hvs⟩ := agg_rel hx
          have h3 := int_rel hi
          subst h3
          obtain ⟨cv, hrun, hr⟩ := part_run hT w vs l _ hvs hm
          have hrun' : (do pure (.value (← Instr.index t (.agg vs) (.int k i))) : Sem Next).run P w = .ok (.value cv) w := by
            simp [Instr.index, asIntOf, run_underlying (kindOf_arr hE hk), h0, h1, hT.size, hrun]
          rw [hrun']
          exact Out.pure h hr
        · cases hs
      · cases hs
    · cases hs
  · cases hs

theorem listOf_len (h : CRel C w ρ ok g) (hg : ∀ l c, gv l = some c → g l = some c) {xv : Value} {x : AV} (hx : VRel w ρ ok xv x) {l : AnyL} (hl : listOf gv x = some l) : ∃ A cap, xv = .slice A l.len cap := by
  unfold listOf at hl
  split at hl
  · cases hl
    cases hx with
    | one _ _ hx => cases hx; exact ⟨_, _, rfl⟩
  · cases hl
    cases hx with
    | one _ _ hx => cases hx <;> exact ⟨_, _, rfl⟩
  · split at hl
    · rename_i E xs hgr
      cases hl
      obtain ⟨A, cap, rfl, _⟩ := row_rel h.toHRel (hg _ _ hgr) hx
      exact ⟨A, cap, rfl⟩
    · cases hl
  · cases hl

theorem sliceElem_spec {e : Env} (hE : ∀ t ti, e.tt t = some ti → TOK P t ti) {t : TypeId} {E : K} (hk : sliceElem e t = some E) :
    ∃ el ie z, P.underlying t = some (.slice el) ∧ P.info? el = some ie ∧ ie.size = esize E ∧ ie.bytes ≤ 128 ∧ ie.zero = some z ∧ All2 ZRel z.cells.toList (enc E (dflt E)) := by
  unfold sliceElem at hk
  split at hk
  · rename_i E' hk'
    cases hk
    exact kindOf_slc hE hk'
  · cases hk

theorem len_out (h : CRel C w ρ ok g) (hg : ∀ l c, gv l = some c → g l = some c) {e : Env} (hE : ∀ t ti, e.tt t = some ti → TOK P t ti) {ts : Array TypeId} {ty : TypeId} {xv : Value} {x : AV} (hx : VRel w ρ ok xv x) {v : AV} {u : Upd}
    (hs : (doLen e ts.toList x gv).den = some (v, u)) : Out C w ρ ok g fresh ((do pure (.value (← Builtin.len_ ts ty #[xv])) : Sem Next).run P w) v u := by
  unfold doLen at hs
  split at hs
  · rename_i t hts
    split at hs
    · rename_i E l hk hl
      cases hs
      obtain ⟨A, cap, rfl⟩ := listOf_len h hg hx hl
      obtain ⟨el, ie, z, k1, _⟩ := sliceElem_spec hE hk
      obtain rfl : ts = #[t] := by cases ts; simp at hts; subst hts; rfl
      have hrun : (do pure (.value (← Builtin.len_ #[t] ty #[.slice A l.len cap])) : Sem Next).run P w = .ok (.value (.int .i64 l.len)) w := by
        simp [Builtin.len_, run_underlying k1, goInt]
      rw [hrun]
      exact Out.pure h (.one _ _ (.int _ _))
    · cases hs
  · cases hs

theorem foldInts_run (f : Int → Int → Int) (m2 : Value → Value → Sem Value) (hm : ∀ k a k' b w, (m2 (.int k a) (.int k' b)).run P w = .ok (.int k (f a b)) w) : ∀ (l : List AV) (vs : List Value) (k : IntKind) (a : Int) {s : Sc}, All2 (VRel w ρ ok) vs l → foldInts f k a l = some s →
    ∃ n, s = .int k n ∧ (vs.foldlM m2 (.int k a)).run P w = .ok (.int k n) w
  | [], [], k, a, s, _, hs => by cases hs; exact ⟨a, rfl, rfl⟩
  | x :: l, v :: vs, k, a, s, hv, hs => by
    cases x with
    | one sc =>
      cases sc with
      | int k' b =>
        simp only [foldInts] at hs
        split at hs
        · rename_i hk
          subst hk
          have h1 := int_rel hv.1
          subst h1
          obtain ⟨n, h2, h3⟩ := foldInts_run f m2 hm l vs k (f a b) hv.2 hs
          exact ⟨n, h2, by simp only [List.foldlM_cons, Sem.run_bind, hm, Result.andThen_ok, h3]⟩
        · cases hs
      | _ => simp [foldInts] at hs
    | agg l' => simp [foldInts] at hs
    | tup l' => simp [foldInts] at hs
  | [], _ :: _, _, _, _, hv, _ => hv.elim
  | _ :: _, [], _, _, _, hv, _ => hv.elim

theorem max_out (h : CRel C w ρ ok g) {ts : Array TypeId} {ty : TypeId} {vs : Array Value} {l : List AV} (hl : All2 (VRel w ρ ok) vs.toList l) {v : AV} {u : Upd} (hs : (doMinMax mx l).den = some (v, u)) :
    Out C w ρ ok g fresh ((do pure (.value (← Builtin.max_ ts ty vs)) : Sem Next).run P w) v u := by
  unfold doMinMax at hs
  split at hs
  · rename_i k a l' 
    split at hs
    · rename_i s hf
      cases hs
      obtain ⟨vs⟩ := vs
      match vs, hl with
      | v0 :: vs, hl =>
        have h1 := int_rel hl.1
        subst h1
        obtain ⟨n, rfl, h3⟩ := foldInts_run (P := P) mx Builtin.max2 (fun k a k' b w => rfl) l' vs k a hl.2 hf
        simp only [Builtin.max_, Sem.run_bind, h3, Result.andThen_ok, Sem.run_pure]
        exact Out.pure h (.one _ _ (.int _ _))
    · cases hs
  · cases hs
theorem min_out (h : CRel C w ρ ok g) {ts : Array TypeId} {ty : TypeId} {vs : Array Value} {l : List AV} (hl : All2 (VRel w ρ ok) vs.toList l) {v : AV} {u : Upd} (hs : (doMinMax mn l).den = some (v, u)) :
    Out C w ρ ok g fresh ((do pure (.value (← Builtin.min_ ts ty vs)) : Sem Next).run P w) v u := by
  unfold doMinMax at hs
  split at hs
  · rename_i k a l' 
    split at hs
    · rename_i s hf
      cases hs
      obtain ⟨vs⟩ := vs
      match vs, hl with
      | v0 :: vs, hl =>
        have h1 := int_rel hl.1
        subst h1
        obtain ⟨n, rfl, h3⟩ := foldInts_run (P := P) mn Builtin.min2 (fun k a k' b w => rfl) l' vs k a hl.2 hf
        simp only [Builtin.min_, Sem.run_bind, h3, Result.andThen_ok, Sem.run_pure]
        exact Out.pure h (.one _ _ (.int _ _))
    · cases hs
  · cases hs

theorem extract_out (h : CRel C w ρ ok g) {xv : Value} {x : AV} (hx : VRel w ρ ok xv x) {i : Nat} {v : AV} {u : Upd} (hs : (doExtract x i).den = some (v, u)) :
    Out C w ρ ok g fresh ((do pure (.value (← Instr.extract xv i)) : Sem Next).run P w) v u := by
  unfold doExtract at hs
  split at hs
  · rename_i l
    split at hs
    · rename_i a cs hli
      split at hs
      · rename_i v' hm
        cases hs
        cases hx with
        | tup vs _ hvs =>
          obtain ⟨cv, hcv, hr⟩ := hvs.get hli
          have hrun : (do pure (.value (← Instr.extract (.tuple vs) i)) : Sem Next).run P w = .ok (.value cv) w := by
            have : vs[i]? = some cv := by simpa using hcv
            simp [Instr.extract, this]
          rw [hrun]
          refine Out.pure h ?_
          rcases hr with ⟨h1, us, h2, h3⟩ | ⟨h1, s, h2, h3⟩
          · simp only at h1
            subst h1 h2
            simp [mkAV] at hm
            subst hm
            exact .agg _ _ h3
          · simp only at h1 h2
            subst h1 h2
            simp [mkAV] at hm
            subst hm
            exact .one _ _ h3
      · cases hs
    · cases hs
  · cases hs

theorem nil_out (h : CRel C w ρ ok g) {xv : Value} {x : AV} (hx : VRel w ρ ok xv x) {v : AV} {u : Upd} (hs : (doNil x).den = some (v, u)) : ∃ b, xv = .pointer (some b) ∧ Out C w ρ ok g fresh (.ok (.value xv) w) v u := by
  unfold doNil at hs
  split at hs
  · cases hs
    obtain ⟨b, rfl, hr⟩ := ptr_rel hx
    exact ⟨_, rfl, Out.pure h hx⟩
  · cases hs
    cases hx with
    | one _ _ hx => cases hx with
      | eptr => exact ⟨_, rfl, Out.pure h (.one _ _ (by constructor <;> assumption))⟩
  · cases hs
    cases hx with
    | one _ _ hx => cases hx with
      | vptr _ _ _ _ _ b o U hok h0 h1 hcell hrel => exact ⟨_, rfl, Out.pure h (.one _ _ (.vptr _ _ _ _ _ _ _ U hok h0 h1 hcell hrel))⟩
  · cases hs
end
end Go.Proofs.Ytipfipnhgpbceaa.Sx
