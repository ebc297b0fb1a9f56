/- The engine, part 16: results, what is handed to and fro, and the contract of a function whose memory is its own. -/
import Derived.Test.YtodnecfgiimclaaEngO
set_option linter.unusedSimpArgs false
set_option linter.unusedVariables false
namespace Go.Eng
inductive Has (nm rd : Bool) : AV → Prop
 | int (k : IntKind) (n : Int) : Has nm rd (.int k n)
 | bool (b : Bool) : Has nm rd (.bool b)
 | str (s : ByteArray) : Has nm rd (.str s)
 | nilp : Has nm rd .nilp
 | nils : Has nm rd .nils
 | nilm : Has nm rd .nilm
 | nilf : Has nm rd .nilf
 | ptr (n off : Nat) (h : nm = true) : Has nm rd (.ptr n off)
 | pe (n off : Nat) (i : Int) (h : nm = true) : Has nm rd (.pe n off i)
 | vp (n sz : Nat) (i : Int) (off : Nat) (h : nm = true) : Has nm rd (.vp n sz i off)
 | vs (n : Nat) (h : nm = true) : Has nm rd (.vs n)
 | sub (m sz lo k : Nat) (h : nm = true) : Has nm rd (.sub m sz lo k)
 | mp (n : Nat) (h : nm = true) : Has nm rd (.mp n)
 | it (n : Nat) (h : nm = true) : Has nm rd (.it n)
 | rp (cs : List AV) (h : rd = true) (t : ∀ v ∈ cs, Has nm rd v) : Has nm rd (.rp cs)
 | rs (sz n : Nat) (full : Bool) (f : Nat → AV) (h : rd = true) (t : ∀ i, i < n → Has nm rd (f i)) : Has nm rd (.rs sz n full f)
 | fn (f : Nat) (cap : List AV) (t : ∀ v ∈ cap, Has nm rd v) : Has nm rd (.fn f cap)
 | agg (cs : List AV) (t : ∀ v ∈ cs, Has nm rd v) : Has nm rd (.agg cs)
 | arr (n : Nat) (f : Nat → AV) (t : ∀ i, i < n → Has nm rd (f i)) : Has nm rd (.arr n f)
 | tup (vs : List AV) (t : ∀ v ∈ vs, Has nm rd v) : Has nm rd (.tup vs)
 | whn (cs : List Bool) (v : AV) (t : Has nm rd v) : Has nm rd (.whn cs v)
theorem Has.cells {nm rd : Bool} {v : AV} (h : Has nm rd v) : ∀ u ∈ v.cells, Has nm rd u := by
 cases h <;> simp only [AV.cells, List.mem_singleton] <;> try (intro u hu; subst hu)
 case agg cs t => exact t
 all_goals (constructor <;> assumption)
theorem VRel.over {ρ ρ' : Env} {ro ro' : Nat → Prop} {w w' : World} {nm rd : Bool} {σ : Nat → Nat} (hσ : nm = true → ∀ n y, ρ n = some y → ρ' (σ n) = some y) (hro : rd = true → (∀ b, ro b → ro' b) ∧ ∀ b, ro b → w'.heap[b]? = w.heap[b]?) {v : AV} {x : Value} (h : VRel ρ ro w v x) (hh : Has nm rd v) : VRel ρ' ro' w' (v.ren σ) x := by
 revert hh
 refine VRel.rec (motive_1 := fun u x _ => Has nm rd u → VRel ρ' ro' w' (u.ren σ) x) (motive_2 := fun us xs _ => (∀ v ∈ us, Has nm rd v) → LRel ρ' ro' w' (renL σ us) xs) (motive_3 := fun us xs _ => (∀ v ∈ us, Has nm rd v) → CRel ρ' ro' w' (renL σ us) xs)
  ?_ ?_ ?_ ?_ ?_ ?_ ?_ ?_ ?_ ?_ ?_ ?_ ?_ ?_ ?_ ?_ ?_ ?_ ?_ ?_ ?_ ?_ ?_ ?_ ?_ ?_ h
 ·intro k n _; exact .int _ _
 ·intro b _; exact .bool _
 ·intro s _; exact .str _
 ·intro _; exact .nilp
 ·intro n off b hb hh; cases hh with | ptr _ _ h => exact .ptr _ _ b (hσ h _ _ hb)
 ·intro n off b i hb hh; cases hh with | pe _ _ _ h => exact .pe _ _ b _ (hσ h _ _ hb)
 ·intro n sz off b l c i hb hh; cases hh with | vp _ _ _ _ h => exact .vp _ _ _ b l c _ (hσ h _ _ hb)
 ·intro cs a us h1 h2 h3 _ ih hh
  cases hh with | rp _ h t => exact .rp _ a us ((hro h).1 _ h1) h2 (fun j u hj => (cell_same (by rw [add_block]; exact (hro h).2 _ h1)).trans (h3 j u hj)) (ih t)
 ·intro sz n cap full f a vals h1 h2 h3 h4 h5 _ ih hh
  cases hh with
  | rs _ _ _ _ h t =>
    refine .rs _ _ cap _ _ a vals h1 h2 h3 (fun h0 => ?_) h5 fun i hi => by rw [ren_cells]; exact ih i hi ((t i hi).cells)
    obtain ⟨ad, e, hr, hs, hc⟩ := h4 h0
    exact ⟨ad, e, (hro h).1 _ hr, hs, fun i hi j u hj => (cell_same (by rw [add_block]; exact (hro h).2 _ hr)).trans (hc i hi j u hj)⟩
 ·intro n x hx hv hh; cases hh with | vs _ h => exact .vs _ x (hσ h _ _ hx) hv
 ·intro m sz lo k cap a0 a l c h hl hn hm ha hh; cases hh with | sub _ _ _ _ h0 => exact .sub _ _ _ _ cap a0 a l c (hσ h0 _ _ h) hl hn hm ha
 ·intro _; exact .nils
 ·intro n r hr hh; cases hh with | mp _ h => exact .mp _ r (hσ h _ _ hr)
 ·intro _; exact .nilm
 ·intro f cap us _ ih hh; cases hh with | fn _ _ t => exact .fn _ _ us (ih t)
 ·intro _; exact .nilf
 ·intro cs us _ ih hh; cases hh with | agg _ t => exact .agg _ us (ih t)
 ·intro vs us _ ih hh; cases hh with | tup _ t => exact .tup _ us (ih t)
 ·intro n b hb hh; cases hh with | it _ h => exact .it _ b (hσ h _ _ hb)
 ·intro cs v x hc _ ih hh; cases hh with | whn _ _ t => exact .whnT _ _ x hc (ih t)
 ·intro cs v hc hh; exact .whnF _ _ hc
 ·intro _; exact .nil
 ·intro v vs u us _ _ ih it hh; exact .cons _ _ u us (ih (hh _ (by simp))) (it fun v hv => hh v (List.mem_cons_of_mem _ hv))
 ·intro _; exact .nil
 ·intro v vs u us _ h1 _ ih it hh; exact .cons _ _ u us (ih (hh _ (by simp))) h1 (it fun v hv => hh v (List.mem_cons_of_mem _ hv))
 ·intro n f vs xs us hl _ h1 _ ih it hh
  refine .arr _ _ _ xs us hl (fun i u hu => ih i u hu ?_) h1 (it fun v hv => hh v (List.mem_cons_of_mem _ hv))
  have h0 := hh (.arr n f) (by simp)
  have hi : i < n := by rw [← hl]; exact (List.getElem?_eq_some_iff.1 hu).1
  cases h0 with | arr _ _ t => exact t i hi
theorem CRel.over {ρ ρ' : Env} {ro ro' : Nat → Prop} {w w' : World} {nm rd : Bool} {σ : Nat → Nat} (hσ : nm = true → ∀ n y, ρ n = some y → ρ' (σ n) = some y) (hro : rd = true → (∀ b, ro b → ro' b) ∧ ∀ b, ro b → w'.heap[b]? = w.heap[b]?) {vs : List AV} {xs : List Value} (h : CRel ρ ro w vs xs) (hh : ∀ v ∈ vs, Has nm rd v) : CRel ρ' ro' w' (renL σ vs) xs := by
 have h1 := VRel.over hσ hro (VRel.agg vs xs h) (.agg _ hh)
 have h2 : ∀ y, VRel ρ' ro' w' (.agg (renL σ vs)) y → y = .agg xs.toArray → CRel ρ' ro' w' (renL σ vs) xs := by
  intro y hy e
  cases hy with
  | agg _ us' hq => injection e with e; have e2 := congrArg Array.toList e; simp at e2; exact e2 ▸ hq
 exact h2 _ (by simpa only [AV.ren] using h1) rfl
mutual
theorem ren_id : ∀ (v : AV), v.ren (fun n => n) = v
 | .rp cs => by simp only [AV.ren, renL_id cs]
 | .fn f cap => by simp only [AV.ren, renL_id cap]
 | .agg cs => by simp only [AV.ren, renL_id cs]
 | .tup vs => by simp only [AV.ren, renL_id vs]
 | .rs sz n full f => by simp only [AV.ren]; congr; funext i; exact ren_id (f i)
 | .arr n f => by simp only [AV.ren]; congr; funext i; exact ren_id (f i)
 | .whn cs v => by simp only [AV.ren, ren_id v]
 | .ptr n off => rfl
 | .pe n off i => rfl
 | .vp n sz i off => rfl
 | .vs n => rfl
 | .sub m sz lo k => rfl
 | .mp n => rfl
 | .it n => rfl
 | .int k n => rfl
 | .bool b => rfl
 | .str s => rfl
 | .nilp => rfl
 | .nils => rfl
 | .nilm => rfl
 | .nilf => rfl
theorem renL_id : ∀ (vs : List AV), renL (fun n => n) vs = vs
 | [] => rfl
 | v :: vs => by simp only [renL, ren_id v, renL_id vs]
end
def evRV (T : Tab) (h : Heap) : ResultVar → Option (AV × List Prop)
 | .tmp t => match hget h 0 t with
   | some (.cell (.whn _ _)) => none
   | some (.cell v) => some (v, [])
   | _ => none
 | .cell a t => match hget h 0 a with
   | some (.cell p) => (evLoad T (hget h) t p).map fun o => (o.val, o.sides)
   | _ => none
def evRVs (T : Tab) (h : Heap) : List ResultVar → Option (List AV × List Prop)
 | [] => some ([], [])
 | r :: rs => match evRV T h r, evRVs T h rs with
   | some (v, ps), some (vs, qs) => some (v :: vs, ps ++ qs)
   | _, _ => none
def oneAV : List AV → AV
 | [v] => v
 | vs => .tup vs
def rvSem (a : Act) : ResultVar → Sem Value
 | .tmp t => pure (a.tmps.getD t undef)
 | .cell b t => do loadVar t (← asAddr (a.tmps.getD b undef))
theorem holds_results {P : Program} {T : Tab} (hT : TabOK P T) {mine : Nat → Prop} {ρ : Env} {ro : Nat → Prop} {s : St} {a : Act} {w : World} (H : Holds mine ρ ro s a w) {fn : Func} {vs : List AV} {ps : List Prop} (e : evRVs T s.h fn.results.toList = some (vs, ps)) (hs : ∀ p ∈ ps, p) :
 ∃ x, (results fn a.tmps).run P w = .ok x w ∧ VRel ρ ro w (oneAV vs) x := by
 have one : ∀ r v ps, evRV T s.h r = some (v, ps) → (∀ p ∈ ps, p) → ∃ x, (rvSem a r).run P w = .ok x w ∧ VRel ρ ro w v x := by
  intro r v ps e hs
  cases r with
  | tmp t =>
    simp only [evRV] at e
    split at e
    ·cases e
    ·rename_i v' hk
     injection e with e; injection e with e1 e2; subst e1
     obtain ⟨u, h1, h2⟩ := H.ok.slots t _ hk
     exact ⟨u, by simp [rvSem, Array.getD_eq_getD_getElem?, h1], h2⟩
    ·cases e
  | cell b t =>
    simp only [evRV] at e
    split at e
    ·rename_i p hk
     obtain ⟨o, h1, h2⟩ := Option.map_eq_some_iff.1 e
     injection h2 with h2 h3; subst h2; subst h3
     obtain ⟨u, h3, h4⟩ := H.ok.slots b _ hk
     obtain ⟨_, y, h5, h6⟩ := evLoad_sound (P := P) hT H.ok.sim h1 (evLoad_rd h1) hs h4
     refine ⟨y, ?_, h6⟩
     have hu : a.tmps.getD b undef = u := by simp [Array.getD_eq_getD_getElem?, h3]
     simp only [rvSem, hu]
     unfold Instr.loadAt at h5
     cases u with
     | pointer q =>
       cases q with
       | some ad => simpa [Instr.sureAddr, asAddr] using h5
       | none => simp [Instr.sureAddr] at h5
     | _ => simp [Instr.sureAddr] at h5
    ·cases e
 have all : ∀ (rs : List ResultVar) (vs : List AV) (ps : List Prop), evRVs T s.h rs = some (vs, ps) → (∀ p ∈ ps, p) →
  ∃ xs, (rs.mapM (rvSem a)).run P w = .ok xs w ∧ LRel ρ ro w vs xs := by
  intro rs
  induction rs with
  | nil => intro vs ps e hs; simp only [evRVs, Option.some.injEq, Prod.mk.injEq] at e; obtain ⟨rfl, rfl⟩ := e; exact ⟨[], by simp, .nil⟩
  | cons r rs ih =>
    intro vs ps e hs
    simp only [evRVs] at e
    split at e
    ·rename_i v ps1 vs1 qs h1 h2
     injection e with e; injection e with e1 e2; subst e1; subst e2
     obtain ⟨x, k1, k2⟩ := one r v ps1 h1 fun p hp => hs p (List.mem_append_left _ hp)
     obtain ⟨xs, k3, k4⟩ := ih vs1 qs h2 fun p hp => hs p (List.mem_append_right _ hp)
     refine ⟨x :: xs, ?_, .cons _ _ _ _ k2 k4⟩
     simp only [List.mapM_cons, Sem.run_bind, k1, k3, Result.andThen_ok, Sem.run_pure]
    ·cases e
 obtain ⟨xs, h1, h2⟩ := all _ _ _ e hs
 have hr : (results fn a.tmps).run P w = .ok (if h : xs.toArray.size = 1 then xs.toArray[0] else .tuple xs.toArray) w := by
  have hd : results fn a.tmps = (do let vs ← fn.results.mapM (rvSem a); pure (if h : vs.size = 1 then vs[0] else .tuple vs)) := by
   unfold results
   congr 1
  rw [hd]
  simp only [Array.mapM_eq_mapM_toList, map_eq_pure_bind, Sem.run_bind, h1, Result.andThen_ok, Sem.run_pure]
 refine ⟨_, hr, ?_⟩
 cases h2 with
 | nil => exact .tup _ _ .nil
 | cons v vs u us hv ht =>
   cases ht with
   | nil => simpa [oneAV] using hv
   | cons v2 vs2 u2 us2 hv2 ht2 => simpa [oneAV] using VRel.tup _ _ (.cons _ _ _ _ hv (.cons _ _ _ _ hv2 ht2))
def sl (sz : Nat) (h : Rd) : AV → Option (Nat × (Nat → AV) × List (Nat × Nat × Cont))
 | .rs sz' n _ f => bif sz' == sz then some (n, f, []) else none
 | .nils => some (0, fun _ => .nils, [])
 | .vs j => match h j 0 with
   | some (.vec sz' e n f) => bif sz' == sz then some (n, f, [(j, 0, .vec sz' e n f)]) else none
   | _ => none
 | .sub m sz2 lo k => match h m 0 with
   | some (.vec sz' e n f) => bif sz' == sz && sz2 == sz then some (k, (fun i => f (lo + i)), [(m, 0, .vec sz' e n f)]) else none
   | _ => none
 | _ => none
def can (K : List Nat) (z n : Nat) : Nat := match n with
 | 0 => 0
 | n + 1 => (K[n]?).getD z
def sgm (K : List Nat) (nb n : Nat) : Nat := match n with
 | 0 => 0
 | n + 1 => (K[n]?).getD (nb + (n - K.length))
theorem can_at {K : List Nat} {z i m : Nat} (h : K[i]? = some m) : can K z (i + 1) = m := by simp [can, h]
theorem can_out {K : List Nat} {z n : Nat} (h : K.length < n) : can K z n = z := by
 cases n with
 | zero => omega
 | succ n => simp [can, List.getElem?_eq_none (by omega : K.length ≤ n)]
theorem sgm_at {K : List Nat} {z i m : Nat} (h : K[i]? = some m) : sgm K z (i + 1) = m := by simp [sgm, h]
theorem sgm_out {K : List Nat} {z n : Nat} (h : K.length < n) : sgm K z n = z + (n - 1 - K.length) := by
 cases n with
 | zero => omega
 | succ n => simp [sgm, List.getElem?_eq_none (by omega : K.length ≤ n)]
inductive Pass (hr : Rd) (rdl : List (Nat × Nat × Cont)) (K : List Nat) (nb : Nat) : Bool → AV → AV → Prop
 | same (b : Bool) (v : AV) (h : Has false true v) : Pass hr rdl K nb b v v
 | slice (sz n : Nat) (f : Nat → AV) (r : List (Nat × Nat × Cont)) (v : AV) (e : sl sz hr v = some (n, f, r)) (hm : ∀ y ∈ r, y ∈ rdl ∧ y.1 ∉ K) (f' : Nat → AV) (h : ∀ i, i < n → f i = f' i ∧ Has false true (f' i)) : Pass hr rdl K nb false v (.rs sz n false f')
 | name (b : Bool) (v v' : AV) (h : v = v'.ren (can K nb)) : Pass hr rdl K nb b v v'
 | rs (b : Bool) (sz n : Nat) (full : Bool) (f f' : Nat → AV) (h : ∀ i, i < n → f i = f' i ∧ Has false true (f' i)) : Pass hr rdl K nb b (.rs sz n full f) (.rs sz n false f')
 | nil (b : Bool) (sz : Nat) (f' : Nat → AV) : Pass hr rdl K nb b .nils (.rs sz 0 false f')
inductive PassL (hr : Rd) (rdl : List (Nat × Nat × Cont)) (K : List Nat) (nb : Nat) (b : Bool) : List AV → List AV → Prop
 | nil : PassL hr rdl K nb b [] []
 | cons (v v' : AV) (vs vs' : List AV) (h : Pass hr rdl K nb b v v') (t : PassL hr rdl K nb b vs vs') : PassL hr rdl K nb b (v :: vs) (v' :: vs')
 | agg (cs ds : List AV) (vs vs' : List AV) (hl : ds.length = cs.length) (hp : ∀ (i : Nat) (v v' : AV), cs[i]? = some v → ds[i]? = some v' → Pass hr rdl K nb b v v') (na : ∀ n f, AV.arr n f ∉ cs) (t : PassL hr rdl K nb b vs vs') : PassL hr rdl K nb b (.agg cs :: vs) (.agg ds :: vs')
def slots0 : Nat → List AV → Heap
 | _, [] => []
 | i, v :: vs => (0, i, .cell v) :: slots0 (i + 1) vs
def CF (b : Bool) (σ : Nat → Nat) : Cont → Cont → Prop
 | .cell v', .cell v => Has true b v' ∧ v = v'.ren σ
 | .arr k f', .arr k' f => k' = k ∧ ∀ i, i < k → Has true b (f' i) ∧ f i = (f' i).ren σ
 | .vec sz e k f', .vec sz' e' k' f => sz' = sz ∧ e' = e ∧ k' = k ∧ ∀ i, i < k → Has true b (f' i) ∧ f i = (f' i).ren σ
 | .map ar' es', .map ar es => ar' = ar ∧ es.length = es'.length ∧ ∀ (i : Nat) (x : List Int × AV), es[i]? = some x → ∃ v', es'[i]? = some (x.1, v') ∧ Has true b v' ∧ x.2 = v'.ren σ
 | .maps ar' es' bs' ck', .maps ar es bs ck => (ar' = ar ∧ bs' = bs ∧ ck' = ck) ∧ es.length = es'.length ∧ ∀ (i : Nat) (x : List Int × AV), es[i]? = some x → ∃ v', es'[i]? = some (x.1, v') ∧ Has true b v' ∧ x.2 = v'.ren σ
 | .top, .top => True
 | _, _ => False
inductive Whole (rd : List (Nat × Nat × Cont)) (n : Nat) : Prop
 | cells (sz : Nat) (ht : (n, sz, .top) ∈ rd) (h : ∀ o, o < sz → ∃ o' c, (n, o', c) ∈ rd ∧ c.live ∧ o' ≤ o ∧ o < o' + c.wd)
 | vec (sz e k : Nat) (f : Nat → AV) (h : (n, 0, .vec sz e k f) ∈ rd)
 | map (ar : Nat) (es : List (List Int × AV)) (h : (n, 0, .map ar es) ∈ rd)
 | maps (ar : Nat) (es : List (List Int × AV)) (bs : List Nat) (ck : Nat) (h : (n, 0, .maps ar es bs ck) ∈ rd)
structure Ends0 (T : Tab) (fn : Func) (K : List Nat) (nb : Nat) (out : Out) (b : Bool) (s : St) : Prop where
 fin : ∃ (l : List Nat) (sF : St) (vs : List AV) (sides : List Prop) (v : AV), WeakL (K.length + 1) l s sF ∧ sF.nx ≤ K.length + 33 ∧ evRVs T s.h fn.results.toList = some (vs, sides) ∧ All sides ∧ oneAV vs = v.ren (pi (K.length + 1) s.nx l) ∧ Has true b v ∧ out.val = v.ren (sgm K nb) ∧
  (∀ x ∈ out.up, x.2.2.live → ∃ n' c', x.1 = sgm K nb n' ∧ 0 < n' ∧ n' < sF.nx ∧ hget sF.h n' x.2.1 = some c' ∧ CF b (sgm K nb) c' x.2.2) ∧
  (∀ x ∈ out.rd, x.1 ∈ K → (keyIn (x.1, x.2.1) (upKeys out.up) = true ∧ ∀ sz, x ≠ (x.1, sz, .top)) ∨ ∃ i c', K[i]? = some x.1 ∧ hget sF.h (i + 1) x.2.1 = some c' ∧ CF b (sgm K nb) c' x.2.2)
def Ends (T : Tab) (fn : Func) (K : List Nat) (nb : Nat) (out : Out) (b : Bool) (s : St) : Prop := ∃ s', Wk (K.length + 1) s s' ∧ Ends0 T fn K nb out b s'
def Post (T : Tab) (fn : Func) (K : List Nat) (nb : Nat) (out : Out) (b : Bool) : Exit → St → Prop
 | .normal, s | .ret, s => Ends T fn K nb out b s
 | _, _ => False
theorem hget_hput' (up : List (Nat × Nat × Cont)) (h : Heap) (n o : Nat) (c : Cont) (e : hget (hput h up) n o = some c) : (n, o, c) ∈ up ∨ (keyIn (n, o) (upKeys up) = false ∧ hget h n o = some c) := by
 have hin : ∀ (up : List (Nat × Nat × Cont)) (h : Heap), hget (hput h up) n o = some c → (n, o, c) ∈ up ∨ hget h n o = some c := by
  intro up
  induction up with
  | nil => intro h e; exact .inr e
  | cons x up ih =>
    intro h e
    rcases ih _ e with h1 | h1
    ·exact .inl (List.mem_cons_of_mem _ h1)
    ·obtain ⟨n', o', c'⟩ := x
     rw [hget_cons] at h1
     split at h1
     ·rename_i he; obtain ⟨rfl, rfl⟩ := he; injection h1 with h1; subst h1; exact .inl List.mem_cons_self
     ·exact .inr h1
 cases hk : keyIn (n, o) (upKeys up) with
 | false => rw [hget_hput_not up h hk] at e; exact .inr ⟨rfl, e⟩
 | true =>
   rw [hget_hput_in up h [] hk] at e
   exact (hin up [] e).elim .inl fun h => by simp [hget] at h
theorem hget_slots0 : ∀ (vs : List AV) (i n o : Nat) (c : Cont), hget (slots0 i vs) n o = some c → n = 0 ∧ i ≤ o ∧ ∃ v, vs[o - i]? = some v ∧ c = .cell v
 | [], i, n, o, c, e => by simp [slots0, hget] at e
 | v :: vs, i, n, o, c, e => by
   simp only [slots0] at e
   rw [hget_cons] at e
   split at e
   ·rename_i he; obtain ⟨rfl, rfl⟩ := he; injection e with e; subst e; exact ⟨rfl, Nat.le_refl _, v, by simp, rfl⟩
   ·obtain ⟨h1, h2, u, h3, h4⟩ := hget_slots0 vs (i + 1) n o c e
    refine ⟨h1, by omega, u, ?_, h4⟩
    have : o - i = o - (i + 1) + 1 := by omega
    rw [this]; simpa using h3
theorem hget_app : ∀ (h g : Heap) (n o : Nat) (c : Cont), hget (h ++ g) n o = some c → hget h n o = some c ∨ hget g n o = some c
 | [], g, n, o, c, e => .inr e
 | (n', o', c') :: h, g, n, o, c, e => by
   rw [List.cons_append, hget_cons] at e
   rw [hget_cons]
   split at e
   ·rename_i he; rw [if_pos he]; exact .inl e
   ·rename_i he; rw [if_neg he]; exact hget_app h g n o c e
theorem hget_mem : ∀ (h : Heap) (n o : Nat) (c : Cont), hget h n o = some c → (n, o, c) ∈ h
 | [], n, o, c, e => by simp [hget] at e
 | (n', o', c') :: h, n, o, c, e => by
   rw [hget_cons] at e
   split at e
   ·rename_i he; obtain ⟨rfl, rfl⟩ := he; injection e with e; subst e; exact List.mem_cons_self
   ·exact List.mem_cons_of_mem _ (hget_mem h n o c e)
section
variable {mine : Nat → Prop} {ρ : Env} {ro : Nat → Prop} {h : Heap} {w : World}
def KB (ρ : Env) (K : List Nat) (k : Nat) : Prop := ∃ n ∈ K, ∃ x, ρ n = some x ∧ blk x = some k
theorem Pass.rel (S : Sim mine ρ ro h w) {hr : Rd} {rdl : List (Nat × Nat × Cont)} (hrd : ∀ x ∈ rdl, hget h x.1 x.2.1 = some x.2.2) {K : List Nat} {nb : Nat} (hK : ∀ n ∈ K, 0 < n ∧ live h n) {b : Bool} {v v' : AV} (p : Pass hr rdl K nb b v v') {ro' : Nat → Prop} (hb : ∀ k, ro k → ro' k) (hb' : b = false → ∀ k, k < w.heap.size → ¬ KB ρ K k → ro' k) {x : Value} (hv : VRel ρ ro w v x) : VRel (fun n => ρ (can K nb n)) ro' w v' x := by
 cases p with
 | name _ _ _ e =>
   subst e
   have := VRel.unren (ρ := ρ) (ρ' := fun n => ρ (can K nb n)) (fun _ => rfl) hv
   exact this.grow ⟨fun _ _ h => h, hb, fun _ _ => rfl⟩
 | rs _ sz n full f f' hh0 =>
   have hh : ∀ i, i < n → Has false true (f i) := fun i hi => by rw [(hh0 i hi).1]; exact (hh0 i hi).2
   have := VRel.over (ρ' := fun n => ρ (can K nb n)) (ro' := ro') (w' := w) (σ := fun n => n) (nm := false) (rd := true) (fun e => by cases e) (fun _ => ⟨hb, fun _ _ => rfl⟩) hv (.rs _ _ _ _ rfl hh)
   rw [ren_id] at this
   cases this with
   | rs _ _ cap _ _ a vals h1 h2 h3 h4 h5 h6 => exact .rs _ _ cap _ _ a vals h1 h2 (fun e => by cases e) h4 h5 fun i hi => by rw [← (hh0 i hi).1]; exact h6 i hi
 | nil _ sz f'' =>
   cases hv
   exact .rs sz 0 0 false f'' none (fun _ => []) (Nat.le_refl _) (Nat.zero_le _) (fun e => by cases e) (fun h => absurd h (Nat.lt_irrefl 0)) (fun i hi => absurd hi (Nat.not_lt_zero i)) fun i hi => absurd hi (Nat.not_lt_zero i)
 | same _ _ hh =>
   have := VRel.over (ρ' := fun n => ρ (can K nb n)) (ro' := ro') (w' := w) (σ := fun n => n) (nm := false) (rd := true) (fun e => by cases e) (fun _ => ⟨hb, fun _ _ => rfl⟩) hv hh
   rwa [ren_id] at this
 | slice sz n f r _ e hm f'' hh0 =>
   have hh : ∀ i, i < n → Has false true (f i) := fun i hi => by rw [(hh0 i hi).1]; exact (hh0 i hi).2
   have weak : ∀ {x : Value}, VRel (fun n => ρ (can K nb n)) ro' w (.rs sz n false f) x → VRel (fun n => ρ (can K nb n)) ro' w (.rs sz n false f'') x := by
    intro x hx
    cases hx with
    | rs _ _ cap _ _ a vals h1 h2 h3 h4 h5 h6 => exact .rs _ _ cap _ _ a vals h1 h2 h3 h4 h5 fun i hi => by rw [← (hh0 i hi).1]; exact h6 i hi
   refine weak ?_
   have hall := hb' rfl
   have tr : ∀ {cs : List AV} {us : List Value}, CRel ρ ro w cs us → (∀ v ∈ cs, Has false true v) → CRel (fun n => ρ (can K nb n)) ro' w cs us := by
    intro cs us hc hcs
    have := CRel.over (ρ' := fun n => ρ (can K nb n)) (ro' := ro') (w' := w) (σ := fun n => n) (nm := false) (rd := true) (fun e => by cases e) (fun _ => ⟨hb, fun _ _ => rfl⟩) hc hcs
    rwa [renL_id] at this
   cases hv with
   | rs sz' n' cap full f' a vals h1 h2 h3 h4 h5 h6 =>
     simp only [sl] at e
     obtain ⟨e1, e2⟩ := bif_some e
     injection e2 with e2; injection e2 with e2 e3; injection e3 with e3 e4
     subst e2; subst e3
     have e1 : sz' = sz := by simpa using e1
     subst e1
     refine .rs _ _ cap _ _ a vals h1 h2 (fun e => by cases e) (fun h0 => ?_) h5 fun i hi => tr (h6 i hi) (hh i hi).cells
     obtain ⟨ad, k1, k2, k3, k4⟩ := h4 h0
     exact ⟨ad, k1, hb _ k2, k3, k4⟩
   | nils =>
     simp only [sl] at e
     injection e with e; injection e with e2 e3; injection e3 with e3 e4
     subst e2
     exact .rs _ _ 0 _ _ none (fun _ => []) (Nat.le_refl _) (Nat.zero_le _) (fun e => by cases e) (fun h0 => absurd h0 (Nat.lt_irrefl 0)) (fun i hi => absurd hi (Nat.not_lt_zero _)) (fun i hi => absurd hi (Nat.not_lt_zero _))
   | vs j x hx hsl =>
     simp only [sl] at e
     split at e
     ·rename_i sz' ety n' f' hk
      obtain ⟨e1, e2⟩ := bif_some e
      injection e2 with e2; injection e2 with e2 e3; injection e3 with e3 e4
      subst e2; subst e3; subst e4
      have e1 : sz' = sz := by simpa using e1
      subst e1
      obtain ⟨hmem, hjK⟩ := hm (j, 0, .vec sz' ety n' f') (by simp)
      have hc := hrd _ hmem
      obtain ⟨_, x', xs, c1, c2, c3, c4, c5⟩ := S.cont j 0 _ (name_pos S hx) hc
      rw [hx] at c1; injection c1 with c1; subst c1
      rcases c3.2 with ⟨rfl, rfl⟩ | ⟨g, cap, cur, rfl, hbase, ⟨fz, hg, _⟩, hkc, hcm, hcs, htake⟩
      ·exact .rs _ _ 0 _ _ none (fun _ => []) (Nat.le_refl _) (Nat.zero_le _) (fun e => by cases e) (fun h0 => absurd h0 (Nat.lt_irrefl 0)) (fun i hi => absurd hi (Nat.not_lt_zero _)) (fun i hi => absurd hi (Nat.not_lt_zero _))
      ·have hlen := c3.1
       have hnK : ¬ KB ρ K g := by
        rintro ⟨m, hmK, y, hy, hby⟩
        exact S.dist m j y _ g (hK m hmK).1 (name_pos S hx) (fun e => hjK (e ▸ hmK)) (hK m hmK).2 ⟨0, _, hc, trivial⟩ hy hx hby rfl
       refine .rs _ _ cap _ _ _ (fun i => (xs.drop (i * sz')).take sz') hkc hcm (fun e => by cases e) (fun h0 => ⟨_, rfl, hall _ (Array.getElem?_eq_some_iff.1 hg).1 hnK, rfl, fun i hi k u hk => ?_⟩) (fun i hi => ?_) fun i hi => tr (c5 i hi) (hh i hi).cells
       ·have hlt := (List.getElem?_eq_some_iff.1 hk).1
        rw [List.length_take] at hlt
        have hsz : k < sz' := by omega
        rw [seg_get hsz] at hk
        exact c3.cells rfl _ _ hk
       ·rw [List.length_take, List.length_drop, hlen]
        have : i * sz' + sz' ≤ n' * sz' := by rw [← Nat.succ_mul]; exact Nat.mul_le_mul_right _ hi
        omega
     ·cases e
   | sub j sz2 lo k cap a0 a l c hx hl hn hm2 ha =>
     simp only [sl] at e
     split at e
     ·rename_i sz' ety n' f' hk
      obtain ⟨e1, e2⟩ := bif_some e
      injection e2 with e2; injection e2 with e2 e3; injection e3 with e3 e4
      subst e2; subst e3; subst e4
      simp only [Bool.and_eq_true, beq_iff_eq] at e1
      obtain ⟨rfl, rfl⟩ := e1
      obtain ⟨hmem, hjK⟩ := hm (j, 0, .vec sz2 ety n' f') (by simp)
      have hc := hrd _ hmem
      obtain ⟨_, x', xs, c1, c2, c3, c4, c5⟩ := S.cont j 0 _ (name_pos S hx) hc
      rw [hx] at c1; injection c1 with c1; subst c1
      have hlk : l = n' := by
       rcases c3.2 with ⟨e1, e2⟩ | ⟨g, cap', cur, e1, _⟩
       ·injection e1 with _ e1 _; omega
       ·injection e1
      subst hlk
      have hlen := c3.1
      refine .rs _ _ cap _ _ a (fun i => (xs.drop ((lo + i) * sz2)).take sz2) hn hm2 (fun e => by cases e) (fun h0 => ?_) (fun i hi => ?_) fun i hi => tr (c5 (lo + i) (by omega)) (hh i hi).cells
      ·obtain ⟨g, rfl, rfl⟩ := ha h0
       have hnK : ¬ KB ρ K g := by
        rintro ⟨m, hmK, y, hy, hby⟩
        exact S.dist m j y _ g (hK m hmK).1 (name_pos S hx) (fun e => hjK (e ▸ hmK)) (hK m hmK).2 ⟨0, _, hc, trivial⟩ hy hx hby rfl
       refine ⟨_, rfl, hall _ (c3.lt g rfl) hnK, rfl, fun i hi k u hk => ?_⟩
       have hlt := (List.getElem?_eq_some_iff.1 hk).1
       rw [List.length_take] at hlt
       have hsz : k < sz2 := by omega
       rw [seg_get hsz] at hk
       have h7 := c3.cells (g := g) rfl _ _ hk
       rw [← h7, add_at, add_at, Nat.zero_add, Nat.add_mul]
       congr 2
       omega
      ·rw [List.length_take, List.length_drop, hlen]
       have : (lo + i) * sz2 + sz2 ≤ l * sz2 := by rw [← Nat.succ_mul]; exact Nat.mul_le_mul_right _ (by omega)
       omega
     ·cases e
   | _ => simp [sl] at e
theorem CRel.conv {ρ ρ' : Env} {ro ro' : Nat → Prop} {w : World} : ∀ {cs ds : List AV} {us : List Value}, ds.length = cs.length → (∀ (i : Nat) (v v' : AV), cs[i]? = some v → ds[i]? = some v' → ∀ x, VRel ρ ro w v x → VRel ρ' ro' w v' x) → (∀ n f, AV.arr n f ∉ cs) → CRel ρ ro w cs us → CRel ρ' ro' w ds us
 | [], ds, us, hl, _, _, h => by
   cases h
   cases ds with
   | nil => exact .nil
   | cons d ds => simp at hl
 | c :: cs, ds, us, hl, hp, na, h => by
   cases ds with
   | nil => simp at hl
   | cons d ds =>
     cases h with
     | cons _ _ u us h h1 t => exact .cons _ _ u us (hp 0 c d rfl rfl u h) h1 (CRel.conv (by simpa using hl) (fun i v v' e1 e2 => hp (i + 1) v v' (by simpa using e1) (by simpa using e2)) (fun n f hm => na n f (List.mem_cons_of_mem _ hm)) t)
     | arr n f _ xs us _ _ _ _ => exact absurd List.mem_cons_self (na n f)
theorem PassL.rel (S : Sim mine ρ ro h w) {hr : Rd} {rdl : List (Nat × Nat × Cont)} (hrd : ∀ x ∈ rdl, hget h x.1 x.2.1 = some x.2.2) {K : List Nat} {nb : Nat} (hK : ∀ n ∈ K, 0 < n ∧ live h n) {b : Bool} {ro' : Nat → Prop} (hb : ∀ k, ro k → ro' k) (hb' : b = false → ∀ k, k < w.heap.size → ¬ KB ρ K k → ro' k) :
 ∀ {vs vs' : List AV} {xs : List Value}, PassL hr rdl K nb b vs vs' → LRel ρ ro w vs xs → LRel (fun n => ρ (can K nb n)) ro' w vs' xs := by
 intro vs
 induction vs with
 | nil => intro vs' xs p hv; cases p; cases hv; exact .nil
 | cons v vs ih =>
   intro vs' xs p hv
   cases p with
   | cons _ v' _ vs' p t =>
     cases hv with
     | cons _ _ u us hv ht => exact .cons _ _ u us (p.rel S hrd hK hb hb' hv) (ih t ht)
   | agg cs ds _ vs' hl hp na t =>
     cases hv with
     | cons _ _ u us hv ht =>
       cases hv with
       | agg _ xs hc => exact .cons _ _ _ us (.agg _ xs (CRel.conv hl (fun i v v' e1 e2 x hx => (hp i v v' e1 e2).rel S hrd hK hb hb' hx) na hc)) (ih t ht)
theorem CF.live {b : Bool} {σ : Nat → Nat} {c' c : Cont} (h : CF b σ c' c) : c'.live ∧ c.live ∧ c.wd = c'.wd := by
 cases c' <;> cases c <;> first | exact False.elim h | exact ⟨trivial, trivial, rfl⟩ | exact ⟨trivial, trivial, h.1⟩
theorem CF.csim {mine mine' : Nat → Prop} {ρ ρ' : Env} {ro ro' : Nat → Prop} {b : Bool} {σ : Nat → Nat} (hσ : ∀ n y, ρ n = some y → ρ' (σ n) = some y) (hro : b = true → ∀ k, ro k → ro' k) (hm : ∀ k, mine k → ¬ ro k → mine' k ∧ ¬ ro' k) {n o : Nat} {c' c : Cont} (hc : CF b σ c' c) (h : CSim mine ρ ro w n o c') : CSim mine' ρ' ro' w (σ n) o c := by
 have vr : ∀ {v : AV} {x : Value}, VRel ρ ro w v x → Has true b v → VRel ρ' ro' w (v.ren σ) x := fun hv hh => VRel.over (fun _ => hσ) (fun e => ⟨hro e, fun _ _ => rfl⟩) hv hh
 cases c' <;> cases c <;> simp only [CF] at hc <;> try exact hc.elim
 case cell.cell v' v =>
  obtain ⟨k, cs, ty, u, h1, h2, h3, h4, h5, h6, h7⟩ := h
  exact ⟨k, cs, ty, u, hσ _ _ h1, h2, (hm k h3 h4).1, (hm k h3 h4).2, h5, h6, hc.2 ▸ vr h7 hc.1⟩
 case arr.arr k f' k' f =>
  obtain ⟨rfl, hf⟩ := hc
  obtain ⟨q, cs, ty, h1, h2, h3, h4, h5⟩ := h
  refine ⟨q, cs, ty, hσ _ _ h1, h2, (hm q h3 h4).1, (hm q h3 h4).2, fun i hi => ?_⟩
  obtain ⟨u, a1, a2, a3⟩ := h5 i hi
  exact ⟨u, a1, a2, (hf i hi).2 ▸ vr a3 (hf i hi).1⟩
 case vec.vec sz e k f' sz' e' k' f =>
  obtain ⟨rfl, rfl, rfl, hf⟩ := hc
  obtain ⟨ho, x, xs, h1, h2, h3, h4, h5⟩ := h
  refine ⟨ho, x, xs, hσ _ _ h1, fun b e => hm b (h2 b e).1 (h2 b e).2, h3, h4, fun i hi => ?_⟩
  rw [(hf i hi).2, ren_cells]
  exact CRel.over (fun _ => hσ) (fun e => ⟨hro e, fun _ _ => rfl⟩) (h5 i hi) (hf i hi).1.cells
 case map.map ar' es' ar es =>
  obtain ⟨rfl, hl, he⟩ := hc
  obtain ⟨ho, r, ms, clock, h1, h2, h3, h4, h5, h6⟩ := h
  refine ⟨ho, r, ms, clock, hσ _ _ h1, h2, (hm r h3 h4).1, (hm r h3 h4).2, ⟨by rw [h5.1, hl], h5.2⟩, fun i hi e hei => ?_⟩
  obtain ⟨v', k1, k2, k3⟩ := he i e hei
  have := h6 i hi _ k1
  exact ⟨this.key, k3 ▸ vr this.val k2⟩
 case maps.maps ar' es' bs' ck' ar es bs ck =>
  obtain ⟨⟨rfl, rfl, rfl⟩, hl, he⟩ := hc
  obtain ⟨ho, r, ms, h1, h2, h3, h4, h5, h6⟩ := h
  refine ⟨ho, r, ms, hσ _ _ h1, h2, (hm r h3 h4).1, (hm r h3 h4).2, ⟨by rw [h5.1, hl], h5.2⟩, fun i hi e hei => ?_⟩
  obtain ⟨v', k1, k2, k3⟩ := he i e hei
  have := h6 i hi _ k1
  exact ⟨this.key, k3 ▸ vr this.val k2⟩
 case top.top =>
  obtain ⟨q, cs, ty, h1, h2, h3, h4, h5⟩ := h
  exact ⟨q, cs, ty, hσ _ _ h1, h2, (hm q h3 h4).1, (hm q h3 h4).2, h5⟩
theorem CSim.chg {mine' : Nat → Prop} {ro' : Nat → Prop} (hm : ∀ b, ro b → ro' b) {n o : Nat} {c : Cont} (h : CSim mine ρ ro w n o c) (hb : ∀ x b, ρ n = some x → blk x = some b → mine' b ∧ ¬ ro' b) : CSim mine' ρ ro' w n o c := by
 have g : Grow ρ ρ ro ro' w w := ⟨fun _ _ h => h, hm, fun _ _ => rfl⟩
 cases c with
 | cell v =>
   obtain ⟨b, cs, ty, u, h1, h2, h3, h4, h5, h6, h7⟩ := h
   exact ⟨b, cs, ty, u, h1, h2, (hb _ b h1 rfl).1, (hb _ b h1 rfl).2, h5, h6, h7.grow g⟩
 | arr k' f =>
   obtain ⟨b, cs, ty, h1, h2, h3, h4, h5⟩ := h
   refine ⟨b, cs, ty, h1, h2, (hb _ b h1 rfl).1, (hb _ b h1 rfl).2, fun i hi => ?_⟩
   obtain ⟨u, a1, a2, a3⟩ := h5 i hi
   exact ⟨u, a1, a2, a3.grow g⟩
 | vec sz' e k' f =>
   obtain ⟨ho, x, xs, h1, h2, h3, h4, h5⟩ := h
   exact ⟨ho, x, xs, h1, fun b e => hb x b h1 e, h3, h4, fun i hi => CRel.grow g (h5 i hi)⟩
 | map ar es =>
   obtain ⟨ho, r, ms, clock, h1, h2, h3, h4, h5, h6⟩ := h
   exact ⟨ho, r, ms, clock, h1, h2, (hb _ r h1 rfl).1, (hb _ r h1 rfl).2, h5, fun i hi e he => (h6 i hi e he).grow g⟩
 | maps ar es bs ck =>
   obtain ⟨ho, r, ms, h1, h2, h3, h4, h5, h6⟩ := h
   exact ⟨ho, r, ms, h1, h2, (hb _ r h1 rfl).1, (hb _ r h1 rfl).2, h5, fun i hi e he => (h6 i hi e he).grow g⟩
 | iter m since seen c0 k v =>
   obtain ⟨ho, b, r, h1, h2, h3, h4, h5⟩ := h
   exact ⟨ho, b, r, h1, h2, (hb _ b h1 rfl).1, (hb _ b h1 rfl).2, h5⟩
 | top =>
   obtain ⟨b, cs, ty, h1, h2, h3, h4, h5⟩ := h
   exact ⟨b, cs, ty, h1, h2, (hb _ b h1 rfl).1, (hb _ b h1 rfl).2, h5⟩
 | dead => trivial
theorem top_end (S : Sim mine ρ ro h w) {n sz o : Nat} {c : Cont} (hn : 0 < n) (ht : hget h n sz = some .top) (hc : hget h n o = some c) (hle : sz ≤ o) : (∃ f, c = .arr 0 f) ∨ c = .top ∨ c = .dead := by
 obtain ⟨b, cs, ty, h1, h2, h3, h4, h5⟩ := S.cont n sz _ hn ht
 have h0 := S.cont n o c hn hc
 cases c with
 | cell v =>
   exfalso
   obtain ⟨b', cs', ty', u, k1, k2, _, _, k5, _⟩ := h0
   rw [h1] at k1
   injection k1 with k1; injection k1 with k1; injection k1 with k1; injection k1 with k1
   subst k1
   rw [h2] at k2
   injection k2 with k2; injection k2 with k2 k2'
   subst k2
   have := (Array.getElem?_eq_some_iff.1 k5).1
   omega
 | arr k f =>
   cases k with
   | zero => exact .inl ⟨f, rfl⟩
   | succ k =>
     exfalso
     obtain ⟨b', cs', ty', k1, k2, _, _, k5⟩ := h0
     rw [h1] at k1
     injection k1 with k1; injection k1 with k1; injection k1 with k1; injection k1 with k1
     subst k1
     rw [h2] at k2
     injection k2 with k2; injection k2 with k2 k2'
     subst k2
     obtain ⟨u, k6, _⟩ := k5 0 (Nat.succ_pos k)
     have := (Array.getElem?_eq_some_iff.1 k6).1
     omega
 | vec sz' e k f =>
   exfalso
   obtain ⟨_, x, xs, k1, _, k3, _⟩ := h0
   rw [h1] at k1; injection k1 with k1; subst k1
   rcases k3.2 with ⟨k, _⟩ | ⟨_, _, _, k, _⟩ <;> cases k
 | map ar es =>
   exfalso
   obtain ⟨_, r, ms, cl, k1, _⟩ := h0
   rw [h1] at k1; cases k1
 | maps ar es bs ck =>
   exfalso
   obtain ⟨_, r, ms, k1, _⟩ := h0
   rw [h1] at k1; cases k1
 | iter m since seen c0 k v =>
   exfalso
   obtain ⟨_, b', r, k1, k2, _⟩ := h0
   rw [h1] at k1
   injection k1 with k1; injection k1 with k1; injection k1 with k1; injection k1 with k1
   subst k1
   rw [h2] at k2
   cases k2
 | top => exact .inr (.inl rfl)
 | dead => exact .inr (.inr rfl)
theorem Whole.live {rd : List (Nat × Nat × Cont)} (hrd : ∀ x ∈ rd, hget h x.1 x.2.1 = some x.2.2) {n : Nat} (a : Whole rd n) : live h n := by
 cases a with
 | cells sz ht _ => exact ⟨_, _, hrd _ ht, trivial⟩
 | vec sz e k f h => exact ⟨_, _, hrd _ h, trivial⟩
 | map ar es h => exact ⟨_, _, hrd _ h, trivial⟩
 | maps ar es bs ck h => exact ⟨_, _, hrd _ h, trivial⟩
theorem Whole.all (S : Sim mine ρ ro h w) {rd : List (Nat × Nat × Cont)} (hrd : ∀ x ∈ rd, hget h x.1 x.2.1 = some x.2.2) {n : Nat} (hn : 0 < n) (a : Whole rd n) {o : Nat} {c : Cont} (hc : hget h n o = some c) (hl : c.live) :
 (n, o, c) ∈ rd ∨ ∃ sz, (n, sz, .top) ∈ rd ∧ sz ≤ o ∧ ((∃ f, c = .arr 0 f) ∨ c = .top) := by
 cases a with
 | cells sz ht hall =>
   rcases Nat.lt_or_ge o sz with hlt | hge
   ·obtain ⟨o', c', h1, h2, h3, h4⟩ := hall o hlt
    have e := hrd _ h1
    rcases Nat.lt_or_ge o' o with hlt2 | hge2
    ·have := S.lay n o' o c' c hn e hc h2 hl hlt2
     omega
    ·have : o' = o := by omega
     subst this
     rw [hc] at e
     injection e with e
     subst e
     exact .inl h1
   ·rcases top_end S hn (hrd _ ht) hc hge with h1 | h1 | h1
    ·exact .inr ⟨sz, ht, hge, .inl h1⟩
    ·exact .inr ⟨sz, ht, hge, .inr h1⟩
    ·subst h1; exact hl.elim
 | vec sz e k f h =>
   have h0 := sole_vec S hn (hrd _ h) o c hc hl
   subst h0
   have := hrd _ h
   rw [hc] at this; injection this with this
   have e : c = .vec sz e k f := this
   rw [e]; exact .inl h
 | map ar es h =>
   have e := hrd _ h
   obtain ⟨_, r, ms, cl, k1, _⟩ := S.cont n 0 _ hn e
   have h0 := S.cont n o c hn hc
   cases c with
   | map ar' es' =>
     obtain ⟨rfl, _⟩ := h0
     rw [hc] at e; injection e with e
     have e : Cont.map ar' es' = .map ar es := e
     rw [e]; exact .inl h
   | cell v => obtain ⟨b, cs, ty, u, j1, _⟩ := h0; rw [k1] at j1; cases j1
   | arr k f => obtain ⟨b, cs, ty, j1, _⟩ := h0; rw [k1] at j1; cases j1
   | vec sz e k f =>
     obtain ⟨_, x, xs, j1, _, j3, _⟩ := h0
     rw [k1] at j1; injection j1 with j1; subst j1
     rcases j3.2 with ⟨q, _⟩ | ⟨_, _, _, q, _⟩ <;> cases q
   | maps ar' es' bs ck =>
     obtain ⟨rfl, _⟩ := h0
     rw [hc] at e; cases e
   | iter m since seen c0 k v => obtain ⟨_, b, r, j1, _⟩ := h0; rw [k1] at j1; cases j1
   | top => obtain ⟨b, cs, ty, j1, _⟩ := h0; rw [k1] at j1; cases j1
   | dead => exact hl.elim
 | maps ar es bs0 ck0 h =>
   have e := hrd _ h
   obtain ⟨_, r, ms, k1, _⟩ := S.cont n 0 _ hn e
   have h0 := S.cont n o c hn hc
   cases c with
   | map ar' es' =>
     obtain ⟨rfl, _⟩ := h0
     rw [hc] at e; cases e
   | cell v => obtain ⟨b, cs, ty, u, j1, _⟩ := h0; rw [k1] at j1; cases j1
   | arr k f => obtain ⟨b, cs, ty, j1, _⟩ := h0; rw [k1] at j1; cases j1
   | vec sz e k f =>
     obtain ⟨_, x, xs, j1, _, j3, _⟩ := h0
     rw [k1] at j1; injection j1 with j1; subst j1
     rcases j3.2 with ⟨q, _⟩ | ⟨_, _, _, q, _⟩ <;> cases q
   | maps ar' es' bs ck =>
     obtain ⟨rfl, _⟩ := h0
     rw [hc] at e; injection e with e
     have e : Cont.maps ar' es' bs ck = .maps ar es bs0 ck0 := e
     rw [e]; exact .inl h
   | iter m since seen c0 k v => obtain ⟨_, b, r, j1, _⟩ := h0; rw [k1] at j1; cases j1
   | top => obtain ⟨b, cs, ty, j1, _⟩ := h0; rw [k1] at j1; cases j1
   | dead => exact hl.elim
end
end Go.Eng