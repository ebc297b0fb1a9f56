/- The engine, part 16: results, what is handed to and fro, and the contract of a function whose memory is its own. -/
import Derived.Test.YtbknbkbimhjlnaaEngO
set_option linter.unusedSimpArgs false
set_option linter.unusedVariables false
namespace Go.Eng

/-- What a value holds: names (where 'nm'), memory that is only read (where 'rd'). -/
inductive Has (nm rd : Bool) : AV → Prop
  | int (k : IntKind) (n : Int) : Has nm rd (.int k n)
  | bool (b : Bool) : Has nm rd (.bool b)
  | str (s : ByteArray) : Has nm rd (.str s)
  | nilp : Has nm rd .nilp
  | nils : Has nm rd .nils
  | nilm : Has nm rd .nilm
  | nilf : Has nm rd .nilf
  | ptr (n off : Nat) (h : nm = true) : Has nm rd (.ptr n off)
  | pe (n off : Nat) (i : Int) (h : nm = true) : Has nm rd (.pe n off i)
  | vp (n sz : Nat) (i : Int) (off : Nat) (h : nm = true) : Has nm rd (.vp n sz i off)
  | vs (n : Nat) (h : nm = true) : Has nm rd (.vs n)
  | mp (n : Nat) (h : nm = true) : Has nm rd (.mp n)
  | it (n : Nat) (h : nm = true) : Has nm rd (.it n)
  | rp (cs : List AV) (h : rd = true) (t : ∀ v ∈ cs, Has nm rd v) : Has nm rd (.rp cs)
  | rs (sz n : Nat) (full : Bool) (f : Nat → AV) (h : rd = true) (t : ∀ i, i < n → Has nm rd (f i)) : Has nm rd (.rs sz n full f)
  | fn (f : Nat) (cap : List AV) (t : ∀ v ∈ cap, Has nm rd v) : Has nm rd (.fn f cap)
  | agg (cs : List AV) (t : ∀ v ∈ cs, Has nm rd v) : Has nm rd (.agg cs)
  | arr (n : Nat) (f : Nat → AV) (t : ∀ i, i < n → Has nm rd (f i)) : Has nm rd (.arr n f)
  | tup (vs : List AV) (t : ∀ v ∈ vs, Has nm rd v) : Has nm rd (.tup vs)
  | whn (cs : List Bool) (v : AV) (t : Has nm rd v) : Has nm rd (.whn cs v)

theorem Has.cells {nm rd : Bool} {v : AV} (h : Has nm rd v) : ∀ u ∈ v.cells, Has nm rd u := by
  cases h <;> simp only [AV.cells, List.mem_singleton] <;> try (intro u hu; subst hu)
  case agg cs t => exact t
  all_goals (constructor <;> assumption)

/-- A value elsewhere: its names are renamed, and what it only reads is there too. -/
theorem VRel.over {ρ ρ' : Env} {ro ro' : Nat → Prop} {w w' : World} {nm rd : Bool} {σ : Nat → Nat} (hσ : nm = true → ∀ n y, ρ n = some y → ρ' (σ n) = some y) (hro : rd = true → (∀ b, ro b → ro' b) ∧ ∀ b, ro b → w'.heap[b]? = w.heap[b]?) {v : AV} {x : Value} (h : VRel ρ ro w v x) (hh : Has nm rd v) : VRel ρ' ro' w' (v.ren σ) x := by
  revert hh
  refine VRel.rec (motive_1 := fun u x _ => Has nm rd u → VRel ρ' ro' w' (u.ren σ) x) (motive_2 := fun us xs _ => (∀ v ∈ us, Has nm rd v) → LRel ρ' ro' w' (renL σ us) xs) (motive_3 := fun us xs _ => (∀ v ∈ us, Has nm rd v) → CRel ρ' ro' w' (renL σ us) xs)
    ?_ ?_ ?_ ?_ ?_ ?_ ?_ ?_ ?_ ?_ ?_ ?_ ?_ ?_ ?_ ?_ ?_ ?_ ?_ ?_ ?_ ?_ ?_ ?_ ?_ h
  · intro k n _; exact .int _ _
  · intro b _; exact .bool _
  · intro s _; exact .str _
  · intro _; exact .nilp
  · intro n off b hb hh; cases hh with | ptr _ _ h => exact .ptr _ _ b (hσ h _ _ hb)
  · intro n off b i hb hh; cases hh with | pe _ _ _ h => exact .pe _ _ b _ (hσ h _ _ hb)
  · intro n sz off b l c i hb hh; cases hh with | vp _ _ _ _ h => exact .vp _ _ _ b l c _ (hσ h _ _ hb)
  · intro cs a us h1 h2 h3 _ ih hh
    cases hh with | rp _ h t => exact .rp _ a us ((hro h).1 _ h1) h2 (fun j u hj => (cell_same (by rw [add_block]; exact (hro h).2 _ h1)).trans (h3 j u hj)) (ih t)
  · intro sz n cap full f a vals h1 h2 h3 h4 h5 _ ih hh
    cases hh with
    | rs _ _ _ _ h t =>
      refine .rs _ _ cap _ _ a vals h1 h2 h3 (fun h0 => ?_) h5 fun i hi => by rw [ren_cells]; exact ih i hi ((t i hi).cells)
      obtain ⟨ad, e, hr, hs, hc⟩ := h4 h0
      exact ⟨ad, e, (hro h).1 _ hr, hs, fun i hi j u hj => (cell_same (by rw [add_block]; exact (hro h).2 _ hr)).trans (hc i hi j u hj)⟩
  · intro n x hx hv hh; cases hh with | vs _ h => exact .vs _ x (hσ h _ _ hx) hv
  · intro _; exact .nils
  · intro n r hr hh; cases hh with | mp _ h => exact .mp _ r (hσ h _ _ hr)
  · intro _; exact .nilm
  · intro f cap us _ ih hh; cases hh with | fn _ _ t => exact .fn _ _ us (ih t)
  · intro _; exact .nilf
  · intro cs us _ ih hh; cases hh with | agg _ t => exact .agg _ us (ih t)
  · intro vs us _ ih hh; cases hh with | tup _ t => exact .tup _ us (ih t)
  · intro n b hb hh; cases hh with | it _ h => exact .it _ b (hσ h _ _ hb)
  · intro cs v x hc _ ih hh; cases hh with | whn _ _ t => exact .whnT _ _ x hc (ih t)
  · intro cs v hc hh; exact .whnF _ _ hc
  · intro _; exact .nil
  · intro v vs u us _ _ ih it hh; exact .cons _ _ u us (ih (hh _ (by simp))) (it fun v hv => hh v (List.mem_cons_of_mem _ hv))
  · intro _; exact .nil
  · intro v vs u us _ h1 _ ih it hh; exact .cons _ _ u us (ih (hh _ (by simp))) h1 (it fun v hv => hh v (List.mem_cons_of_mem _ hv))
  · intro n f vs xs us hl _ h1 _ ih it hh
    refine .arr _ _ _ xs us hl (fun i u hu => ih i u hu ?_) h1 (it fun v hv => hh v (List.mem_cons_of_mem _ hv))
    have h0 := hh (.arr n f) (by simp)
    have hi : i < n := by rw [← hl]; exact (List.getElem?_eq_some_iff.1 hu).1
    cases h0 with | arr _ _ t => exact t i hi

theorem CRel.over {ρ ρ' : Env} {ro ro' : Nat → Prop} {w w' : World} {nm rd : Bool} {σ : Nat → Nat} (hσ : nm = true → ∀ n y, ρ n = some y → ρ' (σ n) = some y) (hro : rd = true → (∀ b, ro b → ro' b) ∧ ∀ b, ro b → w'.heap[b]? = w.heap[b]?) {vs : List AV} {xs : List Value} (h : CRel ρ ro w vs xs) (hh : ∀ v ∈ vs, Has nm rd v) : CRel ρ' ro' w' (renL σ vs) xs := by
  have h1 := VRel.over hσ hro (VRel.agg vs xs h) (.agg _ hh)
  have h2 : ∀ y, VRel ρ' ro' w' (.agg (renL σ vs)) y → y = .agg xs.toArray → CRel ρ' ro' w' (renL σ vs) xs := by
    intro y hy e
    cases hy with
    | agg _ us' hq => injection e with e; have e2 := congrArg Array.toList e; simp at e2; exact e2 ▸ hq
  exact h2 _ (by simpa only [AV.ren] using h1) rfl

mutual
theorem ren_id : ∀ (v : AV), v.ren (fun n => n) = v
  | .rp cs => by simp only [AV.ren, renL_id cs]
  | .fn f cap => by simp only [AV.ren, renL_id cap]
  | .agg cs => by simp only [AV.ren, renL_id cs]
  | .tup vs => by simp only [AV.ren, renL_id vs]
  | .rs sz n full f => by simp only [AV.ren]; congr; funext i; exact ren_id (f i)
  | .arr n f => by simp only [AV.ren]; congr; funext i; exact ren_id (f i)
  | .whn cs v => by simp only [AV.ren, ren_id v]
  | .ptr n off => rfl
  | .pe n off i => rfl
  | .vp n sz i off => rfl
  | .vs n => rfl
  | .mp n => rfl
  | .it n => rfl
  | .int k n => rfl
  | .bool b => rfl
  | .str s => rfl
  | .nilp => rfl
  | .nils => rfl
  | .nilm => rfl
  | .nilf => rfl
theorem renL_id : ∀ (vs : List AV), renL (fun n => n) vs = vs
  | [] => rfl
  | v :: vs => by simp only [renL, ren_id v, renL_id vs]
end

/-! ### Results -/
def evRV (T : Tab) (h : Heap) : ResultVar → Option (AV × List Prop)
  | .tmp t => match hget h 0 t with
    | some (.cell (.whn _ _)) => none
    | some (.cell v) => some (v, [])
    | _ => none
  | .cell a t => match hget h 0 a with
    | some (.cell p) => (evLoad T (hget h) t p).map fun o => (o.val, o.sides)
    | _ => none
def evRVs (T : Tab) (h : Heap) : List ResultVar → Option (List AV × List Prop)
  | [] => some ([], [])
  | r :: rs => match evRV T h r, evRVs T h rs with
    | some (v, ps), some (vs, qs) => some (v :: vs, ps ++ qs)
    | _, _ => none
def oneAV : List AV → AV
  | [v] => v
  | vs => .tup vs

def rvSem (a : Act) : ResultVar → Sem Value
  | .tmp t => pure (a.tmps.getD t undef)
  | .cell b t => do loadVar t (← asAddr (a.tmps.getD b undef))

theorem holds_results {P : Program} {T : Tab} (hT : TabOK P T) {mine : Nat → Prop} {ρ : Env} {ro : Nat → Prop} {s : St} {a : Act} {w : World} (H : Holds mine ρ ro s a w) {fn : Func} {vs : List AV} {ps : List Prop} (e : evRVs T s.h fn.results.toList = some (vs, ps)) (hs : ∀ p ∈ ps, p) :
    ∃ x, (results fn a.tmps).run P w = .ok x w ∧ VRel ρ ro w (oneAV vs) x := by
  have one : ∀ r v ps, evRV T s.h r = some (v, ps) → (∀ p ∈ ps, p) → ∃ x, (rvSem a r).run P w = .ok x w ∧ VRel ρ ro w v x := by
    intro r v ps e hs
    cases r with
    | tmp t =>
      simp only [evRV] at e
      split at e
      · cases e
      · rename_i v' hk
        injection e with e; injection e with e1 e2; subst e1
        obtain ⟨u, h1, h2⟩ := H.ok.slots t _ hk
        exact ⟨u, by simp [rvSem, Array.getD_eq_getD_getElem?, h1], h2⟩
      · cases e
    | cell b t =>
      simp only [evRV] at e
      split at e
      · rename_i p hk
        obtain ⟨o, h1, h2⟩ := Option.map_eq_some_iff.1 e
        injection h2 with h2 h3; subst h2; subst h3
        obtain ⟨u, h3, h4⟩ := H.ok.slots b _ hk
        obtain ⟨_, y, h5, h6⟩ := evLoad_sound (P := P) hT H.ok.sim h1 (evLoad_rd h1) hs h4
        refine ⟨y, ?_, h6⟩
        have hu : a.tmps.getD b undef = u := by simp [Array.getD_eq_getD_getElem?, h3]
        simp only [rvSem, hu]
        unfold Instr.loadAt at h5
        cases u with
        | pointer q =>
          cases q with
          | some ad => simpa [Instr.sureAddr, asAddr] using h5
          | none => simp [Instr.sureAddr] at h5
        | _ => simp [Instr.sureAddr] at h5
      · cases e
  have all : ∀ (rs : List ResultVar) (vs : List AV) (ps : List Prop), evRVs T s.h rs = some (vs, ps) → (∀ p ∈ ps, p) →
      ∃ xs, (rs.mapM (rvSem a)).run P w = .ok xs w ∧ LRel ρ ro w vs xs := by
    intro rs
    induction rs with
    | nil => intro vs ps e hs; simp only [evRVs, Option.some.injEq, Prod.mk.injEq] at e; obtain ⟨rfl, rfl⟩ := e; exact ⟨[], by simp, .nil⟩
    | cons r rs ih =>
      intro vs ps e hs
      simp only [evRVs] at e
      split at e
      · rename_i v ps1 vs1 qs h1 h2
        injection e with e; injection e with e1 e2; subst e1; subst e2
        obtain ⟨x, k1, k2⟩ := one r v ps1 h1 fun p hp => hs p (List.mem_append_left _ hp)
        obtain ⟨xs, k3, k4⟩ := ih vs1 qs h2 fun p hp => hs p (List.mem_append_right _ hp)
        refine ⟨x :: xs, ?_, .cons _ _ _ _ k2 k4⟩
        simp only [List.mapM_cons, Sem.run_bind, k1, k3, Result.andThen_ok, Sem.run_pure]
      · cases e
  obtain ⟨xs, h1, h2⟩ := all _ _ _ e hs
  have hr : (results fn a.tmps).run P w = .ok (if h : xs.toArray.size = 1 then xs.toArray[0] else .tuple xs.toArray) w := by
    have hd : results fn a.tmps = (do let vs ← fn.results.mapM (rvSem a); pure (if h : vs.size = 1 then vs[0] else .tuple vs)) := by
      unfold results
      congr 1
    rw [hd]
    simp only [Array.mapM_eq_mapM_toList, map_eq_pure_bind, Sem.run_bind, h1, Result.andThen_ok, Sem.run_pure]
  refine ⟨_, hr, ?_⟩
  cases h2 with
  | nil => exact .tup _ _ .nil
  | cons v vs u us hv ht =>
    cases ht with
    | nil => simpa [oneAV] using hv
    | cons v2 vs2 u2 us2 hv2 ht2 => simpa [oneAV] using VRel.tup _ _ (.cons _ _ _ _ hv (.cons _ _ _ _ hv2 ht2))


/-! ### Contracts -/
/-- A slice that is handed in: its elements' number and cells, wherever it lies. -/
def sl (sz : Nat) (h : Rd) : AV → Option (Nat × (Nat → AV) × List (Nat × Nat × Cont))
  | .rs sz' n _ f => bif sz' == sz then some (n, f, []) else none
  | .nils => some (0, fun _ => .nils, [])
  | .vs j => match h j 0 with
    | some (.vec sz' e n f) => bif sz' == sz then some (n, f, [(j, 0, .vec sz' e n f)]) else none
    | _ => none
  | _ => none

/-- How an argument is handed in. Where 'rd', as it is; otherwise all that there is is only read. -/
inductive Pass (hr : Rd) (rdl : List (Nat × Nat × Cont)) : Bool → AV → AV → Prop
  | same (b : Bool) (v : AV) (h : Has false true v) : Pass hr rdl b v v
  | slice (sz n : Nat) (f : Nat → AV) (r : List (Nat × Nat × Cont)) (v : AV) (e : sl sz hr v = some (n, f, r)) (hm : ∀ y ∈ r, y ∈ rdl) (f' : Nat → AV) (h : ∀ i, i < n → f i = f' i ∧ Has false true (f' i)) : Pass hr rdl false v (.rs sz n false f')
inductive PassL (hr : Rd) (rdl : List (Nat × Nat × Cont)) (b : Bool) : List AV → List AV → Prop
  | nil : PassL hr rdl b [] []
  | cons (v v' : AV) (vs vs' : List AV) (h : Pass hr rdl b v v') (t : PassL hr rdl b vs vs') : PassL hr rdl b (v :: vs) (v' :: vs')

def slots0 : Nat → List AV → Heap
  | _, [] => []
  | i, v :: vs => (0, i, .cell v) :: slots0 (i + 1) vs

def sg (nb n : Nat) : Nat := nb + (n - 1)

/-- A content under other names. -/
def CF (σ : Nat → Nat) : Cont → Cont → Prop
  | .cell v', .cell v => Has true false v' ∧ v = v'.ren σ
  | .arr k f', .arr k' f => k' = k ∧ ∀ i, i < k → Has true false (f' i) ∧ f i = (f' i).ren σ
  | .vec sz e k f', .vec sz' e' k' f => sz' = sz ∧ e' = e ∧ k' = k ∧ ∀ i, i < k → Has true false (f' i) ∧ f i = (f' i).ren σ
  | .map es', .map es => es.length = es'.length ∧ ∀ (i : Nat) (x : List Int × AV), es[i]? = some x → ∃ v', es'[i]? = some (x.1, v') ∧ Has true false v' ∧ x.2 = v'.ren σ
  | _, _ => False

/-- How a function ends. -/
structure Ends (T : Tab) (fn : Func) (nb : Nat) (out : Out) (b : Bool) (s : St) : Prop where
  fin : ∃ (l : List Nat) (sF : St) (vs : List AV) (sides : List Prop) (v : AV), WeakL 1 l s sF ∧ sF.nx ≤ 9 ∧ evRVs T s.h fn.results.toList = some (vs, sides) ∧ All sides ∧ oneAV vs = v.ren (pi 1 s.nx l) ∧ Has true b v ∧ out.val = v.ren (sg nb) ∧
    ∀ x ∈ out.up, ∃ n' c', x.1 = sg nb n' ∧ 0 < n' ∧ n' < sF.nx ∧ hget sF.h n' x.2.1 = some c' ∧ CF (sg nb) c' x.2.2

def Post (T : Tab) (fn : Func) (nb : Nat) (out : Out) (b : Bool) : Exit → St → Prop
  | .normal, s | .ret, s => Ends T fn nb out b s
  | _, _ => False

theorem hget_hput : ∀ (up : List (Nat × Nat × Cont)) (h : Heap) (n o : Nat) (c : Cont), hget (hput h up) n o = some c → (n, o, c) ∈ up ∨ hget h n o = some c
  | [], h, n, o, c, e => .inr e
  | x :: up, h, n, o, c, e => by
    rcases hget_hput up _ n o c e with h1 | h1
    · exact .inl (List.mem_cons_of_mem _ h1)
    · obtain ⟨n', o', c'⟩ := x
      rw [hget_cons] at h1
      split at h1
      · rename_i he; obtain ⟨rfl, rfl⟩ := he; injection h1 with h1; subst h1; exact .inl List.mem_cons_self
      · exact .inr h1

theorem hget_slots0 : ∀ (vs : List AV) (i n o : Nat) (c : Cont), hget (slots0 i vs) n o = some c → n = 0 ∧ i ≤ o ∧ ∃ v, vs[o - i]? = some v ∧ c = .cell v
  | [], i, n, o, c, e => by simp [slots0, hget] at e
  | v :: vs, i, n, o, c, e => by
    simp only [slots0] at e
    rw [hget_cons] at e
    split at e
    · rename_i he; obtain ⟨rfl, rfl⟩ := he; injection e with e; subst e; exact ⟨rfl, Nat.le_refl _, v, by simp, rfl⟩
    · obtain ⟨h1, h2, u, h3, h4⟩ := hget_slots0 vs (i + 1) n o c e
      refine ⟨h1, by omega, u, ?_, h4⟩
      have : o - i = o - (i + 1) + 1 := by omega
      rw [this]; simpa using h3

section
variable {mine : Nat → Prop} {ρ : Env} {ro : Nat → Prop} {h : Heap} {w : World}

/-- All that there is is only read: what is so of it. -/
theorem Pass.rel (S : Sim mine ρ ro h w) {hr : Rd} {rdl : List (Nat × Nat × Cont)} (hrd : ∀ x ∈ rdl, hget h x.1 x.2.1 = some x.2.2) {b : Bool} {v v' : AV} (p : Pass hr rdl b v v') {ro' : Nat → Prop} (hb : ∀ k, ro k → ro' k) (hb' : b = false → ∀ k, k < w.heap.size → ro' k) {x : Value} (hv : VRel ρ ro w v x) : VRel (fun _ => none) ro' w v' x := by
  cases p with
  | same _ _ hh =>
    have := VRel.over (ρ' := fun _ => none) (ro' := ro') (w' := w) (σ := fun n => n) (nm := false) (rd := true) (fun e => by cases e) (fun _ => ⟨hb, fun _ _ => rfl⟩) hv hh
    rwa [ren_id] at this
  | slice sz n f r _ e hm f'' hh0 =>
    have hh : ∀ i, i < n → Has false true (f i) := fun i hi => by rw [(hh0 i hi).1]; exact (hh0 i hi).2
    have weak : ∀ {x : Value}, VRel (fun _ => none) ro' w (.rs sz n false f) x → VRel (fun _ => none) ro' w (.rs sz n false f'') x := by
      intro x hx
      cases hx with
      | rs _ _ cap _ _ a vals h1 h2 h3 h4 h5 h6 => exact .rs _ _ cap _ _ a vals h1 h2 h3 h4 h5 fun i hi => by rw [← (hh0 i hi).1]; exact h6 i hi
    refine weak ?_
    have hall := hb' rfl
    have tr : ∀ {cs : List AV} {us : List Value}, CRel ρ ro w cs us → (∀ v ∈ cs, Has false true v) → CRel (fun _ => none) ro' w cs us := by
      intro cs us hc hcs
      have := CRel.over (ρ' := fun _ => none) (ro' := ro') (w' := w) (σ := fun n => n) (nm := false) (rd := true) (fun e => by cases e) (fun _ => ⟨hb, fun _ _ => rfl⟩) hc hcs
      rwa [renL_id] at this
    cases hv with
    | rs sz' n' cap full f' a vals h1 h2 h3 h4 h5 h6 =>
      simp only [sl] at e
      obtain ⟨e1, e2⟩ := bif_some e
      injection e2 with e2; injection e2 with e2 e3; injection e3 with e3 e4
      subst e2; subst e3
      have e1 : sz' = sz := by simpa using e1
      subst e1
      refine .rs _ _ cap _ _ a vals h1 h2 (fun e => by cases e) (fun h0 => ?_) h5 fun i hi => tr (h6 i hi) (hh i hi).cells
      obtain ⟨ad, k1, k2, k3, k4⟩ := h4 h0
      exact ⟨ad, k1, hb _ k2, k3, k4⟩
    | nils =>
      simp only [sl] at e
      injection e with e; injection e with e2 e3; injection e3 with e3 e4
      subst e2
      exact .rs _ _ 0 _ _ none (fun _ => []) (Nat.le_refl _) (Nat.zero_le _) (fun e => by cases e) (fun h0 => absurd h0 (Nat.lt_irrefl 0)) (fun i hi => absurd hi (Nat.not_lt_zero _)) (fun i hi => absurd hi (Nat.not_lt_zero _))
    | vs j x hx hsl =>
      simp only [sl] at e
      split at e
      · rename_i sz' ety n' f' hk
        obtain ⟨e1, e2⟩ := bif_some e
        injection e2 with e2; injection e2 with e2 e3; injection e3 with e3 e4
        subst e2; subst e3; subst e4
        have e1 : sz' = sz := by simpa using e1
        subst e1
        have hc := hrd _ (hm (j, 0, .vec sz' ety n' f') (by simp))
        obtain ⟨_, x', xs, c1, c2, c3, c4, c5⟩ := S.cont j 0 _ (name_pos S hx) hc
        rw [hx] at c1; injection c1 with c1; subst c1
        rcases c3.2 with ⟨rfl, rfl⟩ | ⟨g, cap, cur, rfl, hbase, hg, hkc, hcm, hcs, htake⟩
        · exact .rs _ _ 0 _ _ none (fun _ => []) (Nat.le_refl _) (Nat.zero_le _) (fun e => by cases e) (fun h0 => absurd h0 (Nat.lt_irrefl 0)) (fun i hi => absurd hi (Nat.not_lt_zero _)) (fun i hi => absurd hi (Nat.not_lt_zero _))
        · have hlen := c3.1
          refine .rs _ _ cap _ _ _ (fun i => (xs.drop (i * sz')).take sz') hkc hcm (fun e => by cases e) (fun h0 => ⟨_, rfl, hall _ (Array.getElem?_eq_some_iff.1 hg).1, rfl, fun i hi k u hk => ?_⟩) (fun i hi => ?_) fun i hi => tr (c5 i hi) (hh i hi).cells
          · have hlt := (List.getElem?_eq_some_iff.1 hk).1
            rw [List.length_take] at hlt
            have hsz : k < sz' := by omega
            rw [seg_get hsz] at hk
            exact c3.cells rfl _ _ hk
          · rw [List.length_take, List.length_drop, hlen]
            have : i * sz' + sz' ≤ n' * sz' := by rw [← Nat.succ_mul]; exact Nat.mul_le_mul_right _ hi
            omega
      · cases e
    | _ => simp [sl] at e

theorem PassL.rel (S : Sim mine ρ ro h w) {hr : Rd} {rdl : List (Nat × Nat × Cont)} (hrd : ∀ x ∈ rdl, hget h x.1 x.2.1 = some x.2.2) {b : Bool} {ro' : Nat → Prop} (hb : ∀ k, ro k → ro' k) (hb' : b = false → ∀ k, k < w.heap.size → ro' k) :
    ∀ {vs vs' : List AV} {xs : List Value}, PassL hr rdl b vs vs' → LRel ρ ro w vs xs → LRel (fun _ => none) ro' w vs' xs := by
  intro vs
  induction vs with
  | nil => intro vs' xs p hv; cases p; cases hv; exact .nil
  | cons v vs ih =>
    intro vs' xs p hv
    cases p with
    | cons _ v' _ vs' p t =>
      cases hv with
      | cons _ _ u us hv ht => exact .cons _ _ u us (p.rel S hrd hb hb' hv) (ih t ht)

theorem CF.live {σ : Nat → Nat} {c' c : Cont} (h : CF σ c' c) : c'.live ∧ c.live ∧ c.wd = c'.wd := by
  cases c' <;> cases c <;> first | exact False.elim h | exact ⟨trivial, trivial, rfl⟩ | exact ⟨trivial, trivial, h.1⟩

theorem CF.csim {mine mine' : Nat → Prop} {ρ ρ' : Env} {ro ro' : Nat → Prop} {σ : Nat → Nat} (hσ : ∀ n y, ρ n = some y → ρ' (σ n) = some y) (hm : ∀ b, mine b → mine' b ∧ ¬ ro' b) {n o : Nat} {c' c : Cont} (hc : CF σ c' c) (h : CSim mine ρ ro w n o c') : CSim mine' ρ' ro' w (σ n) o c := by
  have vr : ∀ {v : AV} {x : Value}, VRel ρ ro w v x → Has true false v → VRel ρ' ro' w (v.ren σ) x := fun hv hh => VRel.over (fun _ => hσ) (fun e => by cases e) hv hh
  cases c' <;> cases c <;> simp only [CF] at hc <;> try exact hc.elim
  case cell.cell v' v =>
    obtain ⟨b, cs, ty, u, h1, h2, h3, h4, h5, h6, h7⟩ := h
    exact ⟨b, cs, ty, u, hσ _ _ h1, h2, (hm b h3).1, (hm b h3).2, h5, h6, hc.2 ▸ vr h7 hc.1⟩
  case arr.arr k f' k' f =>
    obtain ⟨rfl, hf⟩ := hc
    obtain ⟨b, cs, ty, h1, h2, h3, h4, h5⟩ := h
    refine ⟨b, cs, ty, hσ _ _ h1, h2, (hm b h3).1, (hm b h3).2, fun i hi => ?_⟩
    obtain ⟨u, a1, a2, a3⟩ := h5 i hi
    exact ⟨u, a1, a2, (hf i hi).2 ▸ vr a3 (hf i hi).1⟩
  case vec.vec sz e k f' sz' e' k' f =>
    obtain ⟨rfl, rfl, rfl, hf⟩ := hc
    obtain ⟨ho, x, xs, h1, h2, h3, h4, h5⟩ := h
    refine ⟨ho, x, xs, hσ _ _ h1, fun b e => hm b (h2 b e).1, h3, h4, fun i hi => ?_⟩
    rw [(hf i hi).2, ren_cells]
    exact CRel.over (fun _ => hσ) (fun e => by cases e) (h5 i hi) (hf i hi).1.cells
  case map.map es' es =>
    obtain ⟨hl, he⟩ := hc
    obtain ⟨ho, r, ms, clock, h1, h2, h3, h4, h5, h6⟩ := h
    refine ⟨ho, r, ms, clock, hσ _ _ h1, h2, (hm r h3).1, (hm r h3).2, by rw [h5, hl], fun i hi e hei => ?_⟩
    obtain ⟨v', k1, k2, k3⟩ := he i e hei
    have := h6 i hi _ k1
    exact ⟨this.key, k3 ▸ vr this.val k2⟩
end

/-- The contract of a function that makes what it answers. -/
theorem spec_own {P : Program} (hm : P.follows .mixedOrders = true) {T : Tab} (hT : TabOK P T) {Γ : Specs} (hΓ : SpecsOK P Γ) {f : Nat} {fn : Func} {c : Code} (hf : P.funcs[f]? = some fn) (hb : fn.body = some c) (hn : (fn.name == "runtime.NumGoroutine") = false) {s : Spec}
    (H : ∀ args hr nb out, s args hr nb = some out → (∀ x ∈ out.rd, hr x.1 x.2.1 = some x.2.2) ∧ ∃ (b : Bool) (args' : List AV), Nat.ble args'.length fn.ntmps = true ∧
      ((∀ q ∈ out.sides, q) → PassL hr out.rd b args args' ∧ evC T Γ 1 c (Post T fn nb out b) ⟨slots0 0 args', 1, fn.ntmps⟩)) : SpecOK P f s := by
  refine ⟨⟨fn, hf, hn, by simp [hb]⟩, fun args hr nb out e => (H args hr nb out e).1, ?_⟩
  intro mine ρ ro h w args xs hr nb out S hargs e hrd hs hnb hfr
  obtain ⟨_, b, args', hle, hH⟩ := H args hr nb out e
  obtain ⟨hpass, hev⟩ := hH hs
  have hle : args'.length ≤ fn.ntmps := Nat.le_of_ble_eq_true hle
  let mine' : Nat → Prop := fun k => w.heap.size ≤ k
  let ro' : Nat → Prop := fun k => ro k ∨ (b = false ∧ k < w.heap.size)
  have hro : ∀ k, ro' k → k < w.heap.size := fun k hk => by
    rcases hk with hk | hk
    · exact S.ro_lt hk
    · exact hk.2
  have hL : LRel (fun _ => none) ro' w args' xs := hpass.rel S hrd (fun k hk => .inl hk) (fun hb k hk => .inr ⟨hb, hk⟩) hargs
  have hlen : xs.length = args'.length := by
    have : ∀ {vs : List AV} {ys : List Value}, LRel (fun _ => none) ro' w vs ys → ys.length = vs.length := by
      intro vs
      induction vs with
      | nil => intro ys h; cases h; rfl
      | cons v vs ih => intro ys h; cases h with | cons _ _ u us _ t => simp [ih t]
    exact this hL
  have S0 : Sim mine' (fun _ => none) ro' (slots0 0 args') w := by
    refine ⟨fun n o c hn hc => ?_, fun n m x y b _ _ _ _ _ hx => (by cases hx), fun k hk => ⟨hk, fun h => absurd (hro k h) (by omega)⟩, rfl, fun n o o' c c' hn hc => ?_⟩
    · have := (hget_slots0 _ _ _ _ _ hc).1; omega
    · have := (hget_slots0 _ _ _ _ _ hc).1; omega
  refine calls_of_wp hf hb (evC_sound hm hT hΓ c _ _ (fun _ => none) ro' _ w _ hev ⟨⟨S0, fun t v ht => ?_, ?_, rfl⟩, fun _ _ => rfl, Nat.one_pos⟩ fun e' s' ρ' a' w' hq hk H' => ?_)
  · obtain ⟨_, _, v', h1, h2⟩ := hget_slots0 _ _ _ _ _ ht
    injection h2 with h2; subst h2
    obtain ⟨u, h3, h4⟩ := hL.get h1
    refine ⟨u, ?_, h4⟩
    have hlt := (List.getElem?_eq_some_iff.1 h3).1
    rw [Array.getElem?_append_left (by simpa using hlt)]
    simpa using h3
  · simp only [Array.size_append, List.size_toArray, Array.size_replicate]
    omega
  · have hE : Ends T fn nb out b s' ∧ (e' = .normal ∨ e' = .ret) := by
      cases e' <;> first | exact ⟨hq, .inl rfl⟩ | exact ⟨hq, .inr rfl⟩ | exact hq.elim
    obtain ⟨⟨⟨l, sF, vs, sides, v0, hw, hnx, hres, hsd, hone, hhas, hval, hup⟩⟩, hee⟩ := hE
    obtain ⟨hkF, HF⟩ := hw.holds H'
    obtain ⟨x, hx1, hx2⟩ := holds_results (P := P) hT H' hres ((All_iff _).1 hsd)
    rw [hone] at hx2
    have hx2 := VRel.unren (ρ := ρ') (ρ' := fun n => ρ' (pi 1 s'.nx l n)) (fun _ => rfl) hx2
    generalize hρF : (fun n => ρ' (pi 1 s'.nx l n)) = ρF at hkF HF hx2
    let ρf : Env := fun m => bif Nat.ble nb m && Nat.blt m (nb + 8) then ρF (m - nb + 1) else ρ m
    have hin : ∀ m, nb ≤ m → m < nb + 8 → ρf m = ρF (m - nb + 1) := by
      intro m h1 h2
      have e1 : Nat.ble nb m = true := by simpa [Nat.ble_eq] using h1
      have e2 : Nat.blt m (nb + 8) = true := by simpa [Nat.blt_eq] using h2
      simp [ρf, e1, e2]
    have hout : ∀ m, ¬ (nb ≤ m ∧ m < nb + 8) → ρf m = ρ m := by
      intro m h1
      have : (Nat.ble nb m && Nat.blt m (nb + 8)) = false := by
        cases e1 : Nat.ble nb m with
        | false => rfl
        | true =>
          cases e2 : Nat.blt m (nb + 8) with
          | false => rfl
          | true => exact absurd ⟨Nat.le_of_ble_eq_true e1, by simpa [Nat.blt_eq] using e2⟩ h1
      simp [ρf, this]
    have hσ : ∀ n y, ρF n = some y → ρf (sg nb n) = some y := by
      intro n y hy
      have h0 : n ≠ 0 := fun e => by subst e; rw [HF.ok.sim.zero] at hy; cases hy
      have h9 : n < sF.nx := by
        rcases Nat.lt_or_ge n sF.nx with hlt | hge
        · exact hlt
        · rw [HF.fresh n hge] at hy; cases hy
      unfold sg
      rw [hin _ (by omega) (by omega)]
      have : nb + (n - 1) - nb + 1 = n := by omega
      rw [this]; exact hy
    have hst := hk.step
    have hgr : Grow ρ ρf ro ro w w' := by
      refine ⟨fun n v hv => ?_, fun _ h => h, fun k hr => hk.heap k (.inl hr)⟩
      rw [hout n (fun hin => by rw [hfr n hin.1 hin.2] at hv; cases hv)]; exact hv
    have hstep : Step mine w w' := ⟨hst.os, hst.tape, hst.output, hst.size, fun k hlt _ => hst.block k hlt (by show ¬ w.heap.size ≤ k; omega)⟩
    have hmine : ∀ k, mine' k → mine k ∧ ¬ ro k := fun k hk => S.new k hk
    have hold : ∀ n o c, 0 < n → hget h n o = some c → c.live → ¬ (nb ≤ n ∧ n < nb + 8) := fun n o c hn hc hl hin => fresh_dead S hn (hfr n hin.1 hin.2) hc hl
    have upc : ∀ n o c, (n, o, c) ∈ out.up → ∃ n' c', n = sg nb n' ∧ 0 < n' ∧ n' < sF.nx ∧ hget sF.h n' o = some c' ∧ CF (sg nb) c' c := fun n o c hm => hup (n, o, c) hm
    have lv : ∀ n, live (hput h out.up) n → (∃ n', n = sg nb n' ∧ 0 < n' ∧ n' < sF.nx ∧ live sF.h n') ∨ (live h n ∧ ¬ (nb ≤ n ∧ n < nb + 8)) := by
      rintro n ⟨o, c, h1, h2⟩
      rcases hget_hput _ _ _ _ _ h1 with h1 | h1
      · obtain ⟨n', c', k1, k2, k3, k4, k5⟩ := upc n o c h1
        exact .inl ⟨n', k1, k2, k3, o, c', k4, k5.live.1⟩
      · by_cases hn : 0 < n
        · exact .inr ⟨⟨o, c, h1, h2⟩, hold n o c hn h1 h2⟩
        · exact .inr ⟨⟨o, c, h1, h2⟩, by omega⟩
    have sgf : ∀ n', 0 < n' → n' < sF.nx → ρf (sg nb n') = ρF n' := by
      intro n' h1 h2
      unfold sg
      rw [hin _ (by omega) (by omega)]
      have : nb + (n' - 1) - nb + 1 = n' := by omega
      rw [this]
    have SF : Sim mine ρf ro (hput h out.up) w' := by
      refine ⟨fun n o c hn hc => ?_, fun n m x y k hn hm hne hln hlm hx hy hbx hby => ?_, fun k hk => S.new k (Nat.le_trans hst.size hk), ?_, fun n o o' c1 c2 hn h1 h2 l1 l2 hlt => ?_⟩
      · rcases hget_hput _ _ _ _ _ hc with h1 | h1
        · obtain ⟨n', c', k1, k2, k3, k4, k5⟩ := upc n o c h1
          rw [k1]
          exact k5.csim hσ hmine (HF.ok.sim.cont n' o c' k2 k4)
        · have h0 := S.cont n o c hn h1
          by_cases hl : c.live
          · exact h0.frame hgr fun x k hx hbk => ⟨hst.block k (h0.lt hl hx hbk).1 (by have := (h0.lt hl hx hbk).1; show ¬ w.heap.size ≤ k; omega), (h0.lt hl hx hbk).2.2⟩
          · cases c <;> simp [Cont.live] at hl
            trivial
      · have oldlt : ∀ n x k, 0 < n → live h n → ¬ (nb ≤ n ∧ n < nb + 8) → ρf n = some x → blk x = some k → ρ n = some x ∧ k < w.heap.size := by
          rintro n x k hn ⟨o, c, h1, h2⟩ hnin hx hbk
          rw [hout n hnin] at hx
          exact ⟨hx, ((S.cont n o c hn h1).lt h2 hx hbk).1⟩
        have newge : ∀ n', 0 < n' → n' < sF.nx → live sF.h n' → ∀ x k, ρf (sg nb n') = some x → blk x = some k → ρF n' = some x ∧ w.heap.size ≤ k := by
          rintro n' h1 h2 ⟨o, c, h3, h4⟩ x k hx hbk
          rw [sgf n' h1 h2] at hx
          exact ⟨hx, ((HF.ok.sim.cont n' o c h1 h3).lt h4 hx hbk).2.1⟩
        rcases lv n hln with ⟨n', k1, k2, k3, k4⟩ | ⟨k1, k2⟩ <;> rcases lv m hlm with ⟨m', j1, j2, j3, j4⟩ | ⟨j1, j2⟩
        · subst k1; subst j1
          exact HF.ok.sim.dist n' m' x y k k2 j2 (fun e => hne (e ▸ rfl)) k4 j4 (newge n' k2 k3 k4 x k hx hbx).1 (newge m' j2 j3 j4 y k hy hby).1 hbx hby
        · subst k1
          have a1 := (newge n' k2 k3 k4 x k hx hbx).2
          have a2 := (oldlt m y k hm j1 j2 hy hby).2
          omega
        · subst j1
          have a1 := (newge m' j2 j3 j4 y k hy hby).2
          have a2 := (oldlt n x k hn k1 k2 hx hbx).2
          omega
        · exact S.dist n m x y k hn hm hne k1 j1 (oldlt n x k hn k1 k2 hx hbx).1 (oldlt m y k hm j1 j2 hy hby).1 hbx hby
      · show ρf 0 = none
        rw [hout 0 (by omega)]; exact S.zero
      · rcases hget_hput _ _ _ _ _ h1 with h1 | h1 <;> rcases hget_hput _ _ _ _ _ h2 with h2 | h2
        · obtain ⟨n', c', k1, k2, k3, k4, k5⟩ := upc n o c1 h1
          obtain ⟨m', d', j1, j2, j3, j4, j5⟩ := upc n o' c2 h2
          have : n' = m' := by rw [k1] at j1; unfold sg at j1; omega
          subst this
          have := HF.ok.sim.lay n' o o' c' d' k2 k4 j4 k5.live.1 j5.live.1 hlt
          rw [k5.live.2.2]; exact this
        · obtain ⟨n', c', k1, k2, k3, k4, k5⟩ := upc n o c1 h1
          exact absurd ⟨by rw [k1]; unfold sg; omega, by rw [k1]; unfold sg; omega⟩ (hold n o' c2 hn h2 l2)
        · obtain ⟨n', c', k1, k2, k3, k4, k5⟩ := upc n o' c2 h2
          exact absurd ⟨by rw [k1]; unfold sg; omega, by rw [k1]; unfold sg; omega⟩ (hold n o c1 hn h1 l1)
        · exact S.lay n o o' c1 c2 hn h1 h2 l1 l2 hlt
    have hv : VRel ρf ro w' out.val x := by
      rw [hval]
      cases b with
      | false => exact VRel.over (fun _ => hσ) (fun e => by cases e) hx2 hhas
      | true => exact VRel.over (fun _ => hσ) (fun _ => ⟨fun k hk => hk.resolve_right (fun h => by cases h.1), fun _ _ => rfl⟩) hx2 hhas
    have fin : a'.defers = [] ∧ ∃ v, (results fn a'.tmps).run P w' = .ok v w' ∧ ∃ x, Ending.returned v = .returned x ∧ Res mine ρ ro w nb (hput h out.up) out.val x w' := by
      refine ⟨HF.ok.defers, x, hx1, x, rfl, ρf, hgr, fun n hne => ?_, SF, hv, hstep⟩
      by_cases hin : nb ≤ n ∧ n < nb + 8
      · exact hin
      · exact absurd (hout n hin) hne
    rcases hee with rfl | rfl <;> exact fin
end Go.Eng
