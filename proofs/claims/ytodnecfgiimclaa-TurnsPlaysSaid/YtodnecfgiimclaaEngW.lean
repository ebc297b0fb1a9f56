/- The engine, part 17: the contract of a function that is handed names. -/
import Derived.Test.YtodnecfgiimclaaEngSA
set_option linter.unusedSimpArgs false
set_option linter.unusedVariables false
namespace Go.Eng
theorem nodup_get {K : List Nat} (h : K.Nodup) {i j m : Nat} (hi : K[i]? = some m) (hj : K[j]? = some m) : i = j := by
 obtain ⟨h1, e1⟩ := List.getElem?_eq_some_iff.1 hi
 obtain ⟨h2, e2⟩ := List.getElem?_eq_some_iff.1 hj
 rcases Nat.lt_trichotomy i j with hlt | heq | hgt
 ·exact absurd (e1.trans e2.symm) (List.pairwise_iff_getElem.1 h _ _ h1 h2 hlt)
 ·exact heq
 ·exact absurd (e2.trans e1.symm) (List.pairwise_iff_getElem.1 h _ _ h2 h1 hgt)
theorem Sim.named {mine : Nat → Prop} {ρ : Env} {ro : Nat → Prop} {h : Heap} {w : World} (S : Sim mine ρ ro h w) {n : Nat} (hn : 0 < n) (hl : live h n) : ∃ x, ρ n = some x := by
 cases e : ρ n with
 | some x => exact ⟨x, rfl⟩
 | none => obtain ⟨o, c, h1, h2⟩ := hl; exact absurd h2 (fresh_dead S hn e h1)
theorem Sim.live_lt {mine : Nat → Prop} {ρ : Env} {ro : Nat → Prop} {h : Heap} {w : World} (S : Sim mine ρ ro h w) {n : Nat} (hn : 0 < n) (hl : live h n) {x : Value} {b : Nat} (hx : ρ n = some x) (hb : blk x = some b) : b < w.heap.size ∧ mine b ∧ ¬ ro b := by
 obtain ⟨o, c, h1, h2⟩ := hl
 exact (S.cont n o c hn h1).lt h2 hx hb
theorem leave_marks {P : Program} {fn : Func} {mine : Nat → Prop} {B : Nat} {ρ ρ' : Env} {ro ro' : Nat → Prop} {w : World} {s : St} (hmr : ∀ k, mine k → ¬ ro k) (hro : ∀ k, ro k → k < w.heap.size) : ∀ {a : Act} {w0 : World}, Keep B mine ρ ρ' ro ro' w w0 → Holds mine ρ' ro' s a w0 →
 ∃ w', Keep B mine ρ ρ' ro ro' w w' ∧ Holds mine ρ' ro' s { a with defers := [] } w' ∧ ∀ R : Ending → World → Prop, (∃ v, (results fn a.tmps).run P w' = .ok v w' ∧ R (.returned v) w') → LeavesInM Fence.wide 0 P fn a.tmps R a.defers .returning w0 := by
 intro a
 obtain ⟨tm, ds⟩ := a
 induction ds with
 | nil => intro w0 hk H; exact ⟨w0, hk, H, fun R h => h⟩
 | cons d ds ih =>
   intro w0 hk H
   obtain ⟨D, hd, hmD, hrD, hD⟩ := H.ok.defers.all d List.mem_cons_self
   have hnd := H.ok.defers.nd
   rw [List.map_cons, List.nodup_cons] at hnd
   have hds : DefOK mine ro' ds (w0.putObj D (.deferred none)) := by
    refine ⟨hnd.2, fun d2 h2 => ?_⟩
    obtain ⟨D2, e1, e2, e3, e4⟩ := H.ok.defers.all d2 (List.mem_cons_of_mem _ h2)
    refine ⟨D2, e1, e2, e3, (World.putObj_heap_other fun e => ?_).trans e4⟩
    subst e
    exact hnd.1 (List.mem_map.2 ⟨d2, h2, by rw [e1, hd]⟩)
   have hk1 : Keep B mine ρ ρ' ro ro' w (w0.putObj D (.deferred none)) := by
    refine ⟨hk.env, hk.more, hk.own, fun b hb => (World.putObj_heap_other fun e => ?_).trans (hk.heap b hb), ⟨hk.step.os, hk.step.tape, hk.step.output, by rw [World.putObj_size]; exact hk.step.size, fun b hb hm => (World.putObj_heap_other fun e => ?_).trans (hk.step.block b hb hm)⟩⟩
    ·subst e; exact hmr _ hmD hb
    ·subst e; exact hm hmD
   have H1 : Holds mine ρ' ro' s { tmps := tm, defers := ds } (w0.putObj D (.deferred none)) := put_holds H hD rfl rfl hds
   obtain ⟨w', k2, H2, h2⟩ := ih hk1 H1
   refine ⟨w', k2, H2, fun R hR => ⟨by simp, .inl ⟨D, _, by rw [hd], run_takeDeferred hD, h2 R hR⟩⟩⟩
theorem spec_atS {P : Program} (hm : P.follows .mixedOrders = true) {T : Tab} (hT : TabOK P T) {Γ : Specs} (hΓ : SpecsOK P Γ) {f : Nat} {fn : Func} {c : Code} (hf : P.funcs[f]? = some fn) (hb : fn.body = some c) (hn : (fn.name == "runtime.NumGoroutine" || !codeOK true c) = false) {s : Spec}
 (H : ∀ args hr nb out, s args hr nb = some out → (∀ x ∈ out.rd, hr x.1 x.2.1 = some x.2.2) ∧ ∃ (b : Bool) (K : List Nat) (args' : List AV) (init : Heap), Nat.ble args'.length fn.ntmps = true ∧
   ((∀ q ∈ out.sides, q) → K.Nodup ∧ (∀ n ∈ K, 0 < n ∧ Whole out.rd n) ∧ PassL hr out.rd K nb b args args' ∧
     (∀ x ∈ init, ∃ i n c, x.1 = i + 1 ∧ K[i]? = some n ∧ (n, x.2.1, c) ∈ out.rd ∧ CW (can K nb) x.2.2 c) ∧
     Sem P (K.length + 1) c (Post T fn K nb out b) ⟨slots0 0 args' ++ init, K.length + 1, fn.ntmps⟩)) : SpecOK P f s := by
 simp only [Bool.or_eq_false_iff, Bool.not_eq_false'] at hn
 obtain ⟨hn, hok⟩ := hn
 refine ⟨⟨fn, hf, hn, by simp [hb]⟩, fun args hr nb out e => (H args hr nb out e).1, ?_⟩
 intro mine ρ ro h w args xs hr nb out S hargs e hrd hs hnb hfr
 obtain ⟨_, b, K, args', init, hle, hH⟩ := H args hr nb out e
 obtain ⟨hnd, hKw, hpass, hinit, hev⟩ := hH hs
 have hle : args'.length ≤ fn.ntmps := Nat.le_of_ble_eq_true hle
 have hK : ∀ n ∈ K, 0 < n ∧ live h n := fun n hn => ⟨(hKw n hn).1, (hKw n hn).2.live hrd⟩
 have hKv : ∀ n ∈ K, ∃ x, ρ n = some x := fun n hn => S.named (hK n hn).1 (hK n hn).2
 have hKn : ∀ n ∈ K, ¬ (nb ≤ n ∧ n < nb + 32) := fun n hn h => by
  obtain ⟨x, hx⟩ := hKv n hn
  rw [hfr n h.1 h.2] at hx; cases hx
 have hKB : ∀ k, KB ρ K k → k < w.heap.size ∧ mine k ∧ ¬ ro k := by
  rintro k ⟨n, hn, x, hx, hbk⟩
  exact S.live_lt (hK n hn).1 (hK n hn).2 hx hbk
 let mine' : Nat → Prop := fun k => w.heap.size ≤ k ∨ KB ρ K k
 let ro' : Nat → Prop := fun k => ro k ∨ (b = false ∧ k < w.heap.size ∧ ¬ KB ρ K k)
 have hro : ∀ k, ro' k → k < w.heap.size := fun k hk => by
  rcases hk with hk | hk
  ·exact S.ro_lt hk
  ·exact hk.2.1
 have hmr : ∀ k, mine' k → ¬ ro' k := by
  rintro k (h1 | h1) h2
  ·have := hro k h2; omega
  ·rcases h2 with h2 | h2
   ·exact (hKB k h1).2.2 h2
   ·exact h2.2.2 h1
 have hmm : ∀ k, mine' k → mine k ∧ ¬ ro k := by
  rintro k (h1 | h1)
  ·exact S.new k h1
  ·exact (hKB k h1).2
 let ρ0 : Env := fun n => ρ (can K nb n)
 have hfnb : ρ nb = none := hfr nb (Nat.le_refl _) (by omega)
 have hL : LRel ρ0 ro' w args' xs := hpass.rel S hrd hK (fun k hk => .inl hk) (fun hb k h1 h2 => .inr ⟨hb, h1, h2⟩) hargs
 have hlen : xs.length = args'.length := by
  have : ∀ {vs : List AV} {ys : List Value}, LRel ρ0 ro' w vs ys → ys.length = vs.length := by
   intro vs
   induction vs with
   | nil => intro ys h; cases h; rfl
   | cons v vs ih => intro ys h; cases h with | cons _ _ u us _ t => simp [ih t]
  exact this hL
 have hi : ∀ n o c', 0 < n → hget (slots0 0 args' ++ init) n o = some c' → ∃ i m c, n = i + 1 ∧ K[i]? = some m ∧ hget h m o = some c ∧ CW (can K nb) c' c := by
  intro n o c' hn0 hg
  rcases hget_app _ _ _ _ _ hg with hg | hg
  ·have := (hget_slots0 _ _ _ _ _ hg).1; omega
  ·obtain ⟨i, m, c, h1, h2, h3, h4⟩ := hinit _ (hget_mem _ _ _ _ hg)
   exact ⟨i, m, c, h1, h2, hrd _ h3, h4⟩
 have hmem : ∀ {i m : Nat}, K[i]? = some m → m ∈ K := fun h => List.mem_iff_getElem?.2 ⟨_, h⟩
 have S0 : Sim mine' ρ0 ro' (slots0 0 args' ++ init) w := by
  refine ⟨fun n o c' hn0 hg => ?_, fun n m x y k hn0 hm0 hne hl hl' hx hy hbx hby => ?_, fun k hk => ⟨.inl hk, hmr k (.inl hk)⟩, S.zero, fun n o o' c1 c2 hn0 h1 h2 l1 l2 hlt => ?_⟩
  ·obtain ⟨i, m, c, rfl, h2, h3, h4⟩ := hi n o c' hn0 hg
   have hcan : can K nb (i + 1) = m := can_at h2
   have h5 : CSim mine ρ ro w (can K nb (i + 1)) o c := by rw [hcan]; exact S.cont m o c (hK m (hmem h2)).1 h3
   have h6 : CSim mine ρ0 ro w (i + 1) o c' := h4.csim (ρ := ρ) (ρ' := ρ0) (fun _ => rfl) h5
   refine h6.chg (fun _ h => .inl h) fun x k hx hbk => ?_
   have : KB ρ K k := ⟨m, hmem h2, x, by have : ρ0 (i + 1) = some x := hx; simpa [ρ0, hcan] using this, hbk⟩
   exact ⟨.inr this, hmr k (.inr this)⟩
  ·obtain ⟨o, c', h1, h2⟩ := hl
   obtain ⟨o', d', j1, j2⟩ := hl'
   obtain ⟨i, p, c, rfl, h3, h4, h5⟩ := hi n o c' hn0 h1
   obtain ⟨j, q, d, rfl, j3, j4, j5⟩ := hi m o' d' hm0 j1
   have e1 : ρ p = some x := by have : ρ (can K nb (i + 1)) = some x := hx; rwa [can_at h3] at this
   have e2 : ρ q = some y := by have : ρ (can K nb (j + 1)) = some y := hy; rwa [can_at j3] at this
   refine S.dist p q x y k (hK p (hmem h3)).1 (hK q (hmem j3)).1 (fun e => ?_) ⟨o, c, h4, (h5.live h2).1⟩ ⟨o', d, j4, (j5.live j2).1⟩ e1 e2 hbx hby
   subst e
   have := nodup_get hnd h3 j3
   omega
  ·obtain ⟨i, p, c, rfl, h3, h4, h5⟩ := hi n o c1 hn0 h1
   obtain ⟨j, q, d, e, j3, j4, j5⟩ := hi (i + 1) o' c2 hn0 h2
   have : i = j := by omega
   subst this
   rw [h3] at j3; injection j3 with j3; subst j3
   have := S.lay p o o' c d (hK p (hmem h3)).1 h4 j4 (h5.live l1).1 (j5.live l2).1 hlt
   rw [← (h5.live l1).2]; exact this
 refine callsIn_wide.1 (callsIn_of_wp_marks (F := Fence.wide) (n := 0) hf hb trivial (hev _ ρ0 ro' _ w _ 0 ⟨⟨S0, fun t v ht => ?_, ?_, DefOK.nil _ _ _⟩, fun n hn0 => ?_, Nat.succ_pos _⟩ fun e' s' ρ' ro1 a' w0 hq hk0 H0' => ?_))
 ·rcases hget_app _ _ _ _ _ ht with ht | ht
  ·obtain ⟨_, _, v', h1, h2⟩ := hget_slots0 _ _ _ _ _ ht
   injection h2 with h2; subst h2
   obtain ⟨u, h3, h4⟩ := hL.get h1
   refine ⟨u, ?_, h4⟩
   have hlt := (List.getElem?_eq_some_iff.1 h3).1
   rw [Array.getElem?_append_left (by simpa using hlt)]
   simpa using h3
  ·obtain ⟨i, m, c, h1, _⟩ := hinit _ (hget_mem _ _ _ _ ht)
   have : (0 : Nat) = i + 1 := h1
   omega
 ·simp only [Array.size_append, List.size_toArray, Array.size_replicate]
  omega
 ·show ρ (can K nb n) = none
  rw [can_out (by have : K.length + 1 ≤ n := hn0; omega)]; exact hfnb
 ·have hE : Ends T fn K nb out b s' ∧ (e' = .normal ∨ e' = .ret) := by
   cases e' <;> first | exact ⟨hq, .inl rfl⟩ | exact ⟨hq, .inr rfl⟩ | exact hq.elim
  obtain ⟨⟨s', hwk, hE⟩, hee⟩ := hE
  obtain ⟨ρ', ro1, hk00, H0'⟩ := hwk.holds H0'
  have hk0 := hk0.trans hk00
  obtain ⟨w', hk, H', hleave⟩ := leave_marks hmr hro hk0 H0'
  obtain ⟨⟨l, sF, vs, sides, v0, hw, hnx, hres, hsd, hone, hhas, hval, hup, hkept⟩⟩ := hE
  obtain ⟨hkF, HF⟩ := hw.holds H'
  obtain ⟨x, hx1, hx2⟩ := holds_results (P := P) hT H' hres ((All_iff _).1 hsd)
  rw [hone] at hx2
  have hx2 := VRel.unren (ρ := ρ') (ρ' := fun n => ρ' (pi (K.length + 1) s'.nx l n)) (fun _ => rfl) hx2
  generalize hρF : (fun n => ρ' (pi (K.length + 1) s'.nx l n)) = ρF at hkF HF hx2
  have hnxF : K.length + 1 ≤ sF.nx := by rw [hw.nx]; omega
  -- names that were handed in are as they were
  have hKF : ∀ i m x, K[i]? = some m → ρ m = some x → ρF (i + 1) = some x := by
   intro i m x h1 h2
   have hlt := (List.getElem?_eq_some_iff.1 h1).1
   refine hkF.env _ _ (by omega) (hk.env _ _ (by omega) ?_)
   show ρ (can K nb (i + 1)) = some x
   rw [can_at h1]; exact h2
  let ρf : Env := fun m => bif Nat.ble nb m && Nat.blt m (nb + 32) then ρF (m - nb + K.length + 1) else ρ m
  have hin : ∀ m, nb ≤ m → m < nb + 32 → ρf m = ρF (m - nb + K.length + 1) := by
   intro m h1 h2
   have e1 : Nat.ble nb m = true := by simpa [Nat.ble_eq] using h1
   have e2 : Nat.blt m (nb + 32) = true := by simpa [Nat.blt_eq] using h2
   simp [ρf, e1, e2]
  have hout : ∀ m, ¬ (nb ≤ m ∧ m < nb + 32) → ρf m = ρ m := by
   intro m h1
   have : (Nat.ble nb m && Nat.blt m (nb + 32)) = false := by
    cases e1 : Nat.ble nb m with
    | false => rfl
    | true =>
      cases e2 : Nat.blt m (nb + 32) with
      | false => rfl
      | true => exact absurd ⟨Nat.le_of_ble_eq_true e1, by simpa [Nat.blt_eq] using e2⟩ h1
   simp [ρf, this]
  have hF0 : ρF 0 = none := HF.ok.sim.zero
  have hFlt : ∀ n y, ρF n = some y → 0 < n ∧ n < sF.nx := by
   intro n y hy
   refine ⟨?_, ?_⟩
   ·rcases Nat.eq_zero_or_pos n with h0 | h0
    ·subst h0; rw [hF0] at hy; cases hy
    ·exact h0
   ·rcases Nat.lt_or_ge n sF.nx with hlt | hge
    ·exact hlt
    ·rw [HF.fresh n hge] at hy; cases hy
  -- what a name inside is outside
  have hσ : ∀ n y, ρF n = some y → ρf (sgm K nb n) = some y := by
   intro n y hy
   obtain ⟨h0, h9⟩ := hFlt n y hy
   obtain ⟨n, rfl⟩ : ∃ k, n = k + 1 := ⟨n - 1, by omega⟩
   rcases Nat.lt_or_ge n K.length with hlt | hge
   ·have hg : K[n]? = some K[n] := by simp [hlt]
    rw [sgm_at hg, hout _ (hKn _ (hmem hg))]
    obtain ⟨z, hz⟩ := hKv _ (hmem hg)
    have := hKF n _ z hg hz
    rw [hy] at this; injection this with this; subst this
    exact hz
   ·rw [sgm_out (by omega), hin _ (by omega) (by omega)]
    have : nb + (n + 1 - 1 - K.length) - nb + K.length + 1 = n + 1 := by omega
    rw [this]; exact hy
  have hσi : ∀ n m, 0 < n → 0 < m → n < sF.nx → m < sF.nx → sgm K nb n = sgm K nb m → n = m := by
   intro n m h1 h2 h3 h4 he
   obtain ⟨n, rfl⟩ : ∃ k, n = k + 1 := ⟨n - 1, by omega⟩
   obtain ⟨m, rfl⟩ : ∃ k, m = k + 1 := ⟨m - 1, by omega⟩
   rcases Nat.lt_or_ge n K.length with a | a <;> rcases Nat.lt_or_ge m K.length with a' | a'
   ·have g1 : K[n]? = some K[n] := by simp [a]
    have g2 : K[m]? = some K[m] := by simp [a']
    rw [sgm_at g1, sgm_at g2] at he
    rw [he] at g1
    rw [nodup_get hnd g1 g2]
   ·have g1 : K[n]? = some K[n] := by simp [a]
    rw [sgm_at g1, sgm_out (by omega)] at he
    exact absurd ⟨by omega, by omega⟩ (hKn _ (hmem g1))
   ·have g2 : K[m]? = some K[m] := by simp [a']
    rw [sgm_at g2, sgm_out (by omega)] at he
    exact absurd ⟨by omega, by omega⟩ (hKn _ (hmem g2))
   ·rw [sgm_out (by omega), sgm_out (by omega)] at he
    omega
  have hst := hk.step
  let roF : Nat → Prop := fun k => ro k ∨ (b = true ∧ ro1 k)
  have hgr : GrowM mine ρ ρf ro roF w w' := by
   refine ⟨⟨fun n v hv => ?_, fun _ h => .inl h, fun k hr => hk.heap k (.inl hr)⟩, fun k hr => ?_⟩
   ·rw [hout n (fun hin => by rw [hfr n hin.1 hin.2] at hv; cases hv)]; exact hv
   ·rcases hr with hr | ⟨hbt, hr⟩
    ·exact .inl hr
    ·rcases hk.own k hr with (h1 | h1) | h1
     ·exact .inl h1
     ·rw [hbt] at h1; cases h1.1
     ·exact .inr (hmm k h1).1
  have hstep : Step mine w w' := ⟨hst.os, hst.tape, hst.output, hst.size, fun k hlt hnm => hst.block k hlt (by
   rintro (h1 | h1)
   ·omega
   ·exact hnm (hKB k h1).2.1)⟩
  have hroF : ∀ k, ro1 k ∨ ro k → ro1 k := fun k h => h.elim id fun h => hk.more k (.inl h)
  have hmineF : ∀ k, mine' k → ¬ ro1 k → mine k ∧ ¬ roF k := fun k h1 h2 => ⟨(hmm k h1).1, by
   rintro (h3 | h3)
   ·exact h2 (hroF k (.inr h3))
   ·exact h2 h3.2⟩
  have hroB : b = true → ∀ k, ro1 k → roF k := fun hbt k h => .inr ⟨hbt, h⟩
  have SF := HF.ok.sim
  -- contents outside are contents inside, or stay
  have tops : ∀ n sz, (n, sz, Cont.top) ∈ out.rd → n ∈ K → ∃ i, K[i]? = some n ∧ hget sF.h (i + 1) sz = some .top := by
   intro n sz h1 h2
   rcases hkept _ h1 h2 with ⟨_, h3⟩ | ⟨i, c', h3, h4, h5⟩
   ·exact absurd rfl (h3 sz)
   ·refine ⟨i, h3, ?_⟩
    cases c' <;> first | exact h4 | exact False.elim h5
  have cls : ∀ n o c, 0 < n → hget (hput h out.up) n o = some c → c.live →
   (∃ n', n = sgm K nb n' ∧ 0 < n' ∧ n' < sF.nx ∧ ((∃ c', hget sF.h n' o = some c' ∧ CF b (sgm K nb) c' c) ∨ ∃ sz, hget sF.h n' sz = some .top ∧ sz ≤ o ∧ ((∃ f, c = .arr 0 f) ∨ c = .top))) ∨
   (n ∉ K ∧ ¬ (nb ≤ n ∧ n < nb + 32) ∧ hget h n o = some c) := by
   intro n o c hn0 hg hl
   rcases hget_hput' _ _ _ _ _ hg with h1 | ⟨hnk, h1⟩
   ·obtain ⟨n', c', k1, k2, k3, k4, k5⟩ := hup _ h1 hl
    exact .inl ⟨n', k1, k2, k3, .inl ⟨c', k4, k5⟩⟩
   ·by_cases hmK : n ∈ K
    ·rcases (hKw n hmK).2.all S hrd hn0 h1 hl with h2 | ⟨sz, h2, h3, h4⟩
     ·rcases hkept _ h2 hmK with ⟨h3, _⟩ | ⟨i, c', h3, h4, h5⟩
      ·rw [hnk] at h3; cases h3
      ·have hlt := (List.getElem?_eq_some_iff.1 h3).1
       exact .inl ⟨i + 1, (sgm_at h3).symm, Nat.succ_pos _, by omega, .inl ⟨c', h4, h5⟩⟩
     ·obtain ⟨i, h5, h6⟩ := tops n sz h2 hmK
      have hlt := (List.getElem?_eq_some_iff.1 h5).1
      exact .inl ⟨i + 1, (sgm_at h5).symm, Nat.succ_pos _, by omega, .inr ⟨sz, h6, h3, h4⟩⟩
    ·refine .inr ⟨hmK, fun hin => ?_, h1⟩
     exact fresh_dead S hn0 (hfr n hin.1 hin.2) h1 hl
  have clsL : ∀ n, 0 < n → live (hput h out.up) n → (∃ n', n = sgm K nb n' ∧ 0 < n' ∧ n' < sF.nx ∧ live sF.h n') ∨ (n ∉ K ∧ ¬ (nb ≤ n ∧ n < nb + 32) ∧ live h n) := by
   rintro n hn0 ⟨o, c, h1, h2⟩
   rcases cls n o c hn0 h1 h2 with ⟨n', k1, k2, k3, ⟨c', k4, k5⟩ | ⟨sz, k4, _⟩⟩ | ⟨k1, k2, k3⟩
   ·exact .inl ⟨n', k1, k2, k3, o, c', k4, k5.live.1⟩
   ·exact .inl ⟨n', k1, k2, k3, sz, _, k4, trivial⟩
   ·exact .inr ⟨k1, k2, o, c, k3, h2⟩
  have hold : ∀ n x k, 0 < n → n ∉ K → ¬ (nb ≤ n ∧ n < nb + 32) → live h n → ρf n = some x → blk x = some k → ρ n = some x ∧ k < w.heap.size ∧ ¬ mine' k := by
   intro n x k hn0 hnK hnin hl hx hbk
   rw [hout n hnin] at hx
   have hlt := S.live_lt hn0 hl hx hbk
   refine ⟨hx, hlt.1, ?_⟩
   rintro (h1 | ⟨m, hmK, y, hy, hby⟩)
   ·omega
   ·exact S.dist n m x y k hn0 (hK m hmK).1 (fun e => hnK (e ▸ hmK)) hl (hK m hmK).2 hx hy hbk hby
  have hins : ∀ n' x, 0 < n' → live sF.h n' → ρf (sgm K nb n') = some x → ρF n' = some x := by
   intro n' x h1 h2 hx
   obtain ⟨y, hy⟩ := SF.named h1 h2
   have := hσ n' y hy
   rw [this] at hx; injection hx with hx; subst hx
   exact hy
  have SFin : Sim mine ρf roF (hput h out.up) w' := by
   refine ⟨fun n o c hn0 hg => ?_, fun n m x y k hn0 hm0 hne hln hlm hx hy hbx hby => ?_, fun k hk' => ?_, ?_, fun n o o' c1 c2 hn0 h1 h2 l1 l2 hlt => ?_⟩
   ·by_cases hl : c.live
    ·rcases cls n o c hn0 hg hl with ⟨n', k1, k2, k3, ⟨c', k4, k5⟩ | ⟨sz, k4, k5, k6⟩⟩ | ⟨k1, k2, k3⟩
     ·rw [k1]
      exact k5.csim hσ hroB hmineF (SF.cont n' o c' k2 k4)
     ·obtain ⟨bb, cs, ty, j1, j2, j3, j4, j5⟩ := SF.cont n' sz _ k2 k4
      rw [k1]
      have h3 := hmineF bb j3 j4
      rcases k6 with ⟨f, rfl⟩ | rfl
      ·exact ⟨bb, cs, ty, hσ _ _ j1, j2, h3.1, h3.2, fun i hi => absurd hi (Nat.not_lt_zero _)⟩
      ·exact ⟨bb, cs, ty, hσ _ _ j1, j2, h3.1, h3.2, Nat.le_trans j5 k5⟩
     ·have h0 := S.cont n o c hn0 k3
      refine h0.frame hgr.g fun x k hx hbk => ?_
      have h3 := hold n x k hn0 k1 k2 ⟨o, c, k3, hl⟩ (by rw [hout n k2]; exact hx) hbk
      refine ⟨hst.block k h3.2.1 h3.2.2, ?_⟩
      rintro (h4 | ⟨hbt, h4⟩)
      ·exact (h0.lt hl hx hbk).2.2 h4
      ·rcases hk.own k h4 with (h5 | h5) | h5
       ·exact (h0.lt hl hx hbk).2.2 h5
       ·rw [hbt] at h5; cases h5.1
       ·exact h3.2.2 h5
    ·cases c <;> simp [Cont.live] at hl
     trivial
   ·rcases clsL n hn0 hln with ⟨n', k1, k2, k3, k4⟩ | ⟨k1, k2, k3⟩ <;> rcases clsL m hm0 hlm with ⟨m', j1, j2, j3, j4⟩ | ⟨j1, j2, j3⟩
    ·subst k1; subst j1
     exact SF.dist n' m' x y k k2 j2 (fun e => hne (e ▸ rfl)) k4 j4 (hins n' x k2 k4 hx) (hins m' y j2 j4 hy) hbx hby
    ·subst k1
     have a1 := SF.live_lt k2 k4 (hins n' x k2 k4 hx) hbx
     exact (hold m y k hm0 j1 j2 j3 hy hby).2.2 a1.2.1
    ·subst j1
     have a1 := SF.live_lt j2 j4 (hins m' y j2 j4 hy) hby
     exact (hold n x k hn0 k1 k2 k3 hx hbx).2.2 a1.2.1
    ·exact S.dist n m x y k hn0 hm0 hne k3 j3 (hold n x k hn0 k1 k2 k3 hx hbx).1 (hold m y k hm0 j1 j2 j3 hy hby).1 hbx hby
   ·have h1 := S.new k (Nat.le_trans hst.size hk')
    refine ⟨h1.1, ?_⟩
    rintro (h4 | ⟨_, h4⟩)
    ·exact h1.2 h4
    ·exact (SF.new k hk').2 h4
   ·show ρf 0 = none
    rw [hout 0 (by omega)]; exact S.zero
   ·have small : ∀ {c : Cont}, ((∃ f, c = .arr 0 f) ∨ c = .top) → c.wd ≤ 1 := by
     rintro c (⟨f, rfl⟩ | rfl)
     ·exact Nat.zero_le _
     ·exact Nat.le_refl _
    rcases cls n o c1 hn0 h1 l1 with ⟨n', k1, k2, k3, k4⟩ | ⟨k1, k2, k3⟩ <;> rcases cls n o' c2 hn0 h2 l2 with ⟨m', j1, j2, j3, j4⟩ | ⟨j1, j2, j3⟩
    ·have := hσi n' m' k2 j2 k3 j3 (k1.symm.trans j1)
     subst this
     rcases k4 with ⟨c', k4, k5⟩ | ⟨sz, k4, k5, k6⟩
     ·rcases j4 with ⟨d', j4, j5⟩ | ⟨sz, j4, j5, j6⟩
      ·have := SF.lay n' o o' c' d' k2 k4 j4 k5.live.1 j5.live.1 hlt
       rw [k5.live.2.2]; exact this
      ·rcases Nat.lt_or_ge o sz with hos | hos
       ·have := SF.lay n' o sz c' _ k2 k4 j4 k5.live.1 trivial hos
        rw [k5.live.2.2]; omega
       ·rcases top_end SF k2 j4 k4 hos with h3 | h3 | h3
        ·have := small (.inl h3); rw [k5.live.2.2]; omega
        ·have := small (.inr h3); rw [k5.live.2.2]; omega
        ·subst h3; exact k5.live.1.elim
     ·have := small k6; omega
    ·exfalso
     subst k1
     obtain ⟨m, rfl⟩ : ∃ k, n' = k + 1 := ⟨n' - 1, by omega⟩
     rcases Nat.lt_or_ge m K.length with a | a
     ·have g1 : K[m]? = some K[m] := by simp [a]
      exact j1 (by rw [sgm_at g1]; exact hmem g1)
     ·exact j2 (by rw [sgm_out (by omega)]; constructor <;> omega)
    ·exfalso
     subst j1
     obtain ⟨m, rfl⟩ : ∃ k, m' = k + 1 := ⟨m' - 1, by omega⟩
     rcases Nat.lt_or_ge m K.length with a | a
     ·have g1 : K[m]? = some K[m] := by simp [a]
      exact k1 (by rw [sgm_at g1]; exact hmem g1)
     ·exact k2 (by rw [sgm_out (by omega)]; constructor <;> omega)
    ·exact S.lay n o o' c1 c2 hn0 k3 j3 l1 l2 hlt
  have hv : VRel ρf roF w' out.val x := by
   rw [hval]
   exact VRel.over (fun _ => hσ) (fun e => ⟨hroB e, fun _ _ => rfl⟩) hx2 hhas
  have fin : ∃ v, (results fn a'.tmps).run P w' = .ok v w' ∧ ∃ x, Ending.returned v = .returned x ∧ Res mine ρ ro w nb (hput h out.up) out.val x w' := by
   refine ⟨x, hx1, x, rfl, ρf, roF, hgr, fun n hne => ?_, SFin, hv, hstep⟩
   by_cases hin : nb ≤ n ∧ n < nb + 32
   ·exact hin
   ·exact absurd (hout n hin) hne
  rcases hee with rfl | rfl <;> exact hleave _ fin
theorem spec_at {P : Program} (hm : P.follows .mixedOrders = true) {T : Tab} (hT : TabOK P T) {Γ : Specs} (hΓ : SpecsOK P Γ) {f : Nat} {fn : Func} {c : Code} (hf : P.funcs[f]? = some fn) (hb : fn.body = some c) (hn : (fn.name == "runtime.NumGoroutine" || !codeOK true c) = false) {s : Spec}
 (H : ∀ args hr nb out, s args hr nb = some out → (∀ x ∈ out.rd, hr x.1 x.2.1 = some x.2.2) ∧ ∃ (b : Bool) (K : List Nat) (args' : List AV) (init : Heap), Nat.ble args'.length fn.ntmps = true ∧
   ((∀ q ∈ out.sides, q) → K.Nodup ∧ (∀ n ∈ K, 0 < n ∧ Whole out.rd n) ∧ PassL hr out.rd K nb b args args' ∧
     (∀ x ∈ init, ∃ i n c, x.1 = i + 1 ∧ K[i]? = some n ∧ (n, x.2.1, c) ∈ out.rd ∧ CW (can K nb) x.2.2 c) ∧
     evC T Γ (K.length + 1) c (Post T fn K nb out b) ⟨slots0 0 args' ++ init, K.length + 1, fn.ntmps⟩)) : SpecOK P f s := by
 have hok : codeOK true c = true := by
  simp only [Bool.or_eq_false_iff, Bool.not_eq_false'] at hn
  exact hn.2
 refine spec_atS hm hT hΓ hf hb hn fun args hr nb out e => ?_
 obtain ⟨h1, b, K, args', init, h2, h3⟩ := H args hr nb out e
 exact ⟨h1, b, K, args', init, h2, fun hs => by
  obtain ⟨q1, q2, q3, q4, q5⟩ := h3 hs
  exact ⟨q1, q2, q3, q4, .of_evC hm hT hΓ hok q5⟩⟩
theorem spec_ownS {P : Program} (hm : P.follows .mixedOrders = true) {T : Tab} (hT : TabOK P T) {Γ : Specs} (hΓ : SpecsOK P Γ) {f : Nat} {fn : Func} {c : Code} (hf : P.funcs[f]? = some fn) (hb : fn.body = some c) (hn : (fn.name == "runtime.NumGoroutine" || !codeOK true c) = false) {s : Spec}
 (H : ∀ args hr nb out, s args hr nb = some out → (∀ x ∈ out.rd, hr x.1 x.2.1 = some x.2.2) ∧ ∃ (b : Bool) (args' : List AV), Nat.ble args'.length fn.ntmps = true ∧
   ((∀ q ∈ out.sides, q) → PassL hr out.rd [] nb b args args' ∧ Sem P 1 c (Post T fn [] nb out b) ⟨slots0 0 args', 1, fn.ntmps⟩)) : SpecOK P f s := by
 refine spec_atS hm hT hΓ hf hb hn fun args hr nb out e => ?_
 obtain ⟨h1, b, args', h2, h3⟩ := H args hr nb out e
 refine ⟨h1, b, [], args', [], h2, fun hs => ?_⟩
 obtain ⟨h4, h5⟩ := h3 hs
 refine ⟨List.nodup_nil, fun n hn => by simp at hn, h4, fun x hx => by simp at hx, ?_⟩
 rw [List.append_nil]
 exact h5
theorem spec_own {P : Program} (hm : P.follows .mixedOrders = true) {T : Tab} (hT : TabOK P T) {Γ : Specs} (hΓ : SpecsOK P Γ) {f : Nat} {fn : Func} {c : Code} (hf : P.funcs[f]? = some fn) (hb : fn.body = some c) (hn : (fn.name == "runtime.NumGoroutine" || !codeOK true c) = false) {s : Spec}
 (H : ∀ args hr nb out, s args hr nb = some out → (∀ x ∈ out.rd, hr x.1 x.2.1 = some x.2.2) ∧ ∃ (b : Bool) (args' : List AV), Nat.ble args'.length fn.ntmps = true ∧
   ((∀ q ∈ out.sides, q) → PassL hr out.rd [] nb b args args' ∧ evC T Γ 1 c (Post T fn [] nb out b) ⟨slots0 0 args', 1, fn.ntmps⟩)) : SpecOK P f s := by
 refine spec_at hm hT hΓ hf hb hn fun args hr nb out e => ?_
 obtain ⟨h1, b, args', h2, h3⟩ := H args hr nb out e
 refine ⟨h1, b, [], args', [], h2, fun hs => ?_⟩
 obtain ⟨h4, h5⟩ := h3 hs
 refine ⟨List.nodup_nil, fun n hn => by simp at hn, h4, fun x hx => by simp at hx, ?_⟩
 rw [List.append_nil]
 exact h5
end Go.Eng