/- The engine, part 5: stores, new blocks. -/
import Derived.Test.YtodnecfgiimclaaEngD
set_option linter.unusedSimpArgs false
set_option linter.unusedVariables false
namespace Go.Eng
section
variable {P : Program} {mine : Nat → Prop} {ρ : Env} {ro : Nat → Prop} {h : Heap} {w : World}
theorem hget_spread_ne (n : Nat) : ∀ (cs : List AV) (off : Nat) (h : Heap) (m o : Nat), m ≠ n → hget (hput h (spread n off cs)) m o = hget h m o
 | [], _, _, _, _, _ => rfl
 | c :: cs, off, h, m, o, hne => by
   have : ∃ c' k, spread n off (c :: cs) = (n, off, c') :: spread n (off + k) cs := by cases c <;> exact ⟨_, _, rfl⟩
   obtain ⟨c', k, e⟩ := this
   rw [e, hput, hget_spread_ne n cs (off + k) _ m o hne, hget_cons, if_neg (fun e => hne e.1.symm)]
theorem hget_spread (n : Nat) : ∀ (cs : List AV) (off : Nat) (h : Heap) (o : Nat) (c : Cont), hget (hput h (spread n off cs)) n o = some c →
 (n, o, c) ∈ spread n off cs ∨ (hget h n o = some c ∧ ∀ c', (n, o, c') ∉ spread n off cs)
 | [], _, _, _, _, e => .inr ⟨e, fun _ => by simp [spread]⟩
 | d :: cs, off, h, o, c, e => by
   have : ∃ c' k, spread n off (d :: cs) = (n, off, c') :: spread n (off + k) cs := by cases d <;> exact ⟨_, _, rfl⟩
   obtain ⟨c', k, e2⟩ := this
   rw [e2, hput] at e
   rcases hget_spread n cs (off + k) _ o c e with hm | ⟨h1, h2⟩
   ·exact .inl (by rw [e2]; exact List.mem_cons_of_mem _ hm)
   ·rw [hget_cons] at h1
    split at h1
    ·rename_i hk
     obtain ⟨_, rfl⟩ := hk
     injection h1 with h1
     subst h1
     exact .inl (by rw [e2]; exact List.mem_cons_self)
    ·rename_i hk
     refine .inr ⟨h1, fun c'' hm => ?_⟩
     rw [e2] at hm
     rcases List.mem_cons.1 hm with hm | hm
     ·injection hm with _ hm; injection hm with hm _; exact hk ⟨rfl, hm.symm⟩
     ·exact h2 c'' hm
def EntOK (ρ : Env) (ro : Nat → Prop) (w : World) (us : List Value) (p : Nat) : Cont → Prop
 | .cell v => ∃ u, us[p]? = some u ∧ u.oneCell' = true ∧ VRel ρ ro w v u
 | .arr k f => ∀ i, i < k → ∃ u, us[p + i]? = some u ∧ u.oneCell' = true ∧ VRel ρ ro w (f i) u
 | _ => False
theorem spread_mem (n : Nat) {cs : List AV} {us : List Value} (hc : CRel ρ ro w cs us) : ∀ {off n' o : Nat} {c : Cont}, (n', o, c) ∈ spread n off cs →
 n' = n ∧ off ≤ o ∧ o + c.wd ≤ off + us.length ∧ EntOK ρ ro w us (o - off) c := by
 induction cs generalizing us with
 | nil => intro off n' o c hm; simp [spread] at hm
 | cons d cs ih =>
   intro off n' o c hm
   cases hc with
   | cons _ _ u us h h1 t =>
     have e : spread n off (d :: cs) = (n, off, .cell d) :: spread n (off + 1) cs := by cases h <;> rfl
     rw [e] at hm
     rcases List.mem_cons.1 hm with hm | hm
     ·injection hm with hm1 hm; injection hm with hm2 hm3
      subst hm1; subst hm2; subst hm3
      exact ⟨rfl, Nat.le_refl _, by simp [Cont.wd], u, by simp, h1, h⟩
     ·obtain ⟨a1, a2, a3, a4⟩ := ih t hm
      refine ⟨a1, by omega, by simp; omega, ?_⟩
      cases c with
      | cell v =>
        obtain ⟨u', b1, b2, b3⟩ := a4
        exact ⟨u', by rw [show o - off = o - (off + 1) + 1 by omega]; simpa using b1, b2, b3⟩
      | arr k f =>
        intro i hi
        obtain ⟨u', b1, b2, b3⟩ := a4 i hi
        exact ⟨u', by rw [show o - off + i = o - (off + 1) + i + 1 by omega]; simpa using b1, b2, b3⟩
      | _ => exact a4.elim
   | arr k f _ xs us hl h h1 t =>
     have e : spread n off (.arr k f :: cs) = (n, off, .arr k f) :: spread n (off + k) cs := rfl
     rw [e] at hm
     rcases List.mem_cons.1 hm with hm | hm
     ·injection hm with hm1 hm; injection hm with hm2 hm3
      subst hm1; subst hm2; subst hm3
      refine ⟨rfl, Nat.le_refl _, by simp [Cont.wd]; omega, fun i hi => ?_⟩
      have hi' : i < xs.length := by omega
      refine ⟨xs[i], by simp [List.getElem?_append_left hi'], h1 _ (List.getElem_mem hi'), h i _ (List.getElem?_eq_getElem hi')⟩
     ·obtain ⟨a1, a2, a3, a4⟩ := ih t hm
      refine ⟨a1, by omega, by simp; omega, ?_⟩
      cases c with
      | cell v =>
        obtain ⟨u', b1, b2, b3⟩ := a4
        exact ⟨u', by rw [List.getElem?_append_right (by omega), hl, show o - off - k = o - (off + k) by omega]; exact b1, b2, b3⟩
      | arr k' f' =>
        intro i hi
        obtain ⟨u', b1, b2, b3⟩ := a4 i hi
        exact ⟨u', by rw [List.getElem?_append_right (by omega), hl, show o - off + i - k = o - (off + k) + i by omega]; exact b1, b2, b3⟩
      | _ => exact a4.elim
theorem spread_lay (n : Nat) {cs : List AV} {us : List Value} (hc : CRel ρ ro w cs us) : ∀ {off o o' : Nat} {c c' : Cont}, (n, o, c) ∈ spread n off cs → (n, o', c') ∈ spread n off cs → o < o' → o + c.wd ≤ o' := by
 induction cs generalizing us with
 | nil => intro off o o' c c' hm; simp [spread] at hm
 | cons d cs ih =>
   intro off o o' c c' hm hm' hlt
   have key : ∃ cd k us', spread n off (d :: cs) = (n, off, cd) :: spread n (off + k) cs ∧ cd.wd = k ∧ CRel ρ ro w cs us' := by
    cases hc with
    | cons _ _ u us h h1 t => exact ⟨.cell d, 1, us, by cases h <;> rfl, rfl, t⟩
    | arr k f _ xs us hl h h1 t => exact ⟨.arr k f, k, us, rfl, rfl, t⟩
   obtain ⟨cd, k, us', e, hk, t⟩ := key
   rw [e] at hm hm'
   rcases List.mem_cons.1 hm with hm | hm
   ·injection hm with _ hm; injection hm with hm2 hm3
    subst hm2; subst hm3
    rcases List.mem_cons.1 hm' with hm' | hm'
    ·injection hm' with _ hm'; injection hm' with hm2 _; omega
    ·have := (spread_mem n t hm').2.1; omega
   ·rcases List.mem_cons.1 hm' with hm' | hm'
    ·injection hm' with _ hm'; injection hm' with hm2 _
     have := (spread_mem n t hm).2.1; omega
    ·exact ih t hm hm' hlt
theorem spread_tile (n : Nat) {cs : List AV} {us : List Value} (hc : CRel ρ ro w cs us) : ∀ {off p : Nat}, off ≤ p → p < off + us.length → ∃ o c, (n, o, c) ∈ spread n off cs ∧ o ≤ p ∧ p < o + c.wd := by
 induction cs generalizing us with
 | nil => intro off p h1 h2; cases hc; simp at h2; omega
 | cons d cs ih =>
   intro off p h1 h2
   have key : ∃ cd k us', spread n off (d :: cs) = (n, off, cd) :: spread n (off + k) cs ∧ cd.wd = k ∧ CRel ρ ro w cs us' ∧ us.length = k + us'.length := by
    cases hc with
    | cons _ _ u us h h1 t => exact ⟨.cell d, 1, us, by cases h <;> rfl, rfl, t, by simp; omega⟩
    | arr k f _ xs us hl h h1 t => exact ⟨.arr k f, k, us, rfl, rfl, t, by simp [hl]⟩
   obtain ⟨cd, k, us', e, hk, t, hlen⟩ := key
   rw [e]
   by_cases hp : p < off + k
   ·exact ⟨off, cd, List.mem_cons_self, h1, by omega⟩
   ·obtain ⟨o, c, a1, a2, a3⟩ := ih t (off := off + k) (p := p) (by omega) (by omega)
    exact ⟨o, c, List.mem_cons_of_mem _ a1, a2, a3⟩
theorem spread_head (n off : Nat) {c : AV} {cs : List AV} : ∃ c', (n, off, c') ∈ spread n off (c :: cs) := by cases c <;> exact ⟨_, List.mem_cons_self⟩
theorem sameKeys_spec : ∀ (l l' : List (Nat × Nat × Cont)), sameKeys l l' = true → ∀ x ∈ l', ∃ y ∈ l, y.1 = x.1 ∧ y.2.1 = x.2.1 ∧ y.2.2.wd = x.2.2.wd ∧ y.2.2.live
 | [], [], _, x, hx => by simp at hx
 | (n, o, .cell v) :: l, (n', o', .cell v') :: l', e, x, hx => by
   simp [sameKeys] at e
   rcases List.mem_cons.1 hx with rfl | hx
   ·exact ⟨_, List.mem_cons_self, e.1.1, e.1.2, rfl, trivial⟩
   ·obtain ⟨y, a, b⟩ := sameKeys_spec l l' e.2 x hx; exact ⟨y, List.mem_cons_of_mem _ a, b⟩
 | (n, o, .arr k v) :: l, (n', o', .arr k' v') :: l', e, x, hx => by
   simp [sameKeys] at e
   rcases List.mem_cons.1 hx with rfl | hx
   ·exact ⟨_, List.mem_cons_self, e.1.1.1, e.1.1.2, e.1.2, trivial⟩
   ·obtain ⟨y, a, b⟩ := sameKeys_spec l l' e.2 x hx; exact ⟨y, List.mem_cons_of_mem _ a, b⟩
theorem splice_get (cur : Array Value) (us : List Value) (off p : Nat) (hfit : off + us.length ≤ cur.size) :
 (cur.toList.take off ++ us ++ cur.toList.drop (off + us.length)).toArray[p]? = if off ≤ p ∧ p < off + us.length then us[p - off]? else cur[p]? := by
 rw [List.getElem?_toArray, List.append_assoc, List.getElem?_append]
 have hl : (cur.toList.take off).length = off := by rw [List.length_take]; simp; omega
 rw [hl]
 split
 ·rename_i hlt
  rw [if_neg (by omega), List.getElem?_take, if_pos hlt]
  simp
 ·rename_i hge
  rw [List.getElem?_append]
  split
  ·rename_i hlt
   rw [if_pos (by omega)]
  ·rename_i hge2
   rw [if_neg (by omega), List.getElem?_drop, show off + us.length + (p - off - us.length) = p by omega]
   simp
theorem run_storeCellsM (P : Program) (g o : Nat) (t : TypeId) (fz : Nat × Nat) : ∀ (vs : List Value) (i : Nat) (cur : Array Value) (w : World), w.heap[g]? = some (.cells cur t fz) → (fz = (0, 0) ∨ cur.size ≤ fz.1) → o + i + vs.length ≤ cur.size → (∀ v ∈ vs, v.oneCell' = true) →
 (storeCells ⟨g, o, none⟩ vs i).run P w = .ok () (w.setRow g (cur.toList.take (o + i) ++ vs ++ cur.toList.drop (o + i + vs.length)).toArray)
 | [], i, cur, w, hg, _, _, _ => by
   simp only [storeCells, List.append_nil, List.length_nil, Nat.add_zero, List.take_append_drop, Array.toArray_toList]
   rw [setRow_self w g cur t fz hg]
   rfl
 | v :: rest, i, cur, w, hg, hfz, hl, h1 => by
   have hi : o + i < cur.size := by simp at hl; omega
   have hadd : (⟨g, o, none⟩ : Addr).add i = ⟨g, o + i, none⟩ := by unfold Addr.add; split <;> simp_all
   have hcell : w.cell? ⟨g, o + i, none⟩ = some cur[o + i] := by simp [World.cell?, hg, hi]
   have hfro : w.frozen? ⟨g, o + i, none⟩ = false := by
    obtain ⟨lo, hi'⟩ := fz
    simp only [World.frozen?, hg, Bool.and_eq_false_iff, decide_eq_false_iff_not]
    rcases hfz with hz | hz
    ·injection hz with _ hz; subst hz; right; omega
    ·left; simp only at hz; omega
   have hst : (store ((⟨g, o, none⟩ : Addr).add i) v).run P w = .ok () (w.setRow g (cur.setIfInBounds (o + i) v)) := by
    rw [hadd, run_store P w _ v _ (h1 v (by simp)), hcell]
    simp [hfro, setCell_eq_setRow w g (o + i) cur t fz v hg]
   have ih := run_storeCellsM P g o t fz rest (i + 1) (cur.setIfInBounds (o + i) v) (w.setRow g (cur.setIfInBounds (o + i) v)) (setRow_heap w g cur _ t _ hg) (by simpa using hfz) (by simp at hl ⊢; omega) (fun x hx => h1 x (by simp [hx]))
   simp only [storeCells, Sem.run_bind, hst, Result.andThen_ok, ih, setRow_setRow]
   congr 3
   have e := list_seg_step cur.toList (o + i) v rest (by simp at hl ⊢; omega)
   simpa [Array.toList_setIfInBounds, Nat.add_assoc] using e
theorem run_storeVar {t : Nat} {ti : TI} (hT : TIOK P t ti) {b off : Nat} {arr : Array Value} {ty : Nat} {fz : Nat × Nat} (hb : w.heap[b]? = some (.cells arr ty fz)) (hfz : fz = (0, 0) ∨ arr.size ≤ fz.1) {x : Value} (hl : x.cells.size = ti.cells) (h1 : ∀ u ∈ x.cells.toList, u.oneCell' = true)
 (hfit : off + ti.cells ≤ arr.size) :
 (Instr.storeAt t (.pointer (some ⟨b, off, none⟩)) x).run P w = .ok () (w.setRow b (arr.toList.take off ++ x.cells.toList ++ arr.toList.drop (off + x.cells.toList.length)).toArray) := by
 obtain ⟨i, z, hi, hsz, hby, hz, _⟩ := hT.info
 have hst := run_storeCellsM P b off ty fz x.cells.toList 0 arr w hb hfz (by simp; omega) h1
 simp only [Nat.add_zero] at hst
 simp [Instr.storeAt, Instr.sureAddr, storeVar, sizeOf, typeInfo, hi, hsz, hl, hst]
theorem evStore_ptr (S : Sim mine ρ ro h w) {n off b : Nat} (hb : ρ n = some (.pointer (some ⟨b, 0, none⟩))) {hr : Rd} {r : List AV × List (Nat × Nat × Cont)} {t : Nat} {ti : TI} (hti : TIOK P t ti)
 (hg : gather hr n 64 off ti.cells = some r) (hrd : ∀ x ∈ r.2, hget h x.1 x.2.1 = some x.2.2) {v : AV} {y : Value} (hv : VRel ρ ro w v y) (hp : v.plain = true) (hw : widthC v.cells = ti.cells)
 (hk : sameKeys r.2 (spread n off v.cells) = true) :
 ∃ w', (Instr.storeAt t (.pointer (some ⟨b, off, none⟩)) y).run P w = .ok () w' ∧ Sim mine ρ ro (hput h (spread n off v.cells)) w' ∧ Grow ρ ρ ro ro w w' ∧ Step mine w w' := by
 have hn := name_pos S hb
 obtain ⟨b', arr, ty, us0, h1, h2, h3, h4, h5⟩ := gather_sound S hn 64 off ti.cells r.1 r.2 hg hti.pos hrd
 rw [hb] at h1
 injection h1 with h1; injection h1 with h1; injection h1 with h1; injection h1 with h1
 subst h1
 have hc := hv.cells hp
 have hlen : y.cells.toList.length = ti.cells := by rw [hc.width, hw]
 have hlen' : y.cells.size = ti.cells := by simpa using hlen
 have hfit : off + ti.cells ≤ arr.size := by
  have hpos := hti.pos
  have hlt : ti.cells - 1 < us0.length := by omega
  have := h5 (ti.cells - 1) _ (List.getElem?_eq_getElem hlt)
  have := (Array.getElem?_eq_some_iff.1 this).1
  omega
 refine ⟨_, run_storeVar hti h2 (.inl rfl) hlen' hc.one hfit, ?_⟩
 have hkeys := sameKeys_spec _ _ hk
 have hold : ∀ o c, (n, o, c) ∈ spread n off v.cells → ∃ c0, hget h n o = some c0 ∧ c0.live ∧ c0.wd = c.wd := by
  intro o c hm
  obtain ⟨y', hy, e1, e2, e3, e4⟩ := hkeys _ hm
  have := hrd y' hy
  rw [e1, e2] at this
  exact ⟨_, this, e4, e3⟩
 have hlive : live h n := by
  cases hcs : v.cells with
  | nil => rw [hcs] at hw; simp [widthC] at hw; have := hti.pos; omega
  | cons c cs =>
    obtain ⟨c', hm⟩ := spread_head n off (c := c) (cs := cs)
    rw [← hcs] at hm
    obtain ⟨c0, e1, e2, _⟩ := hold off c' hm
    exact ⟨off, c0, e1, e2⟩
 have hnew : ∀ p, (arr.toList.take off ++ y.cells.toList ++ arr.toList.drop (off + y.cells.toList.length)).toArray[p]? = if off ≤ p ∧ p < off + y.cells.toList.length then y.cells.toList[p - off]? else arr[p]? :=
  fun p => splice_get arr y.cells.toList off p (by omega)
 refine S.write hn hb rfl hlive rfl rfl rfl (size_setRow w b _) (fun k hk => setRow_other w b k _ hk) (fun m o _ hne => hget_spread_ne n _ _ _ _ _ hne) (fun gr o c e => ?_) (fun o o' c c' e e' hl hl' hlt => ?_)
 ·have hnewb := setRow_heap w b arr (arr.toList.take off ++ y.cells.toList ++ arr.toList.drop (off + y.cells.toList.length)).toArray ty (0, 0) h2
  rcases hget_spread n _ _ _ _ _ e with hm | ⟨e1, e2⟩
  ·obtain ⟨_, a2, a3, a4⟩ := spread_mem n hc hm
   obtain ⟨c0, d1, d2, d3⟩ := hold o c hm
   have hlt := (S.cont n o c0 hn d1).lt d2 hb rfl
   cases c with
   | cell v' =>
     obtain ⟨u, b1, b2, b3⟩ := a4
     refine ⟨b, _, ty, u, hb, hnewb, hlt.2.1, hlt.2.2, ?_, b2, b3.grow gr⟩
     rw [hnew, if_pos ⟨a2, by simp [Cont.wd] at a3; simpa using (by omega : o < off + y.cells.toList.length)⟩]
     exact b1
   | arr k f =>
     refine ⟨b, _, ty, hb, hnewb, hlt.2.1, hlt.2.2, fun i hi => ?_⟩
     obtain ⟨u, b1, b2, b3⟩ := a4 i hi
     refine ⟨u, ?_, b2, b3.grow gr⟩
     simp only [Cont.wd] at a3
     rw [hnew, if_pos ⟨by omega, by omega⟩, show o + i - off = o - off + i by omega]
     exact b1
   | _ => exact a4.elim
  ·by_cases hcl : c.live
   ·have h0 := S.cont n o c hn e1
    -- it lies outside of what was written
    have hout : o + c.wd ≤ off ∨ off + y.cells.toList.length ≤ o := by
     rcases Nat.lt_or_ge o off with hlt | hge
     ·left
      cases hcs : v.cells with
      | nil => rw [hcs] at hw; simp [widthC] at hw; have := hti.pos; omega
      | cons d ds =>
        obtain ⟨c', hm⟩ := spread_head n off (c := d) (cs := ds)
        rw [← hcs] at hm
        obtain ⟨c0, d1, d2, d3⟩ := hold off c' hm
        exact S.lay n o off c c0 hn e1 d1 hcl d2 hlt
     ·right
      rcases Nat.lt_or_ge o (off + y.cells.toList.length) with hlt | hge2
      ·exfalso
       obtain ⟨o', c', a1, a2, a3⟩ := spread_tile n hc hge hlt
       obtain ⟨c0, d1, d2, d3⟩ := hold o' c' a1
       have hne : o' ≠ o := fun e => by subst e; exact e2 _ a1
       have := S.lay n o' o c0 c hn d1 e1 d2 hcl (by omega)
       omega
      ·exact hge2
    cases c with
    | cell v' =>
      obtain ⟨b', cs, ty', u, k1, k2, k3, k4, k5, k6, k7⟩ := h0
      rw [hb] at k1
      injection k1 with k1; injection k1 with k1; injection k1 with k1; injection k1 with k1
      subst k1
      rw [h2] at k2
      injection k2 with k2; injection k2 with k2 k2'
      subst k2
      refine ⟨b, _, ty, u, hb, hnewb, k3, k4, ?_, k6, k7.grow gr⟩
      simp only [Cont.wd] at hout
      rw [hnew, if_neg (by omega)]
      exact k5
    | arr k f =>
      obtain ⟨b', cs, ty', k1, k2, k3, k4, k5⟩ := h0
      rw [hb] at k1
      injection k1 with k1; injection k1 with k1; injection k1 with k1; injection k1 with k1
      subst k1
      rw [h2] at k2
      injection k2 with k2; injection k2 with k2 k2'
      subst k2
      refine ⟨b, _, ty, hb, hnewb, k3, k4, fun i hi => ?_⟩
      obtain ⟨u, b1, b2, b3⟩ := k5 i hi
      simp only [Cont.wd] at hout
      refine ⟨u, ?_, b2, b3.grow gr⟩
      rw [hnew, if_neg (by omega)]
      exact b1
    | top =>
      obtain ⟨b', cs, ty', k1, k2, k3, k4, k5⟩ := h0
      rw [hb] at k1
      injection k1 with k1; injection k1 with k1; injection k1 with k1; injection k1 with k1
      subst k1
      rw [h2] at k2
      injection k2 with k2; injection k2 with k2 k2'
      subst k2
      refine ⟨b, _, ty, hb, hnewb, k3, k4, ?_⟩
      simp only [Cont.wd] at hout
      refine Nat.le_of_not_lt fun hlt2 => ?_
      have hn2 := hnew o
      rw [if_neg (by omega), Array.getElem?_eq_getElem hlt2, Array.getElem?_eq_none k5] at hn2
      cases hn2
    | vec sz e k f =>
      obtain ⟨_, x, xs, k1, k2, k3, _⟩ := h0
      rw [hb] at k1
      injection k1 with k1
      subst k1
      rcases k3.2 with ⟨k, _⟩ | ⟨_, _, _, k, _⟩ <;> cases k
    | map ar es =>
      obtain ⟨_, r, ms, cl, k1, _⟩ := h0
      rw [hb] at k1
      cases k1
    | maps ar es bs ck =>
      obtain ⟨_, r, ms, k1, _⟩ := h0
      rw [hb] at k1
      cases k1
    | iter m since seen c0 k v =>
      obtain ⟨_, b', r, k1, k2, _⟩ := h0
      rw [hb] at k1
      injection k1 with k1; injection k1 with k1; injection k1 with k1; injection k1 with k1
      subst k1
      rw [h2] at k2
      cases k2
    | dead => trivial
   ·cases c <;> simp [Cont.live] at hcl
    trivial
 ·rcases hget_spread n _ _ _ _ _ e with hm | ⟨e1, e2⟩
  ·obtain ⟨c0, d1, d2, d3⟩ := hold o c hm
   rcases hget_spread n _ _ _ _ _ e' with hm' | ⟨e1', e2'⟩
   ·exact spread_lay n hc hm hm' hlt
   ·have := S.lay n o o' c0 c' hn d1 e1' d2 hl' hlt; omega
  ·rcases hget_spread n _ _ _ _ _ e' with hm' | ⟨e1', e2'⟩
   ·obtain ⟨c0, d1, d2, d3⟩ := hold o' c' hm'
    exact S.lay n o o' c c0 hn e1 d1 hl d2 hlt
   ·exact S.lay n o o' c c' hn e1 e1' hl hl' hlt
theorem VRel.one {v : AV} {x : Value} (hv : VRel ρ ro w v x) (hp : v.one = true) : x.oneCell' = true ∧ x.cells = #[x] := by
 cases hv with
 | agg cs us h => simp [AV.one] at hp
 | tup vs us h => simp [AV.one, AV.plain] at hp
 | whnF cs v hc => simp [AV.one, AV.plain] at hp
 | whnT cs v x hc hv => simp [AV.one, AV.plain] at hp
 | vs n x h hv => obtain ⟨a, l, c, rfl⟩ := hv; exact ⟨rfl, rfl⟩
 | _ => exact ⟨rfl, rfl⟩
theorem VRel.cells_one {v : AV} {x : Value} (hv : VRel ρ ro w v x) (h1 : x.oneCell' = true) : v.cells = [v] := by
 cases hv with
 | agg cs us h => simp [Value.oneCell'] at h1
 | _ => rfl
theorem CRel.append {cs ds : List AV} {us vs : List Value} (h1 : CRel ρ ro w cs us) (h2 : CRel ρ ro w ds vs) : CRel ρ ro w (cs ++ ds) (us ++ vs) := by
 induction cs generalizing us with
 | nil => cases h1; simpa using h2
 | cons c cs ih =>
   cases h1 with
   | cons _ _ u us h h1 t => exact .cons _ _ _ _ h h1 (ih t)
   | arr n f _ xs us hl h h1 t => rw [List.append_assoc]; exact .arr n f _ xs _ hl h h1 (ih t)
theorem fillC_sound {cs new ds : List AV} {us ns : List Value} {off : Nat} (h1 : CRel ρ ro w cs us) (h2 : CRel ρ ro w new ns) (e : fillC cs off new = some ds) :
 CRel ρ ro w ds (us.take off ++ ns ++ us.drop (off + ns.length)) ∧ off + ns.length ≤ us.length := by
 unfold fillC at e
 split at e
 ·rename_i a b ha hb
  injection e with e
  subst e
  have hlen : ns.length = widthC new := h2.width
  have k1 := takeC_sound h1 ha
  have k2 := skipC_sound h1 hb
  refine ⟨(k1.1.append h2).append (by rw [hlen]; exact k2), ?_⟩
  -- the skip went through
  have : ∀ {cs : List AV} {us : List Value}, CRel ρ ro w cs us → ∀ {o : Nat} {ds : List AV}, skipC cs o = some ds → o ≤ us.length := by
   intro cs
   induction cs with
   | nil => intro us hc o ds e; cases o with | zero => omega | succ o => simp [skipC] at e
   | cons c cs ih =>
     intro us hc o ds e
     cases o with
     | zero => omega
     | succ o =>
       cases hc with
       | cons _ _ u us h h1 t =>
         have : skipC cs o = some ds := by cases h <;> simpa [skipC] using e
         have := ih t this; simp; omega
       | arr n f _ xs us hl h h1 t =>
         simp only [skipC] at e
         by_cases hk : n ≤ o + 1
         ·have hkb : Nat.ble n (o + 1) = true := by simpa using hk
          simp only [hkb, cond_true] at e
          have := ih t e; simp; omega
         ·have hkb : Nat.ble n (o + 1) = false := by
           cases hb : Nat.ble n (o + 1) with
           | false => rfl
           | true => exact absurd (Nat.le_of_ble_eq_true hb) hk
          simp [hkb] at e
  have := this h1 hb
  omega
 ·cases e
theorem lsplice_get (l us : List Value) (off p : Nat) (hfit : off + us.length ≤ l.length) :
 (l.take off ++ us ++ l.drop (off + us.length))[p]? = if off ≤ p ∧ p < off + us.length then us[p - off]? else l[p]? := by
 have := splice_get l.toArray us off p (by simpa using hfit)
 simpa using this
theorem ofCells_cells {agg : Bool} {cs : List AV} {v : AV} (e : ofCells agg cs = some v) {us : List Value} (hc : CRel ρ ro w cs us) : CRel ρ ro w v.cells us := by
 cases agg with
 | true => simp [ofCells] at e; subst e; simpa [AV.cells] using hc
 | false =>
   match cs, e with
   | [c], e =>
     simp only [ofCells] at e
     cases hp : c.plain with
     | false => simp [hp] at e
     | true =>
       simp [hp] at e
       subst e
       cases hc with
       | cons _ _ u us h h1 t => cases t; rw [h.cells_one h1]; exact .cons _ _ _ _ h h1 .nil
       | arr n f _ xs us' hl h h1 t => simp [AV.plain] at hp
   | [], e => simp [ofCells] at e
   | _ :: _ :: _, e => simp [ofCells] at e
theorem evStore_pe (S : Sim mine ρ ro h w) {n off b k : Nat} {i : Int} {f : Nat → AV} (hb : ρ n = some (.pointer (some ⟨b, 0, none⟩))) (hc : hget h n off = some (.arr k f)) (h0 : 0 ≤ i) (hi : i < (k : Int)) {t : Nat} {ti : TI} (hti : TIOK P t ti) (h1c : ti.cells = 1)
 {v : AV} {y : Value} (hv : VRel ρ ro w v y) (hp : v.one = true) :
 ∃ w', (Instr.storeAt t (.pointer (some ⟨b, off + i.toNat, none⟩)) y).run P w = .ok () w' ∧ Sim mine ρ ro ((n, off, .arr k fun j => bif j == i.toNat then v else f j) :: h) w' ∧ Grow ρ ρ ro ro w w' ∧ Step mine w w' := by
 have hn := name_pos S hb
 obtain ⟨b', arr, ty, a1, a2, a3, a4, a5⟩ := S.cont n off _ hn hc
 rw [hb] at a1
 injection a1 with a1; injection a1 with a1; injection a1 with a1; injection a1 with a1
 subst a1
 obtain ⟨u0, c1, c2, c3⟩ := a5 i.toNat (by omega)
 have hlt := (Array.getElem?_eq_some_iff.1 c1).1
 have ho := hv.one hp
 have hcl : y.cells.size = ti.cells := by rw [ho.2, h1c]; rfl
 refine ⟨_, run_storeVar hti a2 (.inl rfl) hcl (by rw [ho.2]; intro u hu; simp at hu; subst hu; exact ho.1) (by omega), ?_⟩
 have hyl : y.cells.toList = [y] := by rw [ho.2]
 have hnew : ∀ p, (arr.toList.take (off + i.toNat) ++ y.cells.toList ++ arr.toList.drop (off + i.toNat + y.cells.toList.length)).toArray[p]? = if off + i.toNat ≤ p ∧ p < off + i.toNat + y.cells.toList.length then y.cells.toList[p - (off + i.toNat)]? else arr[p]? :=
  fun p => splice_get arr y.cells.toList (off + i.toNat) p (by rw [hyl]; simp; omega)
 have hnewb := setRow_heap w b arr (arr.toList.take (off + i.toNat) ++ y.cells.toList ++ arr.toList.drop (off + i.toNat + y.cells.toList.length)).toArray ty (0, 0) a2
 have hold : ∀ o c, hget ((n, off, .arr k fun j => bif j == i.toNat then v else f j) :: h) n o = some c → (o = off ∧ c = .arr k fun j => bif j == i.toNat then v else f j) ∨ (o ≠ off ∧ hget h n o = some c) := by
  intro o c e
  rw [hget_cons] at e
  by_cases ho : off = o
  ·subst ho; simp at e; exact .inl ⟨rfl, e.symm⟩
  ·rw [if_neg (fun h => ho h.2)] at e; exact .inr ⟨fun h => ho h.symm, e⟩
 refine S.write hn hb rfl ⟨off, _, hc, trivial⟩ rfl rfl rfl (size_setRow w b _) (fun k hk => setRow_other w b k _ hk) (fun m o _ hne => by rw [hget_cons, if_neg (fun h => hne h.1.symm)]) (fun gr o c e => ?_) (fun o o' c c' e e' hl hl' hlt' => ?_)
 ·rcases hold o c e with ⟨rfl, rfl⟩ | ⟨hne, e1⟩
  ·refine ⟨b, _, ty, hb, hnewb, a3, a4, fun j hj => ?_⟩
   by_cases hji : j = i.toNat
   ·subst hji
    refine ⟨y, ?_, ho.1, by simpa using hv.grow gr⟩
    rw [hnew, if_pos ⟨by omega, by rw [hyl]; simp⟩, hyl]
    simp
   ·obtain ⟨u, b1, b2, b3⟩ := a5 j hj
    refine ⟨u, ?_, b2, ?_⟩
    ·rw [hnew, if_neg (by rw [hyl]; simp; omega)]; exact b1
    ·have : (j == i.toNat) = false := beq_eq_false_iff_ne.2 hji
     simpa [this] using b3.grow gr
  ·by_cases hcl2 : c.live
   ·have hout : o + c.wd ≤ off ∨ off + k ≤ o := by
     rcases Nat.lt_or_ge o off with hlt2 | hge
     ·exact .inl (S.lay n o off c _ hn e1 hc hcl2 trivial hlt2)
     ·exact .inr (S.lay n off o _ c hn hc e1 trivial hcl2 (by omega))
    have h0' := S.cont n o c hn e1
    cases c with
    | cell v' =>
      obtain ⟨b', cs, ty', u, k1, k2, k3, k4, k5, k6, k7⟩ := h0'
      rw [hb] at k1
      injection k1 with k1; injection k1 with k1; injection k1 with k1; injection k1 with k1
      subst k1
      rw [a2] at k2
      injection k2 with k2; injection k2 with k2 k2'
      subst k2
      refine ⟨b, _, ty, u, hb, hnewb, k3, k4, ?_, k6, k7.grow gr⟩
      simp only [Cont.wd] at hout
      rw [hnew, if_neg (by rw [hyl]; simp; omega)]
      exact k5
    | arr k' f' =>
      obtain ⟨b', cs, ty', k1, k2, k3, k4, k5⟩ := h0'
      rw [hb] at k1
      injection k1 with k1; injection k1 with k1; injection k1 with k1; injection k1 with k1
      subst k1
      rw [a2] at k2
      injection k2 with k2; injection k2 with k2 k2'
      subst k2
      refine ⟨b, _, ty, hb, hnewb, k3, k4, fun j hj => ?_⟩
      obtain ⟨u, b1, b2, b3⟩ := k5 j hj
      simp only [Cont.wd] at hout
      refine ⟨u, ?_, b2, b3.grow gr⟩
      rw [hnew, if_neg (by rw [hyl]; simp; omega)]
      exact b1
    | top =>
      obtain ⟨b', cs, ty', k1, k2, k3, k4, k5⟩ := h0'
      rw [hb] at k1
      injection k1 with k1; injection k1 with k1; injection k1 with k1; injection k1 with k1
      subst k1
      rw [a2] at k2
      injection k2 with k2; injection k2 with k2 k2'
      subst k2
      refine ⟨b, _, ty, hb, hnewb, k3, k4, ?_⟩
      simp only [Cont.wd] at hout
      refine Nat.le_of_not_lt fun hlt2 => ?_
      have hn2 := hnew o
      rw [if_neg (by rw [hyl]; simp; omega), Array.getElem?_eq_getElem hlt2, Array.getElem?_eq_none k5] at hn2
      cases hn2
    | vec sz e k f =>
      obtain ⟨_, x, xs, k1, k2, k3, _⟩ := h0'
      rw [hb] at k1
      injection k1 with k1
      subst k1
      rcases k3.2 with ⟨k, _⟩ | ⟨_, _, _, k, _⟩ <;> cases k
    | map ar es =>
      obtain ⟨_, r, ms, cl, k1, _⟩ := h0'
      rw [hb] at k1
      cases k1
    | maps ar es bs ck =>
      obtain ⟨_, r, ms, k1, _⟩ := h0'
      rw [hb] at k1
      cases k1
    | iter m since seen c0 k v =>
      obtain ⟨_, b', r, k1, k2, _⟩ := h0'
      rw [hb] at k1
      injection k1 with k1; injection k1 with k1; injection k1 with k1; injection k1 with k1
      subst k1
      rw [a2] at k2
      cases k2
    | dead => trivial
   ·cases c <;> simp [Cont.live] at hcl2
    trivial
 ·rcases hold o c e with ⟨rfl, rfl⟩ | ⟨hne, e1⟩
  ·rcases hold o' c' e' with ⟨rfl, rfl⟩ | ⟨hne', e1'⟩
   ·omega
   ·exact S.lay n _ o' (.arr k f) c' hn hc e1' trivial hl' hlt'
  ·rcases hold o' c' e' with ⟨rfl, rfl⟩ | ⟨hne', e1'⟩
   ·exact S.lay n o _ c (.arr k f) hn e1 hc hl trivial hlt'
   ·exact S.lay n o o' c c' hn e1 e1' hl hl' hlt'
theorem sole_vec (S : Sim mine ρ ro h w) {n sz e k : Nat} {f : Nat → AV} (hn : 0 < n) (hc : hget h n 0 = some (.vec sz e k f)) : ∀ o c, hget h n o = some c → c.live → o = 0 := by
 intro o c e1 hl
 obtain ⟨_, x, xs, k1, k2, k3, k4, k5⟩ := S.cont n 0 _ hn hc
 have h0 := S.cont n o c hn e1
 have hx : ∀ a, x ≠ .pointer (some a) := by
  intro a
  rcases k3.2 with ⟨rfl, _⟩ | ⟨_, _, _, rfl, _⟩ <;> simp
 cases c with
 | cell v => obtain ⟨b, cs, ty, u, h1, _⟩ := h0; rw [k1] at h1; injection h1 with h1; exact absurd h1 (hx _)
 | arr k f => obtain ⟨b, cs, ty, h1, _⟩ := h0; rw [k1] at h1; injection h1 with h1; exact absurd h1 (hx _)
 | vec sz e k f => exact h0.1
 | top => obtain ⟨b, cs, ty, h1, _⟩ := h0; rw [k1] at h1; injection h1 with h1; exact absurd h1 (hx _)
 | map ar es => exact h0.1
 | maps ar es bs ck => exact h0.1
 | iter m since seen c0 k v => exact h0.1
 | dead => exact hl.elim
theorem hget_put (n o : Nat) (c : Cont) (h : Heap) {o' : Nat} {c' : Cont} (e : hget ((n, o, c) :: h) n o' = some c') : (o' = o ∧ c' = c) ∨ (o' ≠ o ∧ hget h n o' = some c') := by
 rw [hget_cons] at e
 by_cases ho : o = o'
 ·subst ho; simp at e; exact .inl ⟨rfl, e.symm⟩
 ·rw [if_neg (fun h => ho h.2)] at e; exact .inr ⟨fun h => ho h.symm, e⟩
theorem hget_ne (n o : Nat) (c : Cont) (h : Heap) {m o' : Nat} (hne : m ≠ n) : hget ((n, o, c) :: h) m o' = hget h m o' := by
 rw [hget_cons, if_neg (fun h => hne h.1.symm)]
theorem vec_write (S : Sim mine ρ ro h w) {n b len cap sz e k : Nat} {f f' : Nat → AV} (hb : ρ n = some (.slice (some ⟨b, 0, none⟩) len cap)) (hc : hget h n 0 = some (.vec sz e k f)) {cur : Array Value}
 {fz : Nat × Nat} (hcur : w.heap[b]? = some (.cells cur e fz)) (hfz : fz = (0, 0) ∨ cur.size ≤ fz.1) {new : List Value} (hl : new.length = cur.size) (h1 : ∀ u ∈ new.take (k * sz), u.oneCell' = true)
 (hf : Grow ρ ρ ro ro w (w.setRow b new.toArray) → ∀ i, i < k → CRel ρ ro (w.setRow b new.toArray) (f' i).cells (((new.take (k * sz)).drop (i * sz)).take sz)) :
 Sim mine ρ ro ((n, 0, .vec sz e k f') :: h) (w.setRow b new.toArray) ∧ Grow ρ ρ ro ro w (w.setRow b new.toArray) ∧ Step mine w (w.setRow b new.toArray) := by
 have hn := name_pos S hb
 obtain ⟨_, x, xs, k1, k2, k3, k4, k5⟩ := S.cont n 0 _ hn hc
 rw [hb] at k1
 injection k1 with k1
 subst k1
 have hlive : live h n := ⟨0, _, hc, trivial⟩
 have hsole := sole_vec S hn hc
 refine S.write hn hb rfl hlive rfl rfl rfl (size_setRow w b _) (fun k hk => setRow_other w b k _ hk) (fun m o _ hne => hget_ne n 0 _ h hne) (fun gr o c he => ?_) (fun o o' c c' he he' hl hl' hlt' => ?_)
 ·rcases hget_put n 0 _ h he with ⟨rfl, rfl⟩ | ⟨hne, e1⟩
  ·rcases k3.2 with ⟨k, _⟩ | ⟨g, cap', cur', hx, hbase, ⟨fz', hg, _⟩, hkc, hcm, hcs, htake⟩
   ·cases k
   ·injection hx with hx hlen hcap
    injection hx with hx; injection hx with hx
    subst hx; subst hlen; subst hcap
    rw [hcur] at hg
    injection hg with hg; injection hg with hg
    subst hg
    have hks : len * sz ≤ cap * sz := Nat.mul_le_mul_right _ hkc
    refine ⟨rfl, _, new.take (len * sz), hb, fun b' hb' => k2 b' hb', ⟨by rw [List.length_take]; omega, .inr ⟨b, cap, new.toArray, rfl, hbase, ⟨fz, setRow_heap w b cur _ e fz hcur, by simpa [hl] using hfz⟩, hkc, hcm, by simp [hl, hcs], by simp⟩⟩, h1, hf gr⟩
  ·by_cases hl : c.live
   ·exact absurd (hsole o c e1 hl) hne
   ·cases c <;> simp [Cont.live] at hl
    trivial
 ·have : ∀ o c, hget ((n, 0, .vec sz e k f') :: h) n o = some c → c.live → o = 0 := fun o c he hl => by
   rcases hget_put n 0 _ h he with ⟨rfl, _⟩ | ⟨_, e1⟩
   ·rfl
   ·exact hsole o c e1 hl
  have a1 := this o c he hl
  have a2 := this o' c' he' hl'
  omega
theorem evStore_vp (S : Sim mine ρ ro h w) {n sz off b len cap e k : Nat} {i : Int} {f : Nat → AV} (hb : ρ n = some (.slice (some ⟨b, 0, none⟩) len cap)) (hc : hget h n 0 = some (.vec sz e k f)) (h0 : 0 ≤ i) (hi : i < (k : Int)) {t : Nat} {ti : TI} (hti : TIOK P t ti)
 {v x : AV} {y : Value} (hv : VRel ρ ro w v y) (hp : v.plain = true) (hw : widthC v.cells = ti.cells) {cs : List AV} (hfc : (bif off == 0 && widthC v.cells == sz then some v.cells else fillC (f i.toNat).cells off v.cells) = some cs) {agg : Bool} (hx : ofCells agg cs = some x) :
 ∃ w', (Instr.storeAt t (.pointer (some ⟨b, i.toNat * sz + off, none⟩)) y).run P w = .ok () w' ∧ Sim mine ρ ro ((n, 0, .vec sz e k fun j => bif j == i.toNat then x else f j) :: h) w' ∧ Grow ρ ρ ro ro w w' ∧ Step mine w w' := by
 have hn := name_pos S hb
 obtain ⟨_, x', xs, k1, k2, k3, k4, k5⟩ := S.cont n 0 _ hn hc
 rw [hb] at k1
 injection k1 with k1
 subst k1
 rcases k3.2 with ⟨k', _⟩ | ⟨g, cap', cur, hx', hbase, ⟨fz, hg, hfz⟩, hkc, hcm, hcs, htake⟩
 ·cases k'
 injection hx' with hx' hlen hcap
 injection hx' with hx'; injection hx' with hx'
 subst hx'; subst hlen; subst hcap
 have hvc := hv.cells hp
 have hii : i.toNat < len := by omega
 have hseg := k5 i.toNat hii
 have hsl : ((xs.drop (i.toNat * sz)).take sz).length = sz := by
  rw [List.length_take, List.length_drop, k3.1]
  have : i.toNat * sz + sz ≤ len * sz := by rw [← Nat.succ_mul]; exact Nat.mul_le_mul_right _ hii
  omega
 have hfs : CRel ρ ro w cs (((xs.drop (i.toNat * sz)).take sz).take off ++ y.cells.toList ++ ((xs.drop (i.toNat * sz)).take sz).drop (off + y.cells.toList.length)) ∧ off + y.cells.toList.length ≤ ((xs.drop (i.toNat * sz)).take sz).length := by
  cases hq : (off == 0 && widthC v.cells == sz) with
  | false => rw [hq] at hfc; exact fillC_sound hseg hvc hfc
  | true =>
    rw [hq] at hfc
    simp only [cond_true, Option.some.injEq] at hfc
    simp only [Bool.and_eq_true, beq_iff_eq] at hq
    have hl0 : y.cells.toList.length = sz := by rw [hvc.width, hq.2]
    obtain ⟨rfl, hq2⟩ := hq
    subst hfc
    rw [List.take_zero, List.nil_append, List.drop_of_length_le (by rw [hsl, hl0]; omega), List.append_nil]
    exact ⟨hvc, by rw [hsl, hl0]; omega⟩
 obtain ⟨hfill, hfl⟩ := hfs
 rw [hsl] at hfl
 have hmul : i.toNat * sz + sz ≤ len * sz := by rw [← Nat.succ_mul]; exact Nat.mul_le_mul_right _ hii
 have hmul2 : len * sz ≤ cap * sz := Nat.mul_le_mul_right _ hkc
 have hlen : y.cells.toList.length = ti.cells := by rw [hvc.width, hw]
 have hfit : i.toNat * sz + off + ti.cells ≤ cur.size := by omega
 refine ⟨_, run_storeVar hti hg hfz (by simpa using hlen) hvc.one hfit, ?_⟩
 have hnl : (cur.toList.take (i.toNat * sz + off) ++ y.cells.toList ++ cur.toList.drop (i.toNat * sz + off + y.cells.toList.length)).length = cur.size := by
  simp only [List.length_append, List.length_take, List.length_drop, Array.length_toList]
  simp only [Array.length_toList] at hlen
  omega
 have hnew : ∀ p, (cur.toList.take (i.toNat * sz + off) ++ y.cells.toList ++ cur.toList.drop (i.toNat * sz + off + y.cells.toList.length))[p]? = if i.toNat * sz + off ≤ p ∧ p < i.toNat * sz + off + y.cells.toList.length then y.cells.toList[p - (i.toNat * sz + off)]? else cur.toList[p]? :=
  fun p => lsplice_get cur.toList y.cells.toList _ p (by rw [hlen]; simpa using hfit)
 have hcx : ∀ p, p < len * sz → cur.toList[p]? = xs[p]? := fun p hp => by rw [← htake, List.getElem?_take, if_pos hp]
 refine vec_write S hb hc hg hfz hnl (fun u hu => ?_) (fun gr j hj => ?_)
 ·obtain ⟨p, hp⟩ := List.mem_iff_getElem?.1 hu
  rw [List.getElem?_take] at hp
  split at hp
  ·rename_i hlt
   rw [hnew] at hp
   split at hp
   ·exact hvc.one u (List.mem_iff_getElem?.2 ⟨_, hp⟩)
   ·rw [hcx p hlt] at hp
    exact k4 u (List.mem_iff_getElem?.2 ⟨_, hp⟩)
  ·cases hp
 ·have hjm : j * sz + sz ≤ len * sz := by rw [← Nat.succ_mul]; exact Nat.mul_le_mul_right _ hj
  by_cases hji : j = i.toNat
  ·subst hji
   simp only [BEq.rfl, cond_true]
   have := (ofCells_cells hx hfill).grow gr
   refine cast (congrArg _ ?_) this
   apply List.ext_getElem?
   intro q
   rw [List.getElem?_take]
   by_cases hq : q < sz
   ·rw [if_pos hq, List.getElem?_drop, List.getElem?_take, if_pos (by omega), hnew, lsplice_get _ _ _ _ (by rw [hsl, hlen]; omega), List.getElem?_take, if_pos hq, List.getElem?_drop]
    by_cases hin : off ≤ q ∧ q < off + y.cells.toList.length
    ·rw [if_pos hin, if_pos (by omega), show i.toNat * sz + q - (i.toNat * sz + off) = q - off by omega]
    ·rw [if_neg hin, if_neg (by omega), hcx _ (by omega)]
   ·rw [if_neg hq]
    apply List.getElem?_eq_none
    simp only [List.length_append, List.length_take, List.length_drop, k3.1]
    have hsz2 := y.cells.length_toList
    omega
  ·have hb' : (j == i.toNat) = false := beq_eq_false_iff_ne.2 hji
   simp only [hb', cond_false]
   have := (k5 j hj).grow gr
   refine cast (congrArg _ ?_) this
   apply List.ext_getElem?
   intro q
   rw [List.getElem?_take, List.getElem?_take]
   by_cases hq : q < sz
   ·rw [if_pos hq, if_pos hq, List.getElem?_drop, List.getElem?_drop, List.getElem?_take, if_pos (by omega), hnew]
    have hdis : j * sz + q < i.toNat * sz ∨ i.toNat * sz + sz ≤ j * sz + q := by
     rcases Nat.lt_or_gt_of_ne hji with hlt | hgt
     ·left
      have : j * sz + sz ≤ i.toNat * sz := by rw [← Nat.succ_mul]; exact Nat.mul_le_mul_right _ hlt
      omega
     ·right
      have : i.toNat * sz + sz ≤ j * sz := by rw [← Nat.succ_mul]; exact Nat.mul_le_mul_right _ hgt
      omega
    rw [if_neg (by omega), hcx _ (by omega)]
   ·rw [if_neg hq, if_neg hq]
end
end Go.Eng