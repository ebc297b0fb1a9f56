/- The engine, part 4: loads, stores and new blocks are as the abstract heap says. -/
import Derived.Test.YtodnecfgiimclaaEngC
import Derived.RangeFuncNested
set_option linter.unusedSimpArgs false
set_option linter.unusedVariables false
namespace Go.Eng
def aggV : Value → Bool
 | .agg _ => true
 | _ => false
def IterOK (P : Program) (gf sz : Nat) : Prop :=
 (∀ args w, (callFunc gf args).run P w = .ok (.enter gf args) w) ∧
 ∀ (m l n cap : Nat) (a : Addr) (ad : Option Addr) (els : Nat → List Value) (R : Nat → Prop) (J : Nat → World → Prop) (Jx : World → Prop) (W : World),
   (∀ c, R c → c < W.heap.size) → a.spot = none → R a.block → W.cell? a = some (.slice ad n cap) → n ≤ maxLen →
   (0 < n → ∃ p, ad = some p ∧ R p.block ∧ p.spot = none ∧ ∀ i, i < n → ∀ j u, (els i)[j]? = some u → W.cell? (p.add (i * sz + j)) = some u) →
   (∀ i, i < n → (els i).length = sz ∧ ∃ xs : List Int, els i = xs.map (Value.int .i64)) →
   (∀ k W1 W2, J k W1 → W1.grownBy W2 none → J k W2) → (∀ W1 W2, Jx W1 → W1.grownBy W2 none → Jx W2) →
   (∀ k W1, k < n → J k W1 → YieldAt Fence.wide m P l #[.agg (els k).toArray] W1 fun e W2 => (e = .returned (.bool true) ∧ J (k + 1) W2 ∧ ∀ c, R c → W2.heap[c]? = W1.heap[c]?) ∨ (e = .returned (.bool false) ∧ Jx W2)) →
   J 0 W →
   CallsIn Fence.wide (m + 1) P gf #[.func (.yield l) #[] #[], .pointer (some a)] W fun e W' => (∃ v, e = .returned v) ∧ (J n W' ∨ Jx W')
structure TIOK (P : Program) (t : Nat) (ti : TI) : Prop where
 info : ∃ i z, P.info? t = some i ∧ i.size = ti.cells ∧ i.bytes = ti.bytes ∧ i.zero = some z ∧ ∀ ρ ro w, CRel ρ ro w ti.zero z.cells.toList
 pos : 0 < ti.cells
 wid : widthC ti.zero = ti.cells
 one : ti.und.isAgg = false → ti.cells = 1
 zag : ∀ i z, P.info? t = some i → i.zero = some z → aggV z = ti.und.isAgg
 agg : ∃ d, P.underlying t = some d ∧ (match d with | .struct _ | .array _ _ => true | _ => false) = ti.und.isAgg ∧
  match ti.und with
  | .int k => d = .int k
  | .bool => d = .bool
  | .str => d = .string
  | .ptr e => d = .pointer e
  | .slice e => d = .slice e
  | .array n e => d = .array n e
  | .map k e => d = .map k e
  | .mapM _ k e => d = .map k e
  | .struct fs => ∃ fields : Array Field, d = .struct fields ∧ (∀ (j o ty sz : Nat), fs[j]? = some (o, ty, sz) → ∃ f : Field, fields[j]? = some f ∧ f.offset = o ∧ f.type = ty ∧ ∃ i, P.info? ty = some i ∧ i.size = sz ∧ i.size ≠ 0) ∧
     fields.toList.mapM (fun f => (P.info? f.type).map fun i => (f.offset, i.size)) = some (fs.map fun x => (x.1, x.2.2)) ∧
     P.stoodInHeld t = false ∧ P.eqGuardType P.depth t = false ∧ ∀ f ∈ fields.toList, f.name ≠ "_"
  | .iter gf sz => IterOK P gf sz
  | .other => True
def TabOK (P : Program) (T : Tab) : Prop := ∀ t ti, tget T t = some ti → TIOK P t ti
def Res (mine : Nat → Prop) (ρ : Env) (ro : Nat → Prop) (w : World) (nb : Nat) (h' : Heap) (v : AV) (x : Value) (w' : World) : Prop :=
 ∃ ρ' ro', GrowM mine ρ ρ' ro ro' w w' ∧ (∀ n, ρ' n ≠ ρ n → nb ≤ n ∧ n < nb + 32) ∧ Sim mine ρ' ro' h' w' ∧ VRel ρ' ro' w' v x ∧ Step mine w w'
section
variable {P : Program} {mine : Nat → Prop} {ρ : Env} {ro : Nat → Prop} {h : Heap} {w : World}
theorem Res.of_pure (S : Sim mine ρ ro h w) {nb : Nat} {v : AV} {x : Value} (hv : VRel ρ ro w v x) : Res mine ρ ro w nb h v x w :=
 ⟨ρ, ro, GrowM.refl _ _ _ _, fun _ hn => absurd rfl hn, S, hv, Step.refl _ _⟩
theorem CRel.one {cs : List AV} {us : List Value} (hc : CRel ρ ro w cs us) : ∀ u ∈ us, u.oneCell' = true := by
 induction cs generalizing us with
 | nil => cases hc; simp
 | cons c cs ih =>
   cases hc with
   | cons _ _ u us h h1 t => intro x hx; rcases List.mem_cons.1 hx with rfl | hx; exact h1; exact ih t x hx
   | arr n f _ xs us hl h h1 t => intro x hx; rcases List.mem_append.1 hx with hx | hx; exact h1 x hx; exact ih t x hx
theorem CRel.width {cs : List AV} {us : List Value} (hc : CRel ρ ro w cs us) : us.length = widthC cs := by
 induction cs generalizing us with
 | nil => cases hc; rfl
 | cons c cs ih =>
   cases hc with
   | cons _ _ u us h h1 t =>
     have := ih t
     cases h <;> simp [widthC, this]
   | arr n f _ xs us hl h h1 t => simp [widthC, ih t, hl]
theorem VRel.cells {v : AV} {x : Value} (hv : VRel ρ ro w v x) (hp : v.plain = true) : CRel ρ ro w v.cells x.cells.toList := by
 cases hv with
 | agg cs us h => simpa [AV.cells, Value.cells] using h
 | tup vs us h => simp [AV.plain] at hp
 | whnF cs v hc => simp [AV.plain] at hp
 | whnT cs v x hc hv => simp [AV.plain] at hp
 | int k n => exact .cons _ _ _ _ (.int k n) rfl .nil
 | bool b => exact .cons _ _ _ _ (.bool b) rfl .nil
 | str s => exact .cons _ _ _ _ (.str s) rfl .nil
 | nilp => exact .cons _ _ _ _ .nilp rfl .nil
 | ptr n off b h => exact .cons _ _ _ _ (.ptr n off b h) rfl .nil
 | pe n off b i h => exact .cons _ _ _ _ (.pe n off b i h) rfl .nil
 | vp n sz off b len cap i h => exact .cons _ _ _ _ (.vp n sz off b len cap i h) rfl .nil
 | rp cs a us hb hs hc h => exact .cons _ _ _ _ (.rp cs a us hb hs hc h) rfl .nil
 | rs sz n cap full f a vals hn hm hfull ha hl h => exact .cons _ _ _ _ (.rs sz n cap full f a vals hn hm hfull ha hl h) rfl .nil
 | vs n x h hv => obtain ⟨a, l, c, rfl⟩ := hv; exact .cons _ _ _ _ (.vs n _ h ⟨_, _, _, rfl⟩) rfl .nil
 | sub m sz lo n cap a0 a l c h hl hn hm ha => exact .cons _ _ _ _ (.sub m sz lo n cap a0 a l c h hl hn hm ha) rfl .nil
 | nils => exact .cons _ _ _ _ .nils rfl .nil
 | mp n r h => exact .cons _ _ _ _ (.mp n r h) rfl .nil
 | nilm => exact .cons _ _ _ _ .nilm rfl .nil
 | fn f cap us h => exact .cons _ _ _ _ (.fn f cap us h) rfl .nil
 | nilf => exact .cons _ _ _ _ .nilf rfl .nil
 | it n b h => exact .cons _ _ _ _ (.it n b h) rfl .nil
theorem gather_sound (S : Sim mine ρ ro h w) {hr : Rd} {n : Nat} (hn : 0 < n) : ∀ (fuel off left : Nat) (cs : List AV) (rd : List (Nat × Nat × Cont)), gather hr n fuel off left = some (cs, rd) → 0 < left →
 (∀ x ∈ rd, hget h x.1 x.2.1 = some x.2.2) →
 ∃ b arr ty us, ρ n = some (.pointer (some ⟨b, 0, none⟩)) ∧ w.heap[b]? = some (.cells arr ty (0, 0)) ∧ CRel ρ ro w cs us ∧ us.length = left ∧ ∀ j u, us[j]? = some u → arr[off + j]? = some u := by
 intro fuel
 induction fuel with
 | zero =>
   intro off left cs rd e hl _
   obtain ⟨l, rfl⟩ : ∃ l, left = l + 1 := ⟨left - 1, by omega⟩
   simp [gather] at e
 | succ fuel ih =>
   intro off left cs rd e hl hrd
   obtain ⟨l, rfl⟩ : ∃ l, left = l + 1 := ⟨left - 1, by omega⟩
   simp only [gather] at e
   split at e
   ·rename_i v hv
    cases hg : gather hr n fuel (off + 1) l with
    | none => simp [hg] at e
    | some r =>
      simp only [hg, Option.map_some, Option.some.injEq, Prod.mk.injEq] at e
      obtain ⟨rfl, rfl⟩ := e
      have h0 := S.cont n off (.cell v) hn (hrd (n, off, .cell v) (by simp))
      obtain ⟨b, arr, ty, u, h1, h2, h3, h4, h5, h6, h7⟩ := h0
      rcases Nat.eq_zero_or_pos l with rfl | hl'
      ·cases fuel <;> (simp [gather] at hg; subst hg; exact ⟨b, arr, ty, [u], h1, h2, .cons _ _ _ _ h7 h6 .nil, rfl, fun j x hj => by
        cases j with
        | zero => simp at hj; subst hj; simpa using h5
        | succ j => simp at hj⟩)
      ·obtain ⟨b', arr', ty', us, k1, k2, k3, k4, k5⟩ := ih (off + 1) l r.1 r.2 (by rw [hg]) hl' (fun x hx => hrd x (by simp [hx]))
       rw [h1] at k1
       injection k1 with k1; injection k1 with k1; injection k1 with k1; injection k1 with k1
       subst k1
       rw [h2] at k2
       injection k2 with k2; injection k2 with k2 k2'
       subst k2
       refine ⟨b, arr, ty, u :: us, h1, h2, .cons _ _ _ _ h7 h6 k3, by simp [k4], fun j x hj => ?_⟩
       cases j with
       | zero => simp at hj; subst hj; simpa using h5
       | succ j => simp at hj; have := k5 j x hj; rwa [show off + (j + 1) = off + 1 + j by omega]
   ·rename_i k f hv
    by_cases hk : k ≤ l + 1
    ·have hkb : Nat.ble k (l + 1) = true := by simpa using hk
     simp only [hkb, cond_true] at e
     cases hg : gather hr n fuel (off + k) (l + 1 - k) with
     | none => simp [hg] at e
     | some r =>
       simp only [hg, Option.map_some, Option.some.injEq, Prod.mk.injEq] at e
       obtain ⟨rfl, rfl⟩ := e
       have h0 := S.cont n off (.arr k f) hn (hrd (n, off, .arr k f) (by simp))
       obtain ⟨b, arr, ty, h1, h2, h3, h4, h5⟩ := h0
       obtain ⟨xs, hxs⟩ : ∃ xs, xs = (List.range k).map fun i => arr.getD (off + i) undef := ⟨_, rfl⟩
       have hxl : xs.length = k := by simp [hxs]
       have hxg : ∀ i u, xs[i]? = some u → arr[off + i]? = some u ∧ u.oneCell' = true ∧ VRel ρ ro w (f i) u := by
        intro i u hi
        have hik : i < k := by have := (List.getElem?_eq_some_iff.1 hi).1; omega
        obtain ⟨u', a1, a2, a3⟩ := h5 i hik
        rw [hxs, List.getElem?_map, List.getElem?_range hik] at hi
        simp [a1] at hi
        subst hi
        exact ⟨a1, a2, a3⟩
       have hone : ∀ u ∈ xs, u.oneCell' = true := fun u hu => by
        obtain ⟨i, hi⟩ := List.mem_iff_getElem?.1 hu
        exact (hxg i u hi).2.1
       rcases Nat.eq_zero_or_pos (l + 1 - k) with hz | hl'
       ·rw [hz] at hg
        cases fuel <;> (simp [gather] at hg; subst hg; exact ⟨b, arr, ty, xs ++ [], h1, h2, .arr k f [] xs [] hxl (fun i u hi => (hxg i u hi).2.2) hone .nil, by simp [hxl]; omega, fun j x hj => by
         simp at hj; exact (hxg j x hj).1⟩)
       ·obtain ⟨b', arr', ty', us, k1, k2, k3, k4, k5⟩ := ih (off + k) (l + 1 - k) r.1 r.2 (by rw [hg]) hl' (fun x hx => hrd x (by simp [hx]))
        rw [h1] at k1
        injection k1 with k1; injection k1 with k1; injection k1 with k1; injection k1 with k1
        subst k1
        rw [h2] at k2
        injection k2 with k2; injection k2 with k2 k2'
        subst k2
        refine ⟨b, arr, ty, xs ++ us, h1, h2, .arr k f _ xs us hxl (fun i u hi => (hxg i u hi).2.2) hone k3, by simp [k4, hxl]; omega, fun j x hj => ?_⟩
        rw [List.getElem?_append] at hj
        split at hj
        ·exact (hxg j x hj).1
        ·rename_i hge
         have := k5 (j - xs.length) x hj
         rwa [show off + k + (j - xs.length) = off + j by omega] at this
    ·have hkb : Nat.ble k (l + 1) = false := by
      cases hb : Nat.ble k (l + 1) with
      | false => rfl
      | true => exact absurd (Nat.le_of_ble_eq_true hb) hk
     simp [hkb] at e
   ·simp at e
theorem add_at (b off j : Nat) : (⟨b, off, none⟩ : Addr).add j = ⟨b, off + j, none⟩ := by unfold Addr.add; split <;> simp_all
theorem run_loadVar {t : Nat} {ti : TI} (hT : TIOK P t ti) {a : Addr} {us : List Value} (hl : us.length = ti.cells) (hc : ∀ j u, us[j]? = some u → w.cell? (a.add j) = some u)
 (hone : ti.und.isAgg = false → ti.cells = 1) :
 ∃ x, (loadVar t a).run P w = .ok x w ∧ (if ti.und.isAgg then x = .agg us.toArray else us = [x]) := by
 obtain ⟨i, z, hi, hsz, hby, hz, _⟩ := hT.info
 obtain ⟨d, hd, hagg, _⟩ := hT.agg
 have hag : (isAgg t).run P w = .ok ti.und.isAgg w := by
  unfold isAgg
  rw [Sem.run_bind, run_underlying hd w]
  rw [← hagg]
  cases d <;> simp
 have hload := run_loadCells_list (P := P) w a us hc
 cases hq : ti.und.isAgg with
 | true =>
   refine ⟨.agg us.toArray, ?_, by simp⟩
   rw [hq] at hag
   simp [loadVar, Sem.run_bind, hag, sizeOf, typeInfo, hi, hsz, ← hl, hload]
 | false =>
   have h1 := hone hq
   rw [h1] at hl
   match us, hl with
   | [u], _ =>
     rw [hq] at hag
     have h0 : w.cell? a = some u := by have := hc 0 u rfl; simpa [Addr.add] using this
     exact ⟨u, by simp [loadVar, Sem.run_bind, hag, h0], by simp⟩
theorem ofCells_sound {agg : Bool} {cs : List AV} {v : AV} (e : ofCells agg cs = some v) {us : List Value} (hc : CRel ρ ro w cs us) {x : Value} (hx : if agg then x = .agg us.toArray else us = [x]) : VRel ρ ro w v x := by
 cases agg with
 | true =>
   simp [ofCells] at e
   subst e
   simp at hx
   subst hx
   exact .agg cs us hc
 | false =>
   simp at hx
   subst hx
   match cs, e with
   | [c], e =>
     simp only [ofCells] at e
     cases hp : c.plain with
     | false => simp [hp] at e
     | true =>
       simp [hp] at e
       subst e
       generalize hus : [x] = us at hc
       cases hc with
       | cons _ _ _ _ h h1 t => injection hus with h2 h3; subst h2; exact h
       | arr n f _ xs us' hl h h1 t => simp [AV.plain] at hp
   | [], e => simp [ofCells] at e
   | _ :: _ :: _, e => simp [ofCells] at e
theorem skipC_sound {cs : List AV} {us : List Value} (hc : CRel ρ ro w cs us) : ∀ {o : Nat} {ds : List AV}, skipC cs o = some ds → CRel ρ ro w ds (us.drop o) := by
 induction cs generalizing us with
 | nil =>
   intro o ds e
   cases o with
   | zero => simp [skipC] at e; subst e; simpa using hc
   | succ o => simp [skipC] at e
 | cons c cs ih =>
   intro o ds e
   cases o with
   | zero => simp [skipC] at e; subst e; simpa using hc
   | succ o =>
     cases hc with
     | cons _ _ u us h h1 t =>
       have : skipC cs o = some ds := by cases h <;> simpa [skipC] using e
       simpa using ih t this
     | arr n f _ xs us hl h h1 t =>
       simp only [skipC] at e
       by_cases hk : n ≤ o + 1
       ·have hkb : Nat.ble n (o + 1) = true := by simpa using hk
        simp only [hkb, cond_true] at e
        have := ih t e
        rw [List.drop_append, List.drop_of_length_le (by omega), hl, List.nil_append]
        exact this
       ·have hkb : Nat.ble n (o + 1) = false := by
         cases hb : Nat.ble n (o + 1) with
         | false => rfl
         | true => exact absurd (Nat.le_of_ble_eq_true hb) hk
        simp [hkb] at e
theorem takeC_sound {cs : List AV} {us : List Value} (hc : CRel ρ ro w cs us) : ∀ {o : Nat} {ds : List AV}, takeC cs o = some ds → CRel ρ ro w ds (us.take o) ∧ o ≤ us.length := by
 induction cs generalizing us with
 | nil =>
   intro o ds e
   cases o with
   | zero => simp [takeC] at e; subst e; exact ⟨by simpa using CRel.nil, by omega⟩
   | succ o => simp [takeC] at e
 | cons c cs ih =>
   intro o ds e
   cases o with
   | zero =>
     have : ds = [] := by cases c <;> simpa [takeC] using e.symm
     subst this
     exact ⟨by simpa using CRel.nil, by omega⟩
   | succ o =>
     cases hc with
     | cons _ _ u us h h1 t =>
       have : (takeC cs o).map (c :: ·) = some ds := by cases h <;> simpa [takeC] using e
       obtain ⟨ds', h2, rfl⟩ := Option.map_eq_some_iff.1 this
       obtain ⟨h3, h4⟩ := ih t h2
       exact ⟨.cons _ _ _ _ h h1 h3, by simp; omega⟩
     | arr n f _ xs us hl h h1 t =>
       simp only [takeC] at e
       by_cases hk : n ≤ o + 1
       ·have hkb : Nat.ble n (o + 1) = true := by simpa using hk
        simp only [hkb, cond_true] at e
        obtain ⟨ds', h2, rfl⟩ := Option.map_eq_some_iff.1 e
        obtain ⟨h3, h4⟩ := ih t h2
        refine ⟨?_, by simp; omega⟩
        rw [List.take_append, List.take_of_length_le (by omega), hl]
        exact .arr n f ds' xs _ hl h h1 h3
       ·have hkb : Nat.ble n (o + 1) = false := by
         cases hb : Nat.ble n (o + 1) with
         | false => rfl
         | true => exact absurd (Nat.le_of_ble_eq_true hb) hk
        simp [hkb] at e
theorem add_add (a : Addr) (m n : Nat) (hs : a.spot = none) : (a.add m).add n = a.add (m + n) := by
 obtain ⟨b, off, sp⟩ := a
 simp at hs
 subst hs
 rw [add_at, add_at, add_at, Nat.add_assoc]
theorem name_pos (S : Sim mine ρ ro h w) {n : Nat} {x : Value} (hx : ρ n = some x) : 0 < n := by
 rcases Nat.eq_zero_or_pos n with rfl | hp
 ·rw [S.zero] at hx; cases hx
 ·exact hp
theorem vec_cells (S : Sim mine ρ ro h w) {n b len cap sz e k : Nat} {f : Nat → AV} (hx : ρ n = some (.slice (some ⟨b, 0, none⟩) len cap)) (hc : hget h n 0 = some (.vec sz e k f)) {i : Nat} (hi : i < k) :
 ∃ us, CRel ρ ro w (f i).cells us ∧ us.length = sz ∧ ∀ j u, us[j]? = some u → w.cell? ⟨b, i * sz + j, none⟩ = some u := by
 obtain ⟨_, x, xs, h1, h2, h3, h4, h5⟩ := S.cont n 0 _ (name_pos S hx) hc
 rw [hx] at h1
 injection h1 with h1
 subst h1
 refine ⟨_, h5 i hi, ?_, fun j u hj => ?_⟩
 ·rw [List.length_take, List.length_drop, h3.1]
  have : i * sz + sz ≤ k * sz := by rw [← Nat.succ_mul]; exact Nat.mul_le_mul_right _ hi
  omega
 ·rw [List.getElem?_take] at hj
  split at hj
  ·rw [List.getElem?_drop] at hj
   have := h3.cells (g := b) rfl (i * sz + j) u hj
   rwa [add_at, Nat.zero_add] at this
  ·cases hj
theorem run_loadAt {t : Nat} {ti : TI} (hT : TIOK P t ti) {a : Addr} {us : List Value} {cs : List AV} (hcr : CRel ρ ro w cs us) (hl : us.length = ti.cells) (hc : ∀ j u, us[j]? = some u → w.cell? (a.add j) = some u)
 {v : AV} (hv : ofCells ti.und.isAgg cs = some v) : ∃ y, (Instr.loadAt t (.pointer (some a))).run P w = .ok y w ∧ VRel ρ ro w v y := by
 obtain ⟨x, hr, hx⟩ := run_loadVar (P := P) hT (a := a) hl hc hT.one
 exact ⟨x, by simp [Instr.loadAt, Instr.sureAddr, hr], ofCells_sound hv hcr hx⟩
theorem evLoad_sound {T : Tab} (hT : TabOK P T) (S : Sim mine ρ ro h w) {hr : Rd} {t : Nat} {p : AV} {out : Out} (e : evLoad T hr t p = some out) (hrd : ∀ x ∈ out.rd, hget h x.1 x.2.1 = some x.2.2)
 (hs : ∀ q ∈ out.sides, q) {x : Value} (hp : VRel ρ ro w p x) : out.up = [] ∧ ∃ y, (Instr.loadAt t x).run P w = .ok y w ∧ VRel ρ ro w out.val y := by
 unfold evLoad at e
 cases ht : tget T t with
 | none => simp [ht] at e
 | some ti =>
   have hti := hT t ti ht
   simp only [ht] at e
   cases hp with
   | ptr n off b hb =>
     simp only at e
     cases hg : gather hr n 64 off ti.cells with
     | none => simp [hg] at e
     | some r =>
       simp only [hg, Option.bind_some] at e
       obtain ⟨v, hv, rfl⟩ := Option.map_eq_some_iff.1 e
       obtain ⟨b', arr, ty, us, h1, h2, h3, h4, h5⟩ := gather_sound S (name_pos S hb) 64 off ti.cells r.1 r.2 hg hti.pos hrd
       rw [hb] at h1
       injection h1 with h1; injection h1 with h1; injection h1 with h1; injection h1 with h1
       subst h1
       obtain ⟨y, hy, hvy⟩ := run_loadAt (P := P) hti (a := ⟨b, off, none⟩) h3 h4 (fun j u hj => by rw [add_at, cell_of_row w b (off + j) arr ty (0, 0) h2]; exact h5 j u hj) hv
       exact ⟨rfl, y, hy, hvy⟩
   | pe n off b i hb =>
     simp only at e
     split at e
     ·rename_i k f hk
      cases hq : (ti.cells == 1 && !ti.und.isAgg) with
      | false => simp [hq] at e
      | true =>
        simp only [hq, cond_true, Option.some.injEq] at e
        subst e
        simp at hq
        have h0 : 0 ≤ i := hs (0 ≤ i) (by simp)
        have h1 : i < (k : Int) := hs (i < (k : Int)) (by simp)
        obtain ⟨b', arr, ty, a1, a2, a3, a4, a5⟩ := S.cont n off _ (name_pos S hb) (hrd (n, off, .arr k f) (by simp))
        rw [hb] at a1
        injection a1 with a1; injection a1 with a1; injection a1 with a1; injection a1 with a1
        subst a1
        obtain ⟨u, c1, c2, c3⟩ := a5 i.toNat (by omega)
        have hop : ∃ y, (loadVar t ⟨b, off + i.toNat, none⟩).run P w = .ok y w ∧ (if ti.und.isAgg then y = .agg [u].toArray else [u] = [y]) := run_loadVar (P := P) hti (us := [u]) (by simp [hq.1]) (fun j v hj => by
         cases j with
         | zero => simp at hj; subst hj; rw [add_at, cell_of_row w b _ arr ty (0, 0) a2]; exact c1
         | succ j => simp at hj) hti.one
        obtain ⟨y, hy, hyu⟩ := hop
        rw [hq.2] at hyu
        simp at hyu
        subst hyu
        exact ⟨rfl, u, by simp [Instr.loadAt, Instr.sureAddr, hy], c3⟩
     ·simp at e
   | vp n sz off b len cap i hb =>
     simp only at e
     split at e
     ·rename_i sz' e' k f hk
      cases hsk : (skipC (f i.toNat).cells off).bind (takeC · ti.cells) with
      | none => simp [hsk] at e
      | some cs =>
        simp only [hsk, Option.bind_some] at e
        obtain ⟨v, hv, rfl⟩ := Option.map_eq_some_iff.1 e
        have h0 : 0 ≤ i := hs (0 ≤ i) (by simp)
        have h1 : i < (k : Int) := hs (i < (k : Int)) (by simp)
        have h2 : sz = sz' := hs (sz = sz') (by simp)
        subst h2
        obtain ⟨us, c1, c2, c3⟩ := vec_cells S hb (hrd (n, 0, .vec sz e' k f) (by simp)) (i := i.toNat) (by omega)
        obtain ⟨ds, d1, d2⟩ := Option.bind_eq_some_iff.1 hsk
        have k1 := skipC_sound c1 d1
        obtain ⟨k2, k3⟩ := takeC_sound k1 d2
        obtain ⟨y, hy, hvy⟩ := run_loadAt (P := P) hti (a := ⟨b, i.toNat * sz + off, none⟩) k2 (by rw [List.length_take]; omega) (fun j u hj => by
         rw [add_at, Nat.add_assoc]
         rw [List.getElem?_take] at hj
         split at hj
         ·rw [List.getElem?_drop] at hj
          exact c3 _ u hj
         ·cases hj) hv
        exact ⟨rfl, y, hy, hvy⟩
     ·simp at e
   | rp cs a us hb hsp hc hcr =>
     simp only at e
     cases htk : takeC cs ti.cells with
     | none => simp [htk] at e
     | some ds =>
       simp only [htk, Option.bind_some] at e
       obtain ⟨v, hv, rfl⟩ := Option.map_eq_some_iff.1 e
       obtain ⟨k2, k3⟩ := takeC_sound hcr htk
       obtain ⟨y, hy, hvy⟩ := run_loadAt (P := P) hti (a := a) k2 (by rw [List.length_take]; omega) (fun j u hj => by
        rw [List.getElem?_take] at hj
        split at hj
        ·exact hc j u hj
        ·cases hj) hv
       exact ⟨rfl, y, hy, hvy⟩
   | _ => simp at e
end
end Go.Eng