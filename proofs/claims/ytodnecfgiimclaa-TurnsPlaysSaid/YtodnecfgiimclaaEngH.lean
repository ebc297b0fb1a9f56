/- The engine, part 8: rows that the call makes: literals, make, append. -/
import Derived.Test.YtodnecfgiimclaaEngG
set_option linter.unusedSimpArgs false
set_option linter.unusedVariables false
namespace Go.Eng
section
variable {P : Program} {mine : Nat → Prop} {ρ : Env} {ro : Nat → Prop} {h : Heap} {w : World}
structure Src (ρ : Env) (ro : Nat → Prop) (w : World) (sz n : Nat) (f : Nat → AV) (x : Value) : Prop where
 ex : ∃ (a : Option Addr) (c : Nat) (us : List Value), x = .slice a n c ∧ us.length = n * sz ∧ (∀ u ∈ us, u.oneCell' = true) ∧ (∀ i, i < n → CRel ρ ro w (f i).cells ((us.drop (i * sz)).take sz)) ∧
  ((n = 0) ∨ ∃ ad, a = some ad ∧ ad.spot = none ∧ ∀ j u, us[j]? = some u → w.cell? (ad.add j) = some u)
theorem flat_get {us : Nat → List Value} {sz : Nat} : ∀ (n : Nat), (∀ i, i < n → (us i).length = sz) → ∃ l : List Value, l.length = n * sz ∧ ∀ i, i < n → (l.drop (i * sz)).take sz = us i
 | 0, _ => ⟨[], by simp, fun i hi => by omega⟩
 | n + 1, hl => by
   obtain ⟨l, h1, h2⟩ := flat_get (us := us) n (fun i hi => hl i (by omega))
   have hn := hl n (by omega)
   refine ⟨l ++ us n, by rw [List.length_append, h1, hn, Nat.succ_mul], fun i hi => ?_⟩
   by_cases hin : i < n
   ·have : i * sz + sz ≤ n * sz := by rw [← Nat.succ_mul]; exact Nat.mul_le_mul_right _ hin
    rw [List.drop_append_of_le_length (by omega), List.take_append_of_le_length (by rw [List.length_drop]; omega)]
    exact h2 i hin
   ·have : i = n := by omega
    subst this
    rw [← h1, List.drop_left, ← hn, List.take_length]
theorem seg_get {l : List Value} {sz i j : Nat} (hj : j < sz) : ((l.drop (i * sz)).take sz)[j]? = l[i * sz + j]? := by
 rw [List.getElem?_take, if_pos hj, List.getElem?_drop]
theorem seg_cover {l : List Value} {n sz p : Nat} {u : Value} (hl : l.length = n * sz) (hp : l[p]? = some u) : ∃ i j, i < n ∧ j < sz ∧ p = i * sz + j ∧ ((l.drop (i * sz)).take sz)[j]? = some u := by
 have hlt := (List.getElem?_eq_some_iff.1 hp).1
 have hsz : 0 < sz := by
  rcases Nat.eq_zero_or_pos sz with h0 | h0
  ·rw [h0, Nat.mul_zero] at hl; omega
  ·exact h0
 refine ⟨p / sz, p % sz, ?_, Nat.mod_lt _ hsz, ?_, ?_⟩
 ·rw [Nat.div_lt_iff_lt_mul hsz]; omega
 ·rw [Nat.mul_comm]; exact (Nat.div_add_mod p sz).symm
 ·rw [seg_get (Nat.mod_lt _ hsz), Nat.mul_comm, Nat.div_add_mod]; exact hp
theorem srcOf_sound (S : Sim mine ρ ro h w) {hr : Rd} {x : AV} {sz n : Nat} {f : Nat → AV} {rd : List (Nat × Nat × Cont)} (e : srcOf hr x = some (sz, n, f, rd)) (hrd : ∀ y ∈ rd, hget h y.1 y.2.1 = some y.2.2)
 {v : Value} (hv : VRel ρ ro w x v) : Src ρ ro w sz n f v := by
 refine ⟨?_⟩
 cases hv with
 | rs sz' n' cap full f' a vals hn hm hfull ha hl hc =>
   simp only [srcOf, Option.some.injEq, Prod.mk.injEq] at e
   obtain ⟨rfl, rfl, rfl, rfl⟩ := e
   obtain ⟨l, h1, h2⟩ := flat_get (us := vals) (sz := sz') n' hl
   refine ⟨a, cap, l, rfl, h1, fun u hu => ?_, fun i hi => by rw [h2 i hi]; exact hc i hi, ?_⟩
   ·obtain ⟨p, hp⟩ := List.mem_iff_getElem?.1 hu
    obtain ⟨i, j, hi, hj, _, hg⟩ := seg_cover h1 hp
    rw [h2 i hi] at hg
    exact (hc i hi).one u (List.mem_iff_getElem?.2 ⟨_, hg⟩)
   ·rcases Nat.eq_zero_or_pos n' with h0 | h0
    ·exact .inl h0
    ·obtain ⟨ad, e1, _, e3, e4⟩ := ha h0
     refine .inr ⟨ad, e1, e3, fun p u hp => ?_⟩
     obtain ⟨i, j, hi, hj, rfl, hg⟩ := seg_cover h1 hp
     rw [h2 i hi] at hg
     exact e4 i hi j u hg
 | nils =>
   simp only [srcOf, Option.some.injEq, Prod.mk.injEq] at e
   obtain ⟨rfl, rfl, rfl, rfl⟩ := e
   exact ⟨none, 0, [], rfl, rfl, by simp, fun i hi => by omega, .inl rfl⟩
 | vs k v hb hsl =>
   simp only [srcOf] at e
   split at e
   ·rename_i sz' e' n' f' hk
    simp only [Option.some.injEq, Prod.mk.injEq] at e
    obtain ⟨rfl, rfl, rfl, rfl⟩ := e
    obtain ⟨_, x, xs, h1, h2, h3, h4, h5⟩ := S.cont k 0 _ (name_pos S hb) (hrd (k, 0, .vec sz' e' n' f') (by simp))
    rw [hb] at h1
    injection h1 with h1
    subst h1
    rcases h3.2 with ⟨rfl, rfl⟩ | ⟨g, cap, cur, rfl, hbase, ⟨fz, hg, hfz⟩, hkc, hcm, hcs, htake⟩
    ·exact ⟨none, 0, xs, rfl, h3.1, h4, fun i hi => by omega, .inl rfl⟩
    ·exact ⟨_, cap, xs, rfl, h3.1, h4, h5, .inr ⟨_, rfl, rfl, h3.cells rfl⟩⟩
   ·cases e
 | sub m sz' lo n' cap a0 a l c hb hl hn hm ha =>
   simp only [srcOf] at e
   split at e
   ·rename_i sz2 e' k' f' hk
    cases hq : (sz2 == sz') with
    | false => simp [hq] at e
    | true =>
      simp only [hq, cond_true, Option.some.injEq, Prod.mk.injEq] at e
      have hq : sz2 = sz' := by simpa using hq
      subst hq
      obtain ⟨rfl, rfl, rfl, rfl⟩ := e
      obtain ⟨_, x, xs, h1, h2, h3, h4, h5⟩ := S.cont m 0 _ (name_pos S hb) (hrd (m, 0, .vec sz2 e' k' f') (by simp))
      rw [hb] at h1
      injection h1 with h1
      subst h1
      have hlk : l = k' := by
       rcases h3.2 with ⟨e1, e2⟩ | ⟨g, cap', cur, e1, _⟩
       ·injection e1 with _ e1 _; omega
       ·injection e1
      subst hlk
      have hmul : (lo + n') * sz2 ≤ l * sz2 := Nat.mul_le_mul_right _ hl
      have hlen := h3.1
      rw [Nat.add_mul] at hmul
      have hseg : ∀ i, i < n' → ((((xs.drop (lo * sz2)).take (n' * sz2)).drop (i * sz2)).take sz2) = (xs.drop ((lo + i) * sz2)).take sz2 := by
       intro i hi
       have h6 : i * sz2 + sz2 ≤ n' * sz2 := by rw [← Nat.succ_mul]; exact Nat.mul_le_mul_right _ hi
       apply List.ext_getElem?
       intro q
       rw [List.getElem?_take, List.getElem?_take]
       by_cases hq : q < sz2
       ·rw [if_pos hq, if_pos hq, List.getElem?_drop, List.getElem?_drop, List.getElem?_take, if_pos (by omega), List.getElem?_drop, show lo * sz2 + (i * sz2 + q) = (lo + i) * sz2 + q by rw [Nat.add_mul]; omega]
       ·rw [if_neg hq, if_neg hq]
      refine ⟨a, cap, (xs.drop (lo * sz2)).take (n' * sz2), rfl, by rw [List.length_take, List.length_drop]; omega, fun u hu => h4 u (List.mem_of_mem_drop (List.mem_of_mem_take hu)), fun i hi => by rw [hseg i hi]; exact h5 (lo + i) (by omega), ?_⟩
      rcases Nat.eq_zero_or_pos n' with h0 | h0
      ·exact .inl h0
      ·obtain ⟨b, rfl, rfl⟩ := ha h0
       refine .inr ⟨_, rfl, rfl, fun j u hj => ?_⟩
       rw [List.getElem?_take] at hj
       split at hj
       ·rw [List.getElem?_drop] at hj
        have := h3.cells (g := b) rfl _ _ hj
        have ea : ∀ (o k : Nat), (⟨b, o, none⟩ : Addr).add k = ⟨b, o + k, none⟩ := fun o k => by unfold Addr.add; split <;> simp_all
        rw [← this, ea, ea, Nat.zero_add]
       ·cases hj
   ·cases e
 | _ => simp [srcOf] at e
theorem new_vecM {w' : World} (S : Sim mine ρ ro h w) {nb : Nat} (hnb : 0 < nb) (hf : ρ nb = none) {x : Value} {e sz k : Nat} {f : Nat → AV} {xs : List Value} (hos : w'.os = w.os) (htape : w'.tape = w.tape) (hout : w'.output = w.output) (hsize : w.heap.size ≤ w'.heap.size) (hoth : ∀ b, b < w.heap.size → w'.heap[b]? = w.heap[b]?)
 (hb : ∀ b, blk x = some b → w.heap.size ≤ b) (hown : OwnR w' e sz x k xs) (h1 : ∀ u ∈ xs, u.oneCell' = true) (hc : ∀ i, i < k → CRel ρ ro w (f i).cells ((xs.drop (i * sz)).take sz)) :
 Res mine ρ ro w nb ((nb, 0, .vec sz e k f) :: h) (.vs nb) x w' := by
 have hsl : ∃ a l c, x = .slice a l c := by
  rcases hown.2 with ⟨rfl, _⟩ | ⟨_, _, _, rfl, _⟩ <;> exact ⟨_, _, _, rfl⟩
 obtain ⟨s, g, st⟩ := S.alloc (h' := (nb, 0, .vec sz e k f) :: h) x hnb hf hb hos htape hout hsize hoth (fun m o _ hne => hget_ne nb 0 _ h hne) (fun gr o c he => by
  rcases hget_put nb 0 _ h he with ⟨rfl, rfl⟩ | ⟨_, e1⟩
  ·refine ⟨rfl, x, xs, by simp, fun b hbx => ?_, hown, h1, fun i hi => (hc i hi).grow gr⟩
   exact S.new b (hb b hbx)
  ·have := fresh_dead S hnb hf e1
   cases c <;> simp [Cont.live] at this
   trivial) (fun o o' c c' he he' hl hl' hlt => by
  rcases hget_put nb 0 _ h he with ⟨rfl, rfl⟩ | ⟨_, e1⟩
  ·rcases hget_put nb 0 _ h he' with ⟨rfl, rfl⟩ | ⟨_, e1'⟩
   ·omega
   ·exact absurd hl' (fresh_dead S hnb hf e1')
  ·exact absurd hl (fresh_dead S hnb hf e1))
 exact ⟨_, _, g.m, bind1_names (k := 0) (by omega), s, .vs nb x (by simp [bind1]) hsl, st⟩
theorem new_vec {w' : World} (S : Sim mine ρ ro h w) {nb : Nat} (hnb : 0 < nb) (hf : ρ nb = none) {x : Value} {e sz k : Nat} {f : Nat → AV} {xs : List Value} (hos : w'.os = w.os) (htape : w'.tape = w.tape) (hout : w'.output = w.output) (hsize : w.heap.size ≤ w'.heap.size) (hoth : ∀ b, b < w.heap.size → w'.heap[b]? = w.heap[b]?)
 (hb : ∀ b, blk x = some b → w.heap.size ≤ b) (hown : w'.ownsRow 0 e sz x k xs) (h1 : ∀ u ∈ xs, u.oneCell' = true) (hc : ∀ i, i < k → CRel ρ ro w (f i).cells ((xs.drop (i * sz)).take sz)) :
 Res mine ρ ro w nb ((nb, 0, .vec sz e k f) :: h) (.vs nb) x w' :=
 new_vecM S hnb hf hos htape hout hsize hoth hb (.of hown) h1 hc
theorem run_zero {P : Program} {t : Nat} {i : TypeInfo} {z : Value} (hi : P.info? t = some i) (hz : i.zero = some z) (w : World) : (zeroValue t).run P w = .ok z w := by
 simp [zeroValue, typeInfo, hi, hz]
theorem fold_set : ∀ (vs : List Value) (k off : Nat) (cells : Array Value), off + k + vs.length ≤ cells.size →
 ((vs.zipIdx k).foldl (fun (cs : Array Value) (p : Value × Nat) => cs.setIfInBounds (off + p.2) p.1) cells).toList = cells.toList.take (off + k) ++ vs ++ cells.toList.drop (off + k + vs.length)
 | [], k, off, cells, _ => by simp
 | v :: vs, k, off, cells, hl => by
   simp only [List.zipIdx_cons, List.foldl_cons]
   rw [fold_set vs (k + 1) off _ (by simp at hl ⊢; omega)]
   have := list_seg_step cells.toList (off + k) v vs (by simp at hl ⊢; omega)
   simp only [Array.toList_setIfInBounds]
   rw [show off + (k + 1) = off + k + 1 by omega]
   rw [this]
   rfl
theorem fill_one {place : Nat → Option (Nat × Nat)} {cells : Array Value} {i off size : Nat} {v : Value} {rest : List (Nat × Value)} (hp : place i = some (off, size)) (hs : v.cells.size = size) (hfit : off + size ≤ cells.size) :
 Instr.fill place cells ((i, v) :: rest) = Instr.fill place (cells.toList.take off ++ v.cells.toList ++ cells.toList.drop (off + v.cells.toList.length)).toArray rest := by
 simp only [Instr.fill, hp]
 rw [if_neg (by simp [hs]; omega)]
 congr 1
 apply Array.ext'
 have := fold_set v.cells.toList 0 off cells (by simp; omega)
 simp only [Nat.add_zero] at this
 rw [← this, ← Array.foldl_toList]
 simp
theorem fillAll_sound {place : Nat → Option (Nat × Nat)} : ∀ (ps : List (Nat × AV)) (cs ds : List AV) (qs : List (Nat × Value)) (cells : Array Value), fillAll place cs ps = some ds → CRel ρ ro w cs cells.toList →
 ps.length = qs.length → (∀ (k : Nat) (p : Nat × AV) (q : Nat × Value), ps[k]? = some p → qs[k]? = some q → p.1 = q.1 ∧ VRel ρ ro w p.2 q.2) → ∃ out, Instr.fill place cells qs = some out ∧ CRel ρ ro w ds out.toList
 | [], cs, ds, qs, cells, e, hc, hl, _ => by
   simp [fillAll] at e
   subst e
   match qs, hl with
   | [], _ => exact ⟨cells, rfl, hc⟩
 | (j, v) :: ps, cs, ds, qs, cells, e, hc, hl, hr => by
   match qs, hl with
   | (j', x) :: qs, hl =>
     obtain ⟨hj, hvx⟩ := hr 0 _ _ rfl rfl
     simp only at hj hvx
     subst hj
     simp only [fillAll] at e
     split at e
     ·rename_i o sz hpl
      cases hq : (v.plain && widthC v.cells == sz) with
      | false => simp [hq] at e
      | true =>
        simp only [hq, cond_true] at e
        simp at hq
        obtain ⟨cs', h1, h2⟩ := Option.bind_eq_some_iff.1 e
        have hxc := hvx.cells hq.1
        obtain ⟨k1, k2⟩ := fillC_sound hc hxc h1
        have hsz : x.cells.size = sz := by have := hxc.width; rw [hq.2] at this; simpa using this
        rw [fill_one hpl hsz (by simp at k2; omega)]
        exact fillAll_sound ps cs' ds qs _ h2 (by simpa using k1) (by simpa using hl) (fun k p q hp hq => hr (k + 1) p q (by simpa using hp) (by simpa using hq))
     ·cases e
theorem mapP_sound {g : Operand → Option AV} {a : Act} (hg : ∀ x v, g x = some v → VRel ρ ro w v (a.eval x)) : ∀ (l : List (Nat × Operand)) (vs : List (Nat × AV)), mapP g l = some vs →
 vs.length = l.length ∧ ∀ (k : Nat) (p : Nat × AV) (q : Nat × Value), vs[k]? = some p → (l.map fun x => (x.1, a.eval x.2))[k]? = some q → p.1 = q.1 ∧ VRel ρ ro w p.2 q.2
 | [], vs, e => by simp [mapP] at e; subst e; simp
 | (j, x) :: l, vs, e => by
   simp only [mapP] at e
   split at e
   ·rename_i b bs h1 h2
    injection e with e
    subst e
    obtain ⟨k1, k2⟩ := mapP_sound hg l bs h2
    refine ⟨by simp [k1], fun k p q hp hq => ?_⟩
    cases k with
    | zero => simp at hp hq; subst hp; subst hq; exact ⟨rfl, hg x b h1⟩
    | succ k => exact k2 k p q (by simpa using hp) (by simpa using hq)
   ·cases e
theorem evBuild_sound {T : Tab} (hT : TabOK P T) {t : Nat} {ps : List (Nat × AV)} {out : Out} (e : evBuild T t ps = some out) {qs : List (Nat × Value)} (hl : ps.length = qs.length)
 (hr : ∀ (k : Nat) (p : Nat × AV) (q : Nat × Value), ps[k]? = some p → qs[k]? = some q → p.1 = q.1 ∧ VRel ρ ro w p.2 q.2) :
 out.up = [] ∧ ∃ y, (Instr.build t qs.toArray).run P w = .ok y w ∧ VRel ρ ro w out.val y := by
 unfold evBuild at e
 split at e
 ·rename_i ti ht
  have hti := hT t ti ht
  obtain ⟨i, z, hi, hsz, hby, hz, hzc⟩ := hti.info
  obtain ⟨pl, h1, h2⟩ := Option.bind_eq_some_iff.1 e
  obtain ⟨cs, h3, h4⟩ := Option.bind_eq_some_iff.1 h2
  simp only [pureOut, Option.some.injEq] at h4
  subst h4
  obtain ⟨cells, k1, k2⟩ := fillAll_sound (w := w) (ρ := ρ) (ro := ro) ps ti.zero cs qs z.cells h3 (hzc ρ ro w) hl hr
  obtain ⟨d, hd, _, hst⟩ := hti.agg
  refine ⟨rfl, .agg cells, ?_, ?_⟩
  ·refine run_build w t qs.toArray cells ?_
   unfold Program.built
   cases hu : ti.und with
   | struct fs =>
     rw [hu] at hst h1
     obtain ⟨fields, rfl, hfl, hmm⟩ := hst
     simp only [placeOf, Option.some.injEq] at h1
     subst h1
     simp only [hi, hd, hz, hmm]
     rw [← k1]
     congr 1
     funext j
     simp
   | array n e =>
     rw [hu] at hst h1
     subst hst
     simp only [placeOf] at h1
     obtain ⟨te, h5, rfl⟩ := Option.map_eq_some_iff.1 h1
     obtain ⟨ie, ze, hie, hse, _⟩ := (hT e te h5).info
     simp only [hi, hd, hz, hie, hse]
     exact k1
   | _ => rw [hu] at h1; simp [placeOf] at h1
  ·have := VRel.agg (ρ := ρ) (ro := ro) (w := w) cs cells.toList k2
   simpa using this
 ·cases e
theorem evValField_sound {T : Tab} (hT : TabOK P T) {t : Nat} {x : AV} {j : Nat} {out : Out} (e : evValField T t x j = some out) {v : Value} (hv : VRel ρ ro w x v) :
 out.up = [] ∧ ∃ y, (Instr.field t v j).run P w = .ok y w ∧ VRel ρ ro w out.val y := by
 unfold evValField at e
 split at e
 ·rename_i cells bytes fs zero cs ht
  have hti := hT t _ ht
  split at e
  ·cases e
  ·rename_i o ty sz hfs
   split at e
   ·rename_i tf htf
    have htf' := hT ty tf htf
    cases hq : (tf.cells == sz) with
    | false => simp [hq] at e
    | true =>
      simp only [hq, cond_true] at e
      simp at hq
      obtain ⟨ds, h1, h2⟩ := Option.bind_eq_some_iff.1 e
      obtain ⟨es, h3, h4⟩ := Option.bind_eq_some_iff.1 h2
      obtain ⟨y, h5, h6⟩ := Option.bind_eq_some_iff.1 h4
      simp only [pureOut, Option.some.injEq] at h6
      subst h6
      obtain ⟨d, hd, _, hst⟩ := hti.agg
      obtain ⟨fields, rfl, hfl, _⟩ := hst
      obtain ⟨fd, k1, k2, k3, i, hi, hsz, hz⟩ := hfl j o ty sz hfs
      cases hv with
      | agg _ us hc =>
        have c1 := skipC_sound hc h1
        obtain ⟨c2, c3⟩ := takeC_sound c1 h3
        obtain ⟨dy, hdy, hagg, _⟩ := htf'.agg
        subst k2; subst k3
        have hag : (isAgg fd.type).run P w = .ok tf.und.isAgg w := by
         unfold isAgg
         rw [Sem.run_bind, run_underlying hdy w]
         rw [← hagg]
         cases dy <;> simp
        refine ⟨rfl, ?_⟩
        cases hg : tf.und.isAgg with
        | true =>
          rw [hg] at hag h5
          refine ⟨.agg (us.toArray.extract fd.offset (fd.offset + sz)), ?_, ?_⟩
          ·simp [Instr.field, run_underlying hd, k1, asAgg, part, hag, sizeOf, typeInfo, hi, hsz]
          ·refine ofCells_sound h5 c2 ?_
           simp
        | false =>
          rw [hg] at hag h5
          have hone := htf'.one hg
          rw [hq] at hone
          subst hone
          have hlen : ((us.drop fd.offset).take 1).length = 1 := by rw [List.length_take]; omega
          obtain ⟨u, hu⟩ : ∃ u, (us.drop fd.offset).take 1 = [u] := by
           match hx : (us.drop fd.offset).take 1, hlen with
           | [u], _ => exact ⟨u, rfl⟩
          have hget : us[fd.offset]? = some u := by
           have : ((us.drop fd.offset).take 1)[0]? = some u := by rw [hu]; rfl
           simpa using this
          refine ⟨u, ?_, ofCells_sound h5 c2 (by simpa using hu)⟩
          simp [Instr.field, run_underlying hd, k1, asAgg, part, hag, hget]
   ·cases e
 ·cases e
theorem litOK_spec : ∀ (l : List (Nat × AV)) (i sz : Nat), litOK i sz l = true → ∀ (k : Nat) (p : Nat × AV), l[k]? = some p → p.1 = i + k ∧ p.2.plain = true ∧ widthC p.2.cells = sz
 | [], i, sz, _, k, p, h => by simp at h
 | (j, v) :: l, i, sz, e, k, p, h => by
   simp only [litOK, Bool.and_eq_true, beq_iff_eq] at e
   cases k with
   | zero => simp at h; subst h; exact ⟨by simp [e.1.1.1], e.1.1.2, e.1.2⟩
   | succ k =>
     obtain ⟨a, b, c⟩ := litOK_spec l (i + 1) sz e.2 k p (by simpa using h)
     exact ⟨by omega, b, c⟩
theorem lit_fill {sz : Nat} : ∀ (qs : List (Nat × Value)) (i : Nat) (cells : Array Value), (∀ (k : Nat) (q : Nat × Value), qs[k]? = some q → q.1 = i + k ∧ q.2.cells.size = sz) → i * sz + qs.length * sz ≤ cells.size →
 ∃ out, Instr.fill (fun i => some (i * sz, sz)) cells qs = some out ∧ out.size = cells.size ∧ (∀ p, p < i * sz → out[p]? = cells[p]?) ∧ ∀ (k : Nat) (q : Nat × Value), qs[k]? = some q → ∀ p, p < sz → out[(i + k) * sz + p]? = q.2.cells[p]?
 | [], i, cells, _, _ => ⟨cells, rfl, rfl, fun _ _ => rfl, by simp⟩
 | (j, v) :: qs, i, cells, hq, hfit => by
   obtain ⟨hj, hsz⟩ := hq 0 _ rfl
   simp only [Nat.add_zero] at hj hsz
   subst hj
   have hfit1 : j * sz + sz ≤ cells.size := by
    simp only [List.length_cons, Nat.succ_mul] at hfit; omega
   have hcl : v.cells.toList.length = sz := by simpa using hsz
   rw [fill_one (size := sz) (off := j * sz) rfl hsz hfit1]
   have hsz' : (cells.toList.take (j * sz) ++ v.cells.toList ++ cells.toList.drop (j * sz + v.cells.toList.length)).toArray.size = cells.size := by
    simp only [List.size_toArray, List.length_append, List.length_take, List.length_drop]
    simp only [Array.length_toList] at hcl ⊢
    omega
   have hget := fun p => splice_get cells v.cells.toList (j * sz) p (by omega)
   obtain ⟨out, h1, h2, h3, h4⟩ := lit_fill qs (j + 1) (cells.toList.take (j * sz) ++ v.cells.toList ++ cells.toList.drop (j * sz + v.cells.toList.length)).toArray
    (fun k q hk => by have := hq (k + 1) q (by simpa using hk); exact ⟨by omega, this.2⟩) (by rw [hsz']; simp only [List.length_cons, Nat.succ_mul] at hfit ⊢; omega)
   refine ⟨out, h1, by rw [h2, hsz'], fun p hp => ?_, fun k q hk p hp => ?_⟩
   ·rw [h3 p (by rw [Nat.succ_mul]; omega), hget, if_neg (by omega)]
   ·cases k with
    | zero =>
      simp at hk
      subst hk
      rw [Nat.add_zero, h3 _ (by rw [Nat.succ_mul]; omega), hget, if_pos ⟨by omega, by omega⟩, show j * sz + p - j * sz = p by omega]
      simp
    | succ k =>
      have := h4 k q (by simpa using hk) p hp
      rwa [show j + 1 + k = j + (k + 1) by omega] at this
theorem evLit_sound {T : Tab} (hT : TabOK P T) (S : Sim mine ρ ro h w) {t len nb : Nat} {ps : List (Nat × AV)} {out : Out} (e : evLit T t len ps nb = some out) (hnb : 0 < nb) (hf : ρ nb = none) {qs : List (Nat × Value)} (hl : ps.length = qs.length)
 (hr : ∀ (k : Nat) (p : Nat × AV) (q : Nat × Value), ps[k]? = some p → qs[k]? = some q → p.1 = q.1 ∧ VRel ρ ro w p.2 q.2) :
 ∃ y w', (Instr.buildSlice t len qs.toArray).run P w = .ok y w' ∧ Res mine ρ ro w nb (hput h out.up) out.val y w' := by
 unfold evLit at e
 split at e
 ·rename_i cells bytes el zero ht
  split at e
  ·rename_i te hte
   have hte' := hT el te hte
   obtain ⟨d, hd, _, hst⟩ := (hT t _ ht).agg
   simp only at hst
   subst hst
   obtain ⟨ie, ze, hie, hse, hbe, hze, hzc⟩ := hte'.info
   cases hq : (ps.length == len && litOK 0 te.cells ps && Nat.ble (len * te.cells) 16777216) with
   | false => simp [hq] at e
   | true =>
     simp only [hq, cond_true, Option.some.injEq] at e
     subst e
     simp only [Bool.and_eq_true, beq_iff_eq] at hq
     obtain ⟨⟨hq1, hq2⟩, hq3⟩ := hq
     have hq3 := Nat.le_of_ble_eq_true hq3
     have hspec := litOK_spec ps 0 te.cells hq2
     have hpos := hte'.pos
     have hqs : ∀ (k : Nat) (q : Nat × Value), qs[k]? = some q → q.1 = 0 + k ∧ q.2.cells.size = te.cells := by
      intro k q hk
      have hk' : k < ps.length := by rw [hl]; exact (List.getElem?_eq_some_iff.1 hk).1
      obtain ⟨a, b⟩ := hr k _ q (List.getElem?_eq_getElem hk') hk
      obtain ⟨c1, c2, c3⟩ := hspec k _ (List.getElem?_eq_getElem hk')
      refine ⟨by rw [← a, c1], ?_⟩
      have := (b.cells c2).width
      rw [c3] at this
      simpa using this
     obtain ⟨z0, hz0⟩ : ∃ z0 : Array Value, z0 = (if len * te.cells = 0 then #[] else ze.cells) := ⟨_, rfl⟩
     obtain ⟨out, h1, h2, _, h4⟩ := lit_fill (sz := te.cells) qs 0 ((Array.range (len * te.cells)).map (z0[· % z0.size]!)) hqs (by simp [← hl, hq1])
     have h2' : out.size = len * te.cells := by rw [h2]; simp
     have hlen : len ≤ maxLen := by
      have : len * 1 ≤ len * te.cells := Nat.mul_le_mul_left _ hpos
      simp only [maxLen]
      omega
     have hrun : (Instr.buildSlice t len qs.toArray).run P w = .ok (.slice (some ⟨w.heap.size, 0, none⟩) len len) (w.alloc (.cells out el)) := by
      have hns : ¬ (len * te.cells > 16777216) := by omega
      by_cases hz : len * te.cells = 0
      ·have hz0' : z0 = #[] := by rw [hz0, if_pos hz]
       subst hz0'
       simp [Instr.buildSlice, run_underlying hd, sizeOf, typeInfo, hie, hse, hz, newRow]
       rw [hz] at h1
       simp at h1
       simp [h1]
      ·have hz0' : z0 = ze.cells := by rw [hz0, if_neg hz]
       subst hz0'
       simp [Instr.buildSlice, run_underlying hd, sizeOf, typeInfo, hie, hse, hns, hz, zeroValue, hze, h1, newRow]
     have hseg : ∀ i, i < len → ∃ (q : Nat × Value) (p : Nat × AV), qs[i]? = some q ∧ ps[i]? = some p ∧ ((out.toList.drop (i * te.cells)).take te.cells) = q.2.cells.toList ∧ VRel ρ ro w p.2 q.2 ∧ p.2.plain = true := by
      intro i hi
      have hip : i < ps.length := by omega
      have hiq : i < qs.length := by omega
      refine ⟨qs[i], ps[i], List.getElem?_eq_getElem hiq, List.getElem?_eq_getElem hip, ?_, (hr i _ _ (List.getElem?_eq_getElem hip) (List.getElem?_eq_getElem hiq)).2, (hspec i _ (List.getElem?_eq_getElem hip)).2.1⟩
      have hszq := (hqs i _ (List.getElem?_eq_getElem hiq)).2
      apply List.ext_getElem?
      intro p
      by_cases hp : p < te.cells
      ·rw [seg_get hp]
       have := h4 i _ (List.getElem?_eq_getElem hiq) p hp
       rw [Nat.zero_add] at this
       simpa using this
      ·rw [List.getElem?_take, if_neg hp, List.getElem?_eq_none (by simp; omega)]
     refine ⟨_, _, hrun, ?_⟩
     refine new_vec S hnb hf rfl rfl rfl (by simp) (fun b hb => RowKit.Below.heap_alloc w _ b hb) (fun b hb => by simp [blk] at hb; omega) (xs := out.toList) ⟨by simp [h2'], .inr ⟨w.heap.size, len, out, rfl, Nat.zero_le _, heap_alloc_new w _, Nat.le_refl _, hlen, h2', by rw [List.take_of_length_le]; simp [h2']⟩⟩ (fun u hu => ?_) (fun i hi => ?_)
     ·obtain ⟨p, hp⟩ := List.mem_iff_getElem?.1 hu
      obtain ⟨i, j, hi, hj, _, hg⟩ := seg_cover (by simpa using h2') hp
      obtain ⟨q, p', _, _, a3, a4, a5⟩ := hseg i hi
      rw [a3] at hg
      exact (a4.cells a5).one u (List.mem_iff_getElem?.2 ⟨_, hg⟩)
     ·obtain ⟨q, p', a1, a2, a3, a4, a5⟩ := hseg i hi
      rw [a3]
      have : pget ps i = p'.2 := by rw [pget_map]; simp [List.getD, a2]
      rw [this]
      exact a4.cells a5
  ·cases e
 ·cases e
theorem made_seg {z : Array Value} {n sz i : Nat} (hz : z.size = sz) (hi : i < n) : (((madeCells z (n * sz)).toList.drop (i * sz)).take sz) = z.toList := by
 have hm : i * sz + sz ≤ n * sz := by rw [← Nat.succ_mul]; exact Nat.mul_le_mul_right _ hi
 apply List.ext_getElem?
 intro p
 by_cases hp : p < sz
 ·rw [seg_get hp]
  simp only [madeCells, Array.getElem?_toList, Array.getElem?_map]
  rw [Array.getElem?_range, if_pos (by omega)]
  simp only [Option.map_some]
  have : (i * sz + p) % z.size = p := by
   rw [hz, Nat.add_comm, Nat.add_mul_mod_self_right, Nat.mod_eq_of_lt hp]
  rw [this]
  have hpz : p < z.size := by omega
  simp [hpz]
 ·rw [List.getElem?_take, if_neg hp, List.getElem?_eq_none (by simp; omega)]
theorem evMake_sound {T : Tab} (hT : TabOK P T) (S : Sim mine ρ ro h w) {t nb : Nat} {n m : AV} {out : Out} (e : evMake T t n m nb = some out) (hs : ∀ q ∈ out.sides, q) (hnb : 0 < nb) (hf : ρ nb = none) {x y : Value} (hx : VRel ρ ro w n x) (hy : VRel ρ ro w m y) :
 ∃ v w', (Instr.makeSlice t x y).run P w = .ok v w' ∧ Res mine ρ ro w nb (hput h out.up) out.val v w' := by
 unfold evMake at e
 split at e
 ·rename_i cells bytes el zero n m ht
  split at e
  ·rename_i te hte
   obtain ⟨z, hz, rfl⟩ := Option.map_eq_some_iff.1 e
   have hte' := hT el te hte
   obtain ⟨d, hd, _, hst⟩ := (hT t _ ht).agg
   simp only at hst
   subst hst
   obtain ⟨ie, ze, hie, hse, hbe, hze, hzc⟩ := hte'.info
   have h0 : 0 ≤ n := hs _ (by simp)
   have h1 : m = n := hs (m = n) (by simp)
   have h2 : (te.bytes : Int) * n ≤ 281474976710656 := hs _ (by simp)
   have h3 : n ≤ 9223372036854775807 := hs _ (by simp)
   subst h1
   rw [hx.int_inv, hy.int_inv]
   have hr := run_make (P := P) w t el ie ze hd hie hze .i64 .i64 m m h0 (Int.le_refl _) (by rw [hbe]; exact h2) h3
   rw [hse] at hr
   have hzsz : ze.cells.size = te.cells := by
    have := (hzc ρ ro w).width
    have h4 : ∃ r, takeC te.zero te.cells = some r ∨ True := ⟨[], .inr trivial⟩
    have hw : widthC te.zero = te.cells := hte'.wid
    rw [hw] at this
    simpa using this
   refine ⟨_, _, hr, ?_⟩
   have hlen : m.toNat ≤ maxLen := by simp only [maxLen]; omega
   refine new_vec S hnb hf rfl rfl rfl (by simp) (fun b hb => RowKit.Below.heap_alloc w _ b hb) (fun b hb => by simp [blk] at hb; omega) (xs := (madeCells ze.cells (m.toNat * te.cells)).toList)
    ⟨by simp [size_madeCells], .inr ⟨w.heap.size, m.toNat, _, rfl, Nat.zero_le _, heap_alloc_new w _, Nat.le_refl _, hlen, size_madeCells _ _, by rw [List.take_of_length_le]; simp [size_madeCells]⟩⟩ (fun u hu => ?_) (fun i hi => ?_)
   ·obtain ⟨p, hp⟩ := List.mem_iff_getElem?.1 hu
    obtain ⟨i, j, hi, hj, _, hg⟩ := seg_cover (n := m.toNat) (sz := te.cells) (by simp [size_madeCells]) hp
    rw [made_seg hzsz hi] at hg
    exact (hzc ρ ro w).one u (List.mem_iff_getElem?.2 ⟨_, hg⟩)
   ·rw [made_seg hzsz hi]
    exact ofCells_cells hz (hzc ρ ro w)
  ·cases e
 ·cases e
end
end Go.Eng