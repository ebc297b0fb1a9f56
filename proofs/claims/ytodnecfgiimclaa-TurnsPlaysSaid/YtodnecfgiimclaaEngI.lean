/- The engine, part 9: append, cuts, 'evOp' whole. -/
import Derived.Test.YtodnecfgiimclaaEngH
import Derived.Laws.CopyRow
import Derived.Laws.IdiomCopy
set_option linter.unusedSimpArgs false
set_option linter.unusedVariables false
namespace Go.Eng
section
variable {P : Program} {mine : Nat → Prop} {ρ : Env} {ro : Nat → Prop} {h : Heap} {w : World}
theorem run_append_none {t ty e : Nat} {i : TypeInfo} (ht : P.underlying t = some (.slice e)) (hi : P.info? e = some i) {a : Option Addr} {n cap : Nat} (hnc : n ≤ cap) (b : Option Addr) (c : Nat) :
 (Builtin.append_ #[t, t] ty #[.slice a n cap, .slice b 0 c]).run P w = .ok (.slice a n cap) w := by
 cases a <;> cases b <;> simp [Builtin.append_, run_underlying ht, sizeOf, typeInfo, hi, Builtin.lenOf, hnc, Builtin.firstCells, loadCells, loadCellsFrom, storeCells]
theorem run_copy_rowM (w : World) (dT sT ty elem : TypeId) (g o dLen dCap : Nat) (a : Addr) (sLen sCap : Nat) (cur : Array Value) (t : TypeId) (cs : List Value) (fz : Nat × Nat)
 (hu : P.underlying dT = some (.slice elem)) (hs : (P.info? elem).map (·.size) = some 1)
 (hg : w.heap[g]? = some (.cells cur t fz)) (hfz : fz = (0, 0) ∨ cur.size ≤ fz.1) (hn : cs.length = Nat.min sLen dLen)
 (hsrc : ∀ j v, cs[j]? = some v → w.cell? (a.add j) = some v) (hfit : o + cs.length ≤ cur.size) (h1 : ∀ v ∈ cs, v.oneCell' = true) :
 (Builtin.copy_ #[dT, sT] ty #[.slice (some ⟨g, o, none⟩) dLen dCap, .slice (some a) sLen sCap]).run P w =
   .ok (goInt cs.length) (w.setRow g (cur.toList.take o ++ cs ++ cur.toList.drop (o + cs.length)).toArray) := by
 have hl := run_loadCells_list (P := P) w a cs hsrc
 have hst := run_storeCellsM P g o t fz cs 0 cur w hg hfz (by simpa using hfit) h1
 cases hq : P.info? elem with
 | none => simp [hq] at hs
 | some i =>
   have hi : i.size = 1 := by simpa [hq] using hs
   simp [Builtin.copy_, run_underlying hu, Builtin.lenOf, Builtin.firstCells, sizeOf, typeInfo, hq, hi, ← hn, hl, hst]
theorem run_append_ownM {t ty e : Nat} {i : TypeInfo} {z : Value} (ht : P.underlying t = some (.slice e)) (hi : P.info? e = some i) (hz : i.zero = some z) (hzs : z.cells.size = i.size) (hsz : 0 < i.size) {v : Value} {n : Nat} {xs : List Value} (hown : OwnR w e i.size v n xs)
 {a : Addr} {m c : Nat} {news : List Value} (hl : news.length = m * i.size) (hnews : ∀ j u, news[j]? = some u → w.cell? (a.add j) = some u) (h1 : ∀ u ∈ news, u.oneCell' = true) (h63 : n + m ≤ maxLen) (hb : (n + m) * i.bytes ≤ 140737488355328) :
 ∃ v' w', (Builtin.append_ #[t, t] ty #[v, .slice (some a) m c]).run P w = .ok v' w' ∧ OwnR w' e i.size v' (n + m) (xs ++ news) ∧ w.grownBy w' v.ownBlock := by
 rcases hown.2 with ⟨rfl, rfl⟩ | ⟨g, cap, cur, rfl, hbg, ⟨fz, hg, hfz⟩, hnc, hcm, hcs, htake⟩
 ·have hx : xs = [] := List.eq_nil_of_length_eq_zero (by simpa using hown.1)
  subst hx
  obtain ⟨v', w', r1, r2, r3, _⟩ := run_append_own (P := P) w 0 t ty e i z i.size i.bytes ht hi hz rfl rfl hzs hsz (.slice none 0 0) 0 [] (World.ownsRow_nil w 0 e i.size) a m c news hl hnews h1 h63 hb (Nat.zero_le _)
  exact ⟨v', w', r1, .of r2, r3⟩
 ·have hlen : (xs ++ news).length = (n + m) * i.size := by rw [List.length_append, hown.1, hl, Nat.add_mul]
  have hsmall : n + m ≤ 9223372036854775807 := by simp only [maxLen] at h63; omega
  by_cases hroom : n + m ≤ cap
  ·have hfit : n * i.size + news.length ≤ cur.size := by rw [hl, hcs, ← Nat.add_mul]; exact Nat.mul_le_mul_right _ hroom
   have hf := run_firstCells_some (P := P) w i.size m a m c news hl hnews
   have hst := run_storeCellsM P g (n * i.size) e fz news 0 cur w hg hfz (by simpa using hfit) h1
   simp only [Nat.add_zero] at hst
   have hr : (Builtin.append_ #[t, t] ty #[.slice (some ⟨g, 0, none⟩) n cap, .slice (some a) m c]).run P w = .ok (.slice (some ⟨g, 0, none⟩) (n + m) cap) (w.setRow g (cur.toList.take (n * i.size) ++ news ++ cur.toList.drop (n * i.size + news.length)).toArray) := by
    simp [Builtin.append_, run_underlying ht, sizeOf, typeInfo, hi, Builtin.lenOf, hroom, hf, Addr.add_lit, hst]
   have hsize : (cur.toList.take (n * i.size) ++ news ++ cur.toList.drop (n * i.size + news.length)).toArray.size = cur.size := by
    simp only [List.size_toArray, List.length_append, List.length_take, List.length_drop, Array.length_toList]
    omega
   refine ⟨_, _, hr, ⟨hlen, .inr ⟨g, cap, _, rfl, hbg, ⟨fz, setRow_heap w g cur _ e _ hg, by rw [hsize]; exact hfz⟩, hroom, hcm, by rw [hsize]; exact hcs, ?_⟩⟩, ⟨rfl, rfl, rfl, by simp, fun k _ hk => setRow_other w g k _ (fun e => hk (by simp [Value.ownBlock, e]))⟩⟩
   rw [htake, ← hlen]
   exact List.take_left
  ·have holds : ∀ j u, xs[j]? = some u → w.cell? ((⟨g, 0, none⟩ : Addr).add j) = some u := hown.cells (g := g) rfl
   have hr := run_append_grow (P := P) w t ty e i z ht hi hz ⟨g, 0, none⟩ n cap xs hown.1 holds a m c news hl hnews (by omega) (by omega) (growslice_fits (by omega) hb)
   refine ⟨_, _, hr, ⟨hlen, .inr ⟨w.heap.size, _, _, rfl, Nat.zero_le _, ⟨_, heap_alloc_new w.drew _, .inl rfl⟩, grownCap_ge w (n + m) cap e, grownCap_le_maxLen w (n + m) cap e h63, ?_, ?_⟩⟩, ⟨rfl, rfl, rfl, by simp, fun b hb _ => RowKit.Below.heap_alloc w.drew _ b hb⟩⟩
   ·have hge := grownCap_ge w (n + m) cap e
    simp only [Array.size_append, List.size_toArray, size_zeroCells, hzs, hown.1, hl, ← Nat.add_mul]
    congr 1
    omega
   ·simp only [Array.toList_append, List.append_assoc]
    rw [← List.append_assoc, ← hlen]
    exact List.take_left
theorem append_block {t ty e : Nat} {i : TypeInfo} {z : Value} (ht : P.underlying t = some (.slice e)) (hi : P.info? e = some i) (hz : i.zero = some z) {v : Value} {n : Nat} {xs : List Value} (hown : OwnR w e i.size v n xs)
 {a : Addr} {m c : Nat} {news : List Value} (hl : news.length = m * i.size) (hnews : ∀ j u, news[j]? = some u → w.cell? (a.add j) = some u) (h1 : ∀ u ∈ news, u.oneCell' = true) (h0 : 0 < m)
 (h63 : n + m ≤ maxLen) (hb : (n + m) * i.bytes ≤ 140737488355328) {y : Value} {w' : World} (hr : (Builtin.append_ #[t, t] ty #[v, .slice (some a) m c]).run P w = .ok y w') :
 ∀ b, blk y = some b → blk v = some b ∨ w.heap.size ≤ b := by
 intro b hbl
 have h63' : n + m ≤ 9223372036854775807 := by simp only [maxLen] at h63; omega
 rcases hown.2 with ⟨rfl, rfl⟩ | ⟨g, cap, cur, rfl, hbg, ⟨fz, hg, hfz⟩, hnc, hcm, hcs, htake⟩
 ·rw [Nat.zero_add] at hb h63'
  have hrun := run_append_nil (P := P) w t ty e i z ht hi hz a m c news hl hnews h0 (by omega) (by omega)
  rw [hrun] at hr
  injection hr with hr _
  subst hr
  simp [blk] at hbl
  exact .inr (by omega)
 ·by_cases hroom : n + m ≤ cap
  ·have hfit : n * i.size + news.length ≤ cur.size := by rw [hl, hcs, ← Nat.add_mul]; exact Nat.mul_le_mul_right _ hroom
   have hf := run_firstCells_some (P := P) w i.size m a m c news hl hnews
   have hst := run_storeCellsM P g (n * i.size) e fz news 0 cur w hg hfz (by simpa using hfit) h1
   simp only [Nat.add_zero] at hst
   have hrun : (Builtin.append_ #[t, t] ty #[.slice (some ⟨g, 0, none⟩) n cap, .slice (some a) m c]).run P w = .ok (.slice (some ⟨g, 0, none⟩) (n + m) cap) (w.setRow g (cur.toList.take (n * i.size) ++ news ++ cur.toList.drop (n * i.size + news.length)).toArray) := by
    simp [Builtin.append_, run_underlying ht, sizeOf, typeInfo, hi, Builtin.lenOf, hroom, hf, Addr.add_lit, hst]
   rw [hrun] at hr
   injection hr with hr _
   subst hr
   exact .inl hbl
  ·have holds : ∀ j u, xs[j]? = some u → w.cell? ((⟨g, 0, none⟩ : Addr).add j) = some u := hown.cells (g := g) rfl
   have hrun := run_append_grow (P := P) w t ty e i z ht hi hz ⟨g, 0, none⟩ n cap xs hown.1 holds a m c news hl hnews (by omega) (by omega) (growslice_fits (by omega) hb)
   rw [hrun] at hr
   injection hr with hr _
   subst hr
   simp [blk] at hbl
   exact .inr (by omega)
theorem catF_lt {n : Nat} {f g : Nat → AV} {i : Nat} (h : i < n) : catF n f g i = f i := by
 have : Nat.blt i n = true := by simp [Nat.blt]; omega
 simp [catF, this]
theorem catF_ge {n : Nat} {f g : Nat → AV} {i : Nat} (h : n ≤ i) : catF n f g i = g (i - n) := by
 have : Nat.blt i n = false := by
  cases hb : Nat.blt i n with
  | false => rfl
  | true => simp [Nat.blt] at hb; omega
 simp [catF, this]
theorem seg_append {xs ys : List Value} {n sz i : Nat} (hx : xs.length = n * sz) : ((xs ++ ys).drop (i * sz)).take sz = if i < n then (xs.drop (i * sz)).take sz else (ys.drop ((i - n) * sz)).take sz := by
 split
 ·rename_i hi
  have hm : i * sz + sz ≤ n * sz := by rw [← Nat.succ_mul]; exact Nat.mul_le_mul_right _ hi
  rw [List.drop_append_of_le_length (by omega), List.take_append_of_le_length (by rw [List.length_drop]; omega)]
 ·rename_i hi
  have hm : n * sz ≤ i * sz := Nat.mul_le_mul_right _ (by omega)
  rw [List.drop_append, List.drop_of_length_le (by omega), List.nil_append, hx, Nat.sub_mul]
theorem grown_vec {w' : World} (S : Sim mine ρ ro h w) {nb j : Nat} (hnb : 0 < nb) (hf : ρ nb = none) {x y : Value} {e sz k e' sz' k' : Nat} {f f' : Nat → AV} {ys : List Value} (hj : ρ j = some x) (hc : hget h j 0 = some (.vec sz' e' k' f'))
 (hg : w.grownBy w' (blk x)) (hown : OwnR w' e sz y k ys) (hy : ∀ b, blk y = some b → blk x = some b ∨ w.heap.size ≤ b) (h1 : ∀ u ∈ ys, u.oneCell' = true) (hcr : ∀ i, i < k → CRel ρ ro w (f i).cells ((ys.drop (i * sz)).take sz)) :
 Res mine ρ ro w nb ((nb, 0, .vec sz e k f) :: (j, 0, .dead) :: h) (.vs nb) y w' := by
 have hjn : j ≠ nb := fun e => by subst e; rw [hf] at hj; cases hj
 have hj0 := name_pos S hj
 have hsl : ∃ a l c, y = .slice a l c := by
  rcases hown.2 with ⟨rfl, _⟩ | ⟨_, _, _, rfl, _⟩ <;> exact ⟨_, _, _, rfl⟩
 have hlt := fun b (hb : blk x = some b) => (S.cont j 0 _ hj0 hc).lt (by trivial) hj hb
 have gr : Grow ρ (bind1 ρ nb y) ro ro w w' := ⟨fun m v hv => by
  have : m ≠ nb := fun e => by subst e; rw [hf] at hv; cases hv
  simp [bind1, this, hv], fun _ h => h, fun b hr => hg.block b (S.ro_lt hr) (fun e => (hlt b e.symm).2.2 hr)⟩
 have hnew : ∀ b, w'.heap.size ≤ b → mine b ∧ ¬ ro b := fun b hb => S.new b (Nat.le_trans hg.size hb)
 -- the elder row is dead
 have hsole := sole_vec S hj0 hc
 have hdead : ∀ o c, hget ((j, 0, .dead) :: h) j o = some c → ¬ c.live := by
  intro o c he
  rcases hget_put j 0 _ h he with ⟨_, rfl⟩ | ⟨hne, e1⟩
  ·exact fun h => h
  ·exact fun hl => hne (hsole o c e1 hl)
 have S1 : Sim mine ρ ro ((j, 0, .dead) :: h) w := by
  refine S.at_name (Grow.refl _ _ _) S.new S.zero j (fun m o _ hne => hget_ne j 0 _ h hne) (fun m z b hm hne hl hz hb => ?_) (fun o c he => ?_) (fun m z z' b hm hne hl hz hz' hb hb' hl' => ?_) (fun o o' c c' he he' hl hl' hlt => absurd hl (hdead o c he))
  ·obtain ⟨o, c, e1, e2⟩ := hl
   exact ⟨rfl, ((S.cont m o c hm e1).lt e2 hz hb).2.2⟩
  ·have := hdead o c he
   cases c <;> simp [Cont.live] at this
   trivial
  ·obtain ⟨o, c, e1, e2⟩ := hl'
   exact hdead o c e1 e2
 have hfr : ∀ m z b, 0 < m → m ≠ nb → live ((j, 0, .dead) :: h) m → ρ m = some z → blk z = some b → some b ≠ blk x ∧ b < w.heap.size ∧ ¬ ro b := by
  rintro m z b hm hne ⟨o, c, e1, e2⟩ hz hb
  have hmj : m ≠ j := fun e => by subst e; exact hdead o c e1 e2
  rw [hget_ne j 0 _ h hmj] at e1
  have h2 := (S.cont m o c hm e1).lt e2 hz hb
  exact ⟨fun e => S.dist m j z x b hm hj0 hmj ⟨o, c, e1, e2⟩ ⟨0, _, hc, trivial⟩ hz hj hb e.symm, h2.1, h2.2.2⟩
 have s := S1.at_name (h' := (nb, 0, .vec sz e k f) :: (j, 0, .dead) :: h) gr hnew (by simp [bind1, Nat.ne_of_lt hnb, S.zero]) nb (fun m o _ hne => hget_ne nb 0 _ _ hne) (fun m z b hm hne hl hz hb => by
  obtain ⟨a1, a2, a3⟩ := hfr m z b hm hne hl hz hb
  exact ⟨hg.block b a2 a1, a3⟩) (fun o c he => by
  rcases hget_put nb 0 _ _ he with ⟨rfl, rfl⟩ | ⟨_, e1⟩
  ·refine ⟨rfl, y, ys, by simp [bind1], fun b hb => ?_, hown, h1, fun i hi => (hcr i hi).grow gr⟩
   rcases hy b hb with hx | hge
   ·exact (hlt b hx).2
   ·exact S.new b hge
  ·have := fresh_dead S1 hnb hf e1
   cases c <;> simp [Cont.live] at this
   trivial) (fun m z z' b hm hne hl hz hz' hb hb' _ => by
  simp [bind1] at hz'
  subst hz'
  obtain ⟨a1, a2, a3⟩ := hfr m z b hm hne hl hz hb
  rcases hy b hb' with hx | hge
  ·exact a1 hx.symm
  ·omega) (fun o o' c c' he he' hl hl' hlt => by
  rcases hget_put nb 0 _ _ he with ⟨rfl, rfl⟩ | ⟨_, e1⟩
  ·rcases hget_put nb 0 _ _ he' with ⟨rfl, rfl⟩ | ⟨_, e1'⟩
   ·omega
   ·exact absurd hl' (fresh_dead S1 hnb hf e1')
  ·exact absurd hl (fresh_dead S1 hnb hf e1))
 exact ⟨_, _, gr.m, bind1_names (k := 0) (by omega), s, .vs nb y (by simp [bind1]) hsl, ⟨hg.os, hg.tape, hg.output, hg.size, fun b hb hm => hg.block b hb (fun e => hm (hlt b e.symm).2.1)⟩⟩
theorem evAppend_sound {T : Tab} (hT : TabOK P T) (S : Sim mine ρ ro h w) {ts : List Nat} {hr : Rd} {s x : AV} {nb : Nat} {out : Out} (e : evAppend T ts hr s x nb = some out) (hrd : ∀ y ∈ out.rd, hget h y.1 y.2.1 = some y.2.2) (hs : ∀ q ∈ out.sides, q)
 (hnb : 0 < nb) (hf : ρ nb = none) {vs vx : Value} (hvs : VRel ρ ro w s vs) (hvx : VRel ρ ro w x vx) (ty : Nat) :
 ∃ y w', (Builtin.append_ ts.toArray ty #[vs, vx]).run P w = .ok y w' ∧ Res mine ρ ro w nb (hput h out.up) out.val y w' := by
 unfold evAppend at e
 split at e
 ·rename_i t t'
  cases htt : (t == t') with
  | false => simp [htt] at e
  | true =>
    simp only [htt, cond_true] at e
    simp at htt
    subst htt
    split at e
    ·rename_i cells bytes el zero ht
     split at e
     ·rename_i te sx m g rx hte hsrc
      have hte' := hT el te hte
      obtain ⟨d, hd, _, hst⟩ := (hT t _ ht).agg
      simp only at hst
      subst hst
      obtain ⟨ie, ze, hie, hse, hbe, hze, hzc⟩ := hte'.info
      have hzsz : ze.cells.size = te.cells := by
       have := (hzc ρ ro w).width
       rw [hte'.wid] at this
       simpa using this
      have hpos := hte'.pos
      -- the source
      have src : (∀ y ∈ rx, hget h y.1 y.2.1 = some y.2.2) → (m = 0 ∨ sx = te.cells) → ∃ (a : Option Addr) (c : Nat) (us : List Value), vx = .slice a m c ∧ us.length = m * te.cells ∧ (∀ u ∈ us, u.oneCell' = true) ∧ (∀ i, i < m → CRel ρ ro w (g i).cells ((us.drop (i * te.cells)).take te.cells)) ∧
       (m = 0 ∨ ∃ ad, a = some ad ∧ ∀ j u, us[j]? = some u → w.cell? (ad.add j) = some u) := by
       intro hrx hsz
       obtain ⟨a, c, us, k1, k2, k3, k4, k5⟩ := (srcOf_sound S hsrc hrx hvx).ex
       rcases Nat.eq_zero_or_pos m with h0 | h0
       ·exact ⟨a, c, [], k1, by simp [h0], by simp, fun i hi => by omega, .inl h0⟩
       ·have : sx = te.cells := hsz.resolve_left (by omega)
        subst this
        exact ⟨a, c, us, k1, k2, k3, k4, k5.imp id (fun ⟨ad, e1, _, e2⟩ => ⟨ad, e1, e2⟩)⟩
      split at e
      ·-- onto nil
       simp only [Option.some.injEq] at e
       subst e
       have b1 : m * te.bytes ≤ 140737488355328 := hs _ (by simp)
       have b2 : m ≤ maxLen := hs (m ≤ maxLen) (by simp)
       obtain ⟨a, c, us, rfl, k2, k3, k4, k5⟩ := src hrd (hs _ (by simp))
       cases hvs
       rcases Nat.eq_zero_or_pos m with h0 | h0
       ·subst h0
        have hus : us = [] := List.eq_nil_of_length_eq_zero (by simpa using k2)
        subst hus
        refine ⟨.slice none 0 0, w, run_append_none hd hie (Nat.le_refl _) a c, ?_⟩
        exact new_vec S hnb hf rfl rfl rfl (Nat.le_refl _) (fun _ _ => rfl) (fun b hb => by simp [blk] at hb) (World.ownsRow_nil w 0 el te.cells) (by simp) (fun i hi => by omega)
       ·obtain ⟨ad, rfl, k6⟩ := k5.resolve_left (by omega)
        obtain ⟨y, w', r1, r2, r3, r4⟩ := run_append_own (P := P) w 0 t ty el ie ze te.cells te.bytes hd hie hze hse hbe hzsz hpos (.slice none 0 0) 0 [] (World.ownsRow_nil w 0 el te.cells) ad m c us k2 k6 k3 (by omega) (by rw [Nat.zero_add]; exact b1) (Nat.zero_le _)
        refine ⟨y, w', r1, ?_⟩
        have hblk := append_block hd hie hze (v := .slice none 0 0) (n := 0) (xs := []) (by rw [hse]; exact OwnR.nil w el te.cells) (by rw [hse]; exact k2) k6 k3 h0 (by omega) (by rw [hbe, Nat.zero_add]; exact b1) r1
        simp only [Nat.zero_add, List.nil_append] at r2
        exact new_vec S hnb hf r3.os r3.tape r3.output r3.size (fun b hb => r3.block b hb (by simp [Value.ownBlock])) (fun b hb => (hblk b hb).resolve_left (by simp [blk])) r2 k3 (fun i hi => k4 i hi)
      ·-- onto a row of the call's own
       rename_i j
       split at e
       ·rename_i sz' e' n f hk
        simp only [Option.some.injEq] at e
        subst e
        have b1 : (n + m) * te.bytes ≤ 140737488355328 := hs _ (by simp)
        have b2 : n + m ≤ maxLen := hs (n + m ≤ maxLen) (by simp)
        have b4 : sz' = te.cells := hs (sz' = te.cells) (by simp)
        have b5 : e' = el := hs (e' = el) (by simp)
        subst b5
        obtain ⟨a, c, us, rfl, k2, k3, k4, k5⟩ := src (fun y hy => hrd y (by simp [hy])) (hs _ (by simp))
        cases hvs with
        | vs _ _ hj hsl =>
          have hc := hrd (j, 0, .vec sz' e' n f) (by simp)
          simp only at hc
          obtain ⟨_, x', xs, c1, c2, c3, c4, c5⟩ := S.cont j 0 _ (name_pos S hj) hc
          rw [hj] at c1
          injection c1 with c1
          subst c1
          rw [b4] at c3 c5
          have hseg : ∀ i, i < n + m → CRel ρ ro w (catF n f g i).cells (((xs ++ us).drop (i * te.cells)).take te.cells) := by
           intro i hi
           rw [seg_append c3.1]
           split
           ·rename_i hin
            rw [catF_lt hin]
            exact c5 i hin
           ·rename_i hin
            rw [catF_ge (by omega)]
            exact k4 (i - n) (by omega)
          have hone : ∀ u ∈ xs ++ us, u.oneCell' = true := fun u hu => by
           rcases List.mem_append.1 hu with hu | hu
           ·exact c4 u hu
           ·exact k3 u hu
          have hbo : ∀ v : Value, (∃ a l c, v = .slice a l c) → blk v = v.ownBlock := by
           rintro v ⟨a, l, c, rfl⟩
           cases a <;> rfl
          rcases Nat.eq_zero_or_pos m with h0 | h0
          ·subst h0
           have hus : us = [] := List.eq_nil_of_length_eq_zero (by simpa using k2)
           subst hus
           obtain ⟨aa, ll, cc, rfl⟩ := hsl
           have hnc : ll = n ∧ n ≤ cc := by
            rcases c3.2 with ⟨e1, e2⟩ | ⟨gg, cap, cur, e1, _, _, e3, _⟩
            ·injection e1 with _ e1 e3; omega
            ·injection e1 with _ e1 e4; omega
           obtain ⟨rfl, hnc⟩ := hnc
           refine ⟨.slice aa ll cc, w, run_append_none hd hie hnc a c, ?_⟩
           refine grown_vec (f := catF ll f g) S hnb hf hj hc ⟨rfl, rfl, rfl, Nat.le_refl _, fun _ _ _ => rfl⟩ (by simpa using c3) (fun b hb => .inl hb) c4 (fun i hi => ?_)
           have := hseg i hi
           simpa using this
          ·obtain ⟨ad, rfl, k6⟩ := k5.resolve_left (by omega)
           obtain ⟨y, w', r1, r2, r3⟩ := run_append_ownM (P := P) (w := w) (t := t) (ty := ty) hd hie hze (by rw [hse]; exact hzsz) (by rw [hse]; exact hpos) (v := vs) (n := n) (xs := xs) (by rw [hse]; exact c3) (a := ad) (m := m) (c := c) (news := us) (by rw [hse]; exact k2) k6 k3 b2 (by rw [hbe]; exact b1)
           rw [hse] at r2
           refine ⟨y, w', r1, ?_⟩
           rw [← hbo vs hsl] at r3
           have hblk := append_block hd hie hze (by rw [hse]; exact c3) (by rw [hse]; exact k2) k6 k3 h0 b2 (by rw [hbe]; exact b1) r1
           exact grown_vec (f := catF n f g) S hnb hf hj hc r3 r2 hblk hone hseg
       ·cases e
      ·-- onto a full row that is only read
       unfold evAppFull at e
       split at e
       rotate_left
       ·cases e
       rename_i sz n full f _ _
       rcases Bool.eq_false_or_eq_true full with hfl | hfl
       rotate_left
       ·subst hfl; cases e
       subst hfl
       simp only [cond_true, Option.some.injEq] at e
       subst e
       have b0 : 0 < m := hs (0 < m) (by simp)
       have b1 : (n + m) * te.bytes ≤ 140737488355328 := hs _ (by simp)
       have b2 : n + m ≤ maxLen := hs (n + m ≤ maxLen) (by simp)
       have b3 : sx = te.cells := hs (sx = te.cells) (by simp)
       have b4 : sz = te.cells := hs (sz = te.cells) (by simp)
       obtain ⟨a, c, us, rfl, k2, k3, k4, k5⟩ := src hrd (.inr b3)
       obtain ⟨ad, rfl, k6⟩ := k5.resolve_left (by omega)
       obtain ⟨a', c', xs, e1, c3, c4, c5, c6⟩ := (srcOf_sound (hr := hr) S (x := .rs sz n true f) rfl (fun y hy => by cases hy) hvs).ex
       subst e1
       have hcap : c' = n := by
        cases hvs with
        | rs _ _ cap _ _ _ vals hn hm hfull ha hl hc => exact hfull rfl
       subst hcap
       rw [b4] at c3 c5
       have h63 : ((c' + m : Nat) : Int) ≤ 9223372036854775807 := by simp only [maxLen] at b2; omega
       have hlen : (xs ++ us).length = (c' + m) * te.cells := by rw [List.length_append, c3, k2, Nat.add_mul]
       have grown : ∀ (old : Nat), old < c' + m →
        (w.drew.alloc (.cells (xs.toArray ++ us.toArray ++ Builtin.zeroCells ze.cells (grownCap w (c' + m) old el - (c' + m))) el)).ownsRow 0 el te.cells
          (.slice (some ⟨w.heap.size, 0, none⟩) (c' + m) (grownCap w (c' + m) old el)) (c' + m) (xs ++ us) := by
        intro old ho
        have hge := grownCap_ge w (c' + m) old el
        have hcm : grownCap w (c' + m) old el ≤ maxLen := grownCap_le_maxLen w (c' + m) old el b2
        refine ⟨hlen, .inr ⟨w.heap.size, _, _, rfl, Nat.zero_le _, heap_alloc_new w.drew _, hge, hcm, ?_, ?_⟩⟩
        ·simp only [Array.size_append, List.size_toArray, size_zeroCells, hzsz, c3, k2, ← Nat.add_mul]
         congr 1
         omega
        ·simp only [Array.toList_append, List.append_assoc]
         rw [← List.append_assoc, ← hlen]
         exact List.take_left
       have hseg : ∀ i, i < c' + m → CRel ρ ro w (catF c' f g i).cells (((xs ++ us).drop (i * te.cells)).take te.cells) := by
        intro i hi
        rw [seg_append c3]
        split
        ·rename_i hin
         rw [catF_lt hin]
         exact c5 i hin
        ·rename_i hin
         rw [catF_ge (by omega)]
         exact k4 (i - c') (by omega)
       have hone : ∀ u ∈ xs ++ us, u.oneCell' = true := fun u hu => by
        rcases List.mem_append.1 hu with hu | hu
        ·exact c4 u hu
        ·exact k3 u hu
       have fits : ∀ old, old < c' + m → Builtin.nextslicecap (c' + m) old * ie.bytes ≤ 281474976710656 := fun old ho => growslice_fits ho (by rw [hbe]; exact b1)
       have run : ∃ y w', (Builtin.append_ #[t, t] ty #[.slice a' c' c', .slice (some ad) m c]).run P w = .ok y w' ∧ w'.ownsRow 0 el te.cells y (c' + m) (xs ++ us) ∧ w'.os = w.os ∧ w'.tape = w.tape ∧ w'.output = w.output ∧ w.heap.size ≤ w'.heap.size ∧
        (∀ b, b < w.heap.size → w'.heap[b]? = w.heap[b]?) ∧ ∀ b, blk y = some b → w.heap.size ≤ b := by
        have fin : ∀ (old : Nat), old < c' + m → ∀ y w', y = .slice (some ⟨w.heap.size, 0, none⟩) (c' + m) (grownCap w (c' + m) old el) → w' = (w.drew.alloc (.cells (xs.toArray ++ us.toArray ++ Builtin.zeroCells ze.cells (grownCap w (c' + m) old el - (c' + m))) el)) →
         w'.ownsRow 0 el te.cells y (c' + m) (xs ++ us) ∧ w'.os = w.os ∧ w'.tape = w.tape ∧ w'.output = w.output ∧ w.heap.size ≤ w'.heap.size ∧ (∀ b, b < w.heap.size → w'.heap[b]? = w.heap[b]?) ∧ ∀ b, blk y = some b → w.heap.size ≤ b := by
         rintro old ho y w' rfl rfl
         exact ⟨grown old ho, rfl, rfl, rfl, by simp, fun k hk => RowKit.Below.heap_alloc w.drew _ k hk, fun b hb => by simp [blk] at hb; omega⟩
        by_cases hn0 : c' = 0
        ·subst hn0
         have hxs : xs = [] := List.eq_nil_of_length_eq_zero (by simpa using c3)
         subst hxs
         cases a' with
         | none =>
           have hr0 := run_append_nil (P := P) w t ty el ie ze hd hie hze ad m c us (by rw [hse]; exact k2) k6 b0 (by simpa using h63) (by rw [hbe]; simp only [Nat.zero_add] at b1; omega)
           refine ⟨_, _, hr0, ?_⟩
           have := fin 0 (by omega) _ _ rfl rfl
           simpa using this
         | some b =>
           have hr0 := run_append_grow (P := P) w t ty el ie ze hd hie hze b 0 0 [] (by simp) (fun j v hj => by simp at hj) ad m c us (by rw [hse]; exact k2) k6 (by omega) h63 (fits 0 (by omega))
           exact ⟨_, _, hr0, fin 0 (by omega) _ _ rfl rfl⟩
        ·obtain ⟨b, rfl, _, c7⟩ := c6.resolve_left hn0
         have hr0 := run_append_grow (P := P) w t ty el ie ze hd hie hze b c' c' xs (by rw [hse]; exact c3) c7 ad m c us (by rw [hse]; exact k2) k6 (by omega) h63 (fits c' (by omega))
         exact ⟨_, _, hr0, fin c' (by omega) _ _ rfl rfl⟩
       obtain ⟨y, w', r1, r2, r3, r4, r5, r6, r7, r8⟩ := run
       exact ⟨y, w', r1, new_vec S hnb hf r3 r4 r5 r6 r7 r8 r2 hone hseg⟩
     ·cases e
    ·cases e
 ·cases e
theorem evCopy_sound {T : Tab} (hT : TabOK P T) (S : Sim mine ρ ro h w) {ts : List Nat} {hr : Rd} {d x : AV} {nb : Nat} {out : Out} (e : evCopy T ts hr d x = some out) (hrd : ∀ y ∈ out.rd, hget h y.1 y.2.1 = some y.2.2) (hs : ∀ q ∈ out.sides, q)
 {vd vx : Value} (hvd : VRel ρ ro w d vd) (hvx : VRel ρ ro w x vx) (ty : Nat) :
 ∃ y w', (Builtin.copy_ ts.toArray ty #[vd, vx]).run P w = .ok y w' ∧ Res mine ρ ro w nb (hput h out.up) out.val y w' := by
 unfold evCopy at e
 split at e
 ·rename_i t t2 j
  split at e
  ·rename_i cells bytes el zero sz e' n f sx m g rx ht hk hsrc
   split at e
   ·rename_i te hte
    simp only [Option.some.injEq] at e
    subst e
    have b1 : sz = 1 := hs _ (by simp)
    have b2 : te.cells = 1 := hs (te.cells = 1) (by simp)
    have b3 : m = n := hs (m = n) (by simp)
    have b4 : m = 0 ∨ sx = 1 := hs (m = 0 ∨ sx = 1) (by simp)
    subst b1; subst b3
    obtain ⟨dd, hd, _, hst⟩ := (hT t _ ht).agg
    simp only at hst
    subst hst
    obtain ⟨ie, ze, hie, hse, hbe, hze, hzc⟩ := (hT el te hte).info
    have hsz : (P.info? el).map (·.size) = some 1 := by rw [hie]; simp [hse, b2]
    obtain ⟨a, c, us, rfl, k2, k3, k4, k5⟩ := (srcOf_sound S hsrc (fun y hy => hrd y (by simp [hy])) hvx).ex
    have hc := hrd (j, 0, .vec 1 e' m f) (by simp)
    simp only at hc
    cases hvd with
    | vs _ _ hj hsl =>
      obtain ⟨_, x', xs, c1, c2, c3, c4, c5⟩ := S.cont j 0 _ (name_pos S hj) hc
      rw [hj] at c1
      injection c1 with c1
      subst c1
      rcases Nat.eq_zero_or_pos m with h0 | h0
      ·subst h0
       obtain ⟨aa, ll, cc, rfl⟩ := hsl
       have hll : ll = 0 := by
        rcases c3.2 with ⟨e1, _⟩ | ⟨gg, cap, cur, e1, _⟩
        ·injection e1
        ·injection e1
       subst hll
       have hrun := run_copy_none (P := P) w t t2 ty el aa a 0 cc 0 c hd hsz (by rfl)
       refine ⟨_, _, hrun, ρ, ro, .refl _ _ _ _, fun _ hn => absurd rfl hn, ?_, .int _ _, .refl _ _⟩
       have get : ∀ p o c', hget (hput h [(j, 0, Cont.vec 1 e' 0 g)]) p o = some c' → ((p = j ∧ o = 0 ∧ c' = .vec 1 e' 0 g) ∨ (¬ (p = j ∧ o = 0) ∧ hget h p o = some c')) := by
        intro p o c' he
        simp only [hput] at he
        rw [hget_cons] at he
        split at he
        ·rename_i hh; obtain ⟨rfl, rfl⟩ := hh; injection he with he; exact .inl ⟨rfl, rfl, he.symm⟩
        ·rename_i hh; exact .inr ⟨fun q => hh ⟨q.1.symm, q.2.symm⟩, he⟩
       have back : ∀ p o c', hget (hput h [(j, 0, Cont.vec 1 e' 0 g)]) p o = some c' → c'.live → ∃ d, hget h p o = some d ∧ d.live ∧ d.wd = c'.wd := by
        intro p o c' he hl
        rcases get p o c' he with ⟨rfl, rfl, rfl⟩ | ⟨_, e2⟩
        ·exact ⟨_, hc, trivial, rfl⟩
        ·exact ⟨_, e2, hl, rfl⟩
       refine ⟨fun p o c' hp he => ?_, fun p q y z b hp hq hne hl hl' => ?_, S.new, S.zero, fun p o o' c1 c2 hp h1 h2 l1 l2 hlt => ?_⟩
       ·rcases get p o c' he with ⟨rfl, rfl, rfl⟩ | ⟨_, e2⟩
        ·exact ⟨rfl, _, xs, hj, c2, c3, c4, fun i hi => absurd hi (Nat.not_lt_zero _)⟩
        ·exact S.cont p o c' hp e2
       ·obtain ⟨o, c', e1, e2⟩ := hl
        obtain ⟨o', c'', e3, e4⟩ := hl'
        obtain ⟨d1, f1, f2, _⟩ := back p o c' e1 e2
        obtain ⟨d2, f3, f4, _⟩ := back q o' c'' e3 e4
        exact S.dist p q y z b hp hq hne ⟨o, d1, f1, f2⟩ ⟨o', d2, f3, f4⟩
       ·obtain ⟨d1, f1, f2, f3⟩ := back p o c1 h1 l1
        obtain ⟨d2, f4, f5, _⟩ := back p o' c2 h2 l2
        rw [← f3]
        exact S.lay p o o' d1 d2 hp f1 f4 f2 f5 hlt
      ·have hsx : sx = 1 := b4.resolve_left (by omega)
       subst hsx
       obtain ⟨ad, rfl, _, k6⟩ := k5.resolve_left (by omega)
       rcases c3.2 with ⟨rfl, h9⟩ | ⟨gg, cap, cur, rfl, hbase, ⟨fz, hg, hfz⟩, hkc, hcm, hcs, htake⟩
       ·omega
       rw [Nat.mul_one] at k2 hcs htake
       have hrun := run_copy_rowM (P := P) w t t2 ty el gg 0 m cap ad m c cur e' us fz hd hsz hg hfz (by rw [k2]; exact (Nat.min_self m).symm) k6 (by omega) k3
       have hnl : (cur.toList.take 0 ++ us ++ cur.toList.drop (0 + us.length)).length = cur.size := by simp; omega
       have htk : (cur.toList.take 0 ++ us ++ cur.toList.drop (0 + us.length)).take (m * 1) = us := by
        rw [List.take_zero, List.nil_append, Nat.mul_one, List.take_append_of_le_length (by omega), List.take_of_length_le (by omega)]
       obtain ⟨r1, r2, r3⟩ := vec_write (f' := g) S hj hc hg hfz hnl (fun u hu => by rw [htk] at hu; exact k3 u hu) (fun gr i hi => by rw [htk]; exact (k4 i hi).grow gr)
       refine ⟨_, _, hrun, ρ, ro, r2.m, fun _ hn => absurd rfl hn, r1, ?_, r3⟩
       rw [k2]; exact .int _ _
   ·cases e
  ·cases e
 ·cases e
end
end Go.Eng