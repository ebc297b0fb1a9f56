/- The engine, part 10b: maps: what looking up, laying in and taking out come to. -/
import Derived.Test.YtodnecfgiimclaaEngJ
import Derived.Lib.ConvBytes
import Derived.MapKept
import Derived.WideKeyRuns
import Derived.Maps.RangeRun
set_option linter.unusedSimpArgs false
set_option linter.unusedVariables false
namespace Go.Eng
section
variable {P : Program} {mine : Nat → Prop} {ρ : Env} {ro : Nat → Prop} {h : Heap} {w : World}
def midx : List (List Int × AV) → List Int → Option Nat
 | [], _ => none
 | e :: es, k => bif k == e.1 then some 0 else (midx es k).map (· + 1)
theorem midx_none {k : List Int} : ∀ {es : List (List Int × AV)}, midx es k = none → mget es k = none ∧ (∀ v, mput es k v = es ++ [(k, v)]) ∧ mdel es k = es
 | [], _ => ⟨rfl, fun _ => rfl, rfl⟩
 | e :: es, h => by
   cases hk : (k == e.1) with
   | true => simp [midx, hk] at h
   | false =>
     simp only [midx, hk, cond_false, Option.map_eq_none_iff] at h
     obtain ⟨h1, h2, h3⟩ := midx_none h
     exact ⟨by simp [mget, hk, h1], fun v => by simp [mput, hk, h2], by simp [mdel, hk, h3]⟩
theorem midx_some {k : List Int} : ∀ {es : List (List Int × AV)} {i : Nat}, midx es k = some i →
 ∃ v, es[i]? = some (k, v) ∧ mget es k = some v ∧ (∀ u, mput es k u = es.set i (k, u)) ∧ mdel es k = es.eraseIdx i
 | [], _, h => by simp [midx] at h
 | e :: es, i, h => by
   cases hk : (k == e.1) with
   | true =>
     simp only [midx, hk, cond_true, Option.some.injEq] at h
     subst h
     have e1 : k = e.1 := by simpa using hk
     exact ⟨e.2, by simp [e1], by simp [mget, hk], fun u => by simp [mput, hk], by simp [mdel, hk]⟩
   | false =>
     simp only [midx, hk, cond_false, Option.map_eq_some_iff] at h
     obtain ⟨j, h1, rfl⟩ := h
     obtain ⟨v, h2, h3, h4, h5⟩ := midx_some h1
     exact ⟨v, by simpa using h2, by simp [mget, hk, h3], fun u => by simp [mput, hk, h4], by simp [mdel, hk, h5]⟩
def KeyTy (P : Program) (kt ar : Nat) : Prop :=
 (ar = 1 ∧ P.underlying kt = some (.int .i64)) ∨
 (ar = 2 ∧ (match P.underlying kt with | some (.array _ _) | some (.struct _) => true | _ => false) = true ∧
   ∀ (w : World) (ks : List Int), ks.length = 2 → (∀ (b : Bool), (Instr.checkKey b 10000 kt (keyVal .i64 ks)).run P w = .ok () w) ∧
     ∀ (ks' : List Int), ks'.length = 2 → (Op.equal kt (keyVal .i64 ks) (keyVal .i64 ks')).run P w = .ok (ks == ks') w)
theorem two {α : Type} {l : List α} (h : l.length = 2) : ∃ a b, l = [a, b] := by
 match l, h with
 | [a, b], _ => exact ⟨a, b, rfl⟩
theorem one' {α : Type} {l : List α} (h : l.length = 1) : ∃ a, l = [a] := by
 match l, h with
 | [a], _ => exact ⟨a, rfl⟩
theorem run_check {kt ar : Nat} (K : KeyTy P kt ar) {ks : List Int} (hl : ks.length = ar) (b : Bool) : (Instr.checkKey b 10000 kt (keyVal .i64 ks)).run P w = .ok () w := by
 rcases K with ⟨rfl, hu⟩ | ⟨rfl, _, hc⟩
 ·obtain ⟨a, rfl⟩ := one' hl
  exact MapKept.run_checkKey hu (by simp [MapKept.IsKey, keyVal]) b 9999
 ·exact (hc w ks hl).1 b
def mfind (ms : List MapEntry) (i : Nat) : Option Nat → Option (Nat × Value)
 | none => none
 | some j => some (i + j, (ms[j]?.map (·.val)).getD undef)
theorem run_find {kt ar : Nat} (K : KeyTy P kt ar) {ks : List Int} (hl : ks.length = ar) {ms : List MapEntry} {es : List (List Int × AV)} (hs : ms.length = es.length)
 (hk : ∀ (i : Nat) (m : MapEntry) (e : List Int × AV), ms[i]? = some m → es[i]? = some e → e.1.length = ar ∧ m.key = keyVal .i64 e.1) : (Instr.findKey kt (keyVal .i64 ks) ms).run P w = .ok (mfind ms 0 (midx es ks)) w := by
 rcases K with ⟨rfl, hu⟩ | ⟨rfl, hw, hc⟩
 ·obtain ⟨a, rfl⟩ := one' hl
  have key : ∀ (ms : List MapEntry) (es : List (List Int × AV)) (i : Nat), ms.length = es.length → (∀ (i : Nat) (m : MapEntry) (e : List Int × AV), ms[i]? = some m → es[i]? = some e → e.1.length = 1 ∧ m.key = keyVal .i64 e.1) →
   Instr.findNow (.int .i64) (.int .i64 a) ms i = some (mfind ms i (midx es [a])) := by
   intro ms
   induction ms with
   | nil => intro es i hs _; cases es with
     | nil => rfl
     | cons e es => simp at hs
   | cons m ms ih =>
     intro es i hs hk
     cases es with
     | nil => simp at hs
     | cons e es =>
       obtain ⟨h1, h2⟩ := hk 0 m e rfl rfl
       obtain ⟨c, hc⟩ := one' h1
       have hm : m.key = .int .i64 c := by rw [h2, hc]; rfl
       have := ih es (i + 1) (by simpa using hs) (fun j m' e' a1 a2 => hk (j + 1) m' e' (by simpa using a1) (by simpa using a2))
       simp only [Instr.findNow, hm, Instr.sameNow, if_true]
       have e2 : ([a] == e.1) = (a == c) := by rw [hc]; simp
       cases hac : (a == c) with
       | true => simp [midx, e2, hac, mfind]
       | false =>
         simp only [this, midx, e2, hac, cond_false]
         cases hq : midx es [a] with
         | none => rfl
         | some j => simp [mfind]; omega
  exact MapKept.run_findKey hu (key ms es 0 hs hk)
 ·rw [run_findKey_eq w hw]
  have key : ∀ (ms : List MapEntry) (es : List (List Int × AV)) (i : Nat), ms.length = es.length → (∀ (i : Nat) (m : MapEntry) (e : List Int × AV), ms[i]? = some m → es[i]? = some e → e.1.length = 2 ∧ m.key = keyVal .i64 e.1) →
   (Instr.findAsking kt (keyVal .i64 ks) ms i).run P w = .ok (mfind ms i (midx es ks)) w := by
   intro ms
   induction ms with
   | nil => intro es i hs _; cases es with
     | nil => rfl
     | cons e es => simp at hs
   | cons m ms ih =>
     intro es i hs hk
     cases es with
     | nil => simp at hs
     | cons e es =>
       obtain ⟨h1, h2⟩ := hk 0 m e rfl rfl
       have := ih es (i + 1) (by simpa using hs) (fun j m' e' a1 a2 => hk (j + 1) m' e' (by simpa using a1) (by simpa using a2))
       have q := (hc w ks hl).2 e.1 h1
       rw [← h2] at q
       simp only [Instr.findAsking, Sem.run_bind, q, Result.andThen_ok]
       cases hac : (ks == e.1) with
       | true => simp [midx, hac, mfind]
       | false =>
         simp only [Bool.false_eq_true, if_false, this, midx, hac, cond_false]
         cases hq : midx es ks with
         | none => rfl
         | some j => simp [mfind]; omega
  exact key ms es 0 hs hk
theorem keyAr_sound {T : Tab} (hT : TabOK P T) {kt ar : Nat} (e : keyAr T kt = some ar) : KeyTy P kt ar := by
 unfold keyAr at e
 split at e
 ·rename_i ht
  injection e with e; subst e
  obtain ⟨d, hd, _, hst⟩ := (hT kt _ ht).agg
  simp only at hst; subst hst
  exact .inl ⟨rfl, hd⟩
 ·rename_i ta tb zz ht
  split at e
  ·rename_i ha hb
   injection e with e; subst e
   obtain ⟨d, hd, _, fields, rfl, hfl, hmap, hst, hgd, hnm⟩ := (hT kt _ ht).agg
   have hfo : P.fieldsOf kt = fields := by simp [Program.fieldsOf, hd]
   have hlen : fields.toList.length = 2 := by
    have := congrArg (Option.map List.length) hmap
    simp only [Option.map_some, List.length_map] at this
    have h2 : ∀ (l : List Field) (r : List (Nat × Nat)), l.mapM (fun f => (P.info? f.type).map fun i => (f.offset, i.size)) = some r → r.length = l.length := by
     intro l
     induction l with
     | nil => intro r h; simp at h; subst h; rfl
     | cons a l ih =>
       intro r h
       rw [List.mapM_cons] at h
       simp only [bind, Option.bind_eq_some_iff, pure, Option.some.injEq] at h
       obtain ⟨p, _, q, h3, rfl⟩ := h
       simp [ih q h3]
    have := h2 _ _ hmap
    simpa using this.symm
   obtain ⟨f0, f1, hff⟩ := two hlen
   obtain ⟨da, hda, _, hsta⟩ := (hT ta _ ha).agg
   simp only at hsta; subst hsta
   obtain ⟨db, hdb, _, hstb⟩ := (hT tb _ hb).agg
   simp only at hstb; subst hstb
   obtain ⟨f, a1, a2, a3, _⟩ := hfl 0 0 ta 1 rfl
   obtain ⟨g, b1, b2, b3, _⟩ := hfl 1 1 tb 1 rfl
   have e0 : f0 = f := by
    have : fields.toList[0]? = some f := by simpa using a1
    rw [hff] at this; simpa using this
   have e1 : f1 = g := by
    have : fields.toList[1]? = some g := by simpa using b1
    rw [hff] at this; simpa using this
   subst e0; subst e1
   have n0 := hnm f0 (by rw [hff]; simp)
   have n1 := hnm f1 (by rw [hff]; simp)
   refine .inr ⟨rfl, by simp [hd], fun w ks hk => ⟨fun b => ?_, fun ks' hk' => ?_⟩⟩
   ·obtain ⟨x, y, rfl⟩ := two hk
    have ga : (isAgg f0.type).run P w = .ok false w := by rw [a3]; simp [isAgg, run_underlying hda]
    have gb : (isAgg f1.type).run P w = .ok false w := by rw [b3]; simp [isAgg, run_underlying hdb]
    have p0 : (part f0.type #[Value.int .i64 x, .int .i64 y] f0.offset).run P w = .ok (.int .i64 x) w := by
     unfold part; simp [ga, a2]
    have p1 : (part f1.type #[Value.int .i64 x, .int .i64 y] f1.offset).run P w = .ok (.int .i64 y) w := by
     unfold part; simp [gb, b2]
    have c0 : (Instr.checkKey b 9999 f0.type (.int .i64 x)).run P w = .ok () w := MapKept.run_checkKey (d := .int .i64) (by rw [a3]; exact hda) (by simp [MapKept.IsKey]) b 9998
    have c1 : (Instr.checkKey b 9999 f1.type (.int .i64 y)).run P w = .ok () w := MapKept.run_checkKey (d := .int .i64) (by rw [b3]; exact hdb) (by simp [MapKept.IsKey]) b 9998
    show (Instr.checkKey b (9999 + 1) kt (.agg #[.int .i64 x, .int .i64 y])).run P w = _
    unfold Instr.checkKey
    simp only [Sem.run_bind, run_underlying hd, Result.andThen_ok]
    have hfa : fields = #[f0, f1] := by apply Array.ext'; simpa using hff
    subst hfa
    simp [n0, n1, p0, p1, c0, c1, Result.andThen]
   ·obtain ⟨x, y, rfl⟩ := two hk
    obtain ⟨x', y', rfl⟩ := two hk'
    have r := evEq_sound (P := P) (ρ := fun _ => none) (ro := fun _ => False) (w := w) hT (op := .eql) (t := kt) (cs := [.int .i64 x, .int .i64 y]) (ds := [.int .i64 x', .int .i64 y']) (out := ⟨[], .bool (x == x' && (y == y' && true)), [], []⟩)
     (by simp [evEq, ht, eqFs, arrOf, eqF, ha, hb]) (fun q hq => by cases hq) (us := [.int .i64 x, .int .i64 y]) (vs := [.int .i64 x', .int .i64 y'])
     (.cons _ _ _ _ (.int _ _) rfl (.cons _ _ _ _ (.int _ _) rfl .nil)) (.cons _ _ _ _ (.int _ _) rfl (.cons _ _ _ _ (.int _ _) rfl .nil)) (.tmp 0) (.tmp 0)
    obtain ⟨_, _, _, z, h1, h2⟩ := r
    rw [run_eql_struct] at h1
    have h2 := h2.bool_inv
    subst h2
    have e3 : ([x, y] == [x', y']) = (x == x' && (y == y' && true)) := by
     rw [Bool.eq_iff_iff]; simp
    rw [e3]
    show (Op.equalIn 10000 kt (.agg #[.int .i64 x, .int .i64 y]) (.agg #[.int .i64 x', .int .i64 y'])).run P w = _
    cases hr : (Op.equalIn 10000 kt (.agg #[.int .i64 x, .int .i64 y]) (.agg #[.int .i64 x', .int .i64 y'])).run P w with
    | halt _ _ => simp only [hr, Result.andThen] at h1; cases h1
    | ok b w2 =>
      simp only [hr, Result.andThen] at h1
      injection h1 with h1 h3
      injection h1 with h1
      rw [h1, h3]
  ·cases e
 ·rename_i ta zz ht
  split at e
  ·rename_i hte
   injection e with e; subst e
   obtain ⟨d, hd, _, hst⟩ := (hT kt _ ht).agg
   simp only at hst; subst hst
   obtain ⟨ie, ze, hie, hse, _⟩ := (hT ta _ hte).info
   obtain ⟨de, hde, _, hdi⟩ := (hT ta _ hte).agg
   simp only at hdi; subst hdi
   have h1 := (hT ta _ hte).one rfl
   have hcell : P.cellsOf ta = 1 := by simp only [Program.cellsOf, hie]; exact hse.trans h1
   refine .inr ⟨rfl, by simp [hd], fun w ks hk => ⟨fun b => ?_, fun ks' hk' => ?_⟩⟩
   ·obtain ⟨x, y, rfl⟩ := two hk
    have hae : (isAgg ta).run P w = .ok false w := by
     unfold isAgg
     rw [Sem.run_bind, run_underlying hde w]; simp
    have p0 : (part ta #[Value.int .i64 x, .int .i64 y] 0).run P w = .ok (.int .i64 x) w := by unfold part; simp [hae]
    have p1 : (part ta #[Value.int .i64 x, .int .i64 y] 1).run P w = .ok (.int .i64 y) w := by unfold part; simp [hae]
    have c0 : (Instr.checkKey b 9999 ta (.int .i64 x)).run P w = .ok () w := MapKept.run_checkKey (d := .int .i64) hde (by simp [MapKept.IsKey]) b 9998
    have c1 : (Instr.checkKey b 9999 ta (.int .i64 y)).run P w = .ok () w := MapKept.run_checkKey (d := .int .i64) hde (by simp [MapKept.IsKey]) b 9998
    show (Instr.checkKey b (9999 + 1) kt (.agg #[.int .i64 x, .int .i64 y])).run P w = _
    unfold Instr.checkKey
    simp only [Sem.run_bind, run_underlying hd, Result.andThen_ok]
    simp only [Std.Legacy.Range.forIn_eq_forIn_range', Std.Legacy.Range.size, Nat.sub_zero, Nat.add_one_sub_one, Nat.div_one]
    simp only [show List.range' 0 2 = [0, 1] from rfl, List.forIn_cons, List.forIn_nil, Sem.run_bind, run_sizeOf w hie, hcell, Nat.mul_one, p0, p1, c0, c1, Result.andThen_ok, Sem.run_pure]
   ·obtain ⟨x, y, rfl⟩ := two hk
    obtain ⟨x', y', rfl⟩ := two hk'
    have r := evEq_sound (P := P) (ρ := fun _ => none) (ro := fun _ => False) (w := w) hT (op := .eql) (t := kt) (cs := [.int .i64 x, .int .i64 y]) (ds := [.int .i64 x', .int .i64 y']) (out := ⟨[], .bool (x == x' && y == y'), [], []⟩)
     (by simp [evEq, ht, hte, pureOut]) (fun q hq => by cases hq) (us := [.int .i64 x, .int .i64 y]) (vs := [.int .i64 x', .int .i64 y'])
     (.cons _ _ _ _ (.int _ _) rfl (.cons _ _ _ _ (.int _ _) rfl .nil)) (.cons _ _ _ _ (.int _ _) rfl (.cons _ _ _ _ (.int _ _) rfl .nil)) (.tmp 0) (.tmp 0)
    obtain ⟨_, _, _, z, h1, h2⟩ := r
    rw [run_eql_struct] at h1
    have h2 := h2.bool_inv
    subst h2
    have e3 : ([x, y] == [x', y']) = (x == x' && y == y') := by
     rw [Bool.eq_iff_iff]; simp
    rw [e3]
    show (Op.equalIn 10000 kt (.agg #[.int .i64 x, .int .i64 y]) (.agg #[.int .i64 x', .int .i64 y'])).run P w = _
    cases hr : (Op.equalIn 10000 kt (.agg #[.int .i64 x, .int .i64 y]) (.agg #[.int .i64 x', .int .i64 y'])).run P w with
    | halt _ _ => simp only [hr, Result.andThen] at h1; cases h1
    | ok b w2 =>
      simp only [hr, Result.andThen] at h1
      injection h1 with h1 h3
      injection h1 with h1
      rw [h1, h3]
  ·cases e
 ·cases e
theorem keyOf_sound {v : AV} {ks : List Int} (e : keyOf v = some ks) {x : Value} (hv : VRel ρ ro w v x) : x = keyVal .i64 ks := by
 unfold keyOf at e
 split at e
 ·injection e with e; subst e; exact hv.int_inv
 ·injection e with e; subst e
  obtain ⟨us, rfl, hc⟩ := hv.agg_inv
  cases hc with
  | cons _ _ u us h h1 t =>
    cases t with
    | cons _ _ u2 us2 h2 h21 t2 =>
      cases t2
      rw [h.int_inv, h2.int_inv]; rfl
 ·cases e
theorem formOf_sound {T : Tab} {te : TI} {v u : AV} {sides : List Prop} (e : formOf T te v = some (u, sides)) (hs : ∀ q ∈ sides, q) {x : Value} (hv : VRel ρ ro w v x) : VRel ρ ro w u x := by
 unfold formOf at e
 split at e
 ·injection e with e; injection e with e1 e2; subst e1; subst e2
  rw [← hs _ List.mem_cons_self]; exact hv
 ·injection e with e; injection e with e1 e2; subst e1; subst e2
  rw [← hs _ List.mem_cons_self]; exact hv
 ·obtain ⟨te2, _, e⟩ := Option.map_eq_some_iff.1 e
  injection e with e1 e2; subst e1; subst e2
  rcases hs _ List.mem_cons_self with ⟨b, hb⟩ | hb
  ·rw [hb] at hv
   generalize rsn v = n at *
   generalize rsf v = f at *
   cases hv with
   | rs _ _ cap _ _ a vals hn hm hfull ha hl hc => exact .rs _ _ cap false _ a vals hn hm (fun h => by cases h) ha hl hc
  ·subst hb
   cases hv
   exact .rs _ 0 0 false _ none (fun _ => []) (Nat.le_refl _) (Nat.zero_le _) (fun h => by cases h) (fun h => absurd h (by omega)) (fun i h => absurd h (by omega)) (fun i h => absurd h (by omega))
 ·cases e
theorem map_at (S : Sim mine ρ ro h w) {n r ar : Nat} {es : List (List Int × AV)} (hr : ρ n = some (.map (some r))) (hc : hget h n 0 = some (.map ar es)) :
 ∃ ms clock, w.heap[r]? = some (.map ms clock) ∧ mine r ∧ ¬ ro r ∧ (ms.size = es.length ∧ MB ms clock) ∧ ∀ i (hi : i < ms.size) e, es[i]? = some e → ERel ar ρ ro w e ms[i] := by
 obtain ⟨_, r', ms, clock, h1, h2⟩ := S.cont n 0 _ (name_pos S hr) hc
 rw [hr] at h1
 injection h1 with h1; injection h1 with h1; injection h1 with h1
 subst h1
 exact ⟨ms, clock, h2⟩
theorem maps_at (S : Sim mine ρ ro h w) {n r ar ck : Nat} {es : List (List Int × AV)} {bs : List Nat} (hr : ρ n = some (.map (some r))) (hc : hget h n 0 = some (.maps ar es bs ck)) :
 ∃ ms clock, w.heap[r]? = some (.map ms clock) ∧ mine r ∧ ¬ ro r ∧ (ms.size = es.length ∧ MB ms clock) ∧ ∀ i (hi : i < ms.size) e, es[i]? = some e → ERel ar ρ ro w e ms[i] := by
 obtain ⟨_, r', ms, h1, h2, h3, h4, h5, h6⟩ := S.cont n 0 _ (name_pos S hr) hc
 rw [hr] at h1
 injection h1 with h1; injection h1 with h1; injection h1 with h1
 subst h1
 exact ⟨ms, ck, h2, h3, h4, ⟨h5.1, h5.2.1⟩, h6⟩
theorem map_keys {ms : Array MapEntry} {es : List (List Int × AV)} {ar : Nat} (h6 : ∀ (i : Nat) (hi : i < ms.size) (e : List Int × AV), es[i]? = some e → ERel ar ρ ro w e ms[i]) :
 ∀ (i : Nat) (m : MapEntry) (e : List Int × AV), ms.toList[i]? = some m → es[i]? = some e → e.1.length = ar ∧ m.key = keyVal .i64 e.1 := by
 intro i m e hm he
 obtain ⟨hi, hm⟩ := List.getElem?_eq_some_iff.1 hm
 have := (h6 i (by simpa using hi) e he).key
 rw [← hm]; simpa using this
theorem evLookup_sound {T : Tab} (hT : TabOK P T) (S : Sim mine ρ ro h w) {hr : Rd} {t : Nat} {x i : AV} {ok : Bool} {out : Out} (e : evLookup T hr t x i ok = some out) (hrd : ∀ y ∈ out.rd, hget h y.1 y.2.1 = some y.2.2) (hs : ∀ q ∈ out.sides, q)
 {u v : Value} (hx : VRel ρ ro w x u) (hi : VRel ρ ro w i v) : out.up = [] ∧ ∃ y, (Instr.lookup t u v ok).run P w = .ok y w ∧ VRel ρ ro w out.val y := by
 unfold evLookup at e
 split at e
 ·rename_i kt et _ ht
  obtain ⟨d, hd, _, hst⟩ := (hT t _ ht).agg
  simp only at hst; subst hst
  split at e
  ·rename_i ar ks te hka hko hte
   have K := keyAr_sound hT hka
   have hv := keyOf_sound hko hi
   subst hv
   obtain ⟨ie, ze, hie, hse, hbe, hze, hzc⟩ := (hT et te hte).info
   have hz : ∀ z, ofCells te.und.isAgg te.zero = some z → VRel ρ ro w z ze := by
    intro z hz
    refine ofCells_sound hz (hzc ρ ro w) ?_
    have hag := (hT et te hte).zag ie ze hie hze
    cases ze with
    | agg us => simp only [aggV] at hag; rw [← hag]; simp [Value.cells]
    | _ => simp only [aggV] at hag; rw [← hag]; simp [Value.cells]
   split at e
   ·rename_i z n hzc'
    have hz' := hz z hzc'
    split at e
    ·rename_i ar' es hk
     obtain ⟨hb, e⟩ := bif_some' e
     simp only [Bool.and_eq_true, beq_iff_eq] at hb
     obtain ⟨rfl, hkl⟩ := hb
     obtain ⟨⟨u0, sd⟩, hfo, rfl⟩ := Option.map_eq_some_iff.1 e
     refine ⟨rfl, ?_⟩
     cases hx with
     | mp _ r hr0 =>
       obtain ⟨ms, clock, h2, h3, h4, h5, h6⟩ := map_at S hr0 (hrd (n, 0, .map ar es) (by simp))
       have hf := run_find (P := P) (w := w) K hkl (ms := ms.toList) (by simpa using h5.1) (map_keys h6)
       have hch := fun b => run_check (P := P) (w := w) K hkl b
       have go : ∀ (y : Value) (o : Bool), VRel ρ ro w ((mget es ks).getD z) y → o = (mget es ks).isSome → VRel ρ ro w (bif ok then .tup [u0, .bool (mget es ks).isSome] else u0) (if ok then .tuple #[y, .bool o] else y) := by
        intro y o hy ho
        have := formOf_sound (T := T) hfo hs hy
        cases ok with
        | true => simp only [cond_true, if_true]; rw [← ho]; exact .tup _ [y, .bool o] (.cons _ _ _ _ this (.cons _ _ _ _ (.bool _) .nil))
        | false => simpa using this
       cases hm : midx es ks with
       | none =>
         obtain ⟨g1, _⟩ := midx_none hm
         rw [hm] at hf
         refine ⟨_, ?_, go ze false (by rw [g1]; exact hz') (by rw [g1]; rfl)⟩
         simp only [Instr.lookup, Sem.run_bind, run_underlying hd, Result.andThen_ok, Sem.run_pure, MapKept.run_getObj_map h2, hch, hf, mfind, run_zero hie hze]
       | some j =>
         obtain ⟨v0, g1, g2, _⟩ := midx_some hm
         rw [hm] at hf
         have hj : j < ms.size := by have := (List.getElem?_eq_some_iff.1 g1).1; omega
         have hval := (h6 j hj _ g1).val
         refine ⟨_, ?_, go ms[j].val true (by rw [g2]; exact hval) (by rw [g2]; rfl)⟩
         have : (mfind ms.toList 0 (some j)) = some (j, ms[j].val) := by simp [mfind, hj]
         rw [this] at hf
         simp only [Instr.lookup, Sem.run_bind, run_underlying hd, Result.andThen_ok, Sem.run_pure, MapKept.run_getObj_map h2, hch, hf]
    ·rename_i ar' es bs ck hk
     obtain ⟨hb, e⟩ := bif_some' e
     simp only [Bool.and_eq_true, beq_iff_eq] at hb
     obtain ⟨rfl, hkl⟩ := hb
     obtain ⟨⟨u0, sd⟩, hfo, rfl⟩ := Option.map_eq_some_iff.1 e
     refine ⟨rfl, ?_⟩
     cases hx with
     | mp _ r hr0 =>
       obtain ⟨ms, clock, h2, h3, h4, h5, h6⟩ := maps_at S hr0 (hrd (n, 0, .maps ar es bs ck) (by simp))
       have hf := run_find (P := P) (w := w) K hkl (ms := ms.toList) (by simpa using h5.1) (map_keys h6)
       have hch := fun b => run_check (P := P) (w := w) K hkl b
       have go : ∀ (y : Value) (o : Bool), VRel ρ ro w ((mget es ks).getD z) y → o = (mget es ks).isSome → VRel ρ ro w (bif ok then .tup [u0, .bool (mget es ks).isSome] else u0) (if ok then .tuple #[y, .bool o] else y) := by
        intro y o hy ho
        have := formOf_sound (T := T) hfo hs hy
        cases ok with
        | true => simp only [cond_true, if_true]; rw [← ho]; exact .tup _ [y, .bool o] (.cons _ _ _ _ this (.cons _ _ _ _ (.bool _) .nil))
        | false => simpa using this
       cases hm : midx es ks with
       | none =>
         obtain ⟨g1, _⟩ := midx_none hm
         rw [hm] at hf
         refine ⟨_, ?_, go ze false (by rw [g1]; exact hz') (by rw [g1]; rfl)⟩
         simp only [Instr.lookup, Sem.run_bind, run_underlying hd, Result.andThen_ok, Sem.run_pure, MapKept.run_getObj_map h2, hch, hf, mfind, run_zero hie hze]
       | some j =>
         obtain ⟨v0, g1, g2, _⟩ := midx_some hm
         rw [hm] at hf
         have hj : j < ms.size := by have := (List.getElem?_eq_some_iff.1 g1).1; omega
         have hval := (h6 j hj _ g1).val
         refine ⟨_, ?_, go ms[j].val true (by rw [g2]; exact hval) (by rw [g2]; rfl)⟩
         have : (mfind ms.toList 0 (some j)) = some (j, ms[j].val) := by simp [mfind, hj]
         rw [this] at hf
         simp only [Instr.lookup, Sem.run_bind, run_underlying hd, Result.andThen_ok, Sem.run_pure, MapKept.run_getObj_map h2, hch, hf]
    ·cases e
   ·rename_i z hzc'
    have hz' := hz z hzc'
    obtain ⟨hb, e⟩ := bif_some' e
    simp only [beq_iff_eq] at hb
    injection e with e; subst e
    refine ⟨rfl, ?_⟩
    cases hx
    have hf := run_find (P := P) (w := w) K hb (ms := []) (es := []) rfl (fun i m e h => by simp at h)
    have hch := fun b => run_check (P := P) (w := w) K hb b
    refine ⟨if ok then .tuple #[ze, .bool false] else ze, ?_, ?_⟩
    ·simp only [Instr.lookup, Sem.run_bind, run_underlying hd, Result.andThen_ok, Sem.run_pure, hch, hf, midx, mfind, run_zero hie hze]
    ·cases ok with
     | true => exact .tup _ [ze, .bool false] (.cons _ _ _ _ hz' (.cons _ _ _ _ (.bool _) .nil))
     | false => exact hz'
   ·cases e
  ·cases e
 ·cases e
theorem sole_map (S : Sim mine ρ ro h w) {n r : Nat} (hr : ρ n = some (.map (some r))) : ∀ o c, hget h n o = some c → c.live → o = 0 := by
 intro o c e1 hl
 have h0 := S.cont n o c (name_pos S hr) e1
 cases c with
 | cell v => obtain ⟨b, cs, ty, u, h1, _⟩ := h0; rw [hr] at h1; cases h1
 | arr k f => obtain ⟨b, cs, ty, h1, _⟩ := h0; rw [hr] at h1; cases h1
 | vec sz e k f => exact h0.1
 | top => obtain ⟨b, cs, ty, h1, _⟩ := h0; rw [hr] at h1; cases h1
 | map ar es => exact h0.1
 | maps ar es bs ck => exact h0.1
 | iter m since seen c0 k v => exact h0.1
 | dead => exact hl.elim
theorem map_write (S : Sim mine ρ ro h w) {n r ar clock clock' : Nat} {ms ms' : Array MapEntry} {es es' : List (List Int × AV)} (hr : ρ n = some (.map (some r))) (hc : hget h n 0 = some (.map ar es)) (hb : w.heap[r]? = some (.map ms clock))
 (hz : ms'.size = es'.length) (hB : MB ms' clock') (he : ∀ (i : Nat) (hi : i < ms'.size) (e : List Int × AV), es'[i]? = some e → ERel ar ρ ro w e ms'[i]) :
 Sim mine ρ ro ((n, 0, .map ar es') :: h) { w with heap := w.heap.setIfInBounds r (.map ms' clock') } ∧ Grow ρ ρ ro ro w { w with heap := w.heap.setIfInBounds r (.map ms' clock') } ∧ Step mine w { w with heap := w.heap.setIfInBounds r (.map ms' clock') } := by
 have hn := name_pos S hr
 have hset := MapKept.heap_set (o' := .map ms' clock') hb
 have hsole := sole_map S hr
 obtain ⟨_, _, _, g1, g2, _⟩ := map_at S hr hc
 have hin : ∀ o c, hget ((n, 0, .map ar es') :: h) n o = some c → c.live → o = 0 := fun o c he hl => by
  rcases hget_put n 0 _ h he with ⟨rfl, _⟩ | ⟨_, e1⟩
  ·rfl
  ·exact hsole o c e1 hl
 refine S.write hn hr rfl ⟨0, _, hc, trivial⟩ rfl rfl rfl (by simp) (fun k hk => hset.2 k hk) (fun m o _ hne => hget_ne n 0 _ h hne) (fun gr o c e0 => ?_) (fun o o' c c' e1 e2 hl hl' hlt => ?_)
 ·rcases hget_put n 0 _ h e0 with ⟨rfl, rfl⟩ | ⟨hne, e1⟩
  ·exact ⟨rfl, r, ms', clock', hr, hset.1, g1, g2, ⟨hz, hB⟩, fun i hi e hie => (he i hi e hie).grow gr⟩
  ·by_cases hl : c.live
   ·exact absurd (hsole o c e1 hl) hne
   ·cases c <;> simp [Cont.live] at hl
    trivial
 ·have a1 := hin o c e1 hl
  have a2 := hin o' c' e2 hl'
  omega
theorem MB.push {ms : Array MapEntry} {clock : Nat} (h : MB ms clock) (k v : Value) : MB (ms.push ⟨k, v, clock⟩) (clock + 1) := by
 refine ⟨?_, fun m hm => ?_⟩
 ·simp only [Array.toList_push, List.map_append, List.map_cons, List.map_nil]
  refine List.pairwise_append.2 ⟨h.1, by simp, fun a ha b hb => ?_⟩
  simp only [List.mem_singleton] at hb
  subst hb
  obtain ⟨m, hm, rfl⟩ := List.mem_map.1 ha
  exact h.2 m hm
 ·simp only [Array.toList_push, List.mem_append, List.mem_singleton] at hm
  rcases hm with hm | rfl
  ·have := h.2 m hm; omega
  ·exact Nat.lt_succ_self _
theorem MB.modify {ms : Array MapEntry} {clock : Nat} (h : MB ms clock) (i : Nat) (f : MapEntry → MapEntry) (hb : ∀ e, (f e).born = e.born) : MB (ms.modify i f) clock := by
 have hborn : (ms.modify i f).toList.map (·.born) = ms.toList.map (·.born) := by
  apply List.ext_getElem?
  intro j
  simp only [List.getElem?_map, Array.getElem?_toList, Array.getElem?_modify]
  split
  ·cases ms[j]? <;> simp [hb]
  ·rfl
 refine ⟨hborn ▸ h.1, fun m hm => ?_⟩
 have : m.born ∈ ms.toList.map (·.born) := hborn ▸ List.mem_map_of_mem hm
 obtain ⟨m', h1, h2⟩ := List.mem_map.1 this
 rw [← h2]; exact h.2 m' h1
theorem MB.erase {ms : Array MapEntry} {clock : Nat} (h : MB ms clock) (i : Nat) : MB (ms.eraseIdxIfInBounds i) clock := by
 have hs : (ms.eraseIdxIfInBounds i).toList.Sublist ms.toList := by
  unfold Array.eraseIdxIfInBounds
  split
  ·simp only [Array.toList_eraseIdx]; exact List.eraseIdx_sublist _ _
  ·exact List.Sublist.refl _
 exact ⟨h.1.sublist (hs.map _), fun m hm => h.2 m (hs.subset hm)⟩
theorem sameBits_key {ks : List Int} {ar : Nat} (hl : ks.length = ar) (har : ar = 1 ∨ ar = 2) : Instr.sameBits 10000 (keyVal .i64 ks) (keyVal .i64 ks) = true := by
 rcases har with rfl | rfl
 ·obtain ⟨a, rfl⟩ := one' hl
  simp [keyVal, Instr.sameBits]
 ·obtain ⟨a, b, rfl⟩ := two hl
  simp [keyVal, Instr.sameBits]
theorem KeyTy.ar {kt ar : Nat} (K : KeyTy P kt ar) : ar = 1 ∨ ar = 2 := by
 rcases K with ⟨h, _⟩ | ⟨h, _⟩
 ·exact .inl h
 ·exact .inr h
theorem evMapPut_sound {T : Tab} (hT : TabOK P T) (S : Sim mine ρ ro h w) {hr : Rd} {t n : Nat} {i v : AV} {out : Out} (e : evMapPut T hr t n i v = some out) (hrd : ∀ y ∈ out.rd, hget h y.1 y.2.1 = some y.2.2)
 {u k x : Value} (hu : VRel ρ ro w (.mp n) u) (hi : VRel ρ ro w i k) (hv : VRel ρ ro w v x) :
 out.val = .tup [] ∧ ∃ w', (Instr.mapUpdate t u k x).run P w = .ok () w' ∧ Sim mine ρ ro (hput h out.up) w' ∧ Grow ρ ρ ro ro w w' ∧ Step mine w w' := by
 unfold evMapPut at e
 split at e
 ·rename_i kt et _ ht
  obtain ⟨d, hd, _, hst⟩ := (hT t _ ht).agg
  simp only at hst; subst hst
  split at e
  ·rename_i ar ks ar' es hka hko hk
   have K := keyAr_sound hT hka
   have hkv := keyOf_sound hko hi
   subst hkv
   obtain ⟨hb, e⟩ := bif_some' e
   simp only [Bool.and_eq_true, beq_iff_eq] at hb
   obtain ⟨rfl, hkl⟩ := hb
   injection e with e; subst e
   refine ⟨rfl, ?_⟩
   cases hu with
   | mp _ r hr0 =>
     obtain ⟨ms, clock, h2, h3, h4, h5, h6⟩ := map_at S hr0 (hrd (n, 0, .map ar es) (by simp))
     have hf := run_find (P := P) (w := w) K hkl (ms := ms.toList) (by simpa using h5.1) (map_keys h6)
     have hch := fun b => run_check (P := P) (w := w) K hkl b
     have hget0 := hrd (n, 0, .map ar es) (by simp)
     cases hm : midx es ks with
     | none =>
       obtain ⟨g1, g2, _⟩ := midx_none hm
       rw [hm] at hf
       have := map_write S hr0 hget0 h2 (ms' := ms.push ⟨keyVal .i64 ks, x, clock⟩) (clock' := clock + 1) (es' := mput es ks v) (by rw [g2]; simp [h5.1]) (h5.2.push _ _) (fun j hj e0 he0 => by
        rw [g2, List.getElem?_append] at he0
        split at he0
        ·rename_i hlt
         have hj' : j < ms.size := by omega
         rw [Array.getElem_push_lt hj']
         exact h6 j hj' e0 he0
        ·rename_i hge
         have hj2 : j = ms.size := by simp at hj; omega
         subst hj2
         rw [h5.1, Nat.sub_self] at he0
         injection he0 with he0; subst he0
         simp only [Array.getElem_push_eq]
         exact ⟨⟨hkl, rfl⟩, hv⟩)
       refine ⟨_, ?_, this⟩
       simp only [Instr.mapUpdate, Sem.run_bind, run_underlying hd, Result.andThen_ok, Sem.run_pure, MapKept.run_getObj_map h2, hch, hf, mfind, MapKept.run_setObj_map _ h2]
     | some j =>
       obtain ⟨v0, g1, _, g3, _⟩ := midx_some hm
       rw [hm] at hf
       have hjl : j < es.length := (List.getElem?_eq_some_iff.1 g1).1
       have hj : j < ms.size := by omega
       have hkey : (ms[j]?.map (·.key)).getD (keyVal .i64 ks) = keyVal .i64 ks := by
        have := (h6 j hj _ g1).key.2
        simp [hj, this]
       have hst : (Instr.keyThatStays (keyVal .i64 ks) (keyVal .i64 ks)).run P w = .ok (keyVal .i64 ks) w := by
        simp [Instr.keyThatStays, sameBits_key hkl K.ar]
       have := map_write S hr0 hget0 h2 (ms' := ms.modify j fun e => { e with key := keyVal .i64 ks, val := x }) (clock' := clock) (es' := mput es ks v) (by rw [g3]; simp [h5.1]) (h5.2.modify j _ fun _ => rfl) (fun q hq e0 he0 => by
        have hq' : q < ms.size := by simpa using hq
        rw [g3, List.getElem?_set] at he0
        by_cases hjq : j = q
        ·subst hjq
         rw [if_pos rfl, if_pos hjl] at he0
         injection he0 with he0; subst he0
         simp only [Array.getElem_modify, if_true]
         exact ⟨⟨hkl, rfl⟩, hv⟩
        ·rw [if_neg hjq] at he0
         simp only [Array.getElem_modify, if_neg hjq]
         exact h6 q hq' e0 he0)
       refine ⟨_, ?_, this⟩
       simp only [Instr.mapUpdate, Sem.run_bind, run_underlying hd, Result.andThen_ok, Sem.run_pure, MapKept.run_getObj_map h2, hch, hf, mfind, MapKept.run_setObj_map _ h2, Nat.zero_add, hkey, hst]
  ·cases e
 ·cases e
theorem stamp_some {es : List (List Int × AV)} {ks : List Int} : ∀ {bs : List Nat} {j : Nat}, midx es ks = some j → bs.length = es.length → ∃ b, bs[j]? = some b ∧ stampOf es bs ks = (b : Int) := by
 induction es with
 | nil => intro bs j h; cases h
 | cons e es ih =>
   intro bs j h hl
   cases bs with
   | nil => cases hl
   | cons b bs =>
     cases hk : (ks == e.1) with
     | true =>
       simp only [midx, hk, cond_true, Option.some.injEq] at h
       subst h
       exact ⟨b, rfl, by simp [stampOf, hk]⟩
     | false =>
       simp only [midx, hk, cond_false, Option.map_eq_some_iff] at h
       obtain ⟨i, h1, rfl⟩ := h
       obtain ⟨b', h2, h3⟩ := ih (bs := bs) h1 (by simpa using hl)
       exact ⟨b', by simpa using h2, by simpa [stampOf, hk] using h3⟩
theorem setS_at {v : AV} : ∀ {es : List (List Int × AV)} {bs : List Nat} {j b : Nat} {e : List Int × AV}, bs.Nodup → bs.length = es.length → bs[j]? = some b → es[j]? = some e → setS es bs b v = es.set j (e.1, v)
 | [], bs, j, b, e, _, _, _, he => by simp at he
 | e0 :: es, [], j, b, e, _, hl, _, _ => by simp at hl
 | e0 :: es, b0 :: bs, 0, b, e, hn, hl, hb, he => by
   simp only [List.getElem?_cons_zero, Option.some.injEq] at hb he
   subst hb; subst he
   simp [setS]
 | e0 :: es, b0 :: bs, j + 1, b, e, hn, hl, hb, he => by
   simp only [List.getElem?_cons_succ] at hb he
   have hne : b0 ≠ b := fun h => (List.nodup_cons.1 hn).1 (h ▸ List.mem_iff_getElem?.2 ⟨j, hb⟩)
   have hb2 : ((b0 : Int) == (b : Int)) = false := by simp only [beq_eq_false_iff_ne, ne_eq, Int.natCast_inj]; exact hne
   simp only [setS, hb2, cond_false, List.set_cons_succ]
   rw [setS_at (List.nodup_cons.1 hn).2 (by simpa using hl) hb he]
theorem maps_write (S : Sim mine ρ ro h w) {n r ar ck ck' : Nat} {ms ms' : Array MapEntry} {es es' : List (List Int × AV)} {bs bs' : List Nat} (hr : ρ n = some (.map (some r))) (hc : hget h n 0 = some (.maps ar es bs ck)) (hb : w.heap[r]? = some (.map ms ck))
 (hz : ms'.size = es'.length) (hB : MB ms' ck') (hs : ms'.toList.map (·.born) = bs') (he : ∀ (i : Nat) (hi : i < ms'.size) (e : List Int × AV), es'[i]? = some e → ERel ar ρ ro w e ms'[i]) :
 Sim mine ρ ro ((n, 0, .maps ar es' bs' ck') :: h) { w with heap := w.heap.setIfInBounds r (.map ms' ck') } ∧ Grow ρ ρ ro ro w { w with heap := w.heap.setIfInBounds r (.map ms' ck') } ∧ Step mine w { w with heap := w.heap.setIfInBounds r (.map ms' ck') } := by
 have hn := name_pos S hr
 have hset := MapKept.heap_set (o' := .map ms' ck') hb
 have hsole := sole_map S hr
 obtain ⟨_, _, _, g1, g2, _⟩ := maps_at S hr hc
 have hin : ∀ o c, hget ((n, 0, .maps ar es' bs' ck') :: h) n o = some c → c.live → o = 0 := fun o c he hl => by
  rcases hget_put n 0 _ h he with ⟨rfl, _⟩ | ⟨_, e1⟩
  ·rfl
  ·exact hsole o c e1 hl
 refine S.write hn hr rfl ⟨0, _, hc, trivial⟩ rfl rfl rfl (by simp) (fun k hk => hset.2 k hk) (fun m o _ hne => hget_ne n 0 _ h hne) (fun gr o c e0 => ?_) (fun o o' c c' e1 e2 hl hl' hlt => ?_)
 ·rcases hget_put n 0 _ h e0 with ⟨rfl, rfl⟩ | ⟨hne, e1⟩
  ·exact ⟨rfl, r, ms', hr, hset.1, g1, g2, ⟨hz, hB, hs⟩, fun i hi e hie => (he i hi e hie).grow gr⟩
  ·by_cases hl : c.live
   ·exact absurd (hsole o c e1 hl) hne
   ·cases c <;> simp [Cont.live] at hl
    trivial
 ·have a1 := hin o c e1 hl
  have a2 := hin o' c' e2 hl'
  omega
theorem MB.nodup {ms : Array MapEntry} {ck : Nat} (h : MB ms ck) : (ms.toList.map (·.born)).Nodup := List.nodup_iff_pairwise_ne.2 (h.1.imp fun hab => Nat.ne_of_lt hab)
theorem evMapEntry_sound {T : Tab} (hT : TabOK P T) (S : Sim mine ρ ro h w) {hr : Rd} {t n : Nat} {i : AV} {out : Out} (e : evMapEntry T hr t n i = some out) (hrd : ∀ y ∈ out.rd, hget h y.1 y.2.1 = some y.2.2) (hs : ∀ q ∈ out.sides, q)
 {u k : Value} (hu : VRel ρ ro w (.mp n) u) (hi : VRel ρ ro w i k) :
 ∃ y w', (Instr.mapEntry t u k).run P w = .ok y w' ∧ VRel ρ ro w' out.val y ∧ Sim mine ρ ro (hput h out.up) w' ∧ Grow ρ ρ ro ro w w' ∧ Step mine w w' := by
 unfold evMapEntry at e
 split at e
 ·rename_i mo kt et _ ht
  obtain ⟨d, hd, _, hst⟩ := (hT t _ ht).agg
  simp only at hst; subst hst
  split at e
  ·rename_i ar ks te ar' es bs ck hka hko hte hk
   have K := keyAr_sound hT hka
   have hkv := keyOf_sound hko hi
   subst hkv
   obtain ⟨hb, e⟩ := bif_some' e
   simp only [Bool.and_eq_true, beq_iff_eq] at hb
   obtain ⟨rfl, hkl⟩ := hb
   obtain ⟨ie, ze, hie, hse, hbe, hze, hzc⟩ := (hT et te hte).info
   cases hu with
   | mp _ r hr0 =>
     cases mo with
     | true =>
       simp only [cond_true, Option.some.injEq] at e; subst e
       have hg : mget es ks = some (.vs (n + 1)) := hs _ List.mem_cons_self
       have hget0 := hrd (n, 0, .maps ar es bs ck) (by simp)
       obtain ⟨_, r', ms, q1, h2, h3, h4, ⟨h5, h5b, h5c⟩, h6⟩ := S.cont n 0 _ (name_pos S hr0) hget0
       rw [hr0] at q1; injection q1 with q1; injection q1 with q1; injection q1 with q1; subst q1
       have hf := run_find (P := P) (w := w) K hkl (ms := ms.toList) (by simpa using h5) (map_keys h6)
       have hch := fun b => run_check (P := P) (w := w) K hkl b
       cases hm : midx es ks with
       | none => rw [(midx_none hm).1] at hg; cases hg
       | some j =>
         obtain ⟨v0, g1, g2, _⟩ := midx_some hm
         rw [hm] at hf
         rw [g2] at hg
         injection hg with hg; subst hg
         have hj : j < ms.size := by have := (List.getElem?_eq_some_iff.1 g1).1; omega
         have hE := h6 j hj _ g1
         have hkey : (ms[j]?.map (·.key)).getD (keyVal .i64 ks) = keyVal .i64 ks := by
          have := hE.key.2
          simp [hj, this]
         have hst : (Instr.keyThatStays (keyVal .i64 ks) (keyVal .i64 ks)).run P w = .ok (keyVal .i64 ks) w := by
          simp [Instr.keyThatStays, sameBits_key hkl K.ar]
         obtain ⟨b, b1, b2⟩ := stamp_some (bs := bs) hm (by rw [← h5c, List.length_map]; simpa using h5)
         have hborn : ((ms[j]?).map (·.born)).getD 0 = b := by
          rw [← h5c, List.getElem?_map] at b1
          have : ms.toList[j]? = some ms[j] := by simp [hj]
          rw [this] at b1
          simp at b1
          simp [hj, b1]
         have hbm : (ms.modify j fun e => { e with key := keyVal .i64 ks }).toList.map (·.born) = bs := by
          rw [← h5c]
          apply List.ext_getElem?
          intro q
          simp only [List.getElem?_map, Array.getElem?_toList, Array.getElem?_modify]
          split
          ·cases ms[q]? <;> simp
          ·rfl
         have := maps_write S hr0 hget0 h2 (ms' := ms.modify j fun e => { e with key := keyVal .i64 ks }) (ck' := ck) (es' := es) (bs' := bs) (by simpa using h5) (h5b.modify j _ fun _ => rfl) hbm (fun q hq e0 he0 => by
          have hq' : q < ms.size := by simpa using hq
          have := h6 q hq' e0 he0
          by_cases hjq : j = q
          ·subst hjq
           rw [g1] at he0
           injection he0 with he0; subst he0
           simp only [Array.getElem_modify, if_true]
           exact ⟨⟨hkl, rfl⟩, this.val⟩
          ·simp only [Array.getElem_modify, if_neg hjq]
           exact this)
         refine ⟨.tuple #[ms[j].val, .int .i64 b], _, ?_, ?_, this⟩
         ·have : (mfind ms.toList 0 (some j)) = some (j, ms[j].val) := by simp [mfind, hj]
          rw [this] at hf
          have hborn2 : ((ms[j]?).map (fun x => (x.born : Int))).getD 0 = (b : Int) := by
           rw [Array.getElem?_eq_getElem hj] at hborn ⊢
           simp only [Option.map_some, Option.getD_some] at hborn ⊢
           rw [hborn]
          simp only [Instr.mapEntry, Sem.run_bind, run_underlying hd, Result.andThen_ok, Sem.run_pure, MapKept.run_getObj_map h2, hch, hf, hkey, hst, MapKept.run_setObj_map _ h2, hborn2, goInt]
         ·rw [b2]
          exact .tup _ [ms[j].val, .int .i64 b] (.cons _ _ _ _ (hE.val.grow this.2.1) (.cons _ _ _ _ (.int _ _) .nil))
     | false =>
       simp only [cond_false] at e
       obtain ⟨z, hz, rfl⟩ := Option.map_eq_some_iff.1 e
       have hg : mget es ks = none := hs _ List.mem_cons_self
       have hget0 := hrd (n, 0, .maps ar es bs ck) (by simp)
       obtain ⟨_, r', ms, q1, h2, h3, h4, ⟨h5, h5b, h5c⟩, h6⟩ := S.cont n 0 _ (name_pos S hr0) hget0
       rw [hr0] at q1; injection q1 with q1; injection q1 with q1; injection q1 with q1; subst q1
       have hzv : VRel ρ ro w z ze := by
        refine ofCells_sound hz (hzc ρ ro w) ?_
        have hag := (hT et te hte).zag ie ze hie hze
        cases ze with
        | agg us => simp only [aggV] at hag; rw [← hag]; simp [Value.cells]
        | _ => simp only [aggV] at hag; rw [← hag]; simp [Value.cells]
       have hf := run_find (P := P) (w := w) K hkl (ms := ms.toList) (by simpa using h5) (map_keys h6)
       have hch := fun b => run_check (P := P) (w := w) K hkl b
       cases hm : midx es ks with
       | some j =>
         obtain ⟨v0, g1, g2, _⟩ := midx_some hm
         rw [g2] at hg; cases hg
       | none =>
         rw [hm] at hf
         have := maps_write S hr0 hget0 h2 (ms' := ms.push ⟨keyVal .i64 ks, ze, ck⟩) (ck' := ck + 1) (es' := es ++ [(ks, z)]) (bs' := bs ++ [ck]) (by simp [h5]) (h5b.push _ _) (by simp [h5c]) (fun j hj e0 he0 => by
          rw [List.getElem?_append] at he0
          split at he0
          ·rename_i hlt
           have hj' : j < ms.size := by omega
           rw [Array.getElem_push_lt hj']
           exact h6 j hj' e0 he0
          ·rename_i hge
           have hj2 : j = ms.size := by simp at hj; omega
           subst hj2
           rw [h5, Nat.sub_self] at he0
           injection he0 with he0; subst he0
           simp only [Array.getElem_push_eq]
           exact ⟨⟨hkl, rfl⟩, hzv⟩)
         refine ⟨.tuple #[ze, .int .i64 ck], _, ?_, ?_, this⟩
         ·simp only [Instr.mapEntry, Sem.run_bind, run_underlying hd, Result.andThen_ok, Sem.run_pure, MapKept.run_getObj_map h2, hch, hf, mfind, run_zero hie hze, MapKept.run_setObj_map _ h2, goInt]
         ·exact .tup _ [ze, .int .i64 ck] (.cons _ _ _ _ (hzv.grow this.2.1) (.cons _ _ _ _ (.int _ _) .nil))
  ·cases e
 ·cases e
theorem findIdx_stamp {l : List MapEntry} (hn : (l.map (·.born)).Nodup) {j : Nat} {e0 : MapEntry} (h : l[j]? = some e0) : l.findIdx? (fun e => ((e.born : Nat) : Int) == ((e0.born : Nat) : Int)) = some j := by
 induction l generalizing j with
 | nil => simp at h
 | cons a r ih =>
   simp only [List.map_cons, List.nodup_cons] at hn
   cases j with
   | zero =>
     simp only [List.getElem?_cons_zero, Option.some.injEq] at h
     subst h
     simp [List.findIdx?_cons]
   | succ j =>
     simp only [List.getElem?_cons_succ] at h
     have hne : a.born ≠ e0.born := fun e1 => hn.1 (List.mem_map.2 ⟨e0, List.mem_of_getElem? h, e1.symm⟩)
     have hb : (((a.born : Nat) : Int) == ((e0.born : Nat) : Int)) = false := by
      simp only [beq_eq_false_iff_ne, ne_eq, Int.natCast_inj]
      exact hne
     rw [List.findIdx?_cons, hb]
     simp [ih hn.2 h]
theorem evEntryStore_sound (S : Sim mine ρ ro h w) {hr : Rd} {n t : Nat} {s : Int} {v : AV} {out : Out} (e : evEntryStore hr n s v = some out) (hrd : ∀ y ∈ out.rd, hget h y.1 y.2.1 = some y.2.2) (hs : ∀ q ∈ out.sides, q)
 {u x : Value} (hu : VRel ρ ro w (.mp n) u) (hv : VRel ρ ro w v x) :
 out.val = .tup [] ∧ ∃ w', (Instr.entryStore t u (.int .i64 s) x).run P w = .ok () w' ∧ Sim mine ρ ro (hput h out.up) w' ∧ Grow ρ ρ ro ro w w' ∧ Step mine w w' := by
 unfold evEntryStore at e
 split at e
 ·rename_i ar es bs ck hk
  injection e with e; subst e
  refine ⟨rfl, ?_⟩
  obtain ⟨b, hb1, rfl⟩ : ∃ b ∈ bs, (b : Int) = s := hs _ List.mem_cons_self
  have hget0 := hrd (n, 0, .maps ar es bs ck) (by simp)
  cases hu with
  | mp _ r hr0 =>
    obtain ⟨_, r', ms, q1, h2, h3, h4, ⟨h5, h5b, h5c⟩, h6⟩ := S.cont n 0 _ (name_pos S hr0) hget0
    rw [hr0] at q1; injection q1 with q1; injection q1 with q1; injection q1 with q1; subst q1
    obtain ⟨j, hj⟩ := List.mem_iff_getElem?.1 hb1
    have hjm : j < ms.size := by
     have := (List.getElem?_eq_some_iff.1 hj).1
     rw [← h5c, List.length_map] at this
     simpa using this
    have hje : j < es.length := by omega
    have hborn : ms[j].born = b := by
     rw [← h5c, List.getElem?_map] at hj
     have : ms.toList[j]? = some ms[j] := by simp [hjm]
     rw [this] at hj
     simpa using hj
    have hidx : ms.findIdx? (fun e => (e.born : Int) == (b : Int)) = some j := by
     have := findIdx_stamp (l := ms.toList) h5b.nodup (j := j) (e0 := ms[j]) (by simp [hjm])
     rw [hborn] at this
     rw [← this]
     cases ms; simp
    have hset := setS_at (v := v) (es := es) (e := es[j]) (by rw [← h5c]; exact h5b.nodup) (by rw [← h5c, List.length_map]; simpa using h5) hj (by simp [hje])
    have := maps_write S hr0 hget0 h2 (ms' := ms.modify j fun e => { e with val := x }) (ck' := ck) (es' := setS es bs b v) (bs' := bs) (by rw [hset]; simpa using h5) (h5b.modify j _ fun _ => rfl) (by
     rw [← h5c]
     apply List.ext_getElem?
     intro q
     simp only [List.getElem?_map, Array.getElem?_toList, Array.getElem?_modify]
     split
     ·cases ms[q]? <;> simp
     ·rfl) (fun q hq e0 he0 => by
     have hq' : q < ms.size := by simpa using hq
     rw [hset, List.getElem?_set] at he0
     by_cases hjq : j = q
     ·subst hjq
      rw [if_pos rfl, if_pos hje] at he0
      injection he0 with he0; subst he0
      simp only [Array.getElem_modify, if_true]
      exact ⟨(h6 j hjm es[j] (by simp [hje])).key, hv⟩
     ·rw [if_neg hjq] at he0
      simp only [Array.getElem_modify, if_neg hjq]
      exact h6 q hq' e0 he0)
    refine ⟨_, ?_, this⟩
    simp only [Instr.entryStore, Sem.run_bind, Result.andThen_ok, Sem.run_pure, MapKept.run_getObj_map h2, asInt, asIntOf, hidx, MapKept.run_setObj_map _ h2]
 ·cases e
theorem evMapDel_sound {T : Tab} (hT : TabOK P T) (S : Sim mine ρ ro h w) {hr : Rd} {t n : Nat} {i : AV} {out : Out} (e : evMapDel T hr t n i = some out) (hrd : ∀ y ∈ out.rd, hget h y.1 y.2.1 = some y.2.2)
 {u k : Value} (hu : VRel ρ ro w (.mp n) u) (hi : VRel ρ ro w i k) (ts : List Nat) (ty : Nat) :
 out.val = .tup [] ∧ ∃ w', (Builtin.delete_ (t :: ts).toArray ty #[u, k]).run P w = .ok (.tuple #[]) w' ∧ Sim mine ρ ro (hput h out.up) w' ∧ Grow ρ ρ ro ro w w' ∧ Step mine w w' := by
 unfold evMapDel at e
 split at e
 ·rename_i kt et _ ht
  obtain ⟨d, hd, _, hst⟩ := (hT t _ ht).agg
  simp only at hst; subst hst
  split at e
  ·rename_i ar ks ar' es hka hko hk
   have K := keyAr_sound hT hka
   have hkv := keyOf_sound hko hi
   subst hkv
   obtain ⟨hb, e⟩ := bif_some' e
   simp only [Bool.and_eq_true, beq_iff_eq] at hb
   obtain ⟨rfl, hkl⟩ := hb
   injection e with e; subst e
   refine ⟨rfl, ?_⟩
   cases hu with
   | mp _ r hr0 =>
     obtain ⟨ms, clock, h2, h3, h4, h5, h6⟩ := map_at S hr0 (hrd (n, 0, .map ar es) (by simp))
     have hf := run_find (P := P) (w := w) K hkl (ms := ms.toList) (by simpa using h5.1) (map_keys h6)
     have hch := fun b => run_check (P := P) (w := w) K hkl b
     have hget0 := hrd (n, 0, .map ar es) (by simp)
     cases hm : midx es ks with
     | none =>
       obtain ⟨_, _, g3⟩ := midx_none hm
       rw [hm] at hf
       have := map_write S hr0 hget0 h2 (ms' := ms) (clock' := clock) (es' := mdel es ks) (by rw [g3]; exact h5.1) h5.2 (fun j hj e0 he0 => by
        rw [g3] at he0
        exact h6 j hj e0 he0)
       refine ⟨_, ?_, this⟩
       simp only [Builtin.delete_, Sem.run_bind, run_underlying hd, Result.andThen_ok, Sem.run_pure, MapKept.run_getObj_map h2, hch, hf, mfind, MapKept.run_setObj_map _ h2, List.getElem?_toArray, List.getElem?_cons_zero, List.getElem?_cons_succ]
     | some j =>
       obtain ⟨v0, g1, _, _, g4⟩ := midx_some hm
       rw [hm] at hf
       have hjl : j < es.length := (List.getElem?_eq_some_iff.1 g1).1
       have hj : j < ms.size := by omega
       have hz : (ms.eraseIdxIfInBounds j) = ms.eraseIdx j hj := by unfold Array.eraseIdxIfInBounds; rw [dif_pos hj]
       have := map_write S hr0 hget0 h2 (ms' := ms.eraseIdxIfInBounds j) (clock' := clock) (es' := mdel es ks) (by rw [g4, hz]; simp [h5.1, List.length_eraseIdx, hjl]) (h5.2.erase j) (fun q hq e0 he0 => by
        have hq2 : q < (ms.eraseIdx j hj).size := by rw [← hz]; exact hq
        have hm2 : (ms.eraseIdxIfInBounds j)[q] = (ms.eraseIdx j hj)[q] := by simp only [hz]
        rw [hm2]
        rw [g4, List.getElem?_eraseIdx] at he0
        simp only [Array.getElem_eraseIdx]
        split at he0
        ·rename_i hlt
         rw [dif_pos hlt]
         exact h6 q _ e0 he0
        ·rename_i hge
         rw [dif_neg hge]
         exact h6 (q + 1) _ e0 he0)
       refine ⟨_, ?_, this⟩
       simp only [Builtin.delete_, Sem.run_bind, run_underlying hd, Result.andThen_ok, Sem.run_pure, MapKept.run_getObj_map h2, hch, hf, mfind, MapKept.run_setObj_map _ h2, List.getElem?_toArray, List.getElem?_cons_zero, List.getElem?_cons_succ, Nat.zero_add]
  ·cases e
 ·cases e
theorem Res.newMap (S : Sim mine ρ ro h w) {nb : Nat} (hnb : 0 < nb) (hf : ρ nb = none) (ar : Nat) : Res mine ρ ro w nb ((nb, 0, .map ar []) :: h) (.mp nb) (.map (some w.heap.size)) (w.alloc (.map #[] 0)) := by
 have hn := S.new w.heap.size (Nat.le_refl _)
 have hnew := (MapKept.heap_alloc w (.map #[] 0)).1
 obtain ⟨s, g, st⟩ := S.alloc (h' := (nb, 0, .map ar []) :: h) (w' := w.alloc (.map #[] 0)) (.map (some w.heap.size)) hnb hf (fun b hb => by simp [blk] at hb; omega) rfl rfl rfl (by show w.heap.size ≤ (w.heap.push _).size; simp) (fun b hb => (MapKept.heap_alloc w _).2 b hb)
  (fun m o _ hne => hget_ne nb 0 _ h hne) (fun gr o c e => by
    rcases hget_put nb 0 _ h e with ⟨rfl, rfl⟩ | ⟨hne, e1⟩
    ·exact ⟨rfl, w.heap.size, #[], 0, by simp, hnew, hn.1, hn.2, ⟨rfl, by simp [MB]⟩, fun i hi => by simp at hi⟩
    ·have := fresh_dead S hnb hf e1
     cases c <;> simp [Cont.live] at this
     trivial) (fun o o' c c' e e' hl hl' hlt => by
    have : ∀ o c, hget ((nb, 0, .map ar []) :: h) nb o = some c → c.live → o = 0 := fun o c he hl => by
     rcases hget_put nb 0 _ h he with ⟨rfl, _⟩ | ⟨_, e1⟩
     ·rfl
     ·exact absurd hl (fresh_dead S hnb hf e1)
    have a1 := this o c e hl
    have a2 := this o' c' e' hl'
    omega)
 exact ⟨_, _, g.m, bind1_names (k := 0) (by omega), s, .mp nb _ (by simp), st⟩
theorem Res.newIter (S : Sim mine ρ ro h w) {nb : Nat} (hnb : 0 < nb) (hf : ρ nb = none) {n r : Nat} (ck : Nat) (k v : AV) (hr : ρ n = some (.map (some r))) : Res mine ρ ro w nb ((nb, 0, .iter n ck [] ck k v) :: h) (.it nb) (.pointer (some ⟨w.heap.size, 0, none⟩)) (w.alloc (.mapIter (some r) ck #[] ck)) := by
 have hn := S.new w.heap.size (Nat.le_refl _)
 have hnew := (MapKept.heap_alloc w (.mapIter (some r) ck #[] ck)).1
 have hne0 : n ≠ nb := fun e => by subst e; rw [hf] at hr; cases hr
 obtain ⟨s, g, st⟩ := S.alloc (h' := (nb, 0, .iter n ck [] ck k v) :: h) (w' := w.alloc (.mapIter (some r) ck #[] ck)) (.pointer (some ⟨w.heap.size, 0, none⟩)) hnb hf (fun b hb => by simp [blk] at hb; omega) rfl rfl rfl (by show w.heap.size ≤ (w.heap.push _).size; simp) (fun b hb => (MapKept.heap_alloc w _).2 b hb)
  (fun m o _ hne => hget_ne nb 0 _ h hne) (fun gr o c e => by
    rcases hget_put nb 0 _ h e with ⟨rfl, rfl⟩ | ⟨hne, e1⟩
    ·exact ⟨rfl, w.heap.size, r, by simp, hnew, hn.1, hn.2, by simp [hne0, hr]⟩
    ·have := fresh_dead S hnb hf e1
     cases c <;> simp [Cont.live] at this
     trivial) (fun o o' c c' e e' hl hl' hlt => by
    have : ∀ o c, hget ((nb, 0, .iter n ck [] ck k v) :: h) nb o = some c → c.live → o = 0 := fun o c he hl => by
     rcases hget_put nb 0 _ h he with ⟨rfl, _⟩ | ⟨_, e1⟩
     ·rfl
     ·exact absurd hl (fresh_dead S hnb hf e1)
    have a1 := this o c e hl
    have a2 := this o' c' e' hl'
    omega)
 exact ⟨_, _, g.m, bind1_names (k := 0) (by omega), s, .it nb _ (by simp), st⟩
theorem keyOf_conv {v : AV} {ks : List Int} (e : keyOf v = some ks) : VRel ρ ro w v (keyVal .i64 ks) := by
 unfold keyOf at e
 split at e
 ·injection e with e; subst e; exact .int _ _
 ·injection e with e; subst e
  exact .agg _ [.int .i64 _, .int .i64 _] (.cons _ _ _ _ (.int _ _) rfl (.cons _ _ _ _ (.int _ _) rfl .nil))
 ·cases e
theorem evToStr_sound {T : Tab} (hT : TabOK P T) (S : Sim mine ρ ro h w) {hr : Rd} {src dst e : Nat} {v : AV} {out : Out} (he : evToStr T hr e v = some out) (hrd : ∀ y ∈ out.rd, hget h y.1 y.2.1 = some y.2.2) (hs : ∀ q ∈ out.sides, q)
 (hu1 : P.underlying src = some (.slice e)) (hu2 : P.underlying dst = some .string) {x : Value} (hv : VRel ρ ro w v x) : out.up = [] ∧ ∃ y, (convert src dst x).run P w = .ok y w ∧ VRel ρ ro w out.val y := by
 unfold evToStr at he
 split at he
 ·rename_i sz n f rd ht hsrc
  simp only [Option.some.injEq] at he; subst he
  obtain ⟨d, hd, _, hst⟩ := (hT e _ ht).agg
  simp only at hst; subst hst
  have b1 : n = 0 ∨ sz = 1 := hs _ (by simp)
  have b2 : ∀ i, i < n → f i = .int .u8 (iv (f i)) := hs (∀ i, i < n → f i = .int .u8 (iv (f i))) (by simp)
  obtain ⟨a, c, us, rfl, k2, k3, k4, k5⟩ := (srcOf_sound S hsrc hrd hv).ex
  refine ⟨rfl, .string (mkStr n f), ?_, .str _⟩
  rw [run_convert_bytes_string w src dst e a n c hu1 hd hu2]
  have hus : us = ((List.range n).map fun i => iv (f i)).map (Value.int .u8) := by
   rcases Nat.eq_zero_or_pos n with h0 | h0
   ·subst h0
    have : us = [] := List.eq_nil_of_length_eq_zero (by simpa using k2)
    rw [this]; rfl
   ·have hsz : sz = 1 := b1.resolve_left (by omega)
    subst hsz
    apply List.ext_getElem?
    intro i
    by_cases hi : i < n
    ·have hc := k4 i hi
     rw [b2 i hi] at hc
     have hlt : i < us.length := by omega
     have hseg : ((us.drop (i * 1)).take 1) = [us[i]] := by
      rw [Nat.mul_one, List.drop_eq_getElem_cons hlt]; rfl
     rw [hseg] at hc
     cases hc with
     | cons _ _ u us' h1 _ _ =>
       have := h1.int_inv
       rw [List.getElem?_eq_getElem hlt, this]
       simp [hi]
    ·rw [List.getElem?_eq_none (by omega)]
     simp [hi]
  cases a with
  | none =>
    rcases k5 with h0 | ⟨ad, h1, _⟩
    ·subst h0; rfl
    ·cases h1
  | some ad =>
    refine run_bytesToString w ad n c _ ?_
    rw [← hus]
    have hl : n = us.length := by rw [hus]; simp
    have : ∀ j v, us[j]? = some v → w.cell? (ad.add j) = some v := by
     rcases k5 with h0 | ⟨ad', h1, _, h2⟩
     ·intro j v hj
      have : us = [] := List.eq_nil_of_length_eq_zero (by omega)
      rw [this] at hj; simp at hj
     ·injection h1 with h1; subst h1; exact h2
    have hrun := run_loadCells_list (P := P) (w := w) ad us this
    rw [← hl] at hrun
    exact hrun
 ·cases he
theorem evToBytes_sound {T : Tab} (hT : TabOK P T) (S : Sim mine ρ ro h w) {src dst e nb : Nat} {s : ByteArray} {out : Out} (he : evToBytes T nb e s = some out) (hs : ∀ q ∈ out.sides, q) (hnb : 0 < nb) (hf : ρ nb = none)
 (hu1 : P.underlying src = some .string) (hu2 : P.underlying dst = some (.slice e)) : ∃ y w', (convert src dst (.string s)).run P w = .ok y w' ∧ Res mine ρ ro w nb (hput h out.up) out.val y w' := by
 unfold evToBytes at he
 split at he
 ·rename_i ht
  simp only [Option.some.injEq] at he; subst he
  obtain ⟨d, hd, _, hst⟩ := (hT e _ ht).agg
  simp only at hst; subst hst
  have b1 : s.size ≤ maxLen := hs _ (by simp)
  refine ⟨_, _, Go.Lib.run_convert_string_bytes w src dst e s hu1 hu2 hd, ?_⟩
  have hge := grownCap_ge w s.size 0 e
  have hsz : (Go.Lib.bytesCells w e s).size = grownCap w s.size 0 e := by
   simp only [Go.Lib.bytesCells, Array.size_append, Array.size_map, Array.size_replicate]
   have : s.data.size = s.size := rfl
   omega
  have hl : ((s.data.map fun b => Value.int .u8 b.toNat).toList).length = s.size := by simp
  refine new_vecM S hnb hf rfl rfl rfl (by rw [Go.Lib.bytesWorld_size]; omega) (fun b hb => Go.Lib.bytesWorld_at_old w e s b hb) (fun b hb => by simp [blk] at hb; omega) (xs := (s.data.map fun b => Value.int .u8 b.toNat).toList)
   ⟨by rw [hl]; omega, .inr ⟨w.heap.size, _, _, rfl, Nat.zero_le _, ⟨_, Go.Lib.bytesWorld_at_new w e s, .inr (Nat.le_refl _)⟩, hge, grownCap_le_maxLen w s.size 0 e b1, by rw [hsz, Nat.mul_one], ?_⟩⟩ (fun u hu => ?_) (fun i hi => ?_)
  ·rw [Nat.mul_one]
   simp only [Go.Lib.bytesCells, Array.toList_append]
   rw [List.take_append_of_le_length (by rw [hl]; omega), List.take_of_length_le (by rw [hl]; omega)]
  ·simp only [Array.toList_map, List.mem_map] at hu
   obtain ⟨b, _, rfl⟩ := hu
   rfl
  ·have hi' : i < s.data.toList.length := by simpa using hi
   have hseg : (((s.data.map fun b => Value.int .u8 b.toNat).toList.drop (i * 1)).take 1) = [Value.int .u8 (bt s i)] := by
    rw [Nat.mul_one, Array.toList_map, List.drop_eq_getElem_cons (by simpa using hi)]
    simp only [List.getElem_map, List.take_succ_cons, List.take_zero, List.cons.injEq, and_true, Value.int.injEq, true_and]
    unfold bt
    rw [Int.toNat_natCast, dif_pos hi]
    rfl
   rw [hseg]
   exact .cons _ _ _ _ (.int _ _) rfl .nil
 ·cases he
end
end Go.Eng