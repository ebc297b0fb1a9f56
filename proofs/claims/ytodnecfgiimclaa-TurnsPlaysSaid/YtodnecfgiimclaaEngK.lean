/- The engine, part 11: what an operation says it read it did read. -/
import Derived.Test.YtodnecfgiimclaaEngZ
set_option linter.unusedSimpArgs false
set_option linter.unusedVariables false
namespace Go.Eng
def RdOK (hr : Rd) (out : Out) : Prop := ∀ x ∈ out.rd, hr x.1 x.2.1 = some x.2.2
theorem RdOK.nil {hr : Rd} {s : List Prop} {v : AV} {u : List (Nat × Nat × Cont)} : RdOK hr ⟨s, v, [], u⟩ := fun x hx => by cases hx
theorem RdOK.one {hr : Rd} {s : List Prop} {v : AV} {u : List (Nat × Nat × Cont)} {n o : Nat} {c : Cont} (h : hr n o = some c) : RdOK hr ⟨s, v, [(n, o, c)], u⟩ := fun x hx => by
 simp at hx; subst hx; exact h
theorem gather_rd {hr : Rd} {n : Nat} : ∀ (fuel off left : Nat) (r : List AV × List (Nat × Nat × Cont)), gather hr n fuel off left = some r → ∀ x ∈ r.2, hr x.1 x.2.1 = some x.2.2 := by
 intro fuel
 induction fuel with
 | zero =>
   intro off left r e x hx
   cases left with
   | zero => simp [gather] at e; subst e; cases hx
   | succ l => simp [gather] at e
 | succ fuel ih =>
   intro off left r e x hx
   cases left with
   | zero => simp [gather] at e; subst e; cases hx
   | succ l =>
     simp only [gather] at e
     split at e
     ·rename_i v hv
      obtain ⟨r', h1, rfl⟩ := Option.map_eq_some_iff.1 e
      rcases List.mem_cons.1 hx with rfl | hx
      ·exact hv
      ·exact ih _ _ r' h1 x hx
     ·rename_i k f hv
      cases hb : Nat.ble k (l + 1) with
      | false => simp [hb] at e
      | true =>
        simp only [hb, cond_true] at e
        obtain ⟨r', h1, rfl⟩ := Option.map_eq_some_iff.1 e
        rcases List.mem_cons.1 hx with rfl | hx
        ·exact hv
        ·exact ih _ _ r' h1 x hx
     ·cases e
theorem bif_some {α : Type} {c : Bool} {x : Option α} {y : α} (e : (bif c then x else none) = some y) : c = true ∧ x = some y := by
 cases c with
 | false => cases e
 | true => exact ⟨rfl, e⟩
theorem pure_rd {hr : Rd} {v : AV} {out : Out} (e : pureOut v = some out) : RdOK hr out := by
 simp only [pureOut, Option.some.injEq] at e; subst e; exact .nil
theorem evLoad_rd {T : Tab} {hr : Rd} {t : Nat} {p : AV} {out : Out} (e : evLoad T hr t p = some out) : RdOK hr out := by
 unfold evLoad at e
 split at e
 ·cases e
 ·split at e
  ·obtain ⟨r, h1, h2⟩ := Option.bind_eq_some_iff.1 e
   obtain ⟨v, _, rfl⟩ := Option.map_eq_some_iff.1 h2
   exact gather_rd _ _ _ r h1
  ·split at e
   ·rename_i hk
    obtain ⟨_, h2⟩ := bif_some e
    injection h2 with h2; subst h2; exact .one hk
   ·cases e
  ·split at e
   ·rename_i hk
    obtain ⟨r, h1, h2⟩ := Option.bind_eq_some_iff.1 e
    obtain ⟨v, _, rfl⟩ := Option.map_eq_some_iff.1 h2
    exact .one hk
   ·cases e
  ·obtain ⟨r, h1, h2⟩ := Option.bind_eq_some_iff.1 e
   obtain ⟨v, _, rfl⟩ := Option.map_eq_some_iff.1 h2
   exact .nil
  ·cases e
theorem evStore_rd {T : Tab} {hr : Rd} {t : Nat} {p x : AV} {out : Out} (e : evStore T hr t p x = some out) : RdOK hr out := by
 unfold evStore at e
 split at e
 ·cases e
 ·split at e
  ·obtain ⟨r, h1, h2⟩ := Option.bind_eq_some_iff.1 e
   obtain ⟨_, h3⟩ := bif_some h2
   injection h3 with h3; subst h3; exact gather_rd _ _ _ r h1
  ·split at e
   ·rename_i hk
    obtain ⟨_, h2⟩ := bif_some e
    injection h2 with h2; subst h2; exact .one hk
   ·cases e
  ·split at e
   ·rename_i hk
    obtain ⟨r, h1, h2⟩ := Option.bind_eq_some_iff.1 e
    obtain ⟨v, _, rfl⟩ := Option.map_eq_some_iff.1 h2
    exact .one hk
   ·cases e
  ·cases e
theorem evField_rd {T : Tab} {hr : Rd} {t j : Nat} {p : AV} {out : Out} (e : evField T t p j = some out) : RdOK hr out := by
 unfold evField at e
 split at e
 ·split at e
  ·cases e
  ·split at e
   ·exact pure_rd e
   ·exact pure_rd e
   ·obtain ⟨r, _, h2⟩ := Option.bind_eq_some_iff.1 e; exact pure_rd h2
   ·cases e
 ·cases e
theorem srcOf_rd {hr : Rd} {x : AV} {r : Nat × Nat × (Nat → AV) × List (Nat × Nat × Cont)} (e : srcOf hr x = some r) : ∀ y ∈ r.2.2.2, hr y.1 y.2.1 = some y.2.2 := by
 unfold srcOf at e
 split at e
 ·injection e with e; subst e; simp
 ·injection e with e; subst e; simp
 ·split at e
  ·rename_i hk; injection e with e; subst e; simpa using hk
  ·cases e
 ·split at e
  ·rename_i hk; obtain ⟨_, e⟩ := bif_some e; injection e with e; subst e; simpa using hk
  ·cases e
 ·cases e
theorem evAppend_rd {T : Tab} {ts : List Nat} {hr : Rd} {s x : AV} {nb : Nat} {out : Out} (e : evAppend T ts hr s x nb = some out) : RdOK hr out := by
 unfold evAppend at e
 split at e
 ·rename_i t t'
  cases htt : (t == t') with
  | false => simp [htt] at e
  | true =>
    simp only [htt, cond_true] at e
    split at e
    ·split at e
     ·rename_i hsrc
      have hrx := srcOf_rd hsrc
      split at e
      ·simp only [Option.some.injEq] at e; subst e; exact hrx
      ·split at e
       ·rename_i hk
        simp only [Option.some.injEq] at e; subst e
        intro y hy
        rcases List.mem_cons.1 hy with rfl | hy
        ·exact hk
        ·exact hrx y hy
       ·cases e
      ·unfold evAppFull at e
       split at e
       ·obtain ⟨_, e⟩ := bif_some e
        injection e with e; subst e; exact hrx
       ·cases e
     ·cases e
    ·cases e
 ·cases e
theorem evCut_rd {T : Tab} {hr : Rd} {t j nb : Nat} {lo hi mx : Option Int} {out : Out} (e : evCut T hr t j lo hi mx nb = some out) : RdOK hr out := by
 unfold evCut at e
 split at e
 ·rename_i hk
  split at e
  ·simp only [Option.some.injEq] at e; subst e; exact .one hk
  ·cases e
 ·cases e
theorem evPart_rd {T : Tab} {hr : Rd} {t j nb : Nat} {lo hi mx : Option Int} {out : Out} (e : evPart T hr t j lo hi mx nb = some out) : RdOK hr out := by
 unfold evPart at e
 split at e
 ·unfold evSub at e
  split at e
  ·rename_i hk
   split at e
   ·simp only [Option.some.injEq] at e; subst e; exact .one hk
   ·cases e
  ·cases e
 ·exact evCut_rd e
theorem evLookup_rd {T : Tab} {hr : Rd} {t : Nat} {x i : AV} {ok : Bool} {out : Out} (e : evLookup T hr t x i ok = some out) : RdOK hr out := by
 unfold evLookup at e
 split at e
 ·split at e
  ·split at e
   ·split at e
    ·rename_i hk
     obtain ⟨_, e⟩ := bif_some e
     obtain ⟨_, _, rfl⟩ := Option.map_eq_some_iff.1 e
     exact .one hk
    ·rename_i hk
     obtain ⟨_, e⟩ := bif_some e
     obtain ⟨_, _, rfl⟩ := Option.map_eq_some_iff.1 e
     exact .one hk
    ·cases e
   ·obtain ⟨_, e⟩ := bif_some e
    injection e with e; subst e; exact .nil
   ·cases e
  ·cases e
 ·cases e
theorem evMapPut_rd {T : Tab} {hr : Rd} {t n : Nat} {i v : AV} {out : Out} (e : evMapPut T hr t n i v = some out) : RdOK hr out := by
 unfold evMapPut at e
 split at e
 ·split at e
  ·rename_i hk
   obtain ⟨_, e⟩ := bif_some e
   injection e with e; subst e; exact .one hk
  ·cases e
 ·cases e
theorem evMapEntry_rd {T : Tab} {hr : Rd} {t n : Nat} {i : AV} {out : Out} (e : evMapEntry T hr t n i = some out) : RdOK hr out := by
 unfold evMapEntry at e
 split at e
 ·rename_i mo _ _ _ _
  split at e
  ·rename_i hk
   obtain ⟨_, e⟩ := bif_some e
   cases mo with
   | true => injection e with e; subst e; exact .one hk
   | false => obtain ⟨_, _, rfl⟩ := Option.map_eq_some_iff.1 e; exact .one hk
  ·cases e
 ·cases e
theorem evEntryStore_rd {hr : Rd} {n : Nat} {s : Int} {v : AV} {out : Out} (e : evEntryStore hr n s v = some out) : RdOK hr out := by
 unfold evEntryStore at e
 split at e
 ·rename_i hk
  injection e with e; subst e; exact .one hk
 ·cases e
theorem evMapDel_rd {T : Tab} {hr : Rd} {t n : Nat} {i : AV} {out : Out} (e : evMapDel T hr t n i = some out) : RdOK hr out := by
 unfold evMapDel at e
 split at e
 ·split at e
  ·rename_i hk
   obtain ⟨_, e⟩ := bif_some e
   injection e with e; subst e; exact .one hk
  ·cases e
 ·cases e
theorem evCopy_rd {T : Tab} {ts : List Nat} {hr : Rd} {d x : AV} {out : Out} (e : evCopy T ts hr d x = some out) : RdOK hr out := by
 unfold evCopy at e
 split at e
 ·split at e
  ·rename_i hk hsrc
   split at e
   ·simp only [Option.some.injEq] at e
    subst e
    intro y hy
    rcases List.mem_cons.1 hy with rfl | hy
    ·exact hk
    ·exact srcOf_rd hsrc y hy
   ·cases e
  ·cases e
 ·cases e
theorem evBuiltin_rd {T : Tab} {ts : List Nat} {b : Builtin} {hr : Rd} {vs : List AV} {nb : Nat} {out : Out} (e : evBuiltin T ts b hr vs nb = some out) : RdOK hr out := by
 unfold evBuiltin at e
 split at e
 ·split at e
  ·split at e
   ·exact pure_rd e
   ·exact pure_rd e
   ·exact pure_rd e
   ·split at e
    ·rename_i hk; simp only [Option.some.injEq] at e; subst e; exact .one hk
    ·cases e
   ·split at e
    ·rename_i hk; simp only [Option.some.injEq] at e; subst e; exact .one hk
    ·cases e
   ·exact pure_rd e
   ·cases e
  ·cases e
 ·exact pure_rd e
 ·exact pure_rd e
 ·exact evAppend_rd e
 ·exact evCopy_rd e
 ·split at e
  ·exact evMapDel_rd e
  ·cases e
 ·cases e
theorem evOp_rd {P : Program} {T : Tab} {Γ : Specs} (hΓ : SpecsOK P Γ) {op : Op} {g : Operand → Option AV} {hr : Rd} {nb : Nat} {out : Out} (e : evOp T Γ op g hr nb = some out) : RdOK hr out := by
 cases op with
 | move x => simp only [evOp] at e; obtain ⟨v, _, h2⟩ := Option.bind_eq_some_iff.1 e; exact pure_rd h2
 | assign x => simp only [evOp] at e; obtain ⟨v, _, h2⟩ := Option.bind_eq_some_iff.1 e; exact pure_rd h2
 | alloc el => simp only [evOp] at e; obtain ⟨v, _, h2⟩ := Option.bind_eq_some_iff.1 e; injection h2 with h2; subst h2; exact .nil
 | box el x =>
   simp only [evOp] at e; obtain ⟨v, _, h2⟩ := Option.bind_eq_some_iff.1 e
   cases hp : v.plain with
   | false => simp [hp] at h2
   | true => simp only [hp, cond_true, Option.some.injEq] at h2; subst h2; exact .nil
 | load t p => simp only [evOp] at e; obtain ⟨v, _, h2⟩ := Option.bind_eq_some_iff.1 e; exact evLoad_rd h2
 | store t p x =>
   simp only [evOp] at e
   split at e
   ·exact evStore_rd e
   ·cases e
 | binOp op t x y ty =>
   simp only [evOp] at e
   split at e
   ·rename_i k p k' q _ _
    have main : shiftOp op k p q = some out → RdOK hr out := fun he => by
     cases op <;> simp only [shiftOp, Option.some.injEq] at he <;> first | (subst he; exact .nil) | cases he
    have main2 : (bif k == k' then intOp op k p q else none) = some out → RdOK hr out := fun he => by
     cases hk : (k == k') with
     | false => simp [hk] at he
     | true =>
       simp only [hk, cond_true] at he
       cases op <;> simp only [intOp, pureOut, Option.some.injEq] at he <;> first | (subst he; exact .nil) | cases he
    cases op <;> simp only at e <;> first | exact main e | exact main2 e
   ·split at e
    ·exact pure_rd e
    ·exact pure_rd e
    ·injection e with e; subst e; exact .nil
    ·cases e
   ·split at e
    ·exact pure_rd e
    ·exact pure_rd e
    ·cases e
   ·unfold evEq at e
    split at e
    ·split at e
     ·injection e with e; subst e; exact .nil
     ·injection e with e; subst e; exact .nil
     ·cases e
    ·split at e
     ·obtain ⟨_, e⟩ := bif_some e
      split at e
      ·exact pure_rd e
      ·exact pure_rd e
      ·cases e
     ·cases e
    ·cases e
   ·unfold evPtr at e
    split at e
    ·exact pure_rd e
    ·exact pure_rd e
    ·cases e
   ·unfold evPtr at e
    split at e
    ·exact pure_rd e
    ·exact pure_rd e
    ·cases e
   ·cases e
 | unOp op t x =>
   simp only [evOp] at e
   split at e
   ·exact pure_rd e
   ·exact pure_rd e
   ·cases e
 | convert src dst x =>
   simp only [evOp] at e
   split at e
   ·exact pure_rd e
   ·unfold evToStr at e
    split at e
    ·rename_i hsrc
     injection e with e; subst e
     exact srcOf_rd hsrc
    ·cases e
   ·unfold evToBytes at e
    split at e
    ·injection e with e; subst e; exact .nil
    ·cases e
   ·cases e
 | fieldAddr t p j => simp only [evOp] at e; obtain ⟨v, _, h2⟩ := Option.bind_eq_some_iff.1 e; exact evField_rd h2
 | field t x j =>
   simp only [evOp] at e; obtain ⟨v, _, h2⟩ := Option.bind_eq_some_iff.1 e
   unfold evValField at h2
   split at h2
   ·split at h2
    ·cases h2
    ·split at h2
     ·rename_i sz _ _ tf _
      cases hq : (tf.cells == sz) with
      | false => simp [hq] at h2
      | true =>
        simp only [hq, cond_true] at h2
        obtain ⟨_, _, h3⟩ := Option.bind_eq_some_iff.1 h2
        obtain ⟨_, _, h4⟩ := Option.bind_eq_some_iff.1 h3
        obtain ⟨_, _, h5⟩ := Option.bind_eq_some_iff.1 h4
        exact pure_rd h5
     ·cases h2
   ·cases h2
 | indexAddr t x i =>
   simp only [evOp] at e
   split at e
   ·split at e
    ·injection e with e; subst e; exact .nil
    ·cases e
   ·split at e
    ·rename_i hk; injection e with e; subst e; exact .one hk
    ·cases e
   ·split at e
    ·rename_i te _
     cases hq : (te.cells == 1) with
     | false => simp [hq] at e
     | true => simp only [hq, cond_true, Option.some.injEq] at e; subst e; exact .nil
    ·cases e
   ·split at e
    ·injection e with e; subst e; exact .nil
    ·cases e
   ·cases e
 | extract x j =>
   simp only [evOp] at e
   split at e
   ·obtain ⟨v, _, h2⟩ := Option.bind_eq_some_iff.1 e; exact pure_rd h2
   ·cases e
 | call c =>
   simp only [evOp] at e
   split at e
   ·obtain ⟨v, _, h2⟩ := Option.bind_eq_some_iff.1 e; exact evBuiltin_rd h2
   ·split at e
    ·obtain ⟨s, h1, h2⟩ := Option.bind_eq_some_iff.1 e
     exact (hΓ _ s h1).2.1 _ _ _ _ h2
    ·cases e
   ·cases e
 | build t ps =>
   simp only [evOp] at e; obtain ⟨v, _, h2⟩ := Option.bind_eq_some_iff.1 e
   unfold evBuild at h2
   split at h2
   ·obtain ⟨_, _, h3⟩ := Option.bind_eq_some_iff.1 h2
    obtain ⟨_, _, h4⟩ := Option.bind_eq_some_iff.1 h3
    exact pure_rd h4
   ·cases h2
 | buildSlice t n ps =>
   simp only [evOp] at e; obtain ⟨v, _, h2⟩ := Option.bind_eq_some_iff.1 e
   unfold evLit at h2
   split at h2
   ·split at h2
    ·rename_i te _
     cases hq : (v.length == n && litOK 0 te.cells v && Nat.ble (n * te.cells) 16777216) with
     | false => simp [hq] at h2
     | true => simp only [hq, cond_true, Option.some.injEq] at h2; subst h2; exact .nil
    ·cases h2
   ·cases h2
 | makeSlice t n m =>
   simp only [evOp] at e
   split at e
   ·unfold evMake at e
    split at e
    ·split at e
     ·obtain ⟨_, _, rfl⟩ := Option.map_eq_some_iff.1 e; exact .nil
     ·cases e
    ·cases e
   ·cases e
 | slice t x lo hi mx =>
   simp only [evOp] at e
   split at e
   ·exact evPart_rd e
   ·unfold evSlice at e
    split at e
    ·split at e
     ·injection e with e; subst e; exact .nil
     ·cases e
    ·split at e
     ·injection e with e; subst e; exact .nil
     ·cases e
    ·split at e
     ·obtain ⟨_, e⟩ := bif_some e
      injection e with e; subst e; exact .nil
     ·cases e
    ·split at e
     ·injection e with e; subst e; exact .nil
     ·cases e
    ·cases e
   ·cases e
 | makeFunc fn first cap =>
   cases fn with
   | func f =>
     simp only [evOp] at e
     cases hfi : first.isEmpty with
     | false => simp [hfi] at e
     | true =>
       simp only [hfi, cond_true] at e
       obtain ⟨vs, _, h2⟩ := Option.bind_eq_some_iff.1 e
       exact pure_rd h2
   | _ => simp [evOp] at e
 | makeMap t rsv =>
   cases rsv with
   | some _ => simp only [evOp] at e; cases e
   | none =>
     simp only [evOp] at e
     split at e
     ·obtain ⟨ar, _, rfl⟩ := Option.map_eq_some_iff.1 e; exact .nil
     ·cases e
 | lookup t x i ok =>
   simp only [evOp] at e
   split at e
   ·exact evLookup_rd e
   ·cases e
 | mapUpdate t m k v =>
   simp only [evOp] at e
   split at e
   ·exact evMapPut_rd e
   ·cases e
 | mapEntry t m k =>
   simp only [evOp] at e
   split at e
   ·exact evMapEntry_rd e
   ·cases e
 | entryStore t m s v =>
   simp only [evOp] at e
   split at e
   ·exact evEntryStore_rd e
   ·cases e
 | range t x =>
   simp only [evOp] at e
   split at e
   ·split at e
    ·rename_i hk
     injection e with e; subst e; exact .one hk
    ·cases e
   ·cases e
 | entry x =>
   simp only [evOp] at e
   split at e
   ·split at e
    ·rename_i hk
     split at e
     ·rename_i hk2
      injection e with e; subst e
      intro y hy
      simp only [List.mem_cons, List.not_mem_nil, or_false] at hy
      rcases hy with rfl | rfl
      ·exact hk
      ·exact hk2
     ·cases e
    ·cases e
   ·cases e
 | nilCheck x =>
   simp only [evOp] at e
   split at e <;> first | exact pure_rd e | cases e
 | index t x i =>
   simp only [evOp] at e
   split at e
   ·unfold evIndex at e
    split at e
    ·split at e
     ·obtain ⟨_, e⟩ := bif_some e
      injection e with e; subst e; exact .nil
     ·cases e
    ·split at e
     ·obtain ⟨_, e⟩ := bif_some e
      obtain ⟨ds, _, rfl⟩ := Option.map_eq_some_iff.1 e
      exact .nil
     ·cases e
    ·injection e with e; subst e; exact .nil
    ·cases e
   ·cases e
 | _ => simp only [evOp] at e; cases e
end Go.Eng