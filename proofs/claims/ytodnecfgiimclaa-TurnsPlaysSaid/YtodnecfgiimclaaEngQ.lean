/- The engine, part 17: the table of types, out of a program. -/
import Derived.Test.YtodnecfgiimclaaEngW
set_option linter.unusedSimpArgs false
set_option linter.unusedVariables false
namespace Go.Eng
def zOne : Value → Option AV
 | .int k n => some (.int k n)
 | .bool b => some (.bool b)
 | .string s => some (.str s)
 | .pointer none => some .nilp
 | .slice none 0 0 => some .nils
 | .map none => some .nilm
 | .nilFunc => some .nilf
 | _ => none
theorem zOne_sound {x : Value} {v : AV} (e : zOne x = some v) : (∀ ρ ro w, VRel ρ ro w v x) ∧ x.oneCell' = true := by
 unfold zOne at e
 split at e <;> first
  | (injection e with e; subst e; refine ⟨fun ρ ro w => ?_, rfl⟩; first | exact .int _ _ | exact .bool _ | exact .str _ | exact .nilp | exact .nils | exact .nilm | exact .nilf)
  | cases e
def sameOne : Value → Value → Bool
 | .int k n, .int k' n' => k == k' && n == n'
 | .bool b, .bool b' => b == b'
 | _, _ => false
def allOne (x : Value) : List Value → Bool
 | [] => true
 | y :: l => sameOne x y && allOne x l
theorem sameOne_eq {x y : Value} (h : sameOne x y = true) : x = y := by
 unfold sameOne at h
 split at h
 ·simp only [Bool.and_eq_true, beq_iff_eq] at h; rw [h.1, h.2]
 ·simp only [beq_iff_eq] at h; rw [h]
 ·cases h
theorem allOne_eq {x : Value} : ∀ {l : List Value}, allOne x l = true → ∀ y ∈ l, y = x
 | [], _, y, hy => by cases hy
 | z :: l, h, y, hy => by
   simp only [allOne, Bool.and_eq_true] at h
   rcases List.mem_cons.1 hy with rfl | hy
   ·exact (sameOne_eq h.1).symm
   ·exact allOne_eq h.2 y hy
def rowsOf (P : Program) : Nat → Nat → List (Option Nat)
 | 0, _ => []
 | fuel + 1, t => match P.underlying t with
   | some (.struct fields) => fields.toList.flatMap fun f => rowsOf P fuel f.type
   | some (.array n e) => match P.info? e with
     | some i => bif i.size == 1 && Nat.ble 5 n then [some n] else (List.replicate n (rowsOf P fuel e)).flatMap fun l => l
     | none => []
   | _ => [none]
def zeroOf : List (Option Nat) → List Value → Option (List AV)
 | [], [] => some []
 | none :: l, x :: xs => match zOne x, zeroOf l xs with
   | some v, some vs => some (v :: vs)
   | _, _ => none
 | some n :: l, x :: xs => match zOne x, zeroOf l ((x :: xs).drop n) with
   | some v, some vs => bif Nat.ble n (xs.length + 1) && allOne x ((x :: xs).take n) then some (.arr n (fun _ => v) :: vs) else none
   | _, _ => none
 | _, _ => none
theorem zeroOf_sound : ∀ (l : List (Option Nat)) (xs : List Value) (vs : List AV), zeroOf l xs = some vs → ∀ ρ ro w, CRel ρ ro w vs xs
 | [], [], vs, e, ρ, ro, w => by simp only [zeroOf, Option.some.injEq] at e; subst e; exact .nil
 | [], _ :: _, vs, e, ρ, ro, w => by simp [zeroOf] at e
 | none :: l, [], vs, e, ρ, ro, w => by simp [zeroOf] at e
 | some n :: l, [], vs, e, ρ, ro, w => by simp [zeroOf] at e
 | none :: l, x :: xs, vs, e, ρ, ro, w => by
   simp only [zeroOf] at e
   split at e
   ·rename_i v vs' h1 h2
    injection e with e; subst e
    exact .cons _ _ _ _ ((zOne_sound h1).1 ρ ro w) (zOne_sound h1).2 (zeroOf_sound l xs vs' h2 ρ ro w)
   ·cases e
 | some n :: l, x :: xs, vs, e, ρ, ro, w => by
   simp only [zeroOf] at e
   split at e
   ·rename_i v vs' h1 h2
    obtain ⟨hc, e⟩ := bif_some e
    simp only [Bool.and_eq_true] at hc
    injection e with e; subst e
    have hn : n ≤ xs.length + 1 := Nat.le_of_ble_eq_true hc.1
    have ha := allOne_eq hc.2
    have := CRel.arr (ρ := ρ) (ro := ro) (w := w) n (fun _ => v) vs' ((x :: xs).take n) ((x :: xs).drop n) (by rw [List.length_take, List.length_cons]; omega)
     (fun i u hu => by rw [ha u (List.mem_iff_getElem?.2 ⟨i, hu⟩)]; exact (zOne_sound h1).1 ρ ro w) (fun u hu => by rw [ha u hu]; exact (zOne_sound h1).2) (zeroOf_sound l _ vs' h2 ρ ro w)
    rwa [List.take_append_drop] at this
   ·cases e
def fieldsOf (P : Program) : List Field → Option (List (Nat × Nat × Nat))
 | [] => some []
 | f :: l => match P.info? f.type, fieldsOf P l with
   | some i, some fs => bif i.size == 0 then none else some ((f.offset, f.type, i.size) :: fs)
   | _, _ => none
theorem fieldsOf_sound {P : Program} : ∀ (l : List Field) (fs : List (Nat × Nat × Nat)), fieldsOf P l = some fs →
 (∀ (j o ty sz : Nat), fs[j]? = some (o, ty, sz) → ∃ f : Field, l[j]? = some f ∧ f.offset = o ∧ f.type = ty ∧ ∃ i, P.info? ty = some i ∧ i.size = sz ∧ i.size ≠ 0) ∧
 l.mapM (fun f => (P.info? f.type).map fun i => (f.offset, i.size)) = some (fs.map fun x => (x.1, x.2.2))
 | [], fs, e => by simp only [fieldsOf, Option.some.injEq] at e; subst e; exact ⟨fun j o ty sz h => by simp at h, rfl⟩
 | f :: l, fs, e => by
   simp only [fieldsOf] at e
   split at e
   ·rename_i i fs' h1 h2
    cases hz : (i.size == 0) with
    | true => simp [hz] at e
    | false =>
      simp only [hz, cond_false, Option.some.injEq] at e
      subst e
      obtain ⟨k1, k2⟩ := fieldsOf_sound l fs' h2
      refine ⟨fun j o ty sz h => ?_, ?_⟩
      ·cases j with
       | zero => simp at h; obtain ⟨rfl, rfl, rfl⟩ := h; exact ⟨f, rfl, rfl, rfl, i, h1, rfl, by simpa using hz⟩
       | succ j => simp at h; simpa using k1 j o ty sz h
      ·simp [List.mapM_cons, h1, k2]
   ·cases e
def undOf (P : Program) (t : Nat) : TypeDesc → Option Und
 | .int k => some (.int k)
 | .bool => some .bool
 | .string => some .str
 | .pointer e => some (.ptr e)
 | .slice e => some (.slice e)
 | .array n e => some (.array n e)
 | .map k e => some (.map k e)
 | .struct fields => bif !P.stoodInHeld t && !P.eqGuardType P.depth t && fields.toList.all (fun f => f.name != "_") then (fieldsOf P fields.toList).map .struct else none
 | .func .. => some .other
 | _ => none
def tiOf (P : Program) (t : Nat) : Option TI :=
 match P.info? t, P.underlying t with
 | some i, some d => match i.zero, undOf P t d with
   | some z, some u => match zeroOf (rowsOf P 8 t) z.cells.toList with
     | some zs => bif !(i.size == 0) && widthC zs == i.size && (u.isAgg || i.size == 1) && aggV z == u.isAgg then some ⟨i.size, i.bytes, u, zs⟩ else none
     | none => none
   | _, _ => none
 | _, _ => none
theorem tiOf_sound {P : Program} {t : Nat} {ti : TI} (e : tiOf P t = some ti) : TIOK P t ti := by
 unfold tiOf at e
 split at e
 ·rename_i i d h1 h2
  split at e
  ·rename_i z u h3 h4
   split at e
   ·rename_i zs h5
    obtain ⟨hc, e⟩ := bif_some e
    injection e with e; subst e
    simp only [Bool.and_eq_true, Bool.or_eq_true, Bool.not_eq_true', beq_iff_eq, beq_eq_false_iff_ne] at hc
    refine ⟨⟨i, z, h1, rfl, rfl, h3, zeroOf_sound _ _ _ h5⟩, Nat.pos_of_ne_zero hc.1.1.1, hc.1.1.2, fun ha => hc.1.2.resolve_left (by simp [ha]), fun i' z' hi hz => by rw [h1] at hi; injection hi with hi; subst hi; rw [h3] at hz; injection hz with hz; subst hz; exact hc.2, d, h2, ?_⟩
    cases d <;> simp only [undOf, Option.some.injEq, reduceCtorEq] at h4
    case struct fields =>
     obtain ⟨hq, h4⟩ := bif_some h4
     obtain ⟨fs, h6, rfl⟩ := Option.map_eq_some_iff.1 h4
     obtain ⟨k1, k2⟩ := fieldsOf_sound _ _ h6
     simp only [Bool.and_eq_true, Bool.not_eq_true', List.all_eq_true, bne_iff_ne] at hq
     exact ⟨rfl, fields, rfl, fun j o ty sz h => by simpa using k1 j o ty sz h, k2, hq.1.1, hq.1.2, hq.2⟩
    all_goals (subst h4; exact ⟨rfl, by first | rfl | trivial⟩)
   ·cases e
  ·cases e
 ·cases e
def tabOf (P : Program) : List Nat → Tab
 | [] => []
 | t :: l => match tiOf P t with
   | some ti => (t, ti) :: tabOf P l
   | none => tabOf P l
theorem tabOf_sound (P : Program) : ∀ (l : List Nat), TabOK P (tabOf P l)
 | [], t, ti, e => by simp [tabOf, tget] at e
 | t' :: l, t, ti, e => by
   simp only [tabOf] at e
   split at e
   ·rename_i ti' h
    simp only [tget] at e
    cases hb : (t' == t) with
    | true =>
      simp only [hb, cond_true, Option.some.injEq] at e
      have : t' = t := by simpa using hb
      subst this; subst e
      exact tiOf_sound h
    | false => simp only [hb, cond_false] at e; exact tabOf_sound P l t ti e
   ·exact tabOf_sound P l t ti e
end Go.Eng