/- The engine, part 7: 'evOp' is right. -/
import Derived.Test.YtodnecfgiimclaaEngF
set_option linter.unusedSimpArgs false
set_option linter.unusedVariables false
namespace Go.Eng
section
variable {P : Program} {mine : Nat → Prop} {ρ : Env} {ro : Nat → Prop} {h : Heap} {w : World}
theorem run_fieldAt {t j o ty : Nat} {fields : Array Field} (hd : P.underlying t = some (.struct fields)) {f : Field} (h1 : fields[j]? = some f) (h2 : f.offset = o) (h3 : f.type = ty) {i : TypeInfo} (hi : P.info? ty = some i) (hz : i.size ≠ 0) (a : Addr) :
 (Instr.fieldAt t (.pointer (some a)) j).run P w = .ok (.pointer (some (a.add o))) w := by
 subst h2; subst h3
 simp [Instr.fieldAt, Sem.run_bind, run_underlying hd, h1, Instr.sureAddr, fieldPlace, sizeOf, typeInfo, hi, hz]
theorem evField_sound {T : Tab} (hT : TabOK P T) {t : Nat} {p : AV} {j : Nat} {out : Out} (e : evField T t p j = some out) {x : Value} (hp : VRel ρ ro w p x) :
 out.up = [] ∧ ∃ y, (Instr.fieldAt t x j).run P w = .ok y w ∧ VRel ρ ro w out.val y := by
 unfold evField at e
 split at e
 ·rename_i cells bytes fs zero ht
  have hti := hT t _ ht
  split at e
  ·cases e
  ·rename_i o ty sz' hfs
   obtain ⟨d, hd, _, hst⟩ := hti.agg
   obtain ⟨fields, rfl, hfl, _⟩ := hst
   obtain ⟨fd, h1, h2, h3, i, hi, _, hz⟩ := hfl j o ty sz' hfs
   have hrun := fun a => run_fieldAt (P := P) (w := w) hd h1 h2 h3 hi hz a
   cases hp with
   | ptr n off b hb =>
     simp only [pureOut, Option.some.injEq] at e
     subst e
     refine ⟨rfl, _, hrun _, ?_⟩
     rw [add_at]
     exact .ptr n (off + o) b hb
   | vp n sz off b len cap i hb =>
     simp only [pureOut, Option.some.injEq] at e
     subst e
     refine ⟨rfl, _, hrun _, ?_⟩
     rw [add_at, Nat.add_assoc]
     exact .vp n sz (off + o) b len cap i hb
   | rp cs a us hb hsp hc hcr =>
     simp only at e
     cases hsk : skipC cs o with
     | none => simp [hsk] at e
     | some ds =>
       simp only [hsk, Option.bind_some, pureOut, Option.some.injEq] at e
       subst e
       refine ⟨rfl, _, hrun _, .rp ds _ (us.drop o) (by rw [add_block]; exact hb) ?_ (fun k u hk => ?_) (skipC_sound hcr hsk)⟩
       ·unfold Addr.add; split
        ·exact hsp
        ·rfl
       ·rw [add_add a o k hsp]
        rw [List.getElem?_drop] at hk
        exact hc _ u hk
   | _ => simp at e
 ·cases e
end
end Go.Eng