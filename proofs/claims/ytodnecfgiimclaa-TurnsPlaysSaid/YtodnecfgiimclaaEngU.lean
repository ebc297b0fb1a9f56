/- The engine, part 20: from a contract to what a row asks for. -/
import Derived.Test.YtodnecfgiimclaaEngS
set_option linter.unusedSimpArgs false
set_option linter.unusedVariables false
namespace Go.Eng
theorem row_calls {P : Program} {f : Nat} {s : Spec} (h : SpecOK P f s) {W : World} {args : List AV} {xs : List Value} {sides : List Prop} {v : AV} (hargs : LRel (fun _ => none) (fun b => b < W.heap.size) W args xs) (e : s args (fun _ _ => none) 1 = some ⟨sides, v, [], []⟩) (hs : ∀ q ∈ sides, q) :
 Calls P f xs.toArray W fun e w' => ∃ x, e = .returned x ∧ (∃ ρ ro, VRel ρ ro w' v x) ∧ RowKit.Below W.heap.size W w' := by
 have S : Sim (fun k => W.heap.size ≤ k) (fun _ => none) (fun b => b < W.heap.size) [] W :=
  ⟨fun n o c _ hc => by simp [hget] at hc, fun n m x y b _ _ _ _ _ hx => (by cases hx), fun b hb => ⟨hb, fun h => absurd h (by omega)⟩, rfl, fun n o o' c c' _ hc => by simp [hget] at hc⟩
 refine (h.2.2 _ _ _ _ W args xs _ 1 _ S hargs e (fun _ h => nomatch h) hs Nat.one_pos (fun _ _ _ => rfl)).mono ?_
 rintro e' w' ⟨x, rfl, ρ', ro', g, _, _, hv, st⟩
 exact ⟨x, rfl, ⟨ρ', ro', hv⟩, ⟨st.os, st.tape, st.output, st.size, fun k hk => st.block k hk (by show ¬ W.heap.size ≤ k; omega)⟩⟩
theorem row_true {P : Program} {f : Nat} {s : Spec} (h : SpecOK P f s) {W : World} {args : List AV} {xs : List Value} {sides : List Prop} (hargs : LRel (fun _ => none) (fun b => b < W.heap.size) W args xs) (e : s args (fun _ _ => none) 1 = some ⟨sides, .bool true, [], []⟩) (hs : ∀ q ∈ sides, q) :
 Calls P f xs.toArray W fun e w' => e = .returned (.bool true) ∧ RowKit.Below W.heap.size W w' := by
 refine (row_calls h hargs e hs).mono ?_
 rintro e' w' ⟨x, rfl, ⟨ρ, ro, hv⟩, b⟩
 exact ⟨by rw [hv.bool_inv], b⟩
def CutTo {ι : Type} (B : Nat) (S : ι → St) (Q : Exit → St → Prop) : Exit → St → Prop
 | .normal, s => ∃ i, Wk B s (S i)
 | e, s => Q e s
theorem evC_cutThen {T : Tab} {Γ : Specs} {B : Nat} {Q : Exit → St → Prop} {s : St} {a b : Code} {ι : Type} (S : ι → St) (h : evC T Γ B a (CutTo B S Q) s) (hb : ∀ i, evC T Γ B b Q (S i)) : evC T Γ B a (Then T Γ B b Q) s := by
 refine evC_mono a _ _ s h fun e s' h' => ?_
 cases e with
 | normal => obtain ⟨i, hi⟩ := h'; exact evC_wk b hi (hb i)
 | _ => exact h'
section
variable {B : Nat} {Q : Exit → St → Prop} {s : St} {ι : Type} {S : ι → St}
theorem cut_normal (i : ι) (h : Wk B s (S i)) : CutTo B S Q .normal s := ⟨i, h⟩
end
section
variable {B : Nat} {Q : Exit → St → Prop} {s : St} {ι : Type} {S : ι → St} {id : Nat}
end
end Go.Eng