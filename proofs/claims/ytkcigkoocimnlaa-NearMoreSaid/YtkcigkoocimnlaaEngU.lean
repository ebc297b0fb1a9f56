/- The engine, part 20: from a contract to what a row asks for. -/
import Derived.Test.YtkcigkoocimnlaaEngS
set_option linter.unusedSimpArgs false
set_option linter.unusedVariables false
namespace Go.Eng

/-- A function of numbers and of memory that is only read, called from outside. -/
theorem row_calls {P : Program} {f : Nat} {s : Spec} (h : SpecOK P f s) {W : World} {args : List AV} {xs : List Value} {sides : List Prop} {v : AV} (hargs : LRel (fun _ => none) (fun b => b < W.heap.size) W args xs) (e : s args (fun _ _ => none) 1 = some ⟨sides, v, [], []⟩) (hs : ∀ q ∈ sides, q) :
    Calls P f xs.toArray W fun e w' => ∃ x, e = .returned x ∧ (∃ ρ ro, VRel ρ ro w' v x) ∧ RowKit.Below W.heap.size W w' := by
  have S : Sim (fun k => W.heap.size ≤ k) (fun _ => none) (fun b => b < W.heap.size) [] W :=
    ⟨fun n o c _ hc => by simp [hget] at hc, fun n m x y b _ _ _ _ _ hx => (by cases hx), fun b hb => ⟨hb, fun h => absurd h (by omega)⟩, rfl, fun n o o' c c' _ hc => by simp [hget] at hc⟩
  refine (h.2.2 _ _ _ _ W args xs _ 1 _ S hargs e (fun _ h => nomatch h) hs Nat.one_pos (fun _ _ _ => rfl)).mono ?_
  rintro e' w' ⟨x, rfl, ρ', ro', g, _, _, hv, st⟩
  exact ⟨x, rfl, ⟨ρ', ro', hv⟩, ⟨st.os, st.tape, st.output, st.size, fun k hk => st.block k hk (by show ¬ W.heap.size ≤ k; omega)⟩⟩

theorem row_true {P : Program} {f : Nat} {s : Spec} (h : SpecOK P f s) {W : World} {args : List AV} {xs : List Value} {sides : List Prop} (hargs : LRel (fun _ => none) (fun b => b < W.heap.size) W args xs) (e : s args (fun _ _ => none) 1 = some ⟨sides, .bool true, [], []⟩) (hs : ∀ q ∈ sides, q) :
    Calls P f xs.toArray W fun e w' => e = .returned (.bool true) ∧ RowKit.Below W.heap.size W w' := by
  refine (row_calls h hargs e hs).mono ?_
  rintro e' w' ⟨x, rfl, ⟨ρ, ro, hv⟩, b⟩
  exact ⟨by rw [hv.bool_inv], b⟩

/-- The first piece ends in one of some states. -/
def CutTo {ι : Type} (B : Nat) (S : ι → St) (Q : Exit → St → Prop) : Exit → St → Prop
  | .normal, s => ∃ i, Wk B s (S i)
  | e, s => Q e s
theorem evC_cutTo {T : Tab} {Γ : Specs} {B : Nat} {Q : Exit → St → Prop} {s : St} {a b : Code} {ι : Type} (S : ι → St) (h : evC T Γ B a (CutTo B S Q) s) (hb : ∀ i, evC T Γ B b Q (S i)) : evC T Γ B (.seq a b) Q s := by
  refine evC_cut S (evC_mono a _ _ s h fun e s' h' => ?_) hb
  cases e <;> exact h'
theorem evC_cutThen {T : Tab} {Γ : Specs} {B : Nat} {Q : Exit → St → Prop} {s : St} {a b : Code} {ι : Type} (S : ι → St) (h : evC T Γ B a (CutTo B S Q) s) (hb : ∀ i, evC T Γ B b Q (S i)) : evC T Γ B a (Then T Γ B b Q) s := by
  refine evC_mono a _ _ s h fun e s' h' => ?_
  cases e with
  | normal => obtain ⟨i, hi⟩ := h'; exact evC_wk b hi (hb i)
  | _ => exact h'
section
variable {B : Nat} {Q : Exit → St → Prop} {s : St} {ι : Type} {S : ι → St}
theorem cut_ret (h : Q .ret s) : CutTo B S Q .ret s := h
theorem cut_exit {id : Nat} (h : Q (.exit id) s) : CutTo B S Q (.exit id) s := h
theorem cut_normal (i : ι) (h : Wk B s (S i)) : CutTo B S Q .normal s := ⟨i, h⟩
end

/-- The same, where the piece lies in a block. -/
def CutB {ι : Type} (B : Nat) (S : ι → St) (id : Nat) (Q : Exit → St → Prop) : Exit → St → Prop
  | .normal, s => ∃ i, Wk B s (S i)
  | .exit k, s => if k = id then ∃ i, Wk B s (S i) else Q (.exit k) s
  | e, s => Q e s
theorem evC_cutIn {T : Tab} {Γ : Specs} {B : Nat} {Q : Exit → St → Prop} {s : St} {a b : Code} {id : Nat} {ι : Type} (S : ι → St) (h : evC T Γ B a (CutB B S id (Then T Γ B b Q)) s) (hb : ∀ i, evC T Γ B b Q (S i)) : evC T Γ B a (InBlock id (Then T Γ B b Q)) s := by
  refine evC_mono a _ _ s h fun e s' h' => ?_
  cases e with
  | normal => obtain ⟨i, hi⟩ := h'; exact evC_wk b hi (hb i)
  | exit k =>
    simp only [CutB] at h'
    simp only [InBlock]
    split at h' <;> rename_i hk
    · rw [if_pos hk]; obtain ⟨i, hi⟩ := h'; exact evC_wk b hi (hb i)
    · rw [if_neg hk]; exact h'
  | _ => exact h'
section
variable {B : Nat} {Q : Exit → St → Prop} {s : St} {ι : Type} {S : ι → St} {id : Nat}
theorem cutB_ret (h : Q .ret s) : CutB B S id Q .ret s := h
theorem cutB_normal (i : ι) (h : Wk B s (S i)) : CutB B S id Q .normal s := ⟨i, h⟩
theorem cutB_exit (i : ι) (h : Wk B s (S i)) : CutB B S id Q (.exit id) s := by simp [CutB]; exact ⟨i, h⟩
theorem cutB_other {id' : Nat} (hne : Nat.beq id' id = false) (h : Q (.exit id') s) : CutB B S id Q (.exit id') s := by
  have : id' ≠ id := fun e => by subst e; simp at hne
  simp [CutB, this, h]
end

/-! ### Ranges over a function -/
/-- The body of a round, from the loop variable's assignment on. -/
def RThen (T : Tab) (Γ : Specs) (B : Nat) (b : Code) (Q : Exit → St → Prop) : Exit → St → Prop
  | .normal, s => evC T Γ B b Q s
  | _, _ => False
theorem rthen_normal {T : Tab} {Γ : Specs} {B : Nat} {b : Code} {Q : Exit → St → Prop} {s : St} (h : evC T Γ B b Q s) : RThen T Γ B b Q .normal s := h
theorem rpost_normal {nx N : Nat} {hs : Heap} {ι : Type} {S : ι → Heap} {Q : Exit → St → Prop} {s : St} (i : ι) (h : Wk nx s ⟨S i, nx, N⟩) : RPost nx N hs S Q .normal s := ⟨i, h⟩
theorem rpost_ret {nx N : Nat} {hs : Heap} {ι : Type} {S : ι → Heap} {Q : Exit → St → Prop} {s : St} (hx h' : Heap) (h1 : noS hx = true) (h2 : Wk nx s ⟨hx, nx, N⟩) (e : h' = hs ++ hx) (h3 : Q .ret ⟨h', nx, N⟩) : RPost nx N hs S Q .ret s := ⟨hx, h1, h2, e ▸ h3⟩
theorem evC_range {T : Tab} {Γ : Specs} {B : Nat} {Q : Exit → St → Prop} {s : St} {g : Operand} {assign body : Code} {p gf sz k nx N c b : Nat} {z : List AV} {fl : Bool} {f : Nat → AV} {hs : Heap} (t : Nat) (ι : Nat → Type) (S : (j : Nat) → ι j → Heap) (i0 : ι 0)
    (h1 : tget T t = some ⟨c, b, .iter gf sz, z⟩) (hp : Nat.blt p N = true) (hB : Nat.ble B nx = true) (ho : onlyS hs = true) (hn : ∀ j i, noS (S j i) = true) (hw : Wk B s ⟨hs ++ S 0 i0, nx, N⟩)
    (hg : opnd hs g = some (.fn gf [.rp [.rs sz k fl f]])) (hgs : opndS hs [] g = []) (hf : ∀ j, j < k → ∃ xs : List Int, (f j).cells = xs.map (AV.int .i64))
    (hr : ∀ j i, j < k → evC T Γ nx assign (RThen T Γ nx body (RPost nx N hs (S (j + 1)) Q)) ⟨(0, p, .cell (.agg (f j).cells)) :: (hs ++ S j i), nx, N⟩) (hd : ∀ i, Q .normal ⟨hs ++ S k i, nx, N⟩) : evC T Γ B (.rangeFunc g #[p] assign body) Q s := by
  refine ⟨t, gf, sz, k, nx, N, c, b, z, fl, f, p, hs, ι, S, i0, ⟨h1, rfl, by simpa [Nat.blt_eq] using hp, Nat.le_of_ble_eq_true hB, ho, hn⟩, hw, ⟨hg, (fun q hq => by rw [hgs] at hq; cases hq), hf⟩, fun j i hj => evC_mono _ _ _ _ (hr j i hj) fun e s1 h => ?_, hd⟩
  cases e with
  | normal => exact h
  | _ => exact h.elim
end Go.Eng
