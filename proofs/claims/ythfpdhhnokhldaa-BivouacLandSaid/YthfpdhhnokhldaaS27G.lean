/- Seat top, land: hits as a sequence; a map of no more corners, walked. -/
import Derived.Test.YthfpdhhnokhldaaEngX
import Derived.Test.YthfpdhhnokhldaaS27F
set_option linter.unusedSimpArgs false
set_option linter.unusedVariables false
namespace Go.Eng.S27
open Go.Proofs Go.IntWalk
set_option maxRecDepth 10000

theorem nblt_yes {a b : Nat} (h : a < b) : Nat.blt a b = true := by simpa [Nat.blt_eq] using h
theorem nblt_no {a b : Nat} (h : ¬ a < b) : Nat.blt a b = false := by
  cases e : Nat.blt a b with
  | false => rfl
  | true => exact absurd (by simpa [Nat.blt_eq] using e) h
def hOf : AV → Hit
  | .agg [a, b, c, d] => ⟨iv a, iv b, iv c, iv d⟩
  | _ => ⟨0, 0, 0, 0⟩
def nH (q : Nat → Hit) : Nat → AV := fun i => hitV (q i)
def Hf (f : Nat → AV) : Nat → Hit := fun i => hOf (f i)
theorem Hf_nH (q : Nat → Hit) : Hf (nH q) = q := rfl
theorem nH_flat (q : Nat → Hit) (i : Nat) : Flat (nH q i) := flat_of _ rfl
def seqV (n : Nat) (q : Nat → Hit) : AV := .fn 38 [.rp [.rs 4 n false (nH q)]]
theorem seqV_has {nm : Bool} (n : Nat) (q : Nat → Hit) : Has nm true (seqV n q) := by
  refine .fn _ _ fun v hv => ?_
  rw [List.mem_singleton.1 hv]
  refine .rp _ rfl fun v hv => ?_
  rw [List.mem_singleton.1 hv]
  exact .rs _ _ _ _ rfl fun i _ => (nH_flat q i).has
def sValues : Spec := fun args _ _ => match args with
  | [.rs 4 n b f] => some ⟨[(∀ i, i < n → f i = nH (Hf f) i)], seqV n (Hf f), [], []⟩
  | _ => none
theorem values_ok : SpecOK Try.prog 21 sValues := by
  refine spec_own (by kernel_rfl) T_ok sget_nil Try.func21 rfl rfl fun args hr nb out e => ?_
  unfold sValues at e
  split at e
  · rename_i n b f
    injection e with e; subst e
    refine ⟨(fun _ h => nomatch h), true, [.rs 4 n false (nH (Hf f))], rfl, fun hs => ?_⟩
    have h1 := hs _ List.mem_cons_self
    refine ⟨.cons _ _ _ _ (.rs _ _ _ _ _ _ fun i hi => ⟨h1 i hi, (nH_flat _ i).has⟩) .nil, ?_⟩
    clear hs h1
    generalize Hf f = q
    refine evC_go0 (dec := []) (ks := [(0, 1), (0, 2), (1, 0), (1, 1)]) (s' := ⟨[(0, 1, Cont.cell (AV.ptr 1 0)), (0, 2, Cont.cell AV.nilf), (1, 0, Cont.cell (AV.rs 4 n false (nH q))), (1, 1, Cont.top)], 17, 4⟩) (by kernel_rfl) (by kernel_rfl) ?_
    refine evC_wk (s' := ⟨[(0, 1, Cont.cell (AV.rp [AV.rs 4 n false (nH q)])), (0, 2, Cont.cell AV.nilf)], 1, 4⟩) _ (.trans (.frzP 1 [AV.rs 4 n false (nH q)] (Nat.le_of_ble_eq_true rfl) (Nat.le_of_ble_eq_true rfl) ⟨rfl, trivial⟩) (wk_go [] rfl (by decide) rfl rfl ⟨⟨_, rfl, rfl⟩, ⟨_, rfl, rfl⟩, trivial⟩)) ?_
    refine evC_go0 (dec := []) (ks := [(0, 2)]) (s' := ⟨[(0, 2, Cont.cell (AV.fn 38 [AV.rp [AV.rs 4 n false (nH q)]]))], 17, 4⟩) (by kernel_rfl) (by kernel_rfl) ?_
    refine evC_ret ?_
    refine post_ret ?_
    refine ends_go [] (AV.fn 38 [AV.rp [AV.rs 4 n false (nH q)]]) [] rfl (by decide) rfl rfl (?_) rfl trivial trivial (kept_nil _)
    exact seqV_has n q
  · cases e
def cut43 (n : Nat) : Nat := bif Nat.blt 4300 n then 4300 else n
theorem cut43_le (n : Nat) : cut43 n ≤ 4300 := by
  unfold cut43
  rcases Nat.lt_or_ge 4300 n with h | h
  · rw [nblt_yes h]; exact Nat.le_refl _
  · rw [nblt_no (by omega)]; exact h
theorem nU_cut (g : Nat → Int) : (fun i => nU g (Int.toNat 0 + i)) = nU g := funext fun i => by simp
def sFew : Spec := fun args _ _ => match args with
  | [.agg [.int .i64 W, .int .i64 H, .int .i64 A, .rs 1 n b f]] => some ⟨[IsU n f, n ≤ maxLen], .agg [.int .i64 W, .int .i64 H, .int .i64 A, .rs 1 (cut43 n) false (nU (U f))], [], []⟩
  | _ => none
theorem few_ok : SpecOK Try.prog 5 sFew := by
  refine spec_own (by kernel_rfl) T_ok sget_nil Try.func5 rfl rfl fun args hr nb out e => ?_
  unfold sFew at e
  split at e
  · rename_i W H A n b f
    injection e with e; subst e
    refine ⟨(fun _ h => nomatch h), true, [mp4 W H A n (U f)], rfl, fun hs => ?_⟩
    have h1 := hs _ List.mem_cons_self
    have h2 := hs _ (List.mem_cons_of_mem _ List.mem_cons_self)
    refine ⟨.agg _ _ _ _ rfl (fun i x y e1 e2 => ?_) (fun k g hk => ?_) .nil, ?_⟩
    · match i with
      | 0 => cases e1; cases e2; exact .same _ _ (.int _ _)
      | 1 => cases e1; cases e2; exact .same _ _ (.int _ _)
      | 2 => cases e1; cases e2; exact .same _ _ (.int _ _)
      | 3 => cases e1; cases e2; exact .rs _ _ _ _ _ _ fun i hi => ⟨(h1.get i hi).1, (nU_flat _ i).has⟩
      | i + 4 => simp at e1
    · simp only [List.mem_cons, List.not_mem_nil, or_false] at hk
      rcases hk with hk | hk | hk | hk <;> cases hk
    clear hs h1
    unfold maxLen at h2
    generalize U f = u
    unfold mp4
    refine evC_go0 (dec := []) (ks := [(0, 1), (0, 2), (1, 0), (1, 1), (1, 2), (1, 3), (1, 4), (9, 0), (9, 1), (9, 2), (9, 3), (9, 4)]) (s' := ⟨[(0, 1, Cont.cell (AV.ptr 1 0)), (0, 2, Cont.cell (AV.ptr 9 0)), (1, 0, Cont.cell (AV.int IntKind.i64 W)), (1, 1, Cont.cell (AV.int IntKind.i64 H)), (1, 2, Cont.cell (AV.int IntKind.i64 A)), (1, 3, Cont.cell (AV.rs 1 n false (nU u))), (1, 4, Cont.top), (9, 0, Cont.cell (AV.int IntKind.i64 0)), (9, 1, Cont.cell (AV.int IntKind.i64 0)), (9, 2, Cont.cell (AV.int IntKind.i64 0)), (9, 3, Cont.cell AV.nils), (9, 4, Cont.top)], 17, 12⟩) (by kernel_rfl) (by kernel_rfl) ?_
    refine evC_cutTo (ι := Unit) (fun _ => ⟨[(0, 1, Cont.cell (AV.ptr 1 0)), (0, 2, Cont.cell (AV.ptr 2 0)), (1, 0, Cont.cell (AV.int IntKind.i64 W)), (1, 1, Cont.cell (AV.int IntKind.i64 H)), (1, 2, Cont.cell (AV.int IntKind.i64 A)), (1, 3, .cell (.rs 1 (cut43 n) false (nU u))), (1, 4, Cont.top), (2, 0, Cont.cell (AV.int IntKind.i64 0)), (2, 1, Cont.cell (AV.int IntKind.i64 0)), (2, 2, Cont.cell (AV.int IntKind.i64 0)), (2, 3, Cont.cell AV.nils), (2, 4, Cont.top)], 3, 12⟩) ?_ ?_
    · refine evC_go0 (dec := []) (ks := [(0, 1), (0, 2), (0, 6), (1, 0), (1, 1), (1, 2), (1, 3), (1, 4), (9, 0), (9, 1), (9, 2), (9, 3), (9, 4)]) (s' := ⟨[(0, 1, Cont.cell (AV.ptr 1 0)), (0, 2, Cont.cell (AV.ptr 9 0)), (0, 6, Cont.cell (AV.bool (decide ((↑n : Int) > 4300)))), (1, 0, Cont.cell (AV.int IntKind.i64 W)), (1, 1, Cont.cell (AV.int IntKind.i64 H)), (1, 2, Cont.cell (AV.int IntKind.i64 A)), (1, 3, Cont.cell (AV.rs 1 n false (nU u))), (1, 4, Cont.top), (9, 0, Cont.cell (AV.int IntKind.i64 0)), (9, 1, Cont.cell (AV.int IntKind.i64 0)), (9, 2, Cont.cell (AV.int IntKind.i64 0)), (9, 3, Cont.cell AV.nils), (9, 4, Cont.top)], 49, 12⟩) (by kernel_rfl) (by kernel_rfl) ?_
      refine evC_if (q := decide ((↑n : Int) > 4300)) (by kernel_rfl) (fun hc => ?_) (fun hc => ?_)
      · have hg : 4300 < n := by have := of_decide_eq_true hc; omega
        have hk : cut43 n = 4300 := by unfold cut43; rw [nblt_yes hg]; rfl
        refine evC_goL (dec := []) (ks := [(0, 1), (0, 2), (1, 0), (1, 1), (1, 2), (1, 3), (1, 4), (9, 0), (9, 1), (9, 2), (9, 3), (9, 4)]) (ps := [(0 : Int) ≤ (0 : Int), (0 : Int) ≤ (4300 : Int), (4300 : Int) ≤ (↑n : Int), (4300 : Int) = (4300 : Int), (1 : Nat) = (1 : Nat), false = true → true = true]) (s' := ⟨[(0, 1, Cont.cell (AV.ptr 1 0)), (0, 2, Cont.cell (AV.ptr 9 0)), (1, 0, Cont.cell (AV.int IntKind.i64 W)), (1, 1, Cont.cell (AV.int IntKind.i64 H)), (1, 2, Cont.cell (AV.int IntKind.i64 A)), (1, 3, Cont.cell (AV.rs 1 4300 false fun i => nU u (Int.toNat 0 + i))), (1, 4, Cont.top), (9, 0, Cont.cell (AV.int IntKind.i64 0)), (9, 1, Cont.cell (AV.int IntKind.i64 0)), (9, 2, Cont.cell (AV.int IntKind.i64 0)), (9, 3, Cont.cell AV.nils), (9, 4, Cont.top)], 89, 12⟩) (by kernel_rfl) (by kernel_rfl) ?_ ?_
        · (simp only [All]; (repeat' apply And.intro) <;> (try intro _) <;> (try intro _) <;> (repeat' apply And.intro) <;> (try intro _) <;> (try intro _) <;> first | trivial | assumption | exact .inr trivial | exact .inr rfl | omega | rfl | exact ⟨_, rfl, rfl⟩ | exact ⟨rfl, rfl⟩ | exact ⟨fun _ => rfl, fun _ => rfl⟩ | (unfold maxLen; omega) | (unfold i64R; first | omega | decide) | decide)
        rw [nU_cut]
        refine cut_normal (()) (wk_go [1, 9] rfl (by decide) rfl rfl ⟨⟨_, rfl, rfl⟩, ⟨_, rfl, rfl⟩, ⟨_, rfl, rfl⟩, ⟨_, rfl, rfl⟩, ⟨_, rfl, rfl⟩, ⟨_, rfl, ?_⟩, ⟨_, rfl, trivial⟩, ⟨_, rfl, rfl⟩, ⟨_, rfl, rfl⟩, ⟨_, rfl, rfl⟩, ⟨_, rfl, rfl⟩, ⟨_, rfl, trivial⟩, trivial⟩)
        rw [hk]; rfl
      · have hg : ¬ 4300 < n := by have := of_decide_eq_false hc; omega
        have hk : cut43 n = n := by unfold cut43; rw [nblt_no hg]; rfl
        refine evC_skip ?_
        refine cut_normal (()) (wk_go [1, 9] rfl (by decide) rfl rfl ⟨⟨_, rfl, rfl⟩, ⟨_, rfl, rfl⟩, ⟨_, rfl, rfl⟩, ⟨_, rfl, rfl⟩, ⟨_, rfl, rfl⟩, ⟨_, rfl, ?_⟩, ⟨_, rfl, trivial⟩, ⟨_, rfl, rfl⟩, ⟨_, rfl, rfl⟩, ⟨_, rfl, rfl⟩, ⟨_, rfl, rfl⟩, ⟨_, rfl, trivial⟩, trivial⟩)
        rw [hk]; rfl
    intro _
    refine evC_go0 (dec := []) (ks := [(0, 2), (2, 0), (2, 1), (2, 2), (2, 3), (2, 4)]) (s' := ⟨[(0, 2, Cont.cell (AV.ptr 2 0)), (2, 0, Cont.cell (AV.int IntKind.i64 W)), (2, 1, Cont.cell (AV.int IntKind.i64 H)), (2, 2, Cont.cell (AV.int IntKind.i64 A)), (2, 3, Cont.cell (AV.rs 1 (cut43 n) false (nU u))), (2, 4, Cont.top)], 19, 12⟩) (by kernel_rfl) (by kernel_rfl) ?_
    refine evC_ret ?_
    refine post_ret ?_
    refine ends_go [] (AV.agg [AV.int IntKind.i64 W, AV.int IntKind.i64 H, AV.int IntKind.i64 A, AV.rs 1 (cut43 n) false (nU u)]) [] rfl (by decide) rfl rfl (?_) rfl trivial trivial (kept_nil _)
    · refine .agg _ fun v hv => ?_
      simp only [List.mem_cons, List.not_mem_nil, or_false] at hv
      rcases hv with rfl | rfl | rfl | rfl
      · exact .int _ _
      · exact .int _ _
      · exact .int _ _
      · exact .rs _ _ _ _ rfl fun i _ => (nU_flat u i).has
  · cases e
end Go.Eng.S27
