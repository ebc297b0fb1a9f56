/- Seat 13: the least one taken out of what waits, walked. -/
import Derived.Test.YtmlpggggahpoaaaEngX
import Derived.Test.YtmlpggggahpoaaaS13B
set_option linter.unusedSimpArgs false
set_option linter.unusedVariables false
namespace Go.Eng.S13
open Go.Proofs Go.IntWalk
set_option maxRecDepth 10000

def chC (w : Ws) (n k : Nat) : Nat := bif Nat.blt (2 * k + 2) n && decide ((w (2 * k + 2)).2 < (w (2 * k + 1)).2) then 2 * k + 2 else 2 * k + 1
def downN : Nat → Ws → Nat → Nat → Ws
  | 0, w, _, _ => w
  | f + 1, w, n, k => bif Nat.blt (2 * k + 1) n && decide ((w (chC w n k)).2 < (w k).2) then downN f (swp w k (chC w n k)) n (chC w n k) else w
def set0 (w : Ws) (l : Nat) : Ws := fun j => bif j == 0 then w l else w j
def popW (w : Ws) (l : Nat) : Ws := downN l (set0 w l) l 0
theorem nblt_yes {a b : Nat} (h : a < b) : Nat.blt a b = true := by simpa [Nat.blt_eq] using h
theorem nblt_no {a b : Nat} (h : ¬ a < b) : Nat.blt a b = false := by
  cases e : Nat.blt a b with
  | false => rfl
  | true => exact absurd (by simpa [Nat.blt_eq] using e) h
theorem chC_rng {w : Ws} {n k : Nat} (h : 2 * k + 1 < n) : k < chC w n k ∧ chC w n k < n ∧ (chC w n k = 2 * k + 1 ∨ chC w n k = 2 * k + 2) := by
  unfold chC
  by_cases h2 : 2 * k + 2 < n
  · rw [nblt_yes h2]
    cases decide ((w (2 * k + 2)).2 < (w (2 * k + 1)).2) <;> simp <;> omega
  · rw [nblt_no h2]; simp; omega
theorem downN_end {f : Nat} {w : Ws} {n k : Nat} (h : ¬ 2 * k + 1 < n) : downN f w n k = w := by
  cases f with
  | zero => rfl
  | succ f => simp only [downN, nblt_no h, Bool.false_and, cond_false]
theorem downN_stop {f : Nat} {w : Ws} {n k : Nat} (h : decide ((w (chC w n k)).2 < (w k).2) = false) : downN f w n k = w := by
  cases f with
  | zero => rfl
  | succ f => simp only [downN, h, Bool.and_false, cond_false]
theorem downN_go {f : Nat} {w : Ws} {n k : Nat} (h0 : 2 * k + 1 < n) (h : decide ((w (chC w n k)).2 < (w k).2) = true) : downN (f + 1) w n k = downN f (swp w k (chC w n k)) n (chC w n k) := by
  simp only [downN, nblt_yes h0, h, Bool.and_self, cond_true]
def sPop : Spec := fun args hr nb => match args with
  | [.ptr n 0] => match hr n 0, hr n 1, hr n 2 with
    | some (.cell (.vs r)), some (.cell (.fn 29 [.ptr k 0])), some .top => match hr k 0, hr k 1, hr r 0 with
      | some (.cell (.fn 21 [])), some .top, some (.vec 2 46 len f) => some ⟨[n ≠ k ∧ 0 < n ∧ 0 < k ∧ n ≠ r ∧ k ≠ r ∧ 0 < r ∧ 0 < len ∧ len ≤ 1000000 ∧ ∀ i, i < len → f i = nW (Wf f) i], nW (Wf f) 0, [(n, 0, .cell (.vs r)), (n, 1, .cell (.fn 29 [.ptr k 0])), (n, 2, .top), (k, 0, .cell (.fn 21 [])), (k, 1, .top), (r, 0, .vec 2 46 len f)],
        [(n, 0, .cell (.vs nb)), (r, 0, .dead), (nb, 0, .vec 2 46 (len - 1) (nW (popW (Wf f) (len - 1))))]⟩
      | _, _, _ => none
    | _, _, _ => none
  | _ => none
theorem pop_ok : SpecOK Try.prog 23 sPop := by
  refine spec_at (by kernel_rfl) T_ok (sget_cons less_ok sget_nil) Try.func23 rfl rfl fun args hr nb out e => ?_
  unfold sPop at e
  split at e
  · rename_i n
    split at e
    · rename_i r k e1 e2 e3
      split at e
      · rename_i len f e4 e5 e6
        injection e with e; subst e
        refine ⟨?_, true, [n, k, r], [.ptr 1 0], [(1, 0, .cell (.vs 3)), (1, 1, .cell (.fn 29 [.ptr 2 0])), (1, 2, .top), (2, 0, .cell (.fn 21 [])), (2, 1, .top), (3, 0, .vec 2 46 len (nW (Wf f)))], rfl, fun hs => ?_⟩
        · simp [e1, e2, e3, e4, e5, e6]
        obtain ⟨n1, p1, p2, n2, n3, p3, hp, hl, hf⟩ := hs _ List.mem_cons_self
        refine ⟨by simp [n1, n2, n3], ?_, .cons _ _ _ _ (.name _ _ _ rfl) .nil, ?_, ?_⟩
        · intro z hz
          simp at hz
          rcases hz with rfl | rfl | rfl
          · exact ⟨p1, whole_laid [.cell (.vs r), .cell (.fn 29 [.ptr k 0])] rfl (by simp [laid, Cont.wd])⟩
          · exact ⟨p2, whole_laid [.cell (.fn 21 [])] rfl (by simp [laid, Cont.wd])⟩
          · exact ⟨p3, .vec 2 46 len f (by simp)⟩
        · exact InitH.get ⟨⟨0, 0, _, _, rfl, rfl, rfl, rfl⟩, ⟨0, 1, _, _, rfl, rfl, rfl, rfl⟩, ⟨0, 2, _, _, rfl, rfl, rfl, trivial⟩, ⟨1, 3, _, _, rfl, rfl, rfl, rfl⟩, ⟨1, 4, _, _, rfl, rfl, rfl, trivial⟩, ⟨2, 5, _, _, rfl, rfl, rfl, ⟨rfl, rfl, rfl, fun i hi => by rw [hf i hi]; exact ((nW_flat _ i).ren).symm⟩⟩, trivial⟩
        clear hs hf
        generalize Wf f = w
        obtain ⟨l, rfl⟩ : ∃ l, len = l + 1 := ⟨len - 1, by omega⟩
        have el : IntKind.i64.wrap (((l + 1 : Nat) : Int) - 1) = ((l : Nat) : Int) := by rw [i64_in _ (by omega)]; omega
        refine evC_go0 (dec := []) (ks := [(0, 0), (0, 2), (1, 0), (1, 1), (1, 2), (2, 0), (2, 1), (3, 0), (4, 0), (4, 1), (4, 2)]) (s' := ⟨[(0, 0, Cont.cell (AV.ptr 1 0)), (0, 2, Cont.cell (AV.ptr 4 0)), (1, 0, Cont.cell (AV.vs 3)), (1, 1, Cont.cell (AV.fn 29 [AV.ptr 2 0])), (1, 2, Cont.top), (2, 0, Cont.cell (AV.fn 21 [])), (2, 1, Cont.top), (3, 0, Cont.vec 2 46 (l + 1) (nW w)), (4, 0, Cont.cell (AV.int IntKind.i64 0)), (4, 1, Cont.cell (AV.int IntKind.i64 0)), (4, 2, Cont.top)], 12, 124⟩) (by kernel_rfl) (by kernel_rfl) ?_
        refine evC_go (dec := []) (ks := [(0, 0), (0, 2), (0, 3), (1, 0), (1, 1), (1, 2), (2, 0), (2, 1), (3, 0), (4, 0), (4, 1), (4, 2), (60, 0), (60, 1), (60, 2)]) (ps := [(0 : Int) ≤ (0 : Int), (0 : Int) < (↑(l + (1 : Nat)) : Int), (2 : Nat) = (2 : Nat), (0 : Int) ≤ (0 : Int), (0 : Int) < (↑(l + (1 : Nat)) : Int), (2 : Nat) = (2 : Nat)]) (s' := ⟨[(0, 0, Cont.cell (AV.ptr 1 0)), (0, 2, Cont.cell (AV.ptr 4 0)), (0, 3, Cont.cell (AV.ptr 60 0)), (1, 0, Cont.cell (AV.vs 3)), (1, 1, Cont.cell (AV.fn 29 [AV.ptr 2 0])), (1, 2, Cont.top), (2, 0, Cont.cell (AV.fn 21 [])), (2, 1, Cont.top), (3, 0, Cont.vec 2 46 (l + 1) (nW w)), (4, 0, Cont.cell (AV.int IntKind.i64 0)), (4, 1, Cont.cell (AV.int IntKind.i64 0)), (4, 2, Cont.top), (60, 0, Cont.cell (AV.int IntKind.i64 (Prod.fst (w (Int.toNat 0))))), (60, 1, Cont.cell (AV.int IntKind.i64 (Prod.snd (w (Int.toNat 0))))), (60, 2, Cont.top)], 76, 124⟩) (by kernel_rfl) (by kernel_rfl) ?_ ?_
        · (simp only [All]; (repeat' apply And.intro) <;> (try intro _) <;> (try intro _) <;> (repeat' apply And.intro) <;> (try intro _) <;> (try intro _) <;> first | trivial | assumption | exact .inr trivial | exact .inr rfl | omega | rfl | exact ⟨_, rfl, rfl⟩ | exact ⟨rfl, rfl⟩ | exact ⟨fun _ => rfl, fun _ => rfl⟩ | (unfold maxLen; omega) | (unfold i64R; first | omega | decide) | decide)
        refine evC_go0 (dec := []) (ks := [(0, 0), (0, 2), (0, 3), (0, 4), (1, 0), (1, 1), (1, 2), (2, 0), (2, 1), (3, 0), (4, 0), (4, 1), (4, 2), (60, 0), (60, 1), (60, 2)]) (s' := ⟨[(0, 0, Cont.cell (AV.ptr 1 0)), (0, 2, Cont.cell (AV.ptr 4 0)), (0, 3, Cont.cell (AV.ptr 60 0)), (0, 4, Cont.cell (AV.int IntKind.i64 (IntKind.i64.wrap ((↑(l + 1) : Int) - 1)))), (1, 0, Cont.cell (AV.vs 3)), (1, 1, Cont.cell (AV.fn 29 [AV.ptr 2 0])), (1, 2, Cont.top), (2, 0, Cont.cell (AV.fn 21 [])), (2, 1, Cont.top), (3, 0, Cont.vec 2 46 (l + 1) (nW w)), (4, 0, Cont.cell (AV.int IntKind.i64 0)), (4, 1, Cont.cell (AV.int IntKind.i64 0)), (4, 2, Cont.top), (60, 0, Cont.cell (AV.int IntKind.i64 (Prod.fst (w (Int.toNat 0))))), (60, 1, Cont.cell (AV.int IntKind.i64 (Prod.snd (w (Int.toNat 0))))), (60, 2, Cont.top)], 132, 124⟩) (by kernel_rfl) (by kernel_rfl) ?_
        rw [el]
        refine evC_go (dec := []) (ks := [(0, 0), (0, 2), (0, 3), (0, 4), (1, 0), (1, 1), (1, 2), (2, 0), (2, 1), (3, 0), (4, 0), (4, 1), (4, 2), (60, 0), (60, 1), (60, 2)]) (ps := [(0 : Int) ≤ (↑l : Int), (↑l : Int) < (↑(l + (1 : Nat)) : Int), (2 : Nat) = (2 : Nat), (0 : Int) ≤ (↑l : Int), (↑l : Int) < (↑(l + (1 : Nat)) : Int), (2 : Nat) = (2 : Nat), (0 : Int) ≤ (0 : Int), (0 : Int) < (↑(l + (1 : Nat)) : Int), (2 : Nat) = (2 : Nat), (0 : Int) ≤ (0 : Int), (0 : Int) < (↑(l + (1 : Nat)) : Int), (2 : Nat) = (2 : Nat), widthC (AV.cells (AV.agg [AV.int IntKind.i64 (Prod.fst (w l)), AV.int IntKind.i64 (Prod.snd (w l))])) = (2 : Nat)]) (s' := ⟨[(0, 0, Cont.cell (AV.ptr 1 0)), (0, 2, Cont.cell (AV.ptr 4 0)), (0, 3, Cont.cell (AV.ptr 60 0)), (0, 4, Cont.cell (AV.int IntKind.i64 (↑l : Int))), (1, 0, Cont.cell (AV.vs 3)), (1, 1, Cont.cell (AV.fn 29 [AV.ptr 2 0])), (1, 2, Cont.top), (2, 0, Cont.cell (AV.fn 21 [])), (2, 1, Cont.top), (3, 0, Cont.vec 2 46 (l + 1) fun j => bif j == Int.toNat 0 then AV.agg (AV.cells (AV.agg [AV.int IntKind.i64 (Prod.fst (w l)), AV.int IntKind.i64 (Prod.snd (w l))])) else nW w j), (4, 0, Cont.cell (AV.int IntKind.i64 0)), (4, 1, Cont.cell (AV.int IntKind.i64 0)), (4, 2, Cont.top), (60, 0, Cont.cell (AV.int IntKind.i64 (Prod.fst (w (Int.toNat 0))))), (60, 1, Cont.cell (AV.int IntKind.i64 (Prod.snd (w (Int.toNat 0))))), (60, 2, Cont.top)], 236, 124⟩) (by kernel_rfl) (by kernel_rfl) ?_ ?_
        · (simp only [All]; (repeat' apply And.intro) <;> (try intro _) <;> (try intro _) <;> (repeat' apply And.intro) <;> (try intro _) <;> (try intro _) <;> first | trivial | assumption | exact .inr trivial | exact .inr rfl | omega | rfl | exact ⟨_, rfl, rfl⟩ | exact ⟨rfl, rfl⟩ | exact ⟨fun _ => rfl, fun _ => rfl⟩ | (unfold maxLen; omega) | (unfold i64R; first | omega | decide) | decide)
        refine evC_go (dec := []) (ks := [(0, 0), (0, 2), (0, 3), (0, 4), (1, 0), (1, 1), (1, 2), (2, 0), (2, 1), (4, 0), (4, 1), (4, 2), (60, 0), (60, 1), (60, 2), (284, 0)]) (ps := [(0 : Int) = (0 : Int), (0 : Int) ≤ (↑l : Int), (↑l : Int) ≤ (↑(l + (1 : Nat)) : Int), (2 : Nat) = (2 : Nat)]) (s' := ⟨[(0, 0, Cont.cell (AV.ptr 1 0)), (0, 2, Cont.cell (AV.ptr 4 0)), (0, 3, Cont.cell (AV.ptr 60 0)), (0, 4, Cont.cell (AV.int IntKind.i64 (↑l : Int))), (1, 0, Cont.cell (AV.vs 284)), (1, 1, Cont.cell (AV.fn 29 [AV.ptr 2 0])), (1, 2, Cont.top), (2, 0, Cont.cell (AV.fn 21 [])), (2, 1, Cont.top), (4, 0, Cont.cell (AV.int IntKind.i64 0)), (4, 1, Cont.cell (AV.int IntKind.i64 0)), (4, 2, Cont.top), (60, 0, Cont.cell (AV.int IntKind.i64 (Prod.fst (w (Int.toNat 0))))), (60, 1, Cont.cell (AV.int IntKind.i64 (Prod.snd (w (Int.toNat 0))))), (60, 2, Cont.top), (284, 0, Cont.vec 2 46 l fun j => bif j == Int.toNat 0 then AV.agg (AV.cells (AV.agg [AV.int IntKind.i64 (Prod.fst (w l)), AV.int IntKind.i64 (Prod.snd (w l))])) else nW w j)], 316, 124⟩) (by kernel_rfl) (by kernel_rfl) ?_ ?_
        · (simp only [All]; (repeat' apply And.intro) <;> (try intro _) <;> (try intro _) <;> (repeat' apply And.intro) <;> (try intro _) <;> (try intro _) <;> first | trivial | assumption | exact .inr trivial | exact .inr rfl | omega | rfl | exact ⟨_, rfl, rfl⟩ | exact ⟨rfl, rfl⟩ | exact ⟨fun _ => rfl, fun _ => rfl⟩ | (unfold maxLen; omega) | (unfold i64R; first | omega | decide) | decide)
        refine evC_wk (s' := ⟨[(0, 0, Cont.cell (AV.ptr 1 0)), (0, 2, Cont.cell (AV.ptr 4 0)), (0, 3, Cont.cell (AV.ptr 5 0)), (0, 4, Cont.cell (AV.int IntKind.i64 (↑l : Int))), (1, 0, Cont.cell (AV.vs 6)), (1, 1, Cont.cell (AV.fn 29 [AV.ptr 2 0])), (1, 2, Cont.top), (2, 0, Cont.cell (AV.fn 21 [])), (2, 1, Cont.top), (4, 0, Cont.cell (AV.int IntKind.i64 0)), (4, 1, Cont.cell (AV.int IntKind.i64 0)), (4, 2, Cont.top), (5, 0, Cont.cell (AV.int IntKind.i64 (Prod.fst (w (Int.toNat 0))))), (5, 1, Cont.cell (AV.int IntKind.i64 (Prod.snd (w (Int.toNat 0))))), (5, 2, Cont.top), (6, 0, .vec 2 46 l (nW (set0 w l)))], 7, 124⟩) _ (wk_go [4, 60, 284] rfl (by decide) rfl rfl ⟨⟨_, rfl, rfl⟩, ⟨_, rfl, rfl⟩, ⟨_, rfl, rfl⟩, ⟨_, rfl, rfl⟩, ⟨_, rfl, rfl⟩, ⟨_, rfl, rfl⟩, ⟨_, rfl, trivial⟩, ⟨_, rfl, rfl⟩, ⟨_, rfl, trivial⟩, ⟨_, rfl, rfl⟩, ⟨_, rfl, rfl⟩, ⟨_, rfl, trivial⟩, ⟨_, rfl, rfl⟩, ⟨_, rfl, rfl⟩, ⟨_, rfl, trivial⟩, ⟨_, rfl, ?_⟩, trivial⟩) ?_
        · refine ⟨rfl, rfl, rfl, fun j hj => ?_⟩
          refine Eq.trans ?_ ((nW_flat (set0 w l) j).ren).symm
          unfold nW set0
          show (bif j == 0 then AV.agg [.int .i64 (w l).1, .int .i64 (w l).2] else AV.agg [.int .i64 (w j).1, .int .i64 (w j).2]) = _
          cases j == 0 <;> rfl
        have hi0 : downN l (set0 w l) l 0 = popW w l := rfl
        refine evC_seq ?_
        refine evC_go0 (dec := []) (ks := [(0, 0), (0, 2), (0, 3), (0, 4), (0, 5), (1, 0), (1, 1), (1, 2), (2, 0), (2, 1), (4, 0), (4, 1), (4, 2), (5, 0), (5, 1), (5, 2), (6, 0)]) (s' := ⟨[(0, 0, Cont.cell (AV.ptr 1 0)), (0, 2, Cont.cell (AV.ptr 4 0)), (0, 3, Cont.cell (AV.ptr 5 0)), (0, 4, Cont.cell (AV.int IntKind.i64 (↑l : Int))), (0, 5, Cont.cell (AV.int IntKind.i64 0)), (1, 0, Cont.cell (AV.vs 6)), (1, 1, Cont.cell (AV.fn 29 [AV.ptr 2 0])), (1, 2, Cont.top), (2, 0, Cont.cell (AV.fn 21 [])), (2, 1, Cont.top), (4, 0, Cont.cell (AV.int IntKind.i64 0)), (4, 1, Cont.cell (AV.int IntKind.i64 0)), (4, 2, Cont.top), (5, 0, Cont.cell (AV.int IntKind.i64 (Prod.fst (w (Int.toNat 0))))), (5, 1, Cont.cell (AV.int IntKind.i64 (Prod.snd (w (Int.toNat 0))))), (5, 2, Cont.top), (6, 0, Cont.vec 2 46 l (nW (set0 w l)))], 15, 124⟩) (by kernel_rfl) (by kernel_rfl) ?_
        refine evC_block ?_
        refine evC_loop (ι := { s : Ws × Nat × Nat // l ≤ s.2.1 + s.2.2 ∧ s.2.1 ≤ l ∧ downN s.2.2 s.1 l s.2.1 = popW w l }) (fun s => ⟨[(0, 0, Cont.cell (AV.ptr 1 0)), (0, 2, Cont.cell (AV.ptr 4 0)), (0, 3, Cont.cell (AV.ptr 5 0)), (0, 4, Cont.cell (AV.int IntKind.i64 (↑l : Int))), (0, 5, .cell (.int .i64 (s.1.2.1 : Nat))), (1, 0, Cont.cell (AV.vs 6)), (1, 1, Cont.cell (AV.fn 29 [AV.ptr 2 0])), (1, 2, Cont.top), (2, 0, Cont.cell (AV.fn 21 [])), (2, 1, Cont.top), (4, 0, Cont.cell (AV.int IntKind.i64 0)), (4, 1, Cont.cell (AV.int IntKind.i64 0)), (4, 2, Cont.top), (5, 0, Cont.cell (AV.int IntKind.i64 (Prod.fst (w (Int.toNat 0))))), (5, 1, Cont.cell (AV.int IntKind.i64 (Prod.snd (w (Int.toNat 0))))), (5, 2, Cont.top), (6, 0, .vec 2 46 l (nW s.1.1))], 7, 124⟩) (fun s => l - s.1.2.1) ⟨(set0 w l, 0, l), by simp only; omega, Nat.zero_le _, hi0⟩ (wk_go [4, 5, 6] rfl (by decide) rfl rfl ⟨⟨_, rfl, rfl⟩, ⟨_, rfl, rfl⟩, ⟨_, rfl, rfl⟩, ⟨_, rfl, rfl⟩, ⟨_, rfl, rfl⟩, ⟨_, rfl, rfl⟩, ⟨_, rfl, rfl⟩, ⟨_, rfl, trivial⟩, ⟨_, rfl, rfl⟩, ⟨_, rfl, trivial⟩, ⟨_, rfl, rfl⟩, ⟨_, rfl, rfl⟩, ⟨_, rfl, trivial⟩, ⟨_, rfl, rfl⟩, ⟨_, rfl, rfl⟩, ⟨_, rfl, trivial⟩, ⟨_, rfl, ⟨rfl, rfl, rfl, fun _ _ => rfl⟩⟩, trivial⟩) ?_
        rintro ⟨⟨v, q, g⟩, h1, h2, h3⟩
        simp only at h1 h2 h3
        have q1 : IntKind.i64.wrap (IntKind.i64.wrap (2 * (q : Int)) + 1) = ((2 * q + 1 : Nat) : Int) := by
          rw [i64_in (2 * (q : Int)) (by omega), i64_in _ (by omega)]; omega
        have q2 : IntKind.i64.wrap (((2 * q + 1 : Nat) : Int) + 1) = ((2 * q + 2 : Nat) : Int) := by
          rw [i64_in _ (by omega)]; omega
        refine evC_seq ?_
        refine evC_go0 (dec := []) (ks := [(0, 0), (0, 2), (0, 3), (0, 4), (0, 5), (0, 44), (1, 0), (1, 1), (1, 2), (2, 0), (2, 1), (4, 0), (4, 1), (4, 2), (5, 0), (5, 1), (5, 2), (6, 0)]) (s' := ⟨[(0, 0, Cont.cell (AV.ptr 1 0)), (0, 2, Cont.cell (AV.ptr 4 0)), (0, 3, Cont.cell (AV.ptr 5 0)), (0, 4, Cont.cell (AV.int IntKind.i64 (↑l : Int))), (0, 5, Cont.cell (AV.int IntKind.i64 (↑q : Int))), (0, 44, Cont.cell (AV.bool (decide (IntKind.i64.wrap (IntKind.i64.wrap (2 * (↑q : Int)) + 1) < (↑l : Int))))), (1, 0, Cont.cell (AV.vs 6)), (1, 1, Cont.cell (AV.fn 29 [AV.ptr 2 0])), (1, 2, Cont.top), (2, 0, Cont.cell (AV.fn 21 [])), (2, 1, Cont.top), (4, 0, Cont.cell (AV.int IntKind.i64 0)), (4, 1, Cont.cell (AV.int IntKind.i64 0)), (4, 2, Cont.top), (5, 0, Cont.cell (AV.int IntKind.i64 (Prod.fst (w (Int.toNat 0))))), (5, 1, Cont.cell (AV.int IntKind.i64 (Prod.snd (w (Int.toNat 0))))), (5, 2, Cont.top), (6, 0, Cont.vec 2 46 l (nW v))], 47, 124⟩) (by kernel_rfl) (by kernel_rfl) ?_
        rw [q1]
        refine evC_if (q := decide ((↑(2 * q + 1) : Int) < (↑l : Int))) (by kernel_rfl) (fun hc => ?_) (fun hc => ?_)
        · have hlt : 2 * q + 1 < l := by have := of_decide_eq_true hc; omega
          clear hc
          refine evC_skip ?_
          refine then_normal ?_
          refine evC_block ?_
          refine evC_go0 (dec := []) (ks := [(0, 0), (0, 2), (0, 3), (0, 4), (0, 5), (0, 6), (1, 0), (1, 1), (1, 2), (2, 0), (2, 1), (4, 0), (4, 1), (4, 2), (5, 0), (5, 1), (5, 2), (6, 0)]) (s' := ⟨[(0, 0, Cont.cell (AV.ptr 1 0)), (0, 2, Cont.cell (AV.ptr 4 0)), (0, 3, Cont.cell (AV.ptr 5 0)), (0, 4, Cont.cell (AV.int IntKind.i64 (↑l : Int))), (0, 5, Cont.cell (AV.int IntKind.i64 (↑q : Int))), (0, 6, Cont.cell (AV.int IntKind.i64 (IntKind.i64.wrap (IntKind.i64.wrap (2 * (↑q : Int)) + 1)))), (1, 0, Cont.cell (AV.vs 6)), (1, 1, Cont.cell (AV.fn 29 [AV.ptr 2 0])), (1, 2, Cont.top), (2, 0, Cont.cell (AV.fn 21 [])), (2, 1, Cont.top), (4, 0, Cont.cell (AV.int IntKind.i64 0)), (4, 1, Cont.cell (AV.int IntKind.i64 0)), (4, 2, Cont.top), (5, 0, Cont.cell (AV.int IntKind.i64 (Prod.fst (w (Int.toNat 0))))), (5, 1, Cont.cell (AV.int IntKind.i64 (Prod.snd (w (Int.toNat 0))))), (5, 2, Cont.top), (6, 0, Cont.vec 2 46 l (nW v))], 79, 124⟩) (by kernel_rfl) (by kernel_rfl) ?_
          rw [q1]
          have hch := chC_rng (w := v) hlt
          refine evC_cutTo (ι := Unit) (fun _ => ⟨[(0, 0, Cont.cell (AV.ptr 1 0)), (0, 2, Cont.cell (AV.ptr 4 0)), (0, 3, Cont.cell (AV.ptr 5 0)), (0, 4, Cont.cell (AV.int IntKind.i64 (↑l : Int))), (0, 5, Cont.cell (AV.int IntKind.i64 (↑q : Int))), (0, 6, .cell (.int .i64 (chC v l q : Nat))), (1, 0, Cont.cell (AV.vs 6)), (1, 1, Cont.cell (AV.fn 29 [AV.ptr 2 0])), (1, 2, Cont.top), (2, 0, Cont.cell (AV.fn 21 [])), (2, 1, Cont.top), (4, 0, Cont.cell (AV.int IntKind.i64 0)), (4, 1, Cont.cell (AV.int IntKind.i64 0)), (4, 2, Cont.top), (5, 0, Cont.cell (AV.int IntKind.i64 (Prod.fst (w (Int.toNat 0))))), (5, 1, Cont.cell (AV.int IntKind.i64 (Prod.snd (w (Int.toNat 0))))), (5, 2, Cont.top), (6, 0, Cont.vec 2 46 l (nW v))], 7, 124⟩) ?_ ?_
          · refine evC_go (dec := []) (ks := [(0, 0), (0, 2), (0, 3), (0, 4), (0, 5), (0, 6), (0, 73), (1, 0), (1, 1), (1, 2), (2, 0), (2, 1), (4, 0), (4, 1), (4, 2), (5, 0), (5, 1), (5, 2), (6, 0)]) (ps := [List.all [decide (IntKind.i64.wrap ((↑((2 : Nat) * q + (1 : Nat)) : Int) + (1 : Int)) < (↑l : Int))] id = true → (0 : Int) ≤ IntKind.i64.wrap ((↑((2 : Nat) * q + (1 : Nat)) : Int) + (1 : Int)), List.all [decide (IntKind.i64.wrap ((↑((2 : Nat) * q + (1 : Nat)) : Int) + (1 : Int)) < (↑l : Int))] id = true → IntKind.i64.wrap ((↑((2 : Nat) * q + (1 : Nat)) : Int) + (1 : Int)) < (↑l : Int), List.all [decide (IntKind.i64.wrap ((↑((2 : Nat) * q + (1 : Nat)) : Int) + (1 : Int)) < (↑l : Int))] id = true → (2 : Nat) = (2 : Nat), List.all [decide (IntKind.i64.wrap ((↑((2 : Nat) * q + (1 : Nat)) : Int) + (1 : Int)) < (↑l : Int))] id = true → (0 : Int) ≤ IntKind.i64.wrap ((↑((2 : Nat) * q + (1 : Nat)) : Int) + (1 : Int)), List.all [decide (IntKind.i64.wrap ((↑((2 : Nat) * q + (1 : Nat)) : Int) + (1 : Int)) < (↑l : Int))] id = true → IntKind.i64.wrap ((↑((2 : Nat) * q + (1 : Nat)) : Int) + (1 : Int)) < (↑l : Int), List.all [decide (IntKind.i64.wrap ((↑((2 : Nat) * q + (1 : Nat)) : Int) + (1 : Int)) < (↑l : Int))] id = true → (2 : Nat) = (2 : Nat), List.all [decide (IntKind.i64.wrap ((↑((2 : Nat) * q + (1 : Nat)) : Int) + (1 : Int)) < (↑l : Int))] id = true → (0 : Int) ≤ (↑((2 : Nat) * q + (1 : Nat)) : Int), List.all [decide (IntKind.i64.wrap ((↑((2 : Nat) * q + (1 : Nat)) : Int) + (1 : Int)) < (↑l : Int))] id = true → (↑((2 : Nat) * q + (1 : Nat)) : Int) < (↑l : Int), List.all [decide (IntKind.i64.wrap ((↑((2 : Nat) * q + (1 : Nat)) : Int) + (1 : Int)) < (↑l : Int))] id = true → (2 : Nat) = (2 : Nat), List.all [decide (IntKind.i64.wrap ((↑((2 : Nat) * q + (1 : Nat)) : Int) + (1 : Int)) < (↑l : Int))] id = true → (0 : Int) ≤ (↑((2 : Nat) * q + (1 : Nat)) : Int), List.all [decide (IntKind.i64.wrap ((↑((2 : Nat) * q + (1 : Nat)) : Int) + (1 : Int)) < (↑l : Int))] id = true → (↑((2 : Nat) * q + (1 : Nat)) : Int) < (↑l : Int), List.all [decide (IntKind.i64.wrap ((↑((2 : Nat) * q + (1 : Nat)) : Int) + (1 : Int)) < (↑l : Int))] id = true → (2 : Nat) = (2 : Nat), List.all [decide (IntKind.i64.wrap ((↑((2 : Nat) * q + (1 : Nat)) : Int) + (1 : Int)) < (↑l : Int))] id = true → (0 : Nat) < (2 : Nat)]) (s' := ⟨[(0, 0, Cont.cell (AV.ptr 1 0)), (0, 2, Cont.cell (AV.ptr 4 0)), (0, 3, Cont.cell (AV.ptr 5 0)), (0, 4, Cont.cell (AV.int IntKind.i64 (↑l : Int))), (0, 5, Cont.cell (AV.int IntKind.i64 (↑q : Int))), (0, 6, Cont.cell (AV.int IntKind.i64 (↑(2 * q + 1) : Int))), (0, 73, Cont.cell (AV.bool (bif decide (IntKind.i64.wrap ((↑(2 * q + 1) : Int) + 1) < (↑l : Int)) then decide (Prod.snd (v (Int.toNat (IntKind.i64.wrap ((↑(2 * q + 1) : Int) + 1)))) < Prod.snd (v (2 * q + 1))) else false))), (1, 0, Cont.cell (AV.vs 6)), (1, 1, Cont.cell (AV.fn 29 [AV.ptr 2 0])), (1, 2, Cont.top), (2, 0, Cont.cell (AV.fn 21 [])), (2, 1, Cont.top), (4, 0, Cont.cell (AV.int IntKind.i64 0)), (4, 1, Cont.cell (AV.int IntKind.i64 0)), (4, 2, Cont.top), (5, 0, Cont.cell (AV.int IntKind.i64 (Prod.fst (w (Int.toNat 0))))), (5, 1, Cont.cell (AV.int IntKind.i64 (Prod.snd (w (Int.toNat 0))))), (5, 2, Cont.top), (6, 0, Cont.vec 2 46 l (nW v))], 287, 124⟩) (by kernel_rfl) (by kernel_rfl) ?_ ?_
            · rw [q2]
              simp only [All]
              repeat' apply And.intro
              all_goals (intro h; simp only [id_one, decide_eq_true_eq] at h; first | omega | trivial)
            rw [q2]
            have eb : decide (((2 * q + 2 : Nat) : Int) < (l : Int)) = Nat.blt (2 * q + 2) l := by
              by_cases h : 2 * q + 2 < l
              · rw [nblt_yes h]; exact decide_eq_true (by omega)
              · rw [nblt_no h]; exact decide_eq_false (by omega)
            rw [eb, cond_and]
            refine evC_if (q := Nat.blt (2 * q + 2) l && decide (Prod.snd (v (2 * q + 2)) < Prod.snd (v (2 * q + 1)))) (by kernel_rfl) (fun hc => ?_) (fun hc => ?_)
            · have ec : chC v l q = 2 * q + 2 := by unfold chC; rw [hc]; rfl
              refine evC_goL0 (dec := []) (ks := [(0, 0), (0, 2), (0, 3), (0, 4), (0, 5), (0, 6), (1, 0), (1, 1), (1, 2), (2, 0), (2, 1), (4, 0), (4, 1), (4, 2), (5, 0), (5, 1), (5, 2), (6, 0)]) (s' := ⟨[(0, 0, Cont.cell (AV.ptr 1 0)), (0, 2, Cont.cell (AV.ptr 4 0)), (0, 3, Cont.cell (AV.ptr 5 0)), (0, 4, Cont.cell (AV.int IntKind.i64 (↑l : Int))), (0, 5, Cont.cell (AV.int IntKind.i64 (↑q : Int))), (0, 6, Cont.cell (AV.int IntKind.i64 (IntKind.i64.wrap ((↑(2 * q + 1) : Int) + 1)))), (1, 0, Cont.cell (AV.vs 6)), (1, 1, Cont.cell (AV.fn 29 [AV.ptr 2 0])), (1, 2, Cont.top), (2, 0, Cont.cell (AV.fn 21 [])), (2, 1, Cont.top), (4, 0, Cont.cell (AV.int IntKind.i64 0)), (4, 1, Cont.cell (AV.int IntKind.i64 0)), (4, 2, Cont.top), (5, 0, Cont.cell (AV.int IntKind.i64 (Prod.fst (w (Int.toNat 0))))), (5, 1, Cont.cell (AV.int IntKind.i64 (Prod.snd (w (Int.toNat 0))))), (5, 2, Cont.top), (6, 0, Cont.vec 2 46 l (nW v))], 311, 124⟩) (by kernel_rfl) (by kernel_rfl) ?_
              rw [q2]
              refine cut_normal (()) (wk_go [4, 5, 6] rfl (by decide) rfl rfl ⟨⟨_, rfl, rfl⟩, ⟨_, rfl, rfl⟩, ⟨_, rfl, rfl⟩, ⟨_, rfl, rfl⟩, ⟨_, rfl, rfl⟩, ⟨_, rfl, ?_⟩, ⟨_, rfl, rfl⟩, ⟨_, rfl, rfl⟩, ⟨_, rfl, trivial⟩, ⟨_, rfl, rfl⟩, ⟨_, rfl, trivial⟩, ⟨_, rfl, rfl⟩, ⟨_, rfl, rfl⟩, ⟨_, rfl, trivial⟩, ⟨_, rfl, rfl⟩, ⟨_, rfl, rfl⟩, ⟨_, rfl, trivial⟩, ⟨_, rfl, ⟨rfl, rfl, rfl, fun _ _ => rfl⟩⟩, trivial⟩)
              rw [ec]
              rfl
            · have ec : chC v l q = 2 * q + 1 := by unfold chC; rw [hc]; rfl
              refine evC_skip ?_
              refine cut_normal (()) (wk_go [4, 5, 6] rfl (by decide) rfl rfl ⟨⟨_, rfl, rfl⟩, ⟨_, rfl, rfl⟩, ⟨_, rfl, rfl⟩, ⟨_, rfl, rfl⟩, ⟨_, rfl, rfl⟩, ⟨_, rfl, ?_⟩, ⟨_, rfl, rfl⟩, ⟨_, rfl, rfl⟩, ⟨_, rfl, trivial⟩, ⟨_, rfl, rfl⟩, ⟨_, rfl, trivial⟩, ⟨_, rfl, rfl⟩, ⟨_, rfl, rfl⟩, ⟨_, rfl, trivial⟩, ⟨_, rfl, rfl⟩, ⟨_, rfl, rfl⟩, ⟨_, rfl, trivial⟩, ⟨_, rfl, ⟨rfl, rfl, rfl, fun _ _ => rfl⟩⟩, trivial⟩)
              rw [ec]
              rfl
          intro _
          generalize hcc : chC v l q = cc at hch
          refine evC_seq ?_
          refine evC_go (dec := []) (ks := [(0, 0), (0, 2), (0, 3), (0, 4), (0, 5), (0, 6), (0, 95), (1, 0), (1, 1), (1, 2), (2, 0), (2, 1), (4, 0), (4, 1), (4, 2), (5, 0), (5, 1), (5, 2), (6, 0)]) (ps := [(0 : Int) ≤ (↑cc : Int), (↑cc : Int) < (↑l : Int), (2 : Nat) = (2 : Nat), (0 : Int) ≤ (↑cc : Int), (↑cc : Int) < (↑l : Int), (2 : Nat) = (2 : Nat), (0 : Int) ≤ (↑q : Int), (↑q : Int) < (↑l : Int), (2 : Nat) = (2 : Nat), (0 : Int) ≤ (↑q : Int), (↑q : Int) < (↑l : Int), (2 : Nat) = (2 : Nat), (0 : Nat) < (2 : Nat)]) (s' := ⟨[(0, 0, Cont.cell (AV.ptr 1 0)), (0, 2, Cont.cell (AV.ptr 4 0)), (0, 3, Cont.cell (AV.ptr 5 0)), (0, 4, Cont.cell (AV.int IntKind.i64 (↑l : Int))), (0, 5, Cont.cell (AV.int IntKind.i64 (↑q : Int))), (0, 6, Cont.cell (AV.int IntKind.i64 (↑cc : Int))), (0, 95, Cont.cell (AV.bool !decide (Prod.snd (v cc) < Prod.snd (v q)))), (1, 0, Cont.cell (AV.vs 6)), (1, 1, Cont.cell (AV.fn 29 [AV.ptr 2 0])), (1, 2, Cont.top), (2, 0, Cont.cell (AV.fn 21 [])), (2, 1, Cont.top), (4, 0, Cont.cell (AV.int IntKind.i64 0)), (4, 1, Cont.cell (AV.int IntKind.i64 0)), (4, 2, Cont.top), (5, 0, Cont.cell (AV.int IntKind.i64 (Prod.fst (w (Int.toNat 0))))), (5, 1, Cont.cell (AV.int IntKind.i64 (Prod.snd (w (Int.toNat 0))))), (5, 2, Cont.top), (6, 0, Cont.vec 2 46 l (nW v))], 167, 124⟩) (by kernel_rfl) (by kernel_rfl) ?_ ?_
          · simp only [All]
            repeat' apply And.intro
            all_goals first | omega | trivial
          refine evC_if (q := !decide (Prod.snd (v cc) < Prod.snd (v q))) (by kernel_rfl) (fun hc => ?_) (fun hc => ?_)
          · have hs : decide ((v cc).2 < (v q).2) = false := (Bool.not_eq_true' _).mp hc
            have h4 : downN g v l q = v := downN_stop (by rw [hcc]; exact hs)
            rw [h4] at h3
            subst h3
            refine evC_exit ?_
            refine then_exit ?_
            refine block_other rfl ?_
            refine round_exit ?_
            refine block_exit ?_
            refine then_normal ?_
            refine evC_go0 (dec := []) (ks := [(0, 2), (1, 0), (1, 1), (1, 2), (2, 0), (2, 1), (4, 0), (4, 1), (4, 2), (6, 0)]) (s' := ⟨[(0, 2, Cont.cell (AV.ptr 4 0)), (1, 0, Cont.cell (AV.vs 6)), (1, 1, Cont.cell (AV.fn 29 [AV.ptr 2 0])), (1, 2, Cont.top), (2, 0, Cont.cell (AV.fn 21 [])), (2, 1, Cont.top), (4, 0, Cont.cell (AV.int IntKind.i64 (Prod.fst (w (Int.toNat 0))))), (4, 1, Cont.cell (AV.int IntKind.i64 (Prod.snd (w (Int.toNat 0))))), (4, 2, Cont.top), (6, 0, Cont.vec 2 46 l (nW (popW w l)))], 183, 124⟩) (by kernel_rfl) (by kernel_rfl) ?_
            refine evC_ret ?_
            refine post_ret ?_
            refine ends_go [6] (AV.agg [AV.int IntKind.i64 (Prod.fst (w (Int.toNat 0))), AV.int IntKind.i64 (Prod.snd (w (Int.toNat 0)))]) [(1, 0, Cont.cell (AV.vs 4)), (1, 1, Cont.cell (AV.fn 29 [AV.ptr 2 0])), (1, 2, Cont.top), (2, 0, Cont.cell (AV.fn 21 [])), (2, 1, Cont.top), (4, 0, Cont.vec 2 46 l (nW (popW w l)))] rfl (by decide) rfl rfl (has_of _ rfl) rfl ⟨⟨_, rfl, rfl⟩, ⟨_, rfl, rfl⟩, ⟨_, rfl, trivial⟩, ⟨_, rfl, rfl⟩, ⟨_, rfl, trivial⟩, ⟨_, rfl, ⟨rfl, rfl, rfl, fun _ _ => rfl⟩⟩, trivial⟩ ⟨fun _ => ⟨1, _, rfl, rfl, rfl, ⟨has_of _ rfl, rfl⟩⟩, fun h => False.elim h, fun _ => ⟨4, _, rfl, rfl, rfl, ⟨rfl, rfl, rfl, fun _ _ => ⟨has_of _ rfl, rfl⟩⟩⟩, trivial⟩ ⟨fun _ => .inl ⟨by simp [keyIn, upKeys], fun sz h => by simp at h⟩, fun _ => .inr ⟨0, _, rfl, rfl, ⟨has_of _ rfl, rfl⟩⟩, fun _ => .inr ⟨0, _, rfl, rfl, trivial⟩, fun _ => .inr ⟨1, _, rfl, rfl, ⟨has_of _ rfl, rfl⟩⟩, fun _ => .inr ⟨1, _, rfl, rfl, trivial⟩, fun _ => .inl ⟨by simp [keyIn, upKeys], fun sz h => by simp at h⟩, trivial⟩
          · have hs : decide ((v cc).2 < (v q).2) = true := (Bool.not_eq_false' _).mp hc
            obtain ⟨g, rfl⟩ : ∃ g', g = g' + 1 := ⟨g - 1, by omega⟩
            have h4 := downN_go (f := g) hlt (by rw [hcc]; exact hs)
            rw [hcc] at h4
            rw [h4] at h3
            refine evC_skip ?_
            refine then_normal ?_
            refine evC_go (dec := []) (ks := [(0, 0), (0, 2), (0, 3), (0, 4), (0, 5), (0, 6), (1, 0), (1, 1), (1, 2), (2, 0), (2, 1), (4, 0), (4, 1), (4, 2), (5, 0), (5, 1), (5, 2), (6, 0)]) (ps := [(0 : Int) ≤ (↑cc : Int), (↑cc : Int) < (↑l : Int), (2 : Nat) = (2 : Nat), (0 : Int) ≤ (↑cc : Int), (↑cc : Int) < (↑l : Int), (2 : Nat) = (2 : Nat), (0 : Int) ≤ (↑q : Int), (↑q : Int) < (↑l : Int), (2 : Nat) = (2 : Nat), (0 : Int) ≤ (↑q : Int), (↑q : Int) < (↑l : Int), (2 : Nat) = (2 : Nat), (0 : Int) ≤ (↑q : Int), (↑q : Int) < (↑l : Int), (2 : Nat) = (2 : Nat), (0 : Int) ≤ (↑q : Int), (↑q : Int) < (↑l : Int), (2 : Nat) = (2 : Nat), widthC (AV.cells (AV.agg [AV.int IntKind.i64 (Prod.fst (v cc)), AV.int IntKind.i64 (Prod.snd (v cc))])) = (2 : Nat), (0 : Int) ≤ (↑cc : Int), (↑cc : Int) < (↑l : Int), (2 : Nat) = (2 : Nat), (0 : Int) ≤ (↑cc : Int), (↑cc : Int) < (↑l : Int), (2 : Nat) = (2 : Nat), widthC (AV.cells (AV.agg [AV.int IntKind.i64 (Prod.fst (v q)), AV.int IntKind.i64 (Prod.snd (v q))])) = (2 : Nat)]) (s' := ⟨[(0, 0, Cont.cell (AV.ptr 1 0)), (0, 2, Cont.cell (AV.ptr 4 0)), (0, 3, Cont.cell (AV.ptr 5 0)), (0, 4, Cont.cell (AV.int IntKind.i64 (↑l : Int))), (0, 5, Cont.cell (AV.int IntKind.i64 (↑q : Int))), (0, 6, Cont.cell (AV.int IntKind.i64 (↑cc : Int))), (1, 0, Cont.cell (AV.vs 6)), (1, 1, Cont.cell (AV.fn 29 [AV.ptr 2 0])), (1, 2, Cont.top), (2, 0, Cont.cell (AV.fn 21 [])), (2, 1, Cont.top), (4, 0, Cont.cell (AV.int IntKind.i64 0)), (4, 1, Cont.cell (AV.int IntKind.i64 0)), (4, 2, Cont.top), (5, 0, Cont.cell (AV.int IntKind.i64 (Prod.fst (w (Int.toNat 0))))), (5, 1, Cont.cell (AV.int IntKind.i64 (Prod.snd (w (Int.toNat 0))))), (5, 2, Cont.top), (6, 0, Cont.vec 2 46 l fun j => bif j == cc then AV.agg (AV.cells (AV.agg [AV.int IntKind.i64 (Prod.fst (v q)), AV.int IntKind.i64 (Prod.snd (v q))])) else bif j == q then AV.agg (AV.cells (AV.agg [AV.int IntKind.i64 (Prod.fst (v cc)), AV.int IntKind.i64 (Prod.snd (v cc))])) else nW v j)], 391, 124⟩) (by kernel_rfl) (by kernel_rfl) ?_ ?_
            · (simp only [All]; (repeat' apply And.intro) <;> (try intro _) <;> (try intro _) <;> (repeat' apply And.intro) <;> (try intro _) <;> (try intro _) <;> first | trivial | assumption | exact .inr trivial | exact .inr rfl | omega | rfl | exact ⟨_, rfl, rfl⟩ | exact ⟨rfl, rfl⟩ | exact ⟨fun _ => rfl, fun _ => rfl⟩ | (unfold maxLen; omega) | (unfold i64R; first | omega | decide) | decide)
            refine evC_goL0 (dec := []) (ks := [(0, 0), (0, 2), (0, 3), (0, 4), (0, 5), (1, 0), (1, 1), (1, 2), (2, 0), (2, 1), (4, 0), (4, 1), (4, 2), (5, 0), (5, 1), (5, 2), (6, 0)]) (s' := ⟨[(0, 0, Cont.cell (AV.ptr 1 0)), (0, 2, Cont.cell (AV.ptr 4 0)), (0, 3, Cont.cell (AV.ptr 5 0)), (0, 4, Cont.cell (AV.int IntKind.i64 (↑l : Int))), (0, 5, Cont.cell (AV.int IntKind.i64 (↑cc : Int))), (1, 0, Cont.cell (AV.vs 6)), (1, 1, Cont.cell (AV.fn 29 [AV.ptr 2 0])), (1, 2, Cont.top), (2, 0, Cont.cell (AV.fn 21 [])), (2, 1, Cont.top), (4, 0, Cont.cell (AV.int IntKind.i64 0)), (4, 1, Cont.cell (AV.int IntKind.i64 0)), (4, 2, Cont.top), (5, 0, Cont.cell (AV.int IntKind.i64 (Prod.fst (w (Int.toNat 0))))), (5, 1, Cont.cell (AV.int IntKind.i64 (Prod.snd (w (Int.toNat 0))))), (5, 2, Cont.top), (6, 0, Cont.vec 2 46 l fun j => bif j == cc then AV.agg (AV.cells (AV.agg [AV.int IntKind.i64 (Prod.fst (v q)), AV.int IntKind.i64 (Prod.snd (v q))])) else bif j == q then AV.agg (AV.cells (AV.agg [AV.int IntKind.i64 (Prod.fst (v cc)), AV.int IntKind.i64 (Prod.snd (v cc))])) else nW v j)], 407, 124⟩) (by kernel_rfl) (by kernel_rfl) ?_
            refine block_normal ?_
            refine round_normal (⟨(swp v q cc, cc, g), by simp only; omega, by simp only; omega, h3⟩) (wk_go [4, 5, 6] rfl (by decide) rfl rfl ⟨⟨_, rfl, rfl⟩, ⟨_, rfl, rfl⟩, ⟨_, rfl, rfl⟩, ⟨_, rfl, rfl⟩, ⟨_, rfl, rfl⟩, ⟨_, rfl, rfl⟩, ⟨_, rfl, rfl⟩, ⟨_, rfl, trivial⟩, ⟨_, rfl, rfl⟩, ⟨_, rfl, trivial⟩, ⟨_, rfl, rfl⟩, ⟨_, rfl, rfl⟩, ⟨_, rfl, trivial⟩, ⟨_, rfl, rfl⟩, ⟨_, rfl, rfl⟩, ⟨_, rfl, trivial⟩, ⟨_, rfl, ?_⟩, trivial⟩) ?_
            · refine ⟨rfl, rfl, rfl, fun j hj => ?_⟩
              refine Eq.trans ?_ ((nW_flat (swp v q cc) j).ren).symm
              exact swp_row v q cc j
            · show l - cc < l - q
              omega
        · have hge : ¬ 2 * q + 1 < l := by have := of_decide_eq_false hc; omega
          clear hc
          rw [downN_end hge] at h3
          subst h3
          refine evC_exit ?_
          refine then_exit ?_
          refine round_exit ?_
          refine block_exit ?_
          refine then_normal ?_
          refine evC_go0 (dec := []) (ks := [(0, 2), (1, 0), (1, 1), (1, 2), (2, 0), (2, 1), (4, 0), (4, 1), (4, 2), (6, 0)]) (s' := ⟨[(0, 2, Cont.cell (AV.ptr 4 0)), (1, 0, Cont.cell (AV.vs 6)), (1, 1, Cont.cell (AV.fn 29 [AV.ptr 2 0])), (1, 2, Cont.top), (2, 0, Cont.cell (AV.fn 21 [])), (2, 1, Cont.top), (4, 0, Cont.cell (AV.int IntKind.i64 (Prod.fst (w (Int.toNat 0))))), (4, 1, Cont.cell (AV.int IntKind.i64 (Prod.snd (w (Int.toNat 0))))), (4, 2, Cont.top), (6, 0, Cont.vec 2 46 l (nW (popW w l)))], 63, 124⟩) (by kernel_rfl) (by kernel_rfl) ?_
          refine evC_ret ?_
          refine post_ret ?_
          refine ends_go [6] (AV.agg [AV.int IntKind.i64 (Prod.fst (w (Int.toNat 0))), AV.int IntKind.i64 (Prod.snd (w (Int.toNat 0)))]) [(1, 0, Cont.cell (AV.vs 4)), (1, 1, Cont.cell (AV.fn 29 [AV.ptr 2 0])), (1, 2, Cont.top), (2, 0, Cont.cell (AV.fn 21 [])), (2, 1, Cont.top), (4, 0, Cont.vec 2 46 l (nW (popW w l)))] rfl (by decide) rfl rfl (has_of _ rfl) rfl ⟨⟨_, rfl, rfl⟩, ⟨_, rfl, rfl⟩, ⟨_, rfl, trivial⟩, ⟨_, rfl, rfl⟩, ⟨_, rfl, trivial⟩, ⟨_, rfl, ⟨rfl, rfl, rfl, fun _ _ => rfl⟩⟩, trivial⟩ ⟨fun _ => ⟨1, _, rfl, rfl, rfl, ⟨has_of _ rfl, rfl⟩⟩, fun h => False.elim h, fun _ => ⟨4, _, rfl, rfl, rfl, ⟨rfl, rfl, rfl, fun _ _ => ⟨has_of _ rfl, rfl⟩⟩⟩, trivial⟩ ⟨fun _ => .inl ⟨by simp [keyIn, upKeys], fun sz h => by simp at h⟩, fun _ => .inr ⟨0, _, rfl, rfl, ⟨has_of _ rfl, rfl⟩⟩, fun _ => .inr ⟨0, _, rfl, rfl, trivial⟩, fun _ => .inr ⟨1, _, rfl, rfl, ⟨has_of _ rfl, rfl⟩⟩, fun _ => .inr ⟨1, _, rfl, rfl, trivial⟩, fun _ => .inl ⟨by simp [keyIn, upKeys], fun sz h => by simp at h⟩, trivial⟩
      · cases e
    · cases e
  · cases e
end Go.Eng.S13
