/- Seat 13: something laid into what waits, walked. -/
import Derived.Test.YtmlpggggahpoaaaEngX
import Derived.Test.YtmlpggggahpoaaaS13A
set_option linter.unusedSimpArgs false
set_option linter.unusedVariables false
namespace Go.Eng.S13
open Go.Proofs Go.IntWalk
set_option maxRecDepth 10000

def swp (w : Ws) (i j : Nat) : Ws := fun x => bif x == j then w i else bif x == i then w j else w x
theorem swp_row (v : Ws) (q d j : Nat) : (bif j == d then nW v q else bif j == q then nW v d else nW v j) = nW (swp v q d) j := by
  unfold nW swp
  cases j == d <;> cases j == q <;> rfl
def upN : Nat → Ws → Nat → Ws
  | 0, w, _ => w
  | f + 1, w, k => bif Nat.blt 0 k && decide ((w k).2 < (w ((k - 1) / 2)).2) then upN f (swp w k ((k - 1) / 2)) ((k - 1) / 2) else w
theorem upN_zero (f : Nat) (w : Ws) : upN f w 0 = w := by
  cases f with
  | zero => rfl
  | succ f => rfl
theorem upN_yes {f : Nat} {w : Ws} {k : Nat} (hk : 0 < k) (h : decide ((w k).2 < (w ((k - 1) / 2)).2) = true) : upN (f + 1) w k = upN f (swp w k ((k - 1) / 2)) ((k - 1) / 2) := by
  have : Nat.blt 0 k = true := by simpa [Nat.blt_eq] using hk
  simp only [upN, this, h, Bool.and_self, cond_true]
theorem upN_no {f : Nat} {w : Ws} {k : Nat} (h : decide ((w k).2 < (w ((k - 1) / 2)).2) = false) : upN f w k = w := by
  cases f with
  | zero => rfl
  | succ f => simp only [upN, h, Bool.and_false, cond_false]
def addW (w : Ws) (n : Nat) (q : Int × Int) : Ws := fun i => bif i == n then q else w i
def pushW (w : Ws) (n : Nat) (q : Int × Int) : Ws := upN n (addW w n q) n
def sPush : Spec := fun args hr nb => match args with
  | [.ptr n 0, .agg [.int .i64 x, .int .i64 c]] => match hr n 0, hr n 1, hr n 2 with
    | some (.cell .nils), some (.cell (.fn 29 [.ptr k 0])), some .top => match hr k 0, hr k 1 with
      | some (.cell (.fn 21 [])), some .top => some ⟨[n ≠ k ∧ 0 < n ∧ 0 < k], .tup [], [(n, 0, .cell .nils), (n, 1, .cell (.fn 29 [.ptr k 0])), (n, 2, .top), (k, 0, .cell (.fn 21 [])), (k, 1, .top)],
        [(n, 0, .cell (.vs nb)), (nb, 0, .vec 2 46 1 (nW fun _ => (x, c)))]⟩
      | _, _ => none
    | some (.cell (.vs r)), some (.cell (.fn 29 [.ptr k 0])), some .top => match hr k 0, hr k 1, hr r 0 with
      | some (.cell (.fn 21 [])), some .top, some (.vec 2 46 len f) => some ⟨[n ≠ k ∧ 0 < n ∧ 0 < k ∧ n ≠ r ∧ k ≠ r ∧ 0 < r ∧ len ≤ 1000000 ∧ ∀ i, i < len → f i = nW (Wf f) i], .tup [], [(n, 0, .cell (.vs r)), (n, 1, .cell (.fn 29 [.ptr k 0])), (n, 2, .top), (k, 0, .cell (.fn 21 [])), (k, 1, .top), (r, 0, .vec 2 46 len f)],
        [(n, 0, .cell (.vs nb)), (r, 0, .dead), (nb, 0, .vec 2 46 (len + 1) (nW (pushW (Wf f) len (x, c))))]⟩
      | _, _, _ => none
    | _, _, _ => none
  | _ => none
theorem push_ok : SpecOK Try.prog 22 sPush := by
  refine spec_at (by kernel_rfl) T_ok (sget_cons less_ok sget_nil) Try.func22 rfl rfl fun args hr nb out e => ?_
  unfold sPush at e
  split at e
  · rename_i n x c
    split at e
    · rename_i k e1 e2 e3
      split at e
      · rename_i e4 e5
        injection e with e; subst e
        refine ⟨?_, true, [n, k], [.ptr 1 0, .agg [.int .i64 x, .int .i64 c]], [(1, 0, .cell .nils), (1, 1, .cell (.fn 29 [.ptr 2 0])), (1, 2, .top), (2, 0, .cell (.fn 21 [])), (2, 1, .top)], rfl, fun hs => ?_⟩
        · simp [e1, e2, e3, e4, e5]
        obtain ⟨n1, p1, p2⟩ := hs _ List.mem_cons_self
        refine ⟨by simp [n1], ?_, .cons _ _ _ _ (.name _ _ _ rfl) (.cons _ _ _ _ (.same _ _ (flat_of _ rfl).has) .nil), ?_, ?_⟩
        · intro z hz
          simp at hz
          rcases hz with rfl | rfl
          · exact ⟨p1, whole_laid [.cell .nils, .cell (.fn 29 [.ptr k 0])] rfl (by simp [laid, Cont.wd])⟩
          · exact ⟨p2, whole_laid [.cell (.fn 21 [])] rfl (by simp [laid, Cont.wd])⟩
        · exact InitH.get ⟨⟨0, 0, _, _, rfl, rfl, rfl, rfl⟩, ⟨0, 1, _, _, rfl, rfl, rfl, rfl⟩, ⟨0, 2, _, _, rfl, rfl, rfl, trivial⟩, ⟨1, 3, _, _, rfl, rfl, rfl, rfl⟩, ⟨1, 4, _, _, rfl, rfl, rfl, trivial⟩, trivial⟩
        clear hs
        refine evC_go0 (dec := []) (ks := [(0, 0), (0, 3), (1, 0), (1, 1), (1, 2), (2, 0), (2, 1), (3, 0), (3, 1), (3, 2)]) (s' := ⟨[(0, 0, Cont.cell (AV.ptr 1 0)), (0, 3, Cont.cell (AV.ptr 3 0)), (1, 0, Cont.cell AV.nils), (1, 1, Cont.cell (AV.fn 29 [AV.ptr 2 0])), (1, 2, Cont.top), (2, 0, Cont.cell (AV.fn 21 [])), (2, 1, Cont.top), (3, 0, Cont.cell (AV.int IntKind.i64 x)), (3, 1, Cont.cell (AV.int IntKind.i64 c)), (3, 2, Cont.top)], 11, 79⟩) (by kernel_rfl) (by kernel_rfl) ?_
        refine evC_go (dec := []) (ks := [(0, 0), (1, 0), (1, 1), (1, 2), (2, 0), (2, 1), (67, 0)]) (ps := [(1 : Nat) * (16 : Nat) ≤ (140737488355328 : Nat), (1 : Nat) ≤ maxLen, (1 : Nat) = (0 : Nat) ∨ (2 : Nat) = (2 : Nat)]) (s' := ⟨[(0, 0, Cont.cell (AV.ptr 1 0)), (1, 0, Cont.cell (AV.vs 67)), (1, 1, Cont.cell (AV.fn 29 [AV.ptr 2 0])), (1, 2, Cont.top), (2, 0, Cont.cell (AV.fn 21 [])), (2, 1, Cont.top), (67, 0, Cont.vec 2 46 1 (pget [(0, AV.agg [AV.int IntKind.i64 x, AV.int IntKind.i64 c])]))], 99, 79⟩) (by kernel_rfl) (by kernel_rfl) ?_ ?_
        · (simp only [All]; (repeat' apply And.intro) <;> (try intro _) <;> (try intro _) <;> (repeat' apply And.intro) <;> (try intro _) <;> (try intro _) <;> first | trivial | assumption | exact .inr trivial | exact .inr rfl | omega | rfl | exact ⟨_, rfl, rfl⟩ | exact ⟨rfl, rfl⟩ | exact ⟨fun _ => rfl, fun _ => rfl⟩ | (unfold maxLen; omega) | (unfold i64R; first | omega | decide) | decide)
        refine evC_wk (s' := ⟨[(0, 0, Cont.cell (AV.ptr 1 0)), (1, 0, Cont.cell (AV.vs 3)), (1, 1, Cont.cell (AV.fn 29 [AV.ptr 2 0])), (1, 2, Cont.top), (2, 0, Cont.cell (AV.fn 21 [])), (2, 1, Cont.top), (3, 0, .vec 2 46 1 (nW fun _ => (x, c)))], 4, 79⟩) _ (wk_go [67] rfl (by decide) rfl rfl ⟨⟨_, rfl, rfl⟩, ⟨_, rfl, rfl⟩, ⟨_, rfl, rfl⟩, ⟨_, rfl, trivial⟩, ⟨_, rfl, rfl⟩, ⟨_, rfl, trivial⟩, ⟨_, rfl, ?_⟩, trivial⟩) ?_
        · refine ⟨rfl, rfl, rfl, fun j hj => ?_⟩
          have : j = 0 := by omega
          subst this
          rfl
        refine evC_go0 (dec := []) (ks := [(0, 0), (0, 4), (1, 0), (1, 1), (1, 2), (2, 0), (2, 1), (3, 0)]) (s' := ⟨[(0, 0, Cont.cell (AV.ptr 1 0)), (0, 4, Cont.cell (AV.int IntKind.i64 (IntKind.i64.wrap ((↑1 : Int) - 1)))), (1, 0, Cont.cell (AV.vs 3)), (1, 1, Cont.cell (AV.fn 29 [AV.ptr 2 0])), (1, 2, Cont.top), (2, 0, Cont.cell (AV.fn 21 [])), (2, 1, Cont.top), (3, 0, Cont.vec 2 46 1 (nW fun x_1 => (x, c)))], 60, 79⟩) (by kernel_rfl) (by kernel_rfl) ?_
        have e0 : IntKind.i64.wrap (1 - 1) = 0 := rfl
        rw [e0]
        refine evC_block ?_
        refine evC_loop (ι := Unit) (fun s => ⟨[(0, 0, Cont.cell (AV.ptr 1 0)), (0, 4, Cont.cell (AV.int IntKind.i64 0)), (1, 0, Cont.cell (AV.vs 3)), (1, 1, Cont.cell (AV.fn 29 [AV.ptr 2 0])), (1, 2, Cont.top), (2, 0, Cont.cell (AV.fn 21 [])), (2, 1, Cont.top), (3, 0, Cont.vec 2 46 1 (nW fun x_1 => (x, c)))], 4, 79⟩) (fun s => 0) () (wk_go [3] rfl (by decide) rfl rfl ⟨⟨_, rfl, rfl⟩, ⟨_, rfl, rfl⟩, ⟨_, rfl, rfl⟩, ⟨_, rfl, rfl⟩, ⟨_, rfl, trivial⟩, ⟨_, rfl, rfl⟩, ⟨_, rfl, trivial⟩, ⟨_, rfl, rfl, rfl, rfl, fun _ _ => rfl⟩, trivial⟩) ?_
        rintro ⟨⟩
        refine evC_seq ?_
        refine evC_go (dec := []) (ks := [(0, 0), (0, 4), (0, 45), (1, 0), (1, 1), (1, 2), (2, 0), (2, 1), (3, 0)]) (ps := [List.all [decide ((0 : Int) > (0 : Int))] id = true → (0 : Int) ≤ (0 : Int), List.all [decide ((0 : Int) > (0 : Int))] id = true → (0 : Int) < (↑(1 : Nat) : Int), List.all [decide ((0 : Int) > (0 : Int))] id = true → (2 : Nat) = (2 : Nat), List.all [decide ((0 : Int) > (0 : Int))] id = true → (0 : Int) ≤ (0 : Int), List.all [decide ((0 : Int) > (0 : Int))] id = true → (0 : Int) < (↑(1 : Nat) : Int), List.all [decide ((0 : Int) > (0 : Int))] id = true → (2 : Nat) = (2 : Nat), List.all [decide ((0 : Int) > (0 : Int))] id = true → (2 : Int) ≠ (0 : Int), List.all [decide ((0 : Int) > (0 : Int))] id = true → (0 : Int) ≤ IntKind.i64.wrap (Int.tdiv (IntKind.i64.wrap ((0 : Int) - (1 : Int))) (2 : Int)), List.all [decide ((0 : Int) > (0 : Int))] id = true → IntKind.i64.wrap (Int.tdiv (IntKind.i64.wrap ((0 : Int) - (1 : Int))) (2 : Int)) < (↑(1 : Nat) : Int), List.all [decide ((0 : Int) > (0 : Int))] id = true → (2 : Nat) = (2 : Nat), List.all [decide ((0 : Int) > (0 : Int))] id = true → (0 : Int) ≤ IntKind.i64.wrap (Int.tdiv (IntKind.i64.wrap ((0 : Int) - (1 : Int))) (2 : Int)), List.all [decide ((0 : Int) > (0 : Int))] id = true → IntKind.i64.wrap (Int.tdiv (IntKind.i64.wrap ((0 : Int) - (1 : Int))) (2 : Int)) < (↑(1 : Nat) : Int), List.all [decide ((0 : Int) > (0 : Int))] id = true → (2 : Nat) = (2 : Nat), List.all [decide ((0 : Int) > (0 : Int))] id = true → (0 : Nat) < (2 : Nat)]) (s' := ⟨[(0, 0, Cont.cell (AV.ptr 1 0)), (0, 4, Cont.cell (AV.int IntKind.i64 0)), (0, 45, Cont.cell (AV.bool (bif decide (0 > 0) then decide (c < c) else false))), (1, 0, Cont.cell (AV.vs 3)), (1, 1, Cont.cell (AV.fn 29 [AV.ptr 2 0])), (1, 2, Cont.top), (2, 0, Cont.cell (AV.fn 21 [])), (2, 1, Cont.top), (3, 0, Cont.vec 2 46 1 (nW fun x_1 => (x, c)))], 204, 79⟩) (by kernel_rfl) (by kernel_rfl) ?_ ?_
        · simp only [All]
          repeat' apply And.intro
          all_goals (intro h; simp at h)
        refine evC_if (q := bif decide (0 > 0) then decide (c < c) else false) (by kernel_rfl) (fun hc => ?_) (fun hc => ?_)
        · cases hc
        refine evC_exit ?_
        refine then_exit ?_
        refine round_exit ?_
        refine block_exit ?_
        refine post_normal ?_
        refine ends_go [3] (AV.tup []) [(1, 0, Cont.cell (AV.vs 3)), (1, 1, Cont.cell (AV.fn 29 [AV.ptr 2 0])), (1, 2, Cont.top), (2, 0, Cont.cell (AV.fn 21 [])), (2, 1, Cont.top), (3, 0, Cont.vec 2 46 1 (nW fun x_1 => (x, c)))] rfl (by decide) rfl rfl (has_of _ rfl) rfl ⟨⟨_, rfl, rfl⟩, ⟨_, rfl, rfl⟩, ⟨_, rfl, trivial⟩, ⟨_, rfl, rfl⟩, ⟨_, rfl, trivial⟩, ⟨_, rfl, ⟨rfl, rfl, rfl, fun _ _ => rfl⟩⟩, trivial⟩ ⟨fun _ => ⟨1, _, rfl, rfl, rfl, ⟨has_of _ rfl, rfl⟩⟩, fun _ => ⟨3, _, rfl, rfl, rfl, ⟨rfl, rfl, rfl, fun _ _ => ⟨has_of _ rfl, rfl⟩⟩⟩, trivial⟩ ⟨fun _ => .inl ⟨by simp [keyIn, upKeys], fun sz h => by simp at h⟩, fun _ => .inr ⟨0, _, rfl, rfl, ⟨has_of _ rfl, rfl⟩⟩, fun _ => .inr ⟨0, _, rfl, rfl, trivial⟩, fun _ => .inr ⟨1, _, rfl, rfl, ⟨has_of _ rfl, rfl⟩⟩, fun _ => .inr ⟨1, _, rfl, rfl, trivial⟩, trivial⟩
      · cases e
    · rename_i r k e1 e2 e3
      split at e
      · rename_i len f e4 e5 e6
        injection e with e; subst e
        refine ⟨?_, true, [n, k, r], [.ptr 1 0, .agg [.int .i64 x, .int .i64 c]], [(1, 0, .cell (.vs 3)), (1, 1, .cell (.fn 29 [.ptr 2 0])), (1, 2, .top), (2, 0, .cell (.fn 21 [])), (2, 1, .top), (3, 0, .vec 2 46 len (nW (Wf f)))], rfl, fun hs => ?_⟩
        · simp [e1, e2, e3, e4, e5, e6]
        obtain ⟨n1, p1, p2, n2, n3, p3, hl, hf⟩ := hs _ List.mem_cons_self
        refine ⟨by simp [n1, n2, n3], ?_, .cons _ _ _ _ (.name _ _ _ rfl) (.cons _ _ _ _ (.same _ _ (flat_of _ rfl).has) .nil), ?_, ?_⟩
        · intro z hz
          simp at hz
          rcases hz with rfl | rfl | rfl
          · exact ⟨p1, whole_laid [.cell (.vs r), .cell (.fn 29 [.ptr k 0])] rfl (by simp [laid, Cont.wd])⟩
          · exact ⟨p2, whole_laid [.cell (.fn 21 [])] rfl (by simp [laid, Cont.wd])⟩
          · exact ⟨p3, .vec 2 46 len f (by simp)⟩
        · exact InitH.get ⟨⟨0, 0, _, _, rfl, rfl, rfl, rfl⟩, ⟨0, 1, _, _, rfl, rfl, rfl, rfl⟩, ⟨0, 2, _, _, rfl, rfl, rfl, trivial⟩, ⟨1, 3, _, _, rfl, rfl, rfl, rfl⟩, ⟨1, 4, _, _, rfl, rfl, rfl, trivial⟩, ⟨2, 5, _, _, rfl, rfl, rfl, ⟨rfl, rfl, rfl, fun i hi => by rw [hf i hi]; exact ((nW_flat _ i).ren).symm⟩⟩, trivial⟩
        clear hs hf
        generalize Wf f = w
        refine evC_go0 (dec := []) (ks := [(0, 0), (0, 3), (1, 0), (1, 1), (1, 2), (2, 0), (2, 1), (3, 0), (4, 0), (4, 1), (4, 2)]) (s' := ⟨[(0, 0, Cont.cell (AV.ptr 1 0)), (0, 3, Cont.cell (AV.ptr 4 0)), (1, 0, Cont.cell (AV.vs 3)), (1, 1, Cont.cell (AV.fn 29 [AV.ptr 2 0])), (1, 2, Cont.top), (2, 0, Cont.cell (AV.fn 21 [])), (2, 1, Cont.top), (3, 0, Cont.vec 2 46 len (nW w)), (4, 0, Cont.cell (AV.int IntKind.i64 x)), (4, 1, Cont.cell (AV.int IntKind.i64 c)), (4, 2, Cont.top)], 12, 79⟩) (by kernel_rfl) (by kernel_rfl) ?_
        refine evC_go (dec := []) (ks := [(0, 0), (1, 0), (1, 1), (1, 2), (2, 0), (2, 1), (68, 0)]) (ps := [(len + (1 : Nat)) * (16 : Nat) ≤ (140737488355328 : Nat), len + (1 : Nat) ≤ maxLen, (1 : Nat) = (0 : Nat) ∨ (2 : Nat) = (2 : Nat), (2 : Nat) = (2 : Nat), (46 : Nat) = (46 : Nat)]) (s' := ⟨[(0, 0, Cont.cell (AV.ptr 1 0)), (1, 0, Cont.cell (AV.vs 68)), (1, 1, Cont.cell (AV.fn 29 [AV.ptr 2 0])), (1, 2, Cont.top), (2, 0, Cont.cell (AV.fn 21 [])), (2, 1, Cont.top), (68, 0, Cont.vec 2 46 (len + 1) (catF len (nW w) (pget [(0, AV.agg [AV.int IntKind.i64 x, AV.int IntKind.i64 c])])))], 100, 79⟩) (by kernel_rfl) (by kernel_rfl) ?_ ?_
        · (simp only [All]; (repeat' apply And.intro) <;> (try intro _) <;> (try intro _) <;> (repeat' apply And.intro) <;> (try intro _) <;> (try intro _) <;> first | trivial | assumption | exact .inr trivial | exact .inr rfl | omega | rfl | exact ⟨_, rfl, rfl⟩ | exact ⟨rfl, rfl⟩ | exact ⟨fun _ => rfl, fun _ => rfl⟩ | (unfold maxLen; omega) | (unfold i64R; first | omega | decide) | decide)
        refine evC_go0 (dec := []) (ks := [(0, 0), (0, 4), (1, 0), (1, 1), (1, 2), (2, 0), (2, 1), (68, 0)]) (s' := ⟨[(0, 0, Cont.cell (AV.ptr 1 0)), (0, 4, Cont.cell (AV.int IntKind.i64 (IntKind.i64.wrap ((↑(len + 1) : Int) - 1)))), (1, 0, Cont.cell (AV.vs 68)), (1, 1, Cont.cell (AV.fn 29 [AV.ptr 2 0])), (1, 2, Cont.top), (2, 0, Cont.cell (AV.fn 21 [])), (2, 1, Cont.top), (68, 0, Cont.vec 2 46 (len + 1) (catF len (nW w) (pget [(0, AV.agg [AV.int IntKind.i64 x, AV.int IntKind.i64 c])])))], 156, 79⟩) (by kernel_rfl) (by kernel_rfl) ?_
        have el : IntKind.i64.wrap (((len + 1 : Nat) : Int) - 1) = ((len : Nat) : Int) := by rw [i64_in _ (by omega)]; omega
        rw [el]
        have hi0 : upN len (addW w len (x, c)) len = pushW w len (x, c) := rfl
        refine evC_block ?_
        refine evC_loop (ι := { s : Ws × Nat × Nat // s.2.1 ≤ s.2.2 ∧ s.2.1 ≤ len ∧ upN s.2.2 s.1 s.2.1 = pushW w len (x, c) }) (fun s => ⟨[(0, 0, Cont.cell (AV.ptr 1 0)), (0, 4, .cell (.int .i64 (s.1.2.1 : Nat))), (1, 0, Cont.cell (AV.vs 4)), (1, 1, Cont.cell (AV.fn 29 [AV.ptr 2 0])), (1, 2, Cont.top), (2, 0, Cont.cell (AV.fn 21 [])), (2, 1, Cont.top), (4, 0, .vec 2 46 (len + 1) (nW s.1.1))], 5, 79⟩) (fun s => s.1.2.1) ⟨(addW w len (x, c), len, len), Nat.le_refl _, Nat.le_refl _, hi0⟩ (wk_go [68] rfl (by decide) rfl rfl ⟨⟨_, rfl, rfl⟩, ⟨_, rfl, rfl⟩, ⟨_, rfl, rfl⟩, ⟨_, rfl, rfl⟩, ⟨_, rfl, trivial⟩, ⟨_, rfl, rfl⟩, ⟨_, rfl, trivial⟩, ⟨_, rfl, ?_⟩, trivial⟩) ?_
        · refine ⟨rfl, rfl, rfl, fun j hj => ?_⟩
          refine Eq.trans ?_ ((nW_flat (addW w len (x, c)) j).ren).symm
          have hj' : j < len + 1 := hj
          rcases Nat.lt_or_ge j len with h | h
          · rw [catF_lt h]
            have : (j == len) = false := by simp; omega
            unfold nW addW
            rw [this]; rfl
          · have : j = len := by omega
            subst this
            rw [catF_ge (Nat.le_refl _), Nat.sub_self]
            unfold nW addW
            simp
            rfl
        rintro ⟨⟨v, q, g⟩, h1, h2, h3⟩
        simp only at h1 h2 h3
        rcases Nat.eq_zero_or_pos q with hq | hq
        · subst hq
          refine evC_seq ?_
          refine evC_go (dec := []) (ks := [(0, 0), (0, 4), (0, 45), (1, 0), (1, 1), (1, 2), (2, 0), (2, 1), (4, 0)]) (ps := [List.all [decide ((↑(0 : Nat) : Int) > (0 : Int))] id = true → (0 : Int) ≤ (↑(0 : Nat) : Int), List.all [decide ((↑(0 : Nat) : Int) > (0 : Int))] id = true → (↑(0 : Nat) : Int) < (↑(len + (1 : Nat)) : Int), List.all [decide ((↑(0 : Nat) : Int) > (0 : Int))] id = true → (2 : Nat) = (2 : Nat), List.all [decide ((↑(0 : Nat) : Int) > (0 : Int))] id = true → (0 : Int) ≤ (↑(0 : Nat) : Int), List.all [decide ((↑(0 : Nat) : Int) > (0 : Int))] id = true → (↑(0 : Nat) : Int) < (↑(len + (1 : Nat)) : Int), List.all [decide ((↑(0 : Nat) : Int) > (0 : Int))] id = true → (2 : Nat) = (2 : Nat), List.all [decide ((↑(0 : Nat) : Int) > (0 : Int))] id = true → (2 : Int) ≠ (0 : Int), List.all [decide ((↑(0 : Nat) : Int) > (0 : Int))] id = true → (0 : Int) ≤ IntKind.i64.wrap (Int.tdiv (IntKind.i64.wrap ((↑(0 : Nat) : Int) - (1 : Int))) (2 : Int)), List.all [decide ((↑(0 : Nat) : Int) > (0 : Int))] id = true → IntKind.i64.wrap (Int.tdiv (IntKind.i64.wrap ((↑(0 : Nat) : Int) - (1 : Int))) (2 : Int)) < (↑(len + (1 : Nat)) : Int), List.all [decide ((↑(0 : Nat) : Int) > (0 : Int))] id = true → (2 : Nat) = (2 : Nat), List.all [decide ((↑(0 : Nat) : Int) > (0 : Int))] id = true → (0 : Int) ≤ IntKind.i64.wrap (Int.tdiv (IntKind.i64.wrap ((↑(0 : Nat) : Int) - (1 : Int))) (2 : Int)), List.all [decide ((↑(0 : Nat) : Int) > (0 : Int))] id = true → IntKind.i64.wrap (Int.tdiv (IntKind.i64.wrap ((↑(0 : Nat) : Int) - (1 : Int))) (2 : Int)) < (↑(len + (1 : Nat)) : Int), List.all [decide ((↑(0 : Nat) : Int) > (0 : Int))] id = true → (2 : Nat) = (2 : Nat), List.all [decide ((↑(0 : Nat) : Int) > (0 : Int))] id = true → (0 : Nat) < (2 : Nat)]) (s' := ⟨[(0, 0, Cont.cell (AV.ptr 1 0)), (0, 4, Cont.cell (AV.int IntKind.i64 (↑0 : Int))), (0, 45, Cont.cell (AV.bool (bif decide ((↑0 : Int) > 0) then decide (Prod.snd (v 0) < Prod.snd (v (Int.toNat (IntKind.i64.wrap (Int.tdiv (IntKind.i64.wrap ((↑0 : Int) - 1)) 2))))) else false))), (1, 0, Cont.cell (AV.vs 4)), (1, 1, Cont.cell (AV.fn 29 [AV.ptr 2 0])), (1, 2, Cont.top), (2, 0, Cont.cell (AV.fn 21 [])), (2, 1, Cont.top), (4, 0, Cont.vec 2 46 (len + 1) (nW v))], 205, 79⟩) (by kernel_rfl) (by kernel_rfl) ?_ ?_
          · simp only [All]
            repeat' apply And.intro
            all_goals (intro h; simp at h)
          refine evC_if (q := bif decide (0 > 0) then decide (Prod.snd (v 0) < Prod.snd (v (Int.toNat (IntKind.i64.wrap (Int.tdiv (IntKind.i64.wrap (0 - 1)) 2))))) else false) (by kernel_rfl) (fun hc => ?_) (fun hc => ?_)
          · cases hc
          refine evC_exit ?_
          refine then_exit ?_
          refine round_exit ?_
          refine block_exit ?_
          refine post_normal ?_
          rw [upN_zero] at h3
          rw [← h3]
          refine ends_go [4] (AV.tup []) [(1, 0, Cont.cell (AV.vs 4)), (1, 1, Cont.cell (AV.fn 29 [AV.ptr 2 0])), (1, 2, Cont.top), (2, 0, Cont.cell (AV.fn 21 [])), (2, 1, Cont.top), (4, 0, Cont.vec 2 46 (len + 1) (nW v))] rfl (by decide) rfl rfl (has_of _ rfl) rfl ⟨⟨_, rfl, rfl⟩, ⟨_, rfl, rfl⟩, ⟨_, rfl, trivial⟩, ⟨_, rfl, rfl⟩, ⟨_, rfl, trivial⟩, ⟨_, rfl, ⟨rfl, rfl, rfl, fun _ _ => rfl⟩⟩, trivial⟩ ⟨fun _ => ⟨1, _, rfl, rfl, rfl, ⟨has_of _ rfl, rfl⟩⟩, fun h => False.elim h, fun _ => ⟨4, _, rfl, rfl, rfl, ⟨rfl, rfl, rfl, fun _ _ => ⟨has_of _ rfl, rfl⟩⟩⟩, trivial⟩ ⟨fun _ => .inl ⟨by simp [keyIn, upKeys], fun sz h => by simp at h⟩, fun _ => .inr ⟨0, _, rfl, rfl, ⟨has_of _ rfl, rfl⟩⟩, fun _ => .inr ⟨0, _, rfl, rfl, trivial⟩, fun _ => .inr ⟨1, _, rfl, rfl, ⟨has_of _ rfl, rfl⟩⟩, fun _ => .inr ⟨1, _, rfl, rfl, trivial⟩, fun _ => .inl ⟨by simp [keyIn, upKeys], fun sz h => by simp at h⟩, trivial⟩
        · have ed : IntKind.i64.wrap ((IntKind.i64.wrap ((q : Int) - 1)).tdiv 2) = (((q - 1) / 2 : Nat) : Int) := by
            rw [i64_in ((q : Int) - 1) (by omega), Int.tdiv_eq_ediv_of_nonneg (by omega), i64_in _ (by omega)]; omega
          have eq0 : decide ((q : Int) > 0) = true := decide_eq_true (by omega)
          refine evC_seq ?_
          refine evC_go (dec := []) (ks := [(0, 0), (0, 4), (0, 45), (1, 0), (1, 1), (1, 2), (2, 0), (2, 1), (4, 0)]) (ps := [List.all [decide ((↑q : Int) > (0 : Int))] id = true → (0 : Int) ≤ (↑q : Int), List.all [decide ((↑q : Int) > (0 : Int))] id = true → (↑q : Int) < (↑(len + (1 : Nat)) : Int), List.all [decide ((↑q : Int) > (0 : Int))] id = true → (2 : Nat) = (2 : Nat), List.all [decide ((↑q : Int) > (0 : Int))] id = true → (0 : Int) ≤ (↑q : Int), List.all [decide ((↑q : Int) > (0 : Int))] id = true → (↑q : Int) < (↑(len + (1 : Nat)) : Int), List.all [decide ((↑q : Int) > (0 : Int))] id = true → (2 : Nat) = (2 : Nat), List.all [decide ((↑q : Int) > (0 : Int))] id = true → (2 : Int) ≠ (0 : Int), List.all [decide ((↑q : Int) > (0 : Int))] id = true → (0 : Int) ≤ IntKind.i64.wrap (Int.tdiv (IntKind.i64.wrap ((↑q : Int) - (1 : Int))) (2 : Int)), List.all [decide ((↑q : Int) > (0 : Int))] id = true → IntKind.i64.wrap (Int.tdiv (IntKind.i64.wrap ((↑q : Int) - (1 : Int))) (2 : Int)) < (↑(len + (1 : Nat)) : Int), List.all [decide ((↑q : Int) > (0 : Int))] id = true → (2 : Nat) = (2 : Nat), List.all [decide ((↑q : Int) > (0 : Int))] id = true → (0 : Int) ≤ IntKind.i64.wrap (Int.tdiv (IntKind.i64.wrap ((↑q : Int) - (1 : Int))) (2 : Int)), List.all [decide ((↑q : Int) > (0 : Int))] id = true → IntKind.i64.wrap (Int.tdiv (IntKind.i64.wrap ((↑q : Int) - (1 : Int))) (2 : Int)) < (↑(len + (1 : Nat)) : Int), List.all [decide ((↑q : Int) > (0 : Int))] id = true → (2 : Nat) = (2 : Nat), List.all [decide ((↑q : Int) > (0 : Int))] id = true → (0 : Nat) < (2 : Nat)]) (s' := ⟨[(0, 0, Cont.cell (AV.ptr 1 0)), (0, 4, Cont.cell (AV.int IntKind.i64 (↑q : Int))), (0, 45, Cont.cell (AV.bool (bif decide ((↑q : Int) > 0) then decide (Prod.snd (v q) < Prod.snd (v (Int.toNat (IntKind.i64.wrap (Int.tdiv (IntKind.i64.wrap ((↑q : Int) - 1)) 2))))) else false))), (1, 0, Cont.cell (AV.vs 4)), (1, 1, Cont.cell (AV.fn 29 [AV.ptr 2 0])), (1, 2, Cont.top), (2, 0, Cont.cell (AV.fn 21 [])), (2, 1, Cont.top), (4, 0, Cont.vec 2 46 (len + 1) (nW v))], 205, 79⟩) (by kernel_rfl) (by kernel_rfl) ?_ ?_
          · rw [ed]
            simp only [All]
            repeat' apply And.intro
            all_goals (intro _; first | omega | trivial | trace_state)
          rw [ed, eq0]
          refine evC_if (q := decide (Prod.snd (v q) < Prod.snd (v ((q - 1) / 2)))) (by kernel_rfl) (fun hc => ?_) (fun hc => ?_)
          · clear eq0
            refine evC_skip ?_
            refine then_normal ?_
            refine evC_seq ?_
            refine evC_block ?_
            refine evC_goL (dec := []) (ks := [(0, 0), (0, 4), (1, 0), (1, 1), (1, 2), (2, 0), (2, 1), (4, 0)]) (ps := [(2 : Int) ≠ (0 : Int), (2 : Int) ≠ (0 : Int), (0 : Int) ≤ IntKind.i64.wrap (Int.tdiv (IntKind.i64.wrap ((↑q : Int) - (1 : Int))) (2 : Int)), IntKind.i64.wrap (Int.tdiv (IntKind.i64.wrap ((↑q : Int) - (1 : Int))) (2 : Int)) < (↑(len + (1 : Nat)) : Int), (2 : Nat) = (2 : Nat), (0 : Int) ≤ IntKind.i64.wrap (Int.tdiv (IntKind.i64.wrap ((↑q : Int) - (1 : Int))) (2 : Int)), IntKind.i64.wrap (Int.tdiv (IntKind.i64.wrap ((↑q : Int) - (1 : Int))) (2 : Int)) < (↑(len + (1 : Nat)) : Int), (2 : Nat) = (2 : Nat), (0 : Int) ≤ (↑q : Int), (↑q : Int) < (↑(len + (1 : Nat)) : Int), (2 : Nat) = (2 : Nat), (0 : Int) ≤ (↑q : Int), (↑q : Int) < (↑(len + (1 : Nat)) : Int), (2 : Nat) = (2 : Nat), (0 : Int) ≤ (↑q : Int), (↑q : Int) < (↑(len + (1 : Nat)) : Int), (2 : Nat) = (2 : Nat), (0 : Int) ≤ (↑q : Int), (↑q : Int) < (↑(len + (1 : Nat)) : Int), (2 : Nat) = (2 : Nat), widthC (AV.cells (AV.agg [AV.int IntKind.i64 (Prod.fst (v (Int.toNat (IntKind.i64.wrap (Int.tdiv (IntKind.i64.wrap ((↑q : Int) - (1 : Int))) (2 : Int)))))), AV.int IntKind.i64 (Prod.snd (v (Int.toNat (IntKind.i64.wrap (Int.tdiv (IntKind.i64.wrap ((↑q : Int) - (1 : Int))) (2 : Int))))))])) = (2 : Nat), (0 : Int) ≤ IntKind.i64.wrap (Int.tdiv (IntKind.i64.wrap ((↑q : Int) - (1 : Int))) (2 : Int)), IntKind.i64.wrap (Int.tdiv (IntKind.i64.wrap ((↑q : Int) - (1 : Int))) (2 : Int)) < (↑(len + (1 : Nat)) : Int), (2 : Nat) = (2 : Nat), (0 : Int) ≤ IntKind.i64.wrap (Int.tdiv (IntKind.i64.wrap ((↑q : Int) - (1 : Int))) (2 : Int)), IntKind.i64.wrap (Int.tdiv (IntKind.i64.wrap ((↑q : Int) - (1 : Int))) (2 : Int)) < (↑(len + (1 : Nat)) : Int), (2 : Nat) = (2 : Nat), widthC (AV.cells (AV.agg [AV.int IntKind.i64 (Prod.fst (v q)), AV.int IntKind.i64 (Prod.snd (v q))])) = (2 : Nat)]) (s' := ⟨[(0, 0, Cont.cell (AV.ptr 1 0)), (0, 4, Cont.cell (AV.int IntKind.i64 (↑q : Int))), (1, 0, Cont.cell (AV.vs 4)), (1, 1, Cont.cell (AV.fn 29 [AV.ptr 2 0])), (1, 2, Cont.top), (2, 0, Cont.cell (AV.fn 21 [])), (2, 1, Cont.top), (4, 0, Cont.vec 2 46 (len + 1) fun j => bif j == Int.toNat (IntKind.i64.wrap (Int.tdiv (IntKind.i64.wrap ((↑q : Int) - 1)) 2)) then AV.agg (AV.cells (AV.agg [AV.int IntKind.i64 (Prod.fst (v q)), AV.int IntKind.i64 (Prod.snd (v q))])) else bif j == q then AV.agg (AV.cells (AV.agg [AV.int IntKind.i64 (Prod.fst (v (Int.toNat (IntKind.i64.wrap (Int.tdiv (IntKind.i64.wrap ((↑q : Int) - 1)) 2))))), AV.int IntKind.i64 (Prod.snd (v (Int.toNat (IntKind.i64.wrap (Int.tdiv (IntKind.i64.wrap ((↑q : Int) - 1)) 2)))))])) else nW v j)], 461, 79⟩) (by kernel_rfl) (by kernel_rfl) ?_ ?_
            · rw [ed]
              (simp only [All]; (repeat' apply And.intro) <;> (try intro _) <;> (try intro _) <;> (repeat' apply And.intro) <;> (try intro _) <;> (try intro _) <;> first | trivial | assumption | exact .inr trivial | exact .inr rfl | omega | rfl | exact ⟨_, rfl, rfl⟩ | exact ⟨rfl, rfl⟩ | exact ⟨fun _ => rfl, fun _ => rfl⟩ | (unfold maxLen; omega) | (unfold i64R; first | omega | decide) | decide)
            rw [ed]
            refine block_normal ?_
            refine then_normal ?_
            refine evC_goL (dec := []) (ks := [(0, 0), (0, 4), (1, 0), (1, 1), (1, 2), (2, 0), (2, 1), (4, 0)]) (ps := [(2 : Int) ≠ (0 : Int)]) (s' := ⟨[(0, 0, Cont.cell (AV.ptr 1 0)), (0, 4, Cont.cell (AV.int IntKind.i64 (IntKind.i64.wrap (Int.tdiv (IntKind.i64.wrap ((↑q : Int) - 1)) 2)))), (1, 0, Cont.cell (AV.vs 4)), (1, 1, Cont.cell (AV.fn 29 [AV.ptr 2 0])), (1, 2, Cont.top), (2, 0, Cont.cell (AV.fn 21 [])), (2, 1, Cont.top), (4, 0, Cont.vec 2 46 (len + 1) fun j => bif j == (q - 1) / 2 then AV.agg (AV.cells (AV.agg [AV.int IntKind.i64 (Prod.fst (v q)), AV.int IntKind.i64 (Prod.snd (v q))])) else bif j == q then AV.agg (AV.cells (AV.agg [AV.int IntKind.i64 (Prod.fst (v ((q - 1) / 2))), AV.int IntKind.i64 (Prod.snd (v ((q - 1) / 2)))])) else nW v j)], 493, 79⟩) (by kernel_rfl) (by kernel_rfl) ?_ ?_
            · show (2 : Int) ≠ 0
              decide
            rw [ed]
            obtain ⟨g, rfl⟩ : ∃ g', g = g' + 1 := ⟨g - 1, by omega⟩
            rw [upN_yes hq hc] at h3
            refine round_normal (⟨(swp v q ((q - 1) / 2), (q - 1) / 2, g), by simp only; omega, by simp only; omega, h3⟩) (wk_go [4] rfl (by decide) rfl rfl ⟨⟨_, rfl, rfl⟩, ⟨_, rfl, rfl⟩, ⟨_, rfl, rfl⟩, ⟨_, rfl, rfl⟩, ⟨_, rfl, trivial⟩, ⟨_, rfl, rfl⟩, ⟨_, rfl, trivial⟩, ⟨_, rfl, ?_⟩, trivial⟩) ?_
            · refine ⟨rfl, rfl, rfl, fun j hj => ?_⟩
              refine Eq.trans ?_ ((nW_flat (swp v q ((q - 1) / 2)) j).ren).symm
              exact swp_row v q ((q - 1) / 2) j
            · show (q - 1) / 2 < q
              omega
          · refine evC_exit ?_
            refine then_exit ?_
            refine round_exit ?_
            refine block_exit ?_
            refine post_normal ?_
            rw [upN_no hc] at h3
            rw [← h3]
            refine ends_go [4] (AV.tup []) [(1, 0, Cont.cell (AV.vs 4)), (1, 1, Cont.cell (AV.fn 29 [AV.ptr 2 0])), (1, 2, Cont.top), (2, 0, Cont.cell (AV.fn 21 [])), (2, 1, Cont.top), (4, 0, Cont.vec 2 46 (len + 1) (nW v))] rfl (by decide) rfl rfl (has_of _ rfl) rfl ⟨⟨_, rfl, rfl⟩, ⟨_, rfl, rfl⟩, ⟨_, rfl, trivial⟩, ⟨_, rfl, rfl⟩, ⟨_, rfl, trivial⟩, ⟨_, rfl, ⟨rfl, rfl, rfl, fun _ _ => rfl⟩⟩, trivial⟩ ⟨fun _ => ⟨1, _, rfl, rfl, rfl, ⟨has_of _ rfl, rfl⟩⟩, fun h => False.elim h, fun _ => ⟨4, _, rfl, rfl, rfl, ⟨rfl, rfl, rfl, fun _ _ => ⟨has_of _ rfl, rfl⟩⟩⟩, trivial⟩ ⟨fun _ => .inl ⟨by simp [keyIn, upKeys], fun sz h => by simp at h⟩, fun _ => .inr ⟨0, _, rfl, rfl, ⟨has_of _ rfl, rfl⟩⟩, fun _ => .inr ⟨0, _, rfl, rfl, trivial⟩, fun _ => .inr ⟨1, _, rfl, rfl, ⟨has_of _ rfl, rfl⟩⟩, fun _ => .inr ⟨1, _, rfl, rfl, trivial⟩, fun _ => .inl ⟨by simp [keyIn, upKeys], fun sz h => by simp at h⟩, trivial⟩
      · cases e
    · cases e
  · cases e
end Go.Eng.S13
