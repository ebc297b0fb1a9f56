/- Seat 13: the document's costs, walked. -/
import Derived.Test.YtmlpggggahpoaaaEngX
import Derived.Test.YtmlpggggahpoaaaS13I
set_option linter.unusedSimpArgs false
set_option linter.unusedVariables false
namespace Go.Eng.S13
open Go.Proofs Go.IntWalk
set_option maxRecDepth 10000

theorem RInv.start {W H : Int} {g : Nat → Bool} {n t : Nat} (ht : t < n) : RInv W H g n t (bif g t then setO (fun _ => -1) t 0 else fun _ => -1) := by
  cases hg : g t with
  | false => exact ⟨(fun k _ h => absurd h (show ¬ (0 : Int) ≤ -1 by decide)), (fun h => by rw [hg] at h; cases h), fun k _ => rfl⟩
  | true =>
    refine ⟨fun k _ h => ?_, fun _ => ?_, fun k h => ?_⟩
    · by_cases e : k = t
      · subst e
        simp only [cond_true, setO_c]
        exact ⟨hg, .base, by omega⟩
      · simp only [cond_true] at h
        rw [setO_o e] at h
        exact absurd h (show ¬ (0 : Int) ≤ -1 by decide)
    · simp only [cond_true, setO_c]; omega
    · simp only [cond_true] at h ⊢
      by_cases e : k = t
      · subst e; rw [setO_c] at h; omega
      · rw [setO_o e]
theorem goR_rng {W H : Int} {g : Nat → Bool} {n : Nat} (hm : mayL W H n = true) {c : Int} {s : Nat} (hk : 0 ≤ c ∧ c < n) : -1 ≤ goR W H g c s ∧ goR W H g c s < n := by
  rw [goR_gs]
  cases opn W H g c with
  | true => exact gs_rng hm hk
  | false => exact ⟨Int.le_refl _, by show (-1 : Int) < n; omega⟩
def sRcosts : Spec := fun args hr nb => match args with
  | [.agg [.int .i64 W, .int .i64 H, v], .int .i64 t] => match sl 1 hr v with
    | some (n, f, rd) => some ⟨[IsB n f, mayL W H n = true, 0 ≤ t ∧ t < n], .vs nb, rd, [(nb, 0, .vec 1 3 n (nI (costs W H (Bf f) n t)))]⟩
    | none => none
  | _ => none
theorem rcosts_ok : SpecOK Try.prog 13 sRcosts := by
  refine spec_own (by kernel_rfl) T_ok (sget_cons rgoes_ok (sget_cons price_ok sget_nil)) Try.func13 rfl rfl fun args hr nb out e => ?_
  unfold sRcosts at e
  split at e
  · rename_i W H v t
    split at e
    · rename_i n f rd hs1
      injection e with e; subst e
      refine ⟨fun x hx => sl_rd hs1 x hx, false, [ld W H n (Bf f), .int .i64 t], rfl, fun hs => ?_⟩
      have h1 := hs _ List.mem_cons_self
      have hm := hs _ (List.mem_cons_of_mem _ List.mem_cons_self)
      have ht := hs _ (List.mem_cons_of_mem _ (List.mem_cons_of_mem _ List.mem_cons_self))
      refine ⟨land_pass hs1 (fun y hy => ⟨hy, by simp⟩) h1 (.cons _ _ _ _ (.same _ _ (.int _ _)) .nil), ?_⟩
      clear hs h1
      generalize Bf f = g
      have i1 := isB n g
      obtain ⟨hW, hH, hn, hn1, hn2⟩ := may_get hm
      obtain ⟨t, rfl⟩ := Int.eq_ofNat_of_zero_le ht.1
      have htn : t < n := by omega
      unfold ld
      refine evC_go0 (dec := []) (ks := [(0, 1), (0, 2), (0, 4), (1, 0), (1, 1), (1, 2), (1, 3)]) (s' := ⟨[(0, 1, Cont.cell (AV.int IntKind.i64 (↑t : Int))), (0, 2, Cont.cell (AV.ptr 1 0)), (0, 4, Cont.cell AV.nils), (1, 0, Cont.cell (AV.int IntKind.i64 W)), (1, 1, Cont.cell (AV.int IntKind.i64 H)), (1, 2, Cont.cell (AV.rs 1 n false (nB g))), (1, 3, Cont.top)], 17, 88⟩) (by kernel_rfl) (by kernel_rfl) ?_
      refine evC_go (dec := []) (ks := [(0, 1), (0, 2), (0, 4), (0, 5), (1, 0), (1, 1), (1, 2), (1, 3), (41, 0)]) (ps := [(0 : Int) ≤ (↑n : Int), (↑n : Int) = (↑n : Int), (↑(8 : Nat) : Int) * (↑n : Int) ≤ (281474976710656 : Int), (↑n : Int) ≤ (9223372036854775807 : Int)]) (s' := ⟨[(0, 1, Cont.cell (AV.int IntKind.i64 (↑t : Int))), (0, 2, Cont.cell (AV.ptr 1 0)), (0, 4, Cont.cell AV.nils), (0, 5, Cont.cell (AV.vs 41)), (1, 0, Cont.cell (AV.int IntKind.i64 W)), (1, 1, Cont.cell (AV.int IntKind.i64 H)), (1, 2, Cont.cell (AV.rs 1 n false (nB g))), (1, 3, Cont.top), (41, 0, Cont.vec 1 3 n fun x => AV.int IntKind.i64 0)], 57, 88⟩) (by kernel_rfl) (by kernel_rfl) ?_ ?_
      · have e8 : (8 : Int) * (n : Int) ≤ 281474976710656 := by omega
        have e9 : (n : Int) ≤ 9223372036854775807 := by omega
        exact ⟨by omega, rfl, e8, e9⟩
      refine evC_wk (s' := ⟨[(0, 1, Cont.cell (AV.int IntKind.i64 (↑t : Int))), (0, 2, Cont.cell (AV.ptr 1 0)), (0, 4, Cont.cell AV.nils), (0, 5, Cont.cell (AV.vs 2)), (1, 0, Cont.cell (AV.int IntKind.i64 W)), (1, 1, Cont.cell (AV.int IntKind.i64 H)), (1, 2, Cont.cell (AV.rs 1 n false (nB g))), (1, 3, Cont.top), (2, 0, .vec 1 3 n (nI fun _ => 0))], 3, 88⟩) _ (wk_go [1, 41] rfl (by decide) rfl rfl ⟨⟨_, rfl, rfl⟩, ⟨_, rfl, rfl⟩, ⟨_, rfl, rfl⟩, ⟨_, rfl, rfl⟩, ⟨_, rfl, rfl⟩, ⟨_, rfl, rfl⟩, ⟨_, rfl, rfl⟩, ⟨_, rfl, trivial⟩, ⟨_, rfl, ⟨rfl, rfl, rfl, fun _ _ => rfl⟩⟩, trivial⟩) ?_
      refine evC_seq ?_
      refine evC_go0 (dec := []) (ks := [(0, 1), (0, 2), (0, 4), (0, 5), (0, 6), (1, 0), (1, 1), (1, 2), (1, 3), (2, 0)]) (s' := ⟨[(0, 1, Cont.cell (AV.int IntKind.i64 (↑t : Int))), (0, 2, Cont.cell (AV.ptr 1 0)), (0, 4, Cont.cell AV.nils), (0, 5, Cont.cell (AV.vs 2)), (0, 6, Cont.cell (AV.int IntKind.i64 0)), (1, 0, Cont.cell (AV.int IntKind.i64 W)), (1, 1, Cont.cell (AV.int IntKind.i64 H)), (1, 2, Cont.cell (AV.rs 1 n false (nB g))), (1, 3, Cont.top), (2, 0, Cont.vec 1 3 n (nI fun x => 0))], 11, 88⟩) (by kernel_rfl) (by kernel_rfl) ?_
      refine evC_block ?_
      refine evC_loop (ι := { i : Nat // i ≤ n }) (fun x => ⟨[(0, 1, Cont.cell (AV.int IntKind.i64 (↑t : Int))), (0, 2, Cont.cell (AV.ptr 1 0)), (0, 4, Cont.cell AV.nils), (0, 5, Cont.cell (AV.vs 2)), (0, 6, .cell (.int .i64 (x.1 : Nat))), (1, 0, Cont.cell (AV.int IntKind.i64 W)), (1, 1, Cont.cell (AV.int IntKind.i64 H)), (1, 2, Cont.cell (AV.rs 1 n false (nB g))), (1, 3, Cont.top), (2, 0, .vec 1 3 n (nI fun j => bif Nat.blt j x.1 then -1 else 0))], 3, 88⟩) (fun x => n - x.1) ⟨0, Nat.zero_le _⟩ (wk_go [1, 2] rfl (by decide) rfl rfl ⟨⟨_, rfl, rfl⟩, ⟨_, rfl, rfl⟩, ⟨_, rfl, rfl⟩, ⟨_, rfl, rfl⟩, ⟨_, rfl, rfl⟩, ⟨_, rfl, rfl⟩, ⟨_, rfl, rfl⟩, ⟨_, rfl, rfl⟩, ⟨_, rfl, trivial⟩, ⟨_, rfl, ⟨rfl, rfl, rfl, fun _ _ => rfl⟩⟩, trivial⟩) ?_
      rintro ⟨i, hi⟩
      refine evC_seq ?_
      refine evC_go0 (dec := []) (ks := [(0, 1), (0, 2), (0, 4), (0, 5), (0, 6), (0, 18), (1, 0), (1, 1), (1, 2), (1, 3), (2, 0)]) (s' := ⟨[(0, 1, Cont.cell (AV.int IntKind.i64 (↑t : Int))), (0, 2, Cont.cell (AV.ptr 1 0)), (0, 4, Cont.cell AV.nils), (0, 5, Cont.cell (AV.vs 2)), (0, 6, Cont.cell (AV.int IntKind.i64 (↑i : Int))), (0, 18, Cont.cell (AV.bool (decide ((↑i : Int) < (↑n : Int))))), (1, 0, Cont.cell (AV.int IntKind.i64 W)), (1, 1, Cont.cell (AV.int IntKind.i64 H)), (1, 2, Cont.cell (AV.rs 1 n false (nB g))), (1, 3, Cont.top), (2, 0, Cont.vec 1 3 n (nI fun j => bif Nat.blt j i then -1 else 0))], 35, 88⟩) (by kernel_rfl) (by kernel_rfl) ?_
      refine evC_if (q := decide ((↑i : Int) < (↑n : Int))) (by kernel_rfl) (fun hc => ?_) (fun hc => ?_)
      · have hlt : i < n := by have := of_decide_eq_true hc; omega
        clear hc
        refine evC_skip ?_
        refine then_normal ?_
        refine evC_seq ?_
        refine evC_block ?_
        refine evC_goL (dec := []) (ks := [(0, 1), (0, 2), (0, 4), (0, 5), (0, 6), (1, 0), (1, 1), (1, 2), (1, 3), (2, 0)]) (ps := [(0 : Int) ≤ (↑i : Int), (↑i : Int) < (↑n : Int), (1 : Nat) = (1 : Nat), (0 : Int) ≤ (↑i : Int), (↑i : Int) < (↑n : Int), (1 : Nat) = (1 : Nat), widthC (AV.cells (AV.int IntKind.i64 (-1 : Int))) = (1 : Nat)]) (s' := ⟨[(0, 1, Cont.cell (AV.int IntKind.i64 (↑t : Int))), (0, 2, Cont.cell (AV.ptr 1 0)), (0, 4, Cont.cell AV.nils), (0, 5, Cont.cell (AV.vs 2)), (0, 6, Cont.cell (AV.int IntKind.i64 (↑i : Int))), (1, 0, Cont.cell (AV.int IntKind.i64 W)), (1, 1, Cont.cell (AV.int IntKind.i64 H)), (1, 2, Cont.cell (AV.rs 1 n false (nB g))), (1, 3, Cont.top), (2, 0, Cont.vec 1 3 n fun j => bif j == i then AV.int IntKind.i64 (-1) else nI (fun j => bif Nat.blt j i then -1 else 0) j)], 67, 88⟩) (by kernel_rfl) (by kernel_rfl) ?_ ?_
        · (simp only [All]; (repeat' apply And.intro) <;> (try intro _) <;> (try intro _) <;> (repeat' apply And.intro) <;> (try intro _) <;> (try intro _) <;> first | trivial | assumption | exact .inr trivial | exact .inr rfl | omega | rfl | exact ⟨_, rfl, rfl⟩ | exact ⟨rfl, rfl⟩ | exact ⟨fun _ => rfl, fun _ => rfl⟩ | (unfold maxLen; omega) | (unfold i64R; first | omega | decide) | decide)
        refine block_normal ?_
        refine then_normal ?_
        refine evC_goL0 (dec := []) (ks := [(0, 1), (0, 2), (0, 4), (0, 5), (0, 6), (1, 0), (1, 1), (1, 2), (1, 3), (2, 0)]) (s' := ⟨[(0, 1, Cont.cell (AV.int IntKind.i64 (↑t : Int))), (0, 2, Cont.cell (AV.ptr 1 0)), (0, 4, Cont.cell AV.nils), (0, 5, Cont.cell (AV.vs 2)), (0, 6, Cont.cell (AV.int IntKind.i64 (IntKind.i64.wrap ((↑i : Int) + 1)))), (1, 0, Cont.cell (AV.int IntKind.i64 W)), (1, 1, Cont.cell (AV.int IntKind.i64 H)), (1, 2, Cont.cell (AV.rs 1 n false (nB g))), (1, 3, Cont.top), (2, 0, Cont.vec 1 3 n fun j => bif j == i then AV.int IntKind.i64 (-1) else nI (fun j => bif Nat.blt j i then -1 else 0) j)], 91, 88⟩) (by kernel_rfl) (by kernel_rfl) ?_
        rw [wrap_add_one hlt (by omega)]
        refine round_normal (⟨i + 1, hlt⟩) (wk_go [1, 2] rfl (by decide) rfl rfl ⟨⟨_, rfl, rfl⟩, ⟨_, rfl, rfl⟩, ⟨_, rfl, rfl⟩, ⟨_, rfl, rfl⟩, ⟨_, rfl, rfl⟩, ⟨_, rfl, rfl⟩, ⟨_, rfl, rfl⟩, ⟨_, rfl, rfl⟩, ⟨_, rfl, trivial⟩, ⟨_, rfl, ?_⟩, trivial⟩) ?_
        · refine ⟨rfl, rfl, rfl, fun j hj => ?_⟩
          show (bif j == i then AV.int .i64 (-1) else .int .i64 (bif Nat.blt j i then -1 else 0)) = AV.int .i64 (bif Nat.blt j (i + 1) then -1 else 0)
          rcases Nat.lt_trichotomy j i with h | h | h
          · have : (j == i) = false := by simp; omega
            rw [this, nblt_yes h, nblt_yes (by omega : j < i + 1)]; rfl
          · subst h
            rw [nblt_yes (by omega : j < j + 1)]; simp
          · have : (j == i) = false := by simp; omega
            rw [this, nblt_no (by omega), nblt_no (by omega)]; rfl
        · show n - (i + 1) < n - i; omega
      · have hlt : i = n := by have := of_decide_eq_false hc; omega
        subst hlt
        clear hc
        refine evC_wk (s' := ⟨[(0, 1, Cont.cell (AV.int IntKind.i64 (↑t : Int))), (0, 2, Cont.cell (AV.ptr 1 0)), (0, 4, Cont.cell AV.nils), (0, 5, Cont.cell (AV.vs 2)), (0, 6, Cont.cell (AV.int IntKind.i64 (↑i : Int))), (0, 18, Cont.cell (AV.bool (decide ((↑i : Int) < (↑i : Int))))), (1, 0, Cont.cell (AV.int IntKind.i64 W)), (1, 1, Cont.cell (AV.int IntKind.i64 H)), (1, 2, Cont.cell (AV.rs 1 i false (nB g))), (1, 3, Cont.top), (2, 0, .vec 1 3 i (nI fun _ => -1))], 3, 88⟩) _ (wk_go [1, 2] rfl (by decide) rfl rfl ⟨⟨_, rfl, rfl⟩, ⟨_, rfl, rfl⟩, ⟨_, rfl, rfl⟩, ⟨_, rfl, rfl⟩, ⟨_, rfl, rfl⟩, ⟨_, rfl, rfl⟩, ⟨_, rfl, rfl⟩, ⟨_, rfl, rfl⟩, ⟨_, rfl, rfl⟩, ⟨_, rfl, trivial⟩, ⟨_, rfl, ?_⟩, trivial⟩) ?_
        · refine ⟨rfl, rfl, rfl, fun j hj => ?_⟩
          show AV.int .i64 (bif Nat.blt j i then -1 else 0) = AV.int .i64 (-1)
          rw [nblt_yes hj]; rfl
        have hst := RInv.start (W := W) (H := H) (g := g) htn
        refine evC_exit ?_
        refine then_exit ?_
        refine round_exit ?_
        refine block_exit ?_
        refine then_normal ?_
        refine evC_seq ?_
        refine evC_go (dec := []) (ks := [(0, 1), (0, 2), (0, 4), (0, 5), (0, 28), (1, 0), (1, 1), (1, 2), (1, 3), (2, 0)]) (ps := [(0 : Int) ≤ (↑t : Int), (↑t : Int) < (↑i : Int), (1 : Nat) = (1 : Nat)]) (s' := ⟨[(0, 1, Cont.cell (AV.int IntKind.i64 (↑t : Int))), (0, 2, Cont.cell (AV.ptr 1 0)), (0, 4, Cont.cell AV.nils), (0, 5, Cont.cell (AV.vs 2)), (0, 28, Cont.cell (AV.bool (g t))), (1, 0, Cont.cell (AV.int IntKind.i64 W)), (1, 1, Cont.cell (AV.int IntKind.i64 H)), (1, 2, Cont.cell (AV.rs 1 i false (nB g))), (1, 3, Cont.top), (2, 0, Cont.vec 1 3 i (nI fun x => -1))], 43, 88⟩) (by kernel_rfl) (by kernel_rfl) ?_ ?_
        · (simp only [All]; (repeat' apply And.intro) <;> (try intro _) <;> (try intro _) <;> (repeat' apply And.intro) <;> (try intro _) <;> (try intro _) <;> first | trivial | assumption | exact .inr trivial | exact .inr rfl | omega | rfl | exact ⟨_, rfl, rfl⟩ | exact ⟨rfl, rfl⟩ | exact ⟨fun _ => rfl, fun _ => rfl⟩ | (unfold maxLen; omega) | (unfold i64R; first | omega | decide) | decide)
        refine evC_cutThen (ι := Unit) (fun _ => ⟨[(0, 1, Cont.cell (AV.int IntKind.i64 (↑t : Int))), (0, 2, Cont.cell (AV.ptr 1 0)), (0, 4, Cont.cell AV.nils), (0, 5, Cont.cell (AV.vs 2)), (0, 28, Cont.cell (AV.bool (g t))), (1, 0, Cont.cell (AV.int IntKind.i64 W)), (1, 1, Cont.cell (AV.int IntKind.i64 H)), (1, 2, Cont.cell (AV.rs 1 i false (nB g))), (1, 3, Cont.top), (2, 0, .vec 1 3 i (nI (bif g t then setO (fun _ => -1) t 0 else fun _ => -1)))], 3, 88⟩) ?_ ?_
        · refine evC_if (q := g t) (by kernel_rfl) (fun hc => ?_) (fun hc => ?_)
          · have hg : g t = true := hc
            refine evC_goL (dec := []) (ks := [(0, 1), (0, 2), (0, 4), (0, 5), (0, 28), (1, 0), (1, 1), (1, 2), (1, 3), (2, 0)]) (ps := [(0 : Int) ≤ (↑t : Int), (↑t : Int) < (↑i : Int), (1 : Nat) = (1 : Nat), (0 : Int) ≤ (↑t : Int), (↑t : Int) < (↑i : Int), (1 : Nat) = (1 : Nat), widthC (AV.cells (AV.int IntKind.i64 (0 : Int))) = (1 : Nat)]) (s' := ⟨[(0, 1, Cont.cell (AV.int IntKind.i64 (↑t : Int))), (0, 2, Cont.cell (AV.ptr 1 0)), (0, 4, Cont.cell AV.nils), (0, 5, Cont.cell (AV.vs 2)), (0, 28, Cont.cell (AV.bool (g t))), (1, 0, Cont.cell (AV.int IntKind.i64 W)), (1, 1, Cont.cell (AV.int IntKind.i64 H)), (1, 2, Cont.cell (AV.rs 1 i false (nB g))), (1, 3, Cont.top), (2, 0, Cont.vec 1 3 i fun j => bif j == t then AV.int IntKind.i64 0 else nI (fun x => -1) j)], 75, 88⟩) (by kernel_rfl) (by kernel_rfl) ?_ ?_
            · (simp only [All]; (repeat' apply And.intro) <;> (try intro _) <;> (try intro _) <;> (repeat' apply And.intro) <;> (try intro _) <;> (try intro _) <;> first | trivial | assumption | exact .inr trivial | exact .inr rfl | omega | rfl | exact ⟨_, rfl, rfl⟩ | exact ⟨rfl, rfl⟩ | exact ⟨fun _ => rfl, fun _ => rfl⟩ | (unfold maxLen; omega) | (unfold i64R; first | omega | decide) | decide)
            refine cut_normal (()) (wk_go [1, 2] rfl (by decide) rfl rfl ⟨⟨_, rfl, rfl⟩, ⟨_, rfl, rfl⟩, ⟨_, rfl, rfl⟩, ⟨_, rfl, rfl⟩, ⟨_, rfl, rfl⟩, ⟨_, rfl, rfl⟩, ⟨_, rfl, rfl⟩, ⟨_, rfl, rfl⟩, ⟨_, rfl, trivial⟩, ⟨_, rfl, ?_⟩, trivial⟩)
            refine ⟨rfl, rfl, rfl, fun j hj => ?_⟩
            rw [hg]
            show (bif j == t then AV.int .i64 0 else .int .i64 (-1)) = AV.int .i64 (bif j == t then 0 else -1)
            cases j == t <;> rfl
          · have hg : g t = false := hc
            refine evC_skip ?_
            refine cut_normal (()) (wk_go [1, 2] rfl (by decide) rfl rfl ⟨⟨_, rfl, rfl⟩, ⟨_, rfl, rfl⟩, ⟨_, rfl, rfl⟩, ⟨_, rfl, rfl⟩, ⟨_, rfl, rfl⟩, ⟨_, rfl, rfl⟩, ⟨_, rfl, rfl⟩, ⟨_, rfl, rfl⟩, ⟨_, rfl, trivial⟩, ⟨_, rfl, ?_⟩, trivial⟩)
            rw [hg]
            exact ⟨rfl, rfl, rfl, fun _ _ => rfl⟩
        intro _
        generalize (bif g t then setO (fun _ => -1) t 0 else fun _ => -1) = c0 at hst
        refine evC_seq ?_
        refine evC_go0 (dec := []) (ks := [(0, 2), (0, 4), (0, 5), (0, 7), (1, 0), (1, 1), (1, 2), (1, 3), (2, 0)]) (s' := ⟨[(0, 2, Cont.cell (AV.ptr 1 0)), (0, 4, Cont.cell AV.nils), (0, 5, Cont.cell (AV.vs 2)), (0, 7, Cont.cell (AV.bool true)), (1, 0, Cont.cell (AV.int IntKind.i64 W)), (1, 1, Cont.cell (AV.int IntKind.i64 H)), (1, 2, Cont.cell (AV.rs 1 i false (nB g))), (1, 3, Cont.top), (2, 0, Cont.vec 1 3 i (nI c0))], 11, 88⟩) (by kernel_rfl) (by kernel_rfl) ?_
        refine evC_block ?_
        refine evC_loop (ι := { s : (Nat → Int) × Bool // RInv W H g i t s.1 ∧ (s.2 = false → Cl W H g i s.1 i 0) }) (fun s => ⟨[(0, 2, Cont.cell (AV.ptr 1 0)), (0, 4, Cont.cell AV.nils), (0, 5, Cont.cell (AV.vs 2)), (0, 7, .cell (.bool s.1.2)), (1, 0, Cont.cell (AV.int IntKind.i64 W)), (1, 1, Cont.cell (AV.int IntKind.i64 H)), (1, 2, Cont.cell (AV.rs 1 i false (nB g))), (1, 3, Cont.top), (2, 0, .vec 1 3 i (nI s.1.1))], 3, 88⟩) (fun s => 2 * tot s.1.1 i + (bif s.1.2 then 1 else 0)) ⟨(c0, true), hst, fun h => by cases h⟩ (wk_go [1, 2] rfl (by decide) rfl rfl ⟨⟨_, rfl, rfl⟩, ⟨_, rfl, rfl⟩, ⟨_, rfl, rfl⟩, ⟨_, rfl, rfl⟩, ⟨_, rfl, rfl⟩, ⟨_, rfl, rfl⟩, ⟨_, rfl, rfl⟩, ⟨_, rfl, trivial⟩, ⟨_, rfl, ⟨rfl, rfl, rfl, fun _ _ => rfl⟩⟩, trivial⟩) ?_
        rintro ⟨⟨c, fl⟩, r1, r2⟩
        simp only at r1 r2
        refine evC_seq ?_
        refine evC_go0 (dec := []) (ks := [(0, 2), (0, 4), (0, 5), (0, 7), (0, 32), (1, 0), (1, 1), (1, 2), (1, 3), (2, 0)]) (s' := ⟨[(0, 2, Cont.cell (AV.ptr 1 0)), (0, 4, Cont.cell AV.nils), (0, 5, Cont.cell (AV.vs 2)), (0, 7, Cont.cell (AV.bool fl)), (0, 32, Cont.cell (AV.bool fl)), (1, 0, Cont.cell (AV.int IntKind.i64 W)), (1, 1, Cont.cell (AV.int IntKind.i64 H)), (1, 2, Cont.cell (AV.rs 1 i false (nB g))), (1, 3, Cont.top), (2, 0, Cont.vec 1 3 i (nI c))], 11, 88⟩) (by kernel_rfl) (by kernel_rfl) ?_
        refine evC_if (q := fl) (by kernel_rfl) (fun hc => ?_) (fun hc => ?_)
        · have hfl : fl = true := hc
          subst hfl
          clear hc
          refine evC_skip ?_
          refine then_normal ?_
          refine evC_block ?_
          refine evC_go0 (dec := []) (ks := [(0, 2), (0, 4), (0, 5), (0, 7), (1, 0), (1, 1), (1, 2), (1, 3), (2, 0)]) (s' := ⟨[(0, 2, Cont.cell (AV.ptr 1 0)), (0, 4, Cont.cell AV.nils), (0, 5, Cont.cell (AV.vs 2)), (0, 7, Cont.cell (AV.bool false)), (1, 0, Cont.cell (AV.int IntKind.i64 W)), (1, 1, Cont.cell (AV.int IntKind.i64 H)), (1, 2, Cont.cell (AV.rs 1 i false (nB g))), (1, 3, Cont.top), (2, 0, Cont.vec 1 3 i (nI c))], 19, 88⟩) (by kernel_rfl) (by kernel_rfl) ?_
          refine evC_go0 (dec := []) (ks := [(0, 2), (0, 4), (0, 5), (0, 7), (0, 8), (1, 0), (1, 1), (1, 2), (1, 3), (2, 0)]) (s' := ⟨[(0, 2, Cont.cell (AV.ptr 1 0)), (0, 4, Cont.cell AV.nils), (0, 5, Cont.cell (AV.vs 2)), (0, 7, Cont.cell (AV.bool false)), (0, 8, Cont.cell (AV.int IntKind.i64 0)), (1, 0, Cont.cell (AV.int IntKind.i64 W)), (1, 1, Cont.cell (AV.int IntKind.i64 H)), (1, 2, Cont.cell (AV.rs 1 i false (nB g))), (1, 3, Cont.top), (2, 0, Cont.vec 1 3 i (nI c))], 27, 88⟩) (by kernel_rfl) (by kernel_rfl) ?_
          refine evC_block ?_
          refine evC_loop (ι := { s : (Nat → Int) × Bool × Nat // s.2.2 ≤ i ∧ RInv W H g i t s.1 ∧ (s.2.1 = false → Cl W H g i s.1 s.2.2 0 ∧ tot s.1 i = tot c i) ∧ (s.2.1 = true → tot s.1 i < tot c i) }) (fun s => ⟨[(0, 2, Cont.cell (AV.ptr 1 0)), (0, 4, Cont.cell AV.nils), (0, 5, Cont.cell (AV.vs 2)), (0, 7, .cell (.bool s.1.2.1)), (0, 8, .cell (.int .i64 (s.1.2.2 : Nat))), (1, 0, Cont.cell (AV.int IntKind.i64 W)), (1, 1, Cont.cell (AV.int IntKind.i64 H)), (1, 2, Cont.cell (AV.rs 1 i false (nB g))), (1, 3, Cont.top), (2, 0, .vec 1 3 i (nI s.1.1))], 3, 88⟩) (fun s => i - s.1.2.2) ⟨(c, false, 0), Nat.zero_le _, r1, fun _ => ⟨fun k' s' q _ _ h => by simp only at h; omega, rfl⟩, fun h => by cases h⟩ (wk_go [1, 2] rfl (by decide) rfl rfl ⟨⟨_, rfl, rfl⟩, ⟨_, rfl, rfl⟩, ⟨_, rfl, rfl⟩, ⟨_, rfl, rfl⟩, ⟨_, rfl, rfl⟩, ⟨_, rfl, rfl⟩, ⟨_, rfl, rfl⟩, ⟨_, rfl, rfl⟩, ⟨_, rfl, trivial⟩, ⟨_, rfl, ⟨rfl, rfl, rfl, fun _ _ => rfl⟩⟩, trivial⟩) ?_
          rintro ⟨⟨d, b, k⟩, m1, m2, m3, m4⟩
          simp only at m1 m2 m3 m4
          refine evC_seq ?_
          refine evC_go0 (dec := []) (ks := [(0, 2), (0, 4), (0, 5), (0, 7), (0, 8), (0, 36), (1, 0), (1, 1), (1, 2), (1, 3), (2, 0)]) (s' := ⟨[(0, 2, Cont.cell (AV.ptr 1 0)), (0, 4, Cont.cell AV.nils), (0, 5, Cont.cell (AV.vs 2)), (0, 7, Cont.cell (AV.bool b)), (0, 8, Cont.cell (AV.int IntKind.i64 (↑k : Int))), (0, 36, Cont.cell (AV.bool (decide ((↑k : Int) < (↑i : Int))))), (1, 0, Cont.cell (AV.int IntKind.i64 W)), (1, 1, Cont.cell (AV.int IntKind.i64 H)), (1, 2, Cont.cell (AV.rs 1 i false (nB g))), (1, 3, Cont.top), (2, 0, Cont.vec 1 3 i (nI d))], 35, 88⟩) (by kernel_rfl) (by kernel_rfl) ?_
          refine evC_if (q := decide ((↑k : Int) < (↑i : Int))) (by kernel_rfl) (fun hc => ?_) (fun hc => ?_)
          · have hk : k < i := by have := of_decide_eq_true hc; omega
            clear hc
            refine evC_skip ?_
            refine then_normal ?_
            refine evC_seq ?_
            refine evC_block ?_
            refine evC_go0 (dec := []) (ks := [(0, 2), (0, 4), (0, 5), (0, 7), (0, 8), (0, 9), (1, 0), (1, 1), (1, 2), (1, 3), (2, 0)]) (s' := ⟨[(0, 2, Cont.cell (AV.ptr 1 0)), (0, 4, Cont.cell AV.nils), (0, 5, Cont.cell (AV.vs 2)), (0, 7, Cont.cell (AV.bool b)), (0, 8, Cont.cell (AV.int IntKind.i64 (↑k : Int))), (0, 9, Cont.cell (AV.int IntKind.i64 0)), (1, 0, Cont.cell (AV.int IntKind.i64 W)), (1, 1, Cont.cell (AV.int IntKind.i64 H)), (1, 2, Cont.cell (AV.rs 1 i false (nB g))), (1, 3, Cont.top), (2, 0, Cont.vec 1 3 i (nI d))], 43, 88⟩) (by kernel_rfl) (by kernel_rfl) ?_
            refine evC_block ?_
            refine evC_loop (ι := { s : (Nat → Int) × Bool × Nat // s.2.2 ≤ 8 ∧ RInv W H g i t s.1 ∧ (s.2.1 = false → Cl W H g i s.1 k s.2.2 ∧ tot s.1 i = tot c i) ∧ (s.2.1 = true → tot s.1 i < tot c i) }) (fun s => ⟨[(0, 2, Cont.cell (AV.ptr 1 0)), (0, 4, Cont.cell AV.nils), (0, 5, Cont.cell (AV.vs 2)), (0, 7, .cell (.bool s.1.2.1)), (0, 8, Cont.cell (AV.int IntKind.i64 (↑k : Int))), (0, 9, .cell (.int .i64 (s.1.2.2 : Nat))), (1, 0, Cont.cell (AV.int IntKind.i64 W)), (1, 1, Cont.cell (AV.int IntKind.i64 H)), (1, 2, Cont.cell (AV.rs 1 i false (nB g))), (1, 3, Cont.top), (2, 0, .vec 1 3 i (nI s.1.1))], 3, 88⟩) (fun s => 8 - s.1.2.2) ⟨(d, b, 0), Nat.zero_le _, m2, m3, m4⟩ (wk_go [1, 2] rfl (by decide) rfl rfl ⟨⟨_, rfl, rfl⟩, ⟨_, rfl, rfl⟩, ⟨_, rfl, rfl⟩, ⟨_, rfl, rfl⟩, ⟨_, rfl, rfl⟩, ⟨_, rfl, rfl⟩, ⟨_, rfl, rfl⟩, ⟨_, rfl, rfl⟩, ⟨_, rfl, rfl⟩, ⟨_, rfl, trivial⟩, ⟨_, rfl, ⟨rfl, rfl, rfl, fun _ _ => rfl⟩⟩, trivial⟩) ?_
            rintro ⟨⟨d2, b2, s⟩, j1, j2, j3, j4⟩
            simp only at j1 j2 j3 j4
            refine evC_seq ?_
            refine evC_go0 (dec := []) (ks := [(0, 2), (0, 4), (0, 5), (0, 7), (0, 8), (0, 9), (0, 40), (1, 0), (1, 1), (1, 2), (1, 3), (2, 0)]) (s' := ⟨[(0, 2, Cont.cell (AV.ptr 1 0)), (0, 4, Cont.cell AV.nils), (0, 5, Cont.cell (AV.vs 2)), (0, 7, Cont.cell (AV.bool b2)), (0, 8, Cont.cell (AV.int IntKind.i64 (↑k : Int))), (0, 9, Cont.cell (AV.int IntKind.i64 (↑s : Int))), (0, 40, Cont.cell (AV.bool (decide ((↑s : Int) < 8)))), (1, 0, Cont.cell (AV.int IntKind.i64 W)), (1, 1, Cont.cell (AV.int IntKind.i64 H)), (1, 2, Cont.cell (AV.rs 1 i false (nB g))), (1, 3, Cont.top), (2, 0, Cont.vec 1 3 i (nI d2))], 19, 88⟩) (by kernel_rfl) (by kernel_rfl) ?_
            refine evC_if (q := decide ((↑s : Int) < 8)) (by kernel_rfl) (fun hc => ?_) (fun hc => ?_)
            · have hs8 : s < 8 := by have := of_decide_eq_true hc; omega
              clear hc
              have hqr := goR_rng (g := g) (s := s) hm (c := (k : Int)) ⟨by omega, by omega⟩
              refine evC_skip ?_
              refine then_normal ?_
              refine evC_seq ?_
              refine evC_block ?_
              refine evC_go (dec := []) (ks := [(0, 2), (0, 4), (0, 5), (0, 7), (0, 8), (0, 9), (0, 10), (1, 0), (1, 1), (1, 2), (1, 3), (2, 0)]) (ps := [IsB i (nB g), mayL W H i = true, ((0 : Int) ≤ (↑k : Int) ∧ (↑k : Int) < (↑i : Int)) ∧ (0 : Int) ≤ (↑s : Int) ∧ (↑s : Int) < (8 : Int)]) (s' := ⟨[(0, 2, Cont.cell (AV.ptr 1 0)), (0, 4, Cont.cell AV.nils), (0, 5, Cont.cell (AV.vs 2)), (0, 7, Cont.cell (AV.bool b2)), (0, 8, Cont.cell (AV.int IntKind.i64 (↑k : Int))), (0, 9, Cont.cell (AV.int IntKind.i64 (↑s : Int))), (0, 10, Cont.cell (AV.int IntKind.i64 (goR W H (Bf (nB g)) (↑k : Int) s))), (1, 0, Cont.cell (AV.int IntKind.i64 W)), (1, 1, Cont.cell (AV.int IntKind.i64 H)), (1, 2, Cont.cell (AV.rs 1 i false (nB g))), (1, 3, Cont.top), (2, 0, Cont.vec 1 3 i (nI d2))], 59, 88⟩) (by kernel_rfl) (by kernel_rfl) ?_ ?_
              · exact ⟨i1, hm, ⟨by omega, by omega⟩, by omega, by omega⟩
              rw [Bf_nB]
              have hpr := prc_pos s
              have big : ∀ q : Nat, q < i → 0 ≤ d2 q → IntKind.i64.wrap (d2 q + prc s) = d2 q + prc s := fun q hq h0 => by
                have := (j2.way q hq h0).2.2
                have := cnt_le d2 i
                exact i64_in _ (by omega)
              refine evC_go (dec := []) (ks := [(0, 2), (0, 4), (0, 5), (0, 7), (0, 8), (0, 9), (0, 10), (0, 76), (1, 0), (1, 1), (1, 2), (1, 3), (2, 0)]) (ps := [List.all [decide (goR W H g (↑k : Int) s ≥ (0 : Int))] id = true → (0 : Int) ≤ goR W H g (↑k : Int) s, List.all [decide (goR W H g (↑k : Int) s ≥ (0 : Int))] id = true → goR W H g (↑k : Int) s < (↑i : Int), List.all [decide (goR W H g (↑k : Int) s ≥ (0 : Int))] id = true → (1 : Nat) = (1 : Nat), List.all [decide (goR W H g (↑k : Int) s ≥ (0 : Int))] id = true → (0 : Int) ≤ goR W H g (↑k : Int) s, List.all [decide (goR W H g (↑k : Int) s ≥ (0 : Int))] id = true → goR W H g (↑k : Int) s < (↑i : Int), List.all [decide (goR W H g (↑k : Int) s ≥ (0 : Int))] id = true → (1 : Nat) = (1 : Nat), List.all [bif decide (goR W H g (↑k : Int) s ≥ (0 : Int)) then decide (d2 (Int.toNat (goR W H g (↑k : Int) s)) ≥ (0 : Int)) else false] id = true → (0 : Int) ≤ (↑k : Int), List.all [bif decide (goR W H g (↑k : Int) s ≥ (0 : Int)) then decide (d2 (Int.toNat (goR W H g (↑k : Int) s)) ≥ (0 : Int)) else false] id = true → (↑k : Int) < (↑i : Int), List.all [bif decide (goR W H g (↑k : Int) s ≥ (0 : Int)) then decide (d2 (Int.toNat (goR W H g (↑k : Int) s)) ≥ (0 : Int)) else false] id = true → (1 : Nat) = (1 : Nat), List.all [bif decide (goR W H g (↑k : Int) s ≥ (0 : Int)) then decide (d2 (Int.toNat (goR W H g (↑k : Int) s)) ≥ (0 : Int)) else false] id = true → (0 : Int) ≤ (↑k : Int), List.all [bif decide (goR W H g (↑k : Int) s ≥ (0 : Int)) then decide (d2 (Int.toNat (goR W H g (↑k : Int) s)) ≥ (0 : Int)) else false] id = true → (↑k : Int) < (↑i : Int), List.all [bif decide (goR W H g (↑k : Int) s ≥ (0 : Int)) then decide (d2 (Int.toNat (goR W H g (↑k : Int) s)) ≥ (0 : Int)) else false] id = true → (1 : Nat) = (1 : Nat), List.all [!decide (d2 k < (0 : Int)), bif decide (goR W H g (↑k : Int) s ≥ (0 : Int)) then decide (d2 (Int.toNat (goR W H g (↑k : Int) s)) ≥ (0 : Int)) else false] id = true → (0 : Int) ≤ goR W H g (↑k : Int) s, List.all [!decide (d2 k < (0 : Int)), bif decide (goR W H g (↑k : Int) s ≥ (0 : Int)) then decide (d2 (Int.toNat (goR W H g (↑k : Int) s)) ≥ (0 : Int)) else false] id = true → goR W H g (↑k : Int) s < (↑i : Int), List.all [!decide (d2 k < (0 : Int)), bif decide (goR W H g (↑k : Int) s ≥ (0 : Int)) then decide (d2 (Int.toNat (goR W H g (↑k : Int) s)) ≥ (0 : Int)) else false] id = true → (1 : Nat) = (1 : Nat), List.all [!decide (d2 k < (0 : Int)), bif decide (goR W H g (↑k : Int) s ≥ (0 : Int)) then decide (d2 (Int.toNat (goR W H g (↑k : Int) s)) ≥ (0 : Int)) else false] id = true → (0 : Int) ≤ goR W H g (↑k : Int) s, List.all [!decide (d2 k < (0 : Int)), bif decide (goR W H g (↑k : Int) s ≥ (0 : Int)) then decide (d2 (Int.toNat (goR W H g (↑k : Int) s)) ≥ (0 : Int)) else false] id = true → goR W H g (↑k : Int) s < (↑i : Int), List.all [!decide (d2 k < (0 : Int)), bif decide (goR W H g (↑k : Int) s ≥ (0 : Int)) then decide (d2 (Int.toNat (goR W H g (↑k : Int) s)) ≥ (0 : Int)) else false] id = true → (1 : Nat) = (1 : Nat), List.all [!decide (d2 k < (0 : Int)), bif decide (goR W H g (↑k : Int) s ≥ (0 : Int)) then decide (d2 (Int.toNat (goR W H g (↑k : Int) s)) ≥ (0 : Int)) else false] id = true → (0 : Int) ≤ (↑s : Int) ∧ (↑s : Int) < (8 : Int), List.all [!decide (d2 k < (0 : Int)), bif decide (goR W H g (↑k : Int) s ≥ (0 : Int)) then decide (d2 (Int.toNat (goR W H g (↑k : Int) s)) ≥ (0 : Int)) else false] id = true → (0 : Int) ≤ (↑k : Int), List.all [!decide (d2 k < (0 : Int)), bif decide (goR W H g (↑k : Int) s ≥ (0 : Int)) then decide (d2 (Int.toNat (goR W H g (↑k : Int) s)) ≥ (0 : Int)) else false] id = true → (↑k : Int) < (↑i : Int), List.all [!decide (d2 k < (0 : Int)), bif decide (goR W H g (↑k : Int) s ≥ (0 : Int)) then decide (d2 (Int.toNat (goR W H g (↑k : Int) s)) ≥ (0 : Int)) else false] id = true → (1 : Nat) = (1 : Nat), List.all [!decide (d2 k < (0 : Int)), bif decide (goR W H g (↑k : Int) s ≥ (0 : Int)) then decide (d2 (Int.toNat (goR W H g (↑k : Int) s)) ≥ (0 : Int)) else false] id = true → (0 : Int) ≤ (↑k : Int), List.all [!decide (d2 k < (0 : Int)), bif decide (goR W H g (↑k : Int) s ≥ (0 : Int)) then decide (d2 (Int.toNat (goR W H g (↑k : Int) s)) ≥ (0 : Int)) else false] id = true → (↑k : Int) < (↑i : Int), List.all [!decide (d2 k < (0 : Int)), bif decide (goR W H g (↑k : Int) s ≥ (0 : Int)) then decide (d2 (Int.toNat (goR W H g (↑k : Int) s)) ≥ (0 : Int)) else false] id = true → (1 : Nat) = (1 : Nat)]) (s' := ⟨[(0, 2, Cont.cell (AV.ptr 1 0)), (0, 4, Cont.cell AV.nils), (0, 5, Cont.cell (AV.vs 2)), (0, 7, Cont.cell (AV.bool b2)), (0, 8, Cont.cell (AV.int IntKind.i64 (↑k : Int))), (0, 9, Cont.cell (AV.int IntKind.i64 (↑s : Int))), (0, 10, Cont.cell (AV.int IntKind.i64 (goR W H g (↑k : Int) s))), (0, 76, Cont.cell (AV.bool (bif bif decide (goR W H g (↑k : Int) s ≥ 0) then decide (d2 (Int.toNat (goR W H g (↑k : Int) s)) ≥ 0) else false then bif decide (d2 k < 0) then true else decide (IntKind.i64.wrap (d2 (Int.toNat (goR W H g (↑k : Int) s)) + prc s) < d2 k) else false))), (1, 0, Cont.cell (AV.int IntKind.i64 W)), (1, 1, Cont.cell (AV.int IntKind.i64 H)), (1, 2, Cont.cell (AV.rs 1 i false (nB g))), (1, 3, Cont.top), (2, 0, Cont.vec 1 3 i (nI d2))], 299, 88⟩) (by kernel_rfl) (by kernel_rfl) ?_ ?_
              · simp only [All]
                repeat' apply And.intro
                all_goals (intro h; first | trivial | omega | (simp at h; omega))
              refine evC_if (q := bif bif decide (goR W H g (↑k : Int) s ≥ 0) then decide (d2 (Int.toNat (goR W H g (↑k : Int) s)) ≥ 0) else false then bif decide (d2 k < 0) then true else decide (IntKind.i64.wrap (d2 (Int.toNat (goR W H g (↑k : Int) s)) + prc s) < d2 k) else false) (by kernel_rfl) (fun hc => ?_) (fun hc => ?_)
              · obtain ⟨c1, c2, c3⟩ : 0 ≤ goR W H g k s ∧ 0 ≤ d2 (goR W H g k s).toNat ∧ (d2 k < 0 ∨ IntKind.i64.wrap (d2 (goR W H g k s).toNat + prc s) < d2 k) := by
                  cases e1 : decide (goR W H g k s ≥ 0) with
                  | false => rw [e1] at hc; cases hc
                  | true =>
                    rw [e1] at hc
                    cases e2 : decide (d2 (goR W H g k s).toNat ≥ 0) with
                    | false => rw [e2] at hc; cases hc
                    | true =>
                      rw [e2] at hc
                      refine ⟨of_decide_eq_true e1, of_decide_eq_true e2, ?_⟩
                      cases e3 : decide (d2 k < 0) with
                      | true => exact .inl (of_decide_eq_true e3)
                      | false => rw [e3] at hc; exact .inr (of_decide_eq_true hc)
                clear hc
                obtain ⟨q, hq⟩ := Int.eq_ofNat_of_zero_le c1
                rw [hq, Int.toNat_natCast] at c2 c3
                rw [big q (by omega) c2] at c3
                have st := j2.step hm hk hs8 hq (by omega) c2 c3
                rw [hq]
                have hqi : (q : Int) < (i : Int) := by omega
                have hki : (k : Int) < (i : Int) := by omega
                refine evC_go (dec := []) (ks := [(0, 2), (0, 4), (0, 5), (0, 7), (0, 8), (0, 9), (1, 0), (1, 1), (1, 2), (1, 3), (2, 0)]) (ps := [(0 : Int) ≤ (↑q : Int), (↑q : Int) < (↑i : Int), (1 : Nat) = (1 : Nat), (0 : Int) ≤ (↑q : Int), (↑q : Int) < (↑i : Int), (1 : Nat) = (1 : Nat), (0 : Int) ≤ (↑s : Int) ∧ (↑s : Int) < (8 : Int), (0 : Int) ≤ (↑k : Int), (↑k : Int) < (↑i : Int), (1 : Nat) = (1 : Nat), (0 : Int) ≤ (↑k : Int), (↑k : Int) < (↑i : Int), (1 : Nat) = (1 : Nat), widthC (AV.cells (AV.int IntKind.i64 (IntKind.i64.wrap (d2 q + prc s)))) = (1 : Nat)]) (s' := ⟨[(0, 2, Cont.cell (AV.ptr 1 0)), (0, 4, Cont.cell AV.nils), (0, 5, Cont.cell (AV.vs 2)), (0, 7, Cont.cell (AV.bool b2)), (0, 8, Cont.cell (AV.int IntKind.i64 (↑k : Int))), (0, 9, Cont.cell (AV.int IntKind.i64 (↑s : Int))), (1, 0, Cont.cell (AV.int IntKind.i64 W)), (1, 1, Cont.cell (AV.int IntKind.i64 H)), (1, 2, Cont.cell (AV.rs 1 i false (nB g))), (1, 3, Cont.top), (2, 0, Cont.vec 1 3 i fun j => bif j == k then AV.int IntKind.i64 (IntKind.i64.wrap (d2 q + prc s)) else nI d2 j)], 387, 88⟩) (by kernel_rfl) (by kernel_rfl) ?_ ?_
                · exact ⟨by omega, hqi, rfl, by omega, hqi, rfl, ⟨by omega, by omega⟩, by omega, hki, rfl, by omega, hki, rfl, rfl⟩
                rw [big q (by omega) c2]
                refine evC_goL0 (dec := []) (ks := [(0, 2), (0, 4), (0, 5), (0, 7), (0, 8), (0, 9), (1, 0), (1, 1), (1, 2), (1, 3), (2, 0)]) (s' := ⟨[(0, 2, Cont.cell (AV.ptr 1 0)), (0, 4, Cont.cell AV.nils), (0, 5, Cont.cell (AV.vs 2)), (0, 7, Cont.cell (AV.bool true)), (0, 8, Cont.cell (AV.int IntKind.i64 (↑k : Int))), (0, 9, Cont.cell (AV.int IntKind.i64 (↑s : Int))), (1, 0, Cont.cell (AV.int IntKind.i64 W)), (1, 1, Cont.cell (AV.int IntKind.i64 H)), (1, 2, Cont.cell (AV.rs 1 i false (nB g))), (1, 3, Cont.top), (2, 0, Cont.vec 1 3 i fun j => bif j == k then AV.int IntKind.i64 (d2 q + prc s) else nI d2 j)], 395, 88⟩) (by kernel_rfl) (by kernel_rfl) ?_
                refine block_normal ?_
                refine then_normal ?_
                refine evC_goL0 (dec := []) (ks := [(0, 2), (0, 4), (0, 5), (0, 7), (0, 8), (0, 9), (1, 0), (1, 1), (1, 2), (1, 3), (2, 0)]) (s' := ⟨[(0, 2, Cont.cell (AV.ptr 1 0)), (0, 4, Cont.cell AV.nils), (0, 5, Cont.cell (AV.vs 2)), (0, 7, Cont.cell (AV.bool true)), (0, 8, Cont.cell (AV.int IntKind.i64 (↑k : Int))), (0, 9, Cont.cell (AV.int IntKind.i64 (IntKind.i64.wrap ((↑s : Int) + 1)))), (1, 0, Cont.cell (AV.int IntKind.i64 W)), (1, 1, Cont.cell (AV.int IntKind.i64 H)), (1, 2, Cont.cell (AV.rs 1 i false (nB g))), (1, 3, Cont.top), (2, 0, Cont.vec 1 3 i fun j => bif j == k then AV.int IntKind.i64 (d2 q + prc s) else nI d2 j)], 419, 88⟩) (by kernel_rfl) (by kernel_rfl) ?_
                rw [wrap_add_one hs8 (by omega)]
                have hlt2 : tot (setO d2 k (d2 q + prc s)) i < tot c i := by
                  have h1 := st.2
                  cases b2 with
                  | true => have := j4 rfl; omega
                  | false => have := (j3 rfl).2; omega
                refine round_normal (⟨(setO d2 k (d2 q + prc s), true, s + 1), hs8, st.1, (fun h => by cases h), fun _ => hlt2⟩) (wk_go [1, 2] rfl (by decide) rfl rfl ⟨⟨_, rfl, rfl⟩, ⟨_, rfl, rfl⟩, ⟨_, rfl, rfl⟩, ⟨_, rfl, rfl⟩, ⟨_, rfl, rfl⟩, ⟨_, rfl, rfl⟩, ⟨_, rfl, rfl⟩, ⟨_, rfl, rfl⟩, ⟨_, rfl, rfl⟩, ⟨_, rfl, trivial⟩, ⟨_, rfl, ?_⟩, trivial⟩) ?_
                · refine ⟨rfl, rfl, rfl, fun j hj => ?_⟩
                  show (bif j == k then AV.int .i64 (d2 q + prc s) else .int .i64 (d2 j)) = AV.int .i64 (bif j == k then d2 q + prc s else d2 j)
                  cases j == k <;> rfl
                · show 8 - (s + 1) < 8 - s
                  omega
              · have hno : ∀ q : Nat, goR W H g k s = (q : Int) → 0 ≤ d2 q → 0 ≤ d2 k ∧ d2 k ≤ d2 q + prc s := by
                  intro q hq h0
                  rw [hq, Int.toNat_natCast, big q (by omega) h0, decide_eq_true (by omega : (q : Int) ≥ 0), decide_eq_true (by omega : d2 q ≥ 0)] at hc
                  simp only [cond_true] at hc
                  cases e3 : decide (d2 k < 0) with
                  | true => rw [e3] at hc; cases hc
                  | false =>
                    rw [e3] at hc
                    simp only [cond_false] at hc
                    have a1 := of_decide_eq_false e3
                    have a2 := of_decide_eq_false hc
                    omega
                clear hc
                refine evC_skip ?_
                refine block_normal ?_
                refine then_normal ?_
                refine evC_goL0 (dec := []) (ks := [(0, 2), (0, 4), (0, 5), (0, 7), (0, 8), (0, 9), (1, 0), (1, 1), (1, 2), (1, 3), (2, 0)]) (s' := ⟨[(0, 2, Cont.cell (AV.ptr 1 0)), (0, 4, Cont.cell AV.nils), (0, 5, Cont.cell (AV.vs 2)), (0, 7, Cont.cell (AV.bool b2)), (0, 8, Cont.cell (AV.int IntKind.i64 (↑k : Int))), (0, 9, Cont.cell (AV.int IntKind.i64 (IntKind.i64.wrap ((↑s : Int) + 1)))), (1, 0, Cont.cell (AV.int IntKind.i64 W)), (1, 1, Cont.cell (AV.int IntKind.i64 H)), (1, 2, Cont.cell (AV.rs 1 i false (nB g))), (1, 3, Cont.top), (2, 0, Cont.vec 1 3 i (nI d2))], 323, 88⟩) (by kernel_rfl) (by kernel_rfl) ?_
                rw [wrap_add_one hs8 (by omega)]
                refine round_normal (⟨(d2, b2, s + 1), hs8, j2, fun h => ⟨(j3 h).1.next hno, (j3 h).2⟩, j4⟩) (wk_go [1, 2] rfl (by decide) rfl rfl ⟨⟨_, rfl, rfl⟩, ⟨_, rfl, rfl⟩, ⟨_, rfl, rfl⟩, ⟨_, rfl, rfl⟩, ⟨_, rfl, rfl⟩, ⟨_, rfl, rfl⟩, ⟨_, rfl, rfl⟩, ⟨_, rfl, rfl⟩, ⟨_, rfl, rfl⟩, ⟨_, rfl, trivial⟩, ⟨_, rfl, ⟨rfl, rfl, rfl, fun _ _ => rfl⟩⟩, trivial⟩) ?_
                · show 8 - (s + 1) < 8 - s
                  omega
            · have hs8 : s = 8 := by have := of_decide_eq_false hc; omega
              subst hs8
              clear hc
              refine evC_exit ?_
              refine then_exit ?_
              refine round_exit ?_
              refine block_exit ?_
              refine block_normal ?_
              refine then_normal ?_
              refine evC_goL0 (dec := []) (ks := [(0, 2), (0, 4), (0, 5), (0, 7), (0, 8), (1, 0), (1, 1), (1, 2), (1, 3), (2, 0)]) (s' := ⟨[(0, 2, Cont.cell (AV.ptr 1 0)), (0, 4, Cont.cell AV.nils), (0, 5, Cont.cell (AV.vs 2)), (0, 7, Cont.cell (AV.bool b2)), (0, 8, Cont.cell (AV.int IntKind.i64 (IntKind.i64.wrap ((↑k : Int) + 1)))), (1, 0, Cont.cell (AV.int IntKind.i64 W)), (1, 1, Cont.cell (AV.int IntKind.i64 H)), (1, 2, Cont.cell (AV.rs 1 i false (nB g))), (1, 3, Cont.top), (2, 0, Cont.vec 1 3 i (nI d2))], 43, 88⟩) (by kernel_rfl) (by kernel_rfl) ?_
              rw [wrap_add_one hk (by omega)]
              refine round_normal (⟨(d2, b2, k + 1), hk, j2, fun h => ⟨(j3 h).1.row, (j3 h).2⟩, j4⟩) (wk_go [1, 2] rfl (by decide) rfl rfl ⟨⟨_, rfl, rfl⟩, ⟨_, rfl, rfl⟩, ⟨_, rfl, rfl⟩, ⟨_, rfl, rfl⟩, ⟨_, rfl, rfl⟩, ⟨_, rfl, rfl⟩, ⟨_, rfl, rfl⟩, ⟨_, rfl, rfl⟩, ⟨_, rfl, trivial⟩, ⟨_, rfl, ⟨rfl, rfl, rfl, fun _ _ => rfl⟩⟩, trivial⟩) ?_
              · show i - (k + 1) < i - k
                omega
          · have hk : k = i := by have := of_decide_eq_false hc; omega
            subst hk
            clear hc
            refine evC_exit ?_
            refine then_exit ?_
            refine round_exit ?_
            refine block_exit ?_
            refine block_normal ?_
            refine round_normal (⟨(d, b), m2, fun h => (m3 h).1⟩) (wk_go [1, 2] rfl (by decide) rfl rfl ⟨⟨_, rfl, rfl⟩, ⟨_, rfl, rfl⟩, ⟨_, rfl, rfl⟩, ⟨_, rfl, rfl⟩, ⟨_, rfl, rfl⟩, ⟨_, rfl, rfl⟩, ⟨_, rfl, rfl⟩, ⟨_, rfl, trivial⟩, ⟨_, rfl, ⟨rfl, rfl, rfl, fun _ _ => rfl⟩⟩, trivial⟩) ?_
            · show 2 * tot d k + (bif b then 1 else 0) < 2 * tot c k + 1
              cases b with
              | true => have := m4 rfl; simp; omega
              | false => have := (m3 rfl).2; simp; omega
        · have hfl : fl = false := hc
          subst hfl
          clear hc
          have hd := r1.done hm htn (r2 rfl)
          refine evC_wk (s' := ⟨[(0, 2, Cont.cell (AV.ptr 1 0)), (0, 4, Cont.cell AV.nils), (0, 5, Cont.cell (AV.vs 2)), (0, 7, Cont.cell (AV.bool false)), (0, 32, Cont.cell (AV.bool false)), (1, 0, Cont.cell (AV.int IntKind.i64 W)), (1, 1, Cont.cell (AV.int IntKind.i64 H)), (1, 2, Cont.cell (AV.rs 1 i false (nB g))), (1, 3, Cont.top), (2, 0, .vec 1 3 i (nI (costs W H g i t)))], 3, 88⟩) _ (wk_go [1, 2] rfl (by decide) rfl rfl ⟨⟨_, rfl, rfl⟩, ⟨_, rfl, rfl⟩, ⟨_, rfl, rfl⟩, ⟨_, rfl, rfl⟩, ⟨_, rfl, rfl⟩, ⟨_, rfl, rfl⟩, ⟨_, rfl, rfl⟩, ⟨_, rfl, rfl⟩, ⟨_, rfl, trivial⟩, ⟨_, rfl, ?_⟩, trivial⟩) ?_
          · refine ⟨rfl, rfl, rfl, fun j hj => ?_⟩
            show AV.int .i64 (c j) = AV.int .i64 (costs W H g i t j)
            rw [hd j hj]
          refine evC_exit ?_
          refine then_exit ?_
          refine round_exit ?_
          refine block_exit ?_
          refine then_normal ?_
          refine evC_go0 (dec := []) (ks := [(0, 4), (2, 0)]) (s' := ⟨[(0, 4, Cont.cell (AV.vs 2)), (2, 0, Cont.vec 1 3 i (nI (costs W H g i (↑t : Int))))], 19, 88⟩) (by kernel_rfl) (by kernel_rfl) ?_
          refine evC_ret ?_
          refine post_ret ?_
          refine ends_go [2] (AV.vs 1) [(1, 0, Cont.vec 1 3 i (nI (costs W H g i (↑t : Int))))] rfl (by decide) rfl rfl (has_of _ rfl) rfl ⟨⟨_, rfl, ⟨rfl, rfl, rfl, fun _ _ => rfl⟩⟩, trivial⟩ ⟨fun _ => ⟨1, _, rfl, rfl, rfl, ⟨rfl, rfl, rfl, fun _ _ => ⟨has_of _ rfl, rfl⟩⟩⟩, trivial⟩ (kept_nil _)
    · cases e
  · cases e
end Go.Eng.S13
