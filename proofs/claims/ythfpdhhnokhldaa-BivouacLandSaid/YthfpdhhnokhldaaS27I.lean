/- Seat top, land: the iterator over a slice's elements. -/
import Derived.Test.YthfpdhhnokhldaaEngX
import Derived.RangeFuncNested
import Derived.RangeFuncBox
import Derived.RangeFuncLeaves
import Derived.Shelf.Abstract
import Derived.WalkKit
import Derived.OwnWalkIn
import Derived.TacticsInMore
import Derived.LoopNIn
import Derived.LoopIn
import Derived.Test.YthfpdhhnokhldaaProg
set_option linter.unusedSimpArgs false
set_option linter.unusedVariables false
namespace Go.Eng.S27
open Go.Proofs Go.RowKit Go.Shelf
attribute [local go_sem] Oper.semAt_some
theorem less_rounds {n k : Nat} (h : k < n) : n - (intOf (Value.int .i64 ((k : Int) + 1))).toNat < n - (intOf (Value.int .i64 (k : Int))).toNat := by
  have h1 : (intOf (Value.int .i64 ((k : Int) + 1))).toNat = k + 1 := rfl
  have h2 : (intOf (Value.int .i64 (k : Int))).toNat = k := rfl
  rw [h1, h2]; omega
set_option maxRecDepth 100000 in
set_option maxHeartbeats 2000000 in
theorem iter_ok : IterOK Try.prog 38 4 := by
  refine ⟨enters_of Try.func38 (by kernel_rfl) rfl, ?_⟩
  intro m l n cap a ad els R J Jx W hRl hspot hRa hcell hn hel hlen hJ hJx hY h0
  refine callsIn_of_wp Try.func38 rfl trivial ?_ rfl
  simp only [Try.ntmps38, List.size_toArray, List.length_cons, List.length_nil, Nat.reduceAdd, Nat.reduceSub, Array.replicate_succ, Array.replicate_zero, List.push_toArray, List.append_toArray, List.nil_append, List.cons_append]
  gi_wp2
  gi_loopw [7] (fun i wr => ∃ k : Nat, k ≤ n ∧ i = .int .i64 k ∧ J k wr ∧ ∀ c, R c → wr.heap[c]? = W.heap[c]?)
    (fun i _ => n - (intOf i).toNat)
  case atStart => exact ⟨0, Nat.zero_le _, rfl, h0, fun _ _ => rfl⟩
  case round =>
    obtain ⟨k, hk, rfl, hJs, hnx⟩ := hrel
    by_cases hlt : k < n
    · obtain ⟨p, rfl, hRp, hps, hcs⟩ := hel (by omega)
      obtain ⟨b, o, sp⟩ := p
      simp only at hps hRp
      subst hps
      obtain ⟨x0, x1, x2, x3, hels⟩ : ∃ x0 x1 x2 x3, els k = [.int .i64 x0, .int .i64 x1, .int .i64 x2, .int .i64 x3] := by
        obtain ⟨h1, xs, h2⟩ := hlen k hlt
        rw [h2, List.length_map] at h1
        match xs, h1, h2 with
        | [a, b, c, d], _, h2 => exact ⟨a, b, c, d, h2⟩
      have hcell' : ∀ j u, (els k)[j]? = some u → wr.cell? ⟨b, o + (k * 4 + j), none⟩ = some u := by
        intro j u hj
        have h1 := hcs k hlt j u hj
        have h2 : (⟨b, o, none⟩ : Addr).add (k * 4 + j) = ⟨b, o + (k * 4 + j), none⟩ := by
          by_cases h0 : k * 4 + j = 0
          · rw [h0]; simp [Addr.add]
          · simp only [Addr.add, h0, if_false]
        rw [h2] at h1
        rw [← h1]
        exact World.cell?_of_block (hnx b hRp)
      rw [hels] at hcell'
      have c0 := hcell' 0 (.int .i64 x0) rfl
      have c1 := hcell' 1 (.int .i64 x1) rfl
      have c2 := hcell' 2 (.int .i64 x2) rfl
      have c3 := hcell' 3 (.int .i64 x3) rfl
      rw [Nat.add_zero] at c0
      rw [← Nat.add_assoc] at c1 c2 c3
      have hY' := hY k (wr.alloc (Obj.cells #[.int .i64 x0, .int .i64 x1, .int .i64 x2, .int .i64 x3] 31)) hlt (hJ k _ _ hJs (World.grownBy_alloc wr _ none))
      rw [hels] at hY'
      obtain ⟨fn, tmps, assign, body, hy, hR⟩ := hY'
      have hnx2 : ∀ c, R c → (wr.alloc (Obj.cells #[.int .i64 x0, .int .i64 x1, .int .i64 x2, .int .i64 x3] 31)).heap[c]? = W.heap[c]? := fun c hc => by
        rw [← hnx c hc]
        refine (World.grownBy_alloc wr (Obj.cells #[.int .i64 x0, .int .i64 x1, .int .i64 x2, .int .i64 x3] 31) none).block c ?_ (by simp)
        have h1 := hnx c hc
        rw [Array.getElem?_eq_getElem (hRl c hc)] at h1
        exact (Array.getElem?_eq_some_iff.1 h1).1
      have hfin : n - (intOf (Value.int .i64 ((k : Int) + 1))).toNat < n - (intOf (Value.int .i64 (k : Int))).toNat := less_rounds hlt
      have hw : wrap64 ((k : Int) + 1) = (k : Int) + 1 := by
        unfold maxLen at hn
        exact Go.IntWalk.wrap64_in _ (by omega)
      gi_wp2
      refine hR.mono ?_
      rintro e W3 (⟨rfl, hJ3, hk3⟩ | ⟨rfl, hJx3⟩)
      · gi_wp2
        go_roundw
        case rel => exact ⟨k + 1, by omega, by simp [hw], hJ3, fun c hc => (hk3 c hc).trans (hnx2 c hc)⟩
        case measure => rw [hw]; exact hfin
      · gi_wp2
        refine bodyPost_ret (results_none rfl _ _ _) rfl ?_
        exact ⟨⟨_, rfl⟩, .inr hJx3⟩
    · obtain rfl : k = n := by omega
      gi_wp2
      go_end0
      exact ⟨⟨_, rfl⟩, .inl hJs⟩
end Go.Eng.S27
