/- Seat 25: numbers as bytes, walked. -/
import Derived.Test.YtodnecfgiimclaaEngX
import Derived.Test.YtodnecfgiimclaaS25D
set_option linter.unusedSimpArgs false
set_option linter.unusedVariables false
namespace Go.Eng.S25
open Go.Proofs Go.IntWalk
set_option maxRecDepth 10000

/-- A number's bytes. -/
def leB : Nat → Int → List Int
  | 0, _ => []
  | k + 1, v => v % 256 :: leB k (v / 256)
theorem leB_len : ∀ (k : Nat) (v : Int), (leB k v).length = k
  | 0, _ => rfl
  | k + 1, v => by rw [leB, List.length_cons, leB_len k]
theorem leB_snoc : ∀ (k : Nat) (v : Int), leB (k + 1) v = leB k v ++ [v / 256 ^ k % 256]
  | 0, v => by simp [leB]
  | k + 1, v => by
    rw [leB, leB_snoc k, leB, List.cons_append]
    have : v / 256 / 256 ^ k = v / 256 ^ (k + 1) := by
      rw [Int.ediv_ediv_of_nonneg (by omega)]
      congr 1
      rw [Int.pow_succ, Int.mul_comm]
    rw [this]
theorem leB_isU : ∀ (k : Nat) (v : Int), IsU (leB k v)
  | 0, _, x, hx => by cases hx
  | k + 1, v, x, hx => by
    rcases List.mem_cons.1 hx with rfl | hx
    · omega
    · exact leB_isU k _ x hx
theorem isU_app {L M : List Int} (h : IsU L) (k : IsU M) : IsU (L ++ M) := fun x hx => (List.mem_append.1 hx).elim (h x) (k x)
theorem shr_byte {k : Nat} (hk : k < 8) (v : Int) : IntKind.u8.wrap (v.fdiv (2 ^ min (8 * (k : Int)).toNat IntKind.u64.bits)) = v / 256 ^ k % 256 := by
  have e1 : min (8 * (k : Int)).toNat IntKind.u64.bits = 8 * k := by
    show min (8 * (k : Int)).toNat 64 = 8 * k
    omega
  have e2 : (2 : Int) ^ (8 * k) = 256 ^ k := by rw [Int.pow_mul]; rfl
  rw [e1, e2, Int.fdiv_eq_ediv_of_nonneg _ (Int.pow_nonneg (by omega)), IntKind.wrap_u8]
def sPut : Spec := fun args hr nb => match args with
  | [.vs j, .int .i64 z, .int .u64 v] => match hr j 0 with
    | some (.vec 1 5 m f) => some ⟨[0 < j, IsB m f, 0 ≤ z ∧ z ≤ 8, 0 ≤ v ∧ v ≤ 18446744073709551615, m ≤ 100000000], .vs nb, [(j, 0, .vec 1 5 m f)], [(j, 0, .dead), (nb, 0, .vec 1 5 (m + z.toNat) (nU (bytesL m f ++ leB z.toNat v)))]⟩
    | _ => none
  | _ => none
theorem put_ok : SpecOK Try.prog 32 sPut := by
  refine spec_at (by kernel_rfl) T_ok sget_nil Try.func32 rfl rfl fun args hr nb out e => ?_
  unfold sPut at e
  split at e
  · rename_i j z v
    split at e
    · rename_i m f hj
      injection e with e; subst e
      have hrd' : ∀ x ∈ [(j, 0, Cont.vec 1 5 m f)], hr x.1 x.2.1 = some x.2.2 := by
        intro x hx
        rw [List.mem_singleton.1 hx]; exact hj
      by_cases hB : IsB m f
      rotate_left
      · exact ⟨hrd', true, [], [], [], rfl, fun hs => absurd (hs _ (List.mem_cons_of_mem _ List.mem_cons_self)) hB⟩
      obtain ⟨L, rfl, hL, eL, hf⟩ := hB.list
      refine ⟨hrd', true, [j], [.vs 1, .int .i64 z, .int .u64 v], [(1, 0, .vec 1 5 L.length (nU L))], rfl, fun hs => ?_⟩
      have j0 := hs _ List.mem_cons_self
      have hz := hs _ (List.mem_cons_of_mem _ (List.mem_cons_of_mem _ List.mem_cons_self))
      have hv := hs _ (List.mem_cons_of_mem _ (List.mem_cons_of_mem _ (List.mem_cons_of_mem _ List.mem_cons_self)))
      have hm := hs _ (List.mem_cons_of_mem _ (List.mem_cons_of_mem _ (List.mem_cons_of_mem _ (List.mem_cons_of_mem _ List.mem_cons_self))))
      refine ⟨by simp, fun y hy => ?_, .cons _ _ _ _ (.name _ _ _ rfl) (.cons _ _ _ _ (.same _ _ (.int _ _)) (.cons _ _ _ _ (.same _ _ (.int _ _)) .nil)), fun x hx => ?_, ?_⟩
      · rw [List.mem_singleton.1 hy]
        exact ⟨j0, .vec 1 5 L.length f List.mem_cons_self⟩
      · rw [List.mem_singleton.1 hx]
        exact ⟨0, j, _, rfl, rfl, List.mem_cons_self, rfl, rfl, rfl, fun i hi => hf i hi⟩
      rw [eL]
      clear hs hrd' hB eL hf
      obtain ⟨z, rfl⟩ := Int.eq_ofNat_of_zero_le hz.1
      simp only [Int.toNat_natCast]
      refine evC_go0 (dec := []) (ks := [(0, 0), (0, 1), (0, 2), (0, 6), (1, 0)]) (s' := ⟨[(0, 0, Cont.cell (AV.vs 1)), (0, 1, Cont.cell (AV.int IntKind.i64 (↑z : Int))), (0, 2, Cont.cell (AV.int IntKind.u64 v)), (0, 6, Cont.cell AV.nils), (1, 0, Cont.vec 1 5 (List.length L) (nU L))], 34, 22⟩) (by kernel_rfl) (by kernel_rfl) ?_
      refine evC_seq ?_
      refine evC_go0 (dec := []) (ks := [(0, 0), (0, 2), (0, 6), (0, 8), (0, 9), (1, 0)]) (s' := ⟨[(0, 0, Cont.cell (AV.vs 1)), (0, 2, Cont.cell (AV.int IntKind.u64 v)), (0, 6, Cont.cell AV.nils), (0, 8, Cont.cell (AV.int IntKind.i64 (↑z : Int))), (0, 9, Cont.cell (AV.int IntKind.i64 0)), (1, 0, Cont.vec 1 5 (List.length L) (nU L))], 98, 22⟩) (by kernel_rfl) (by kernel_rfl) ?_
      refine evC_wk (s' := ⟨[(0, 0, Cont.cell (AV.vs 98)), (0, 2, Cont.cell (AV.int IntKind.u64 v)), (0, 6, Cont.cell AV.nils), (0, 8, Cont.cell (AV.int IntKind.i64 (↑z : Int))), (0, 9, Cont.cell (AV.int IntKind.i64 0)), (98, 0, Cont.vec 1 5 (List.length L) (nU L))], 99, 22⟩) _ (wk_take 1 rfl rfl rfl ⟨⟨_, rfl, rfl⟩, ⟨_, rfl, rfl⟩, ⟨_, rfl, rfl⟩, ⟨_, rfl, rfl⟩, ⟨_, rfl, rfl⟩, ⟨_, rfl, rfl, rfl, rfl, fun _ _ => rfl⟩, trivial⟩) ?_
      refine evC_block ?_
      refine evC_loop (ι := { k : Nat // k ≤ z }) (fun k => ⟨[(0, 0, Cont.cell (AV.vs 2)), (0, 2, Cont.cell (AV.int IntKind.u64 v)), (0, 6, Cont.cell AV.nils), (0, 8, Cont.cell (AV.int IntKind.i64 (↑z : Int))), (0, 9, .cell (.int .i64 (k.1 : Nat))), (2, 0, .vec 1 5 (L ++ leB k.1 v).length (nU (L ++ leB k.1 v)))], 3, 22⟩) (fun k => z - k.1) ⟨0, Nat.zero_le _⟩ (wk_go [98] rfl (by decide) rfl rfl ⟨⟨_, rfl, rfl⟩, ⟨_, rfl, rfl⟩, ⟨_, rfl, rfl⟩, ⟨_, rfl, rfl⟩, ⟨_, rfl, rfl⟩, ⟨_, rfl, ?_⟩, trivial⟩) ?_
      · exact ⟨rfl, rfl, by simp [leB], fun i hi => by show nU L i = nU (L ++ []) i; rw [List.append_nil]⟩
      rintro ⟨k, hk⟩
      refine evC_go0 (dec := []) (ks := [(0, 0), (0, 2), (0, 6), (0, 8), (0, 9), (0, 10), (2, 0)]) (s' := ⟨[(0, 0, Cont.cell (AV.vs 2)), (0, 2, Cont.cell (AV.int IntKind.u64 v)), (0, 6, Cont.cell AV.nils), (0, 8, Cont.cell (AV.int IntKind.i64 (↑z : Int))), (0, 9, Cont.cell (AV.int IntKind.i64 (↑k : Int))), (0, 10, Cont.cell (AV.bool (decide ((↑k : Int) < (↑z : Int))))), (2, 0, Cont.vec 1 5 (List.length (L ++ leB k v)) (nU (L ++ leB k v)))], 35, 22⟩) (by kernel_rfl) (by kernel_rfl) ?_
      refine evC_seq ?_
      refine evC_if (q := decide ((↑k : Int) < (↑z : Int))) (by kernel_rfl) (fun hc => ?_) (fun hc => ?_)
      · have hlt : k < z := by have := of_decide_eq_true hc; omega
        clear hc
        have hl : (L ++ leB k v).length = L.length + k := by rw [List.length_append, leB_len]
        have e8 : IntKind.i64.wrap (8 * (k : Int)) = 8 * (k : Int) := i64_in _ (by omega)
        refine evC_skip ?_
        refine then_normal ?_
        refine evC_seq ?_
        refine evC_block ?_
        refine evC_go0 (dec := []) (ks := [(0, 0), (0, 2), (0, 6), (0, 7), (0, 8), (0, 9), (2, 0)]) (s' := ⟨[(0, 0, Cont.cell (AV.vs 2)), (0, 2, Cont.cell (AV.int IntKind.u64 v)), (0, 6, Cont.cell AV.nils), (0, 7, Cont.cell (AV.int IntKind.i64 (↑k : Int))), (0, 8, Cont.cell (AV.int IntKind.i64 (↑z : Int))), (0, 9, Cont.cell (AV.int IntKind.i64 (↑k : Int))), (2, 0, Cont.vec 1 5 (List.length (L ++ leB k v)) (nU (L ++ leB k v)))], 99, 22⟩) (by kernel_rfl) (by kernel_rfl) ?_
        refine evC_goL (dec := []) (ks := [(0, 0), (0, 2), (0, 6), (0, 8), (0, 9), (323, 0)]) (ps := [(0 : Int) ≤ IntKind.i64.wrap ((8 : Int) * (↑k : Int)), (List.length (L ++ leB k v) + (1 : Nat)) * (1 : Nat) ≤ (140737488355328 : Nat), List.length (L ++ leB k v) + (1 : Nat) ≤ maxLen, (1 : Nat) = (0 : Nat) ∨ (1 : Nat) = (1 : Nat), (1 : Nat) = (1 : Nat), (5 : Nat) = (5 : Nat)]) (s' := ⟨[(0, 0, Cont.cell (AV.vs 323)), (0, 2, Cont.cell (AV.int IntKind.u64 v)), (0, 6, Cont.cell AV.nils), (0, 8, Cont.cell (AV.int IntKind.i64 (↑z : Int))), (0, 9, Cont.cell (AV.int IntKind.i64 (↑k : Int))), (323, 0, Cont.vec 1 5 (List.length (L ++ leB k v) + 1) (catF (List.length (L ++ leB k v)) (nU (L ++ leB k v)) (pget [(0, AV.int IntKind.u8 (IntKind.wrap IntKind.u8 (Int.fdiv v (2 ^ min (Int.toNat (IntKind.i64.wrap (8 * (↑k : Int)))) (IntKind.bits IntKind.u64)))))])))], 387, 22⟩) (by kernel_rfl) (by kernel_rfl) ?_ ?_
        · rw [e8, hl]
          (simp only [All]; (repeat' apply And.intro) <;> (try intro _) <;> (try intro _) <;> (repeat' apply And.intro) <;> (try intro _) <;> (try intro _) <;> first | trivial | assumption | exact .inr trivial | exact .inr rfl | omega | rfl | exact ⟨_, rfl, rfl⟩ | exact ⟨rfl, rfl⟩ | exact ⟨fun _ => rfl, fun _ => rfl⟩ | (unfold maxLen; omega) | (unfold i64R; first | omega | decide) | decide)
        rw [e8]
        refine block_normal ?_
        refine then_normal ?_
        refine evC_goL0 (dec := []) (ks := [(0, 0), (0, 2), (0, 6), (0, 8), (0, 9), (323, 0)]) (s' := ⟨[(0, 0, Cont.cell (AV.vs 323)), (0, 2, Cont.cell (AV.int IntKind.u64 v)), (0, 6, Cont.cell AV.nils), (0, 8, Cont.cell (AV.int IntKind.i64 (↑z : Int))), (0, 9, Cont.cell (AV.int IntKind.i64 (IntKind.i64.wrap ((↑k : Int) + 1)))), (323, 0, Cont.vec 1 5 (List.length (L ++ leB k v) + 1) (catF (List.length (L ++ leB k v)) (nU (L ++ leB k v)) (pget [(0, AV.int IntKind.u8 (IntKind.wrap IntKind.u8 (Int.fdiv v (2 ^ min (Int.toNat (8 * (↑k : Int))) (IntKind.bits IntKind.u64)))))])))], 451, 22⟩) (by kernel_rfl) (by kernel_rfl) ?_
        refine round_normal (⟨k + 1, hlt⟩) (wk_go [323] rfl (by decide) rfl rfl ⟨⟨_, rfl, rfl⟩, ⟨_, rfl, rfl⟩, ⟨_, rfl, rfl⟩, ⟨_, rfl, rfl⟩, ⟨_, rfl, ?_⟩, ⟨_, rfl, ?_⟩, trivial⟩) ?_
        · show AV.int .i64 _ = AV.int .i64 _
          rw [i64_in ((k : Int) + 1) (by omega)]
          rfl
        · refine ⟨rfl, rfl, ?_, fun i hi => ?_⟩
          · rw [List.length_append, List.length_append, leB_len, leB_len]; rfl
          · rw [shr_byte (by omega)]
            show catF (L ++ leB k v).length (nU (L ++ leB k v)) _ i = nU (L ++ leB (k + 1) v) i
            rw [cat_nU (L ++ leB k v) [v / 256 ^ k % 256] _ (fun i hi => by simp at hi; subst hi; rfl) i (by rw [List.length_append, leB_len] at hi; rw [List.length_append, leB_len]; simp at hi ⊢; omega), leB_snoc, List.append_assoc]
        · show z - (k + 1) < z - k
          omega
      · have hk : k = z := by have := of_decide_eq_false hc; omega
        subst hk
        refine evC_exit ?_
        refine then_exit ?_
        refine round_exit ?_
        refine block_exit ?_
        refine then_normal ?_
        refine evC_go0 (dec := []) (ks := [(0, 6), (2, 0)]) (s' := ⟨[(0, 6, Cont.cell (AV.vs 2)), (2, 0, Cont.vec 1 5 (List.length (L ++ leB k v)) (nU (L ++ leB k v)))], 99, 22⟩) (by kernel_rfl) (by kernel_rfl) ?_
        refine evC_ret ?_
        refine post_ret ?_
        refine ends_go [2] (AV.vs 2) [(2, 0, Cont.vec 1 5 (List.length (L ++ leB k v)) (nU (L ++ leB k v)))] rfl (by decide) rfl rfl (has_of _ rfl) rfl ⟨⟨_, rfl, ⟨rfl, rfl, rfl, fun _ _ => rfl⟩⟩, trivial⟩ ⟨fun h => False.elim h, ?_, trivial⟩ ⟨fun _ => .inl ⟨by simp [keyIn, upKeys], fun sz h => by simp at h⟩, trivial⟩
        · exact fun _ => ⟨2, _, rfl, rfl, rfl, rfl, rfl, by rw [List.length_append, leB_len], fun i hi => ⟨.int _ _, rfl⟩⟩
    · cases e
  · cases e
end Go.Eng.S25
