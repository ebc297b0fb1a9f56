/- Seat 22: an order's bytes, all orders' bytes, walked. -/
import Derived.Test.YtdflehcijhejlaaEngX
import Derived.Test.YtdflehcijhejlaaS22B
set_option linter.unusedSimpArgs false
set_option linter.unusedVariables false
namespace Go.Eng.S22
open Go.Proofs Go.IntWalk
set_option maxRecDepth 10000

abbrev Od := Int × Int × Int × Int × Int
def odv (q : Od) : AV := od q.1 q.2.1 q.2.2.1 q.2.2.2.1 q.2.2.2.2
def decO (u : Nat → Int) (k : Nat) : Od := (u k, num4 u (k + 1), u (k + 5), u (k + 6), num4 u (k + 7))
def sOrder : Spec := fun args hr _ => match args with
  | [v, .int .i64 k] => match sl 1 hr v with
    | some (n, f, rd) => some ⟨[0 ≤ k ∧ k + 11 ≤ n ∧ n ≤ 9223372036854775807 ∧ IsU n f], odv (decO (U f) k.toNat), rd, []⟩
    | none => none
  | _ => none
theorem order_ok : SpecOK Try.prog 27 sOrder := by
  refine spec_own (by kernel_rfl) T_ok (sget_cons num_ok sget_nil) Try.func27 rfl rfl fun args hr nb out e => ?_
  unfold sOrder at e
  split at e
  · rename_i v k
    split at e
    · rename_i n f rd hs1
      injection e with e; subst e
      refine ⟨fun x hx => sl_rd hs1 x hx, false, [.rs 1 n false (nU (U f)), .int .i64 k], rfl, fun hs => ?_⟩
      obtain ⟨k0, k1, k2, h1⟩ := hs _ List.mem_cons_self
      refine ⟨.cons _ _ _ _ (.slice _ _ _ _ _ hs1 (fun y hy => ⟨hy, by simp⟩) _ fun i hi => ⟨(h1.get i hi).1, (nU_flat _ i).has⟩) (.cons _ _ _ _ (.same _ _ (.int _ _)) .nil), ?_⟩
      clear hs
      have h2 : ∀ i, i < n → 0 ≤ U f i ∧ U f i ≤ 255 := fun i hi => (h1.get i hi).2
      have h3 : IsU n (nU (U f)) := ⟨fun i hi => ⟨rfl, (h1.get i hi).2⟩⟩
      clear h1
      generalize U f = u at h2 h3 ⊢
      obtain ⟨p, rfl⟩ := Int.eq_ofNat_of_zero_le k0
      have e1 : IntKind.i64.wrap ((p : Int) + 1) = ((p + 1 : Nat) : Int) := by rw [w64 (by omega) (by omega)]; rfl
      have e5 : IntKind.i64.wrap ((p : Int) + 5) = ((p + 5 : Nat) : Int) := by rw [w64 (by omega) (by omega)]; rfl
      have e6 : IntKind.i64.wrap ((p : Int) + 6) = ((p + 6 : Nat) : Int) := by rw [w64 (by omega) (by omega)]; rfl
      have e7 : IntKind.i64.wrap ((p : Int) + 7) = ((p + 7 : Nat) : Int) := by rw [w64 (by omega) (by omega)]; rfl
      refine evC_go0 (dec := []) (ks := [(0, 0), (0, 1), (0, 4), (1, 0), (1, 1), (1, 2), (1, 3), (1, 4), (1, 5)]) (s' := ⟨[(0, 0, Cont.cell (AV.rs 1 n false (nU u))), (0, 1, Cont.cell (AV.int IntKind.i64 (↑p : Int))), (0, 4, Cont.cell (AV.ptr 1 0)), (1, 0, Cont.cell (AV.int IntKind.i64 0)), (1, 1, Cont.cell (AV.int IntKind.i64 0)), (1, 2, Cont.cell (AV.int IntKind.i64 0)), (1, 3, Cont.cell (AV.int IntKind.i64 0)), (1, 4, Cont.cell (AV.int IntKind.i64 0)), (1, 5, Cont.top)], 9, 31⟩) (by kernel_rfl) (by kernel_rfl) ?_
      refine evC_go (dec := []) (ks := [(0, 4), (1, 0), (1, 1), (1, 2), (1, 3), (1, 4), (1, 5)]) (ps := [(0 : Int) ≤ (↑p : Int), (↑p : Int) < (↑n : Int), (1 : Nat) = (1 : Nat), (0 : Int) ≤ IntKind.i64.wrap ((↑p : Int) + (1 : Int)) ∧ IntKind.i64.wrap ((↑p : Int) + (1 : Int)) + (4 : Int) ≤ (↑n : Int) ∧ n ≤ (9223372036854775807 : Nat) ∧ IsU n (nU u), (0 : Int) ≤ IntKind.i64.wrap ((↑p : Int) + (5 : Int)), IntKind.i64.wrap ((↑p : Int) + (5 : Int)) < (↑n : Int), (1 : Nat) = (1 : Nat), (0 : Int) ≤ IntKind.i64.wrap ((↑p : Int) + (6 : Int)), IntKind.i64.wrap ((↑p : Int) + (6 : Int)) < (↑n : Int), (1 : Nat) = (1 : Nat), (0 : Int) ≤ IntKind.i64.wrap ((↑p : Int) + (7 : Int)) ∧ IntKind.i64.wrap ((↑p : Int) + (7 : Int)) + (4 : Int) ≤ (↑n : Int) ∧ n ≤ (9223372036854775807 : Nat) ∧ IsU n (nU u)]) (s' := ⟨[(0, 4, Cont.cell (AV.ptr 1 0)), (1, 0, Cont.cell (AV.int IntKind.i64 (IntKind.i64.wrap (u p)))), (1, 1, Cont.cell (AV.int IntKind.i64 (num4 (U (nU u)) (Int.toNat (IntKind.i64.wrap ((↑p : Int) + 1)))))), (1, 2, Cont.cell (AV.int IntKind.i64 (IntKind.i64.wrap (u (Int.toNat (IntKind.i64.wrap ((↑p : Int) + 5))))))), (1, 3, Cont.cell (AV.int IntKind.i64 (IntKind.i64.wrap (u (Int.toNat (IntKind.i64.wrap ((↑p : Int) + 6))))))), (1, 4, Cont.cell (AV.int IntKind.i64 (num4 (U (nU u)) (Int.toNat (IntKind.i64.wrap ((↑p : Int) + 7)))))), (1, 5, Cont.top)], 225, 31⟩) (by kernel_rfl) (by kernel_rfl) ?_ ?_
      · rw [e1, e5, e6, e7]
        (simp only [All]; (repeat' apply And.intro) <;> (try intro _) <;> (try intro _) <;> (repeat' apply And.intro) <;> (try intro _) <;> (try intro _) <;> first | trivial | assumption | exact .inr trivial | exact .inr rfl | omega | rfl | exact ⟨_, rfl, rfl⟩ | exact ⟨rfl, rfl⟩ | exact ⟨fun _ => rfl, fun _ => rfl⟩ | (unfold maxLen; omega) | (unfold i64R; first | omega | decide) | decide)
      rw [e1, e5, e6, e7, w64 (h2 p (by omega)).1 (by have := h2 p (by omega); omega)]
      refine evC_ret ?_
      refine post_ret ?_
      refine ends_flat (vs := [AV.agg [AV.int IntKind.i64 (u p), AV.int IntKind.i64 (num4 (U (nU u)) (p + 1)), AV.int IntKind.i64 (IntKind.i64.wrap (u (p + 5))), AV.int IntKind.i64 (IntKind.i64.wrap (u (p + 6))), AV.int IntKind.i64 (num4 (U (nU u)) (p + 7))]]) (Nat.zero_lt_succ _) (by kernel_rfl) (flat_of _ (by kernel_rfl)) rfl ?_
      rw [w64 (h2 (p + 5) (by omega)).1 (by have := h2 (p + 5) (by omega); omega), w64 (h2 (p + 6) (by omega)).1 (by have := h2 (p + 6) (by omega); omega)]
      rfl
    · cases e
  · cases e

def orB (q : Od) : List Int := [q.1 % 256, by4 q.2.1 0, by4 q.2.1 1, by4 q.2.1 2, by4 q.2.1 3, q.2.2.1 % 256, q.2.2.2.1 % 256, by4 q.2.2.2.2 0, by4 q.2.2.2.2 1, by4 q.2.2.2.2 2, by4 q.2.2.2.2 3]
theorem orB_u (q : Od) : ∀ i, i < 4 → (orB q).getD (1 + i) 0 = by4 q.2.1 i := by
  intro i hi
  rcases (by omega : i = 0 ∨ i = 1 ∨ i = 2 ∨ i = 3) with rfl | rfl | rfl | rfl <;> rfl
theorem orB_t (q : Od) : ∀ i, i < 4 → (orB q).getD (7 + i) 0 = by4 q.2.2.2.2 i := by
  intro i hi
  rcases (by omega : i = 0 ∨ i = 1 ∨ i = 2 ∨ i = 3) with rfl | rfl | rfl | rfl <;> rfl
def sBytes : Spec := fun args _ nb => match args with
  | [.agg [.int .i64 k, .int .i64 u, .int .i64 i, .int .i64 j, .int .i64 t]] => some ⟨[0 ≤ u ∧ u ≤ 9223372036854775807 ∧ 0 ≤ t ∧ t ≤ 9223372036854775807], .vs nb, [], [(nb, 0, .vec 1 5 11 (lstU (orB (k, u, i, j, t))))]⟩
  | _ => none
theorem bytes_ok : SpecOK Try.prog 14 sBytes := by
  refine spec_own (by kernel_rfl) T_ok (sget_cons byteOf_ok sget_nil) Try.func14 rfl rfl fun args hr nb out e => ?_
  unfold sBytes at e
  split at e
  · rename_i k u i j t
    injection e with e; subst e
    refine ⟨(fun _ h => nomatch h), true, [od k u i j t], rfl, fun hs => ⟨.cons _ _ _ _ (.same _ _ (od_flat _ _ _ _ _).has) .nil, ?_⟩⟩
    obtain ⟨u0, u1, t0, t1⟩ := hs _ List.mem_cons_self
    clear hs
    unfold od
    refine evC_go0 (dec := []) (ks := [(0, 1), (0, 2), (1, 0), (1, 1), (1, 2), (1, 3), (1, 4), (1, 5)]) (s' := ⟨[(0, 1, Cont.cell (AV.ptr 1 0)), (0, 2, Cont.cell AV.nils), (1, 0, Cont.cell (AV.int IntKind.i64 k)), (1, 1, Cont.cell (AV.int IntKind.i64 u)), (1, 2, Cont.cell (AV.int IntKind.i64 i)), (1, 3, Cont.cell (AV.int IntKind.i64 j)), (1, 4, Cont.cell (AV.int IntKind.i64 t)), (1, 5, Cont.top)], 17, 42⟩) (by kernel_rfl) (by kernel_rfl) ?_
    refine evC_go0 (dec := []) (ks := [(0, 1), (0, 2), (0, 3), (1, 0), (1, 1), (1, 2), (1, 3), (1, 4), (1, 5), (41, 0)]) (s' := ⟨[(0, 1, Cont.cell (AV.ptr 1 0)), (0, 2, Cont.cell AV.nils), (0, 3, Cont.cell (AV.vs 41)), (1, 0, Cont.cell (AV.int IntKind.i64 k)), (1, 1, Cont.cell (AV.int IntKind.i64 u)), (1, 2, Cont.cell (AV.int IntKind.i64 i)), (1, 3, Cont.cell (AV.int IntKind.i64 j)), (1, 4, Cont.cell (AV.int IntKind.i64 t)), (1, 5, Cont.top), (41, 0, Cont.vec 1 5 1 (pget [(0, AV.int IntKind.u8 (IntKind.wrap IntKind.u8 k))]))], 57, 42⟩) (by kernel_rfl) (by kernel_rfl) ?_
    have eu := orB_u (k, u, i, j, t)
    have et := orB_t (k, u, i, j, t)
    refine evC_seq ?_
    refine evC_go0 (dec := []) (ks := [(0, 1), (0, 2), (0, 3), (0, 4), (1, 0), (1, 1), (1, 2), (1, 3), (1, 4), (1, 5), (41, 0)]) (s' := ⟨[(0, 1, Cont.cell (AV.ptr 1 0)), (0, 2, Cont.cell AV.nils), (0, 3, Cont.cell (AV.vs 41)), (0, 4, Cont.cell (AV.int IntKind.i64 0)), (1, 0, Cont.cell (AV.int IntKind.i64 k)), (1, 1, Cont.cell (AV.int IntKind.i64 u)), (1, 2, Cont.cell (AV.int IntKind.i64 i)), (1, 3, Cont.cell (AV.int IntKind.i64 j)), (1, 4, Cont.cell (AV.int IntKind.i64 t)), (1, 5, Cont.top), (41, 0, Cont.vec 1 5 1 (pget [(0, AV.int IntKind.u8 (IntKind.wrap IntKind.u8 k))]))], 65, 42⟩) (by kernel_rfl) (by kernel_rfl) ?_
    refine evC_block ?_
    refine evC_loop (ι := { x : Nat // x ≤ 4 }) (fun x => ⟨[(0, 1, Cont.cell (AV.ptr 1 0)), (0, 2, Cont.cell AV.nils), (0, 3, Cont.cell (AV.vs 2)), (0, 4, .cell (.int .i64 (x.1 : Nat))), (1, 0, Cont.cell (AV.int IntKind.i64 k)), (1, 1, Cont.cell (AV.int IntKind.i64 u)), (1, 2, Cont.cell (AV.int IntKind.i64 i)), (1, 3, Cont.cell (AV.int IntKind.i64 j)), (1, 4, Cont.cell (AV.int IntKind.i64 t)), (1, 5, Cont.top), (2, 0, .vec 1 5 (1 + x.1) (lstU (orB (k, u, i, j, t))))], 3, 42⟩) (fun x => 4 - x.1) ⟨0, Nat.zero_le _⟩ (wk_go [1, 41] rfl (by decide) rfl rfl ⟨⟨_, rfl, rfl⟩, ⟨_, rfl, rfl⟩, ⟨_, rfl, rfl⟩, ⟨_, rfl, rfl⟩, ⟨_, rfl, rfl⟩, ⟨_, rfl, rfl⟩, ⟨_, rfl, rfl⟩, ⟨_, rfl, rfl⟩, ⟨_, rfl, rfl⟩, ⟨_, rfl, trivial⟩, ⟨_, rfl, ?_⟩, trivial⟩) ?_
    · refine ⟨rfl, rfl, rfl, fun y hy => ?_⟩
      have hy' : y < 1 := hy
      have : y = 0 := by omega
      subst this
      exact congrArg (AV.int .u8) (IntKind.wrap_u8 _)
    rintro ⟨x, hx⟩
    refine evC_seq ?_
    refine evC_go0 (dec := []) (ks := [(0, 1), (0, 2), (0, 3), (0, 4), (0, 11), (1, 0), (1, 1), (1, 2), (1, 3), (1, 4), (1, 5), (2, 0)]) (s' := ⟨[(0, 1, Cont.cell (AV.ptr 1 0)), (0, 2, Cont.cell AV.nils), (0, 3, Cont.cell (AV.vs 2)), (0, 4, Cont.cell (AV.int IntKind.i64 (↑x : Int))), (0, 11, Cont.cell (AV.bool (decide ((↑x : Int) < 4)))), (1, 0, Cont.cell (AV.int IntKind.i64 k)), (1, 1, Cont.cell (AV.int IntKind.i64 u)), (1, 2, Cont.cell (AV.int IntKind.i64 i)), (1, 3, Cont.cell (AV.int IntKind.i64 j)), (1, 4, Cont.cell (AV.int IntKind.i64 t)), (1, 5, Cont.top), (2, 0, Cont.vec 1 5 (1 + x) (lstU (orB (k, u, i, j, t))))], 19, 42⟩) (by kernel_rfl) (by kernel_rfl) ?_
    refine evC_if (q := decide ((↑x : Int) < 4)) (by kernel_rfl) (fun hc => ?_) (fun hc => ?_)
    · have hlt : x < 4 := by have := of_decide_eq_true hc; omega
      clear hc
      refine evC_skip ?_
      refine then_normal ?_
      refine evC_seq ?_
      refine evC_block ?_
      refine evC_goL (dec := []) (ks := [(0, 1), (0, 2), (0, 3), (0, 4), (1, 0), (1, 1), (1, 2), (1, 3), (1, 4), (1, 5), (67, 0)]) (ps := [(0 : Int) ≤ u ∧ u ≤ (9223372036854775807 : Int) ∧ (0 : Int) ≤ (↑x : Int) ∧ (↑x : Int) ≤ (3 : Int), ((1 : Nat) + x + (1 : Nat)) * (1 : Nat) ≤ (140737488355328 : Nat), (1 : Nat) + x + (1 : Nat) ≤ maxLen, (1 : Nat) = (0 : Nat) ∨ (1 : Nat) = (1 : Nat), (1 : Nat) = (1 : Nat), (5 : Nat) = (5 : Nat)]) (s' := ⟨[(0, 1, Cont.cell (AV.ptr 1 0)), (0, 2, Cont.cell AV.nils), (0, 3, Cont.cell (AV.vs 67)), (0, 4, Cont.cell (AV.int IntKind.i64 (↑x : Int))), (1, 0, Cont.cell (AV.int IntKind.i64 k)), (1, 1, Cont.cell (AV.int IntKind.i64 u)), (1, 2, Cont.cell (AV.int IntKind.i64 i)), (1, 3, Cont.cell (AV.int IntKind.i64 j)), (1, 4, Cont.cell (AV.int IntKind.i64 t)), (1, 5, Cont.top), (67, 0, Cont.vec 1 5 (1 + x + 1) (catF (1 + x) (lstU (orB (k, u, i, j, t))) (pget [(0, AV.int IntKind.u8 (by4 u x))])))], 83, 42⟩) (by kernel_rfl) (by kernel_rfl) ?_ ?_
      · (simp only [All]; (repeat' apply And.intro) <;> (try intro _) <;> (try intro _) <;> (repeat' apply And.intro) <;> (try intro _) <;> (try intro _) <;> first | trivial | assumption | exact .inr trivial | exact .inr rfl | omega | rfl | exact ⟨_, rfl, rfl⟩ | exact ⟨rfl, rfl⟩ | exact ⟨fun _ => rfl, fun _ => rfl⟩ | (unfold maxLen; omega) | (unfold i64R; first | omega | decide) | decide)
      refine block_normal ?_
      refine then_normal ?_
      refine evC_goL0 (dec := []) (ks := [(0, 1), (0, 2), (0, 3), (0, 4), (1, 0), (1, 1), (1, 2), (1, 3), (1, 4), (1, 5), (67, 0)]) (s' := ⟨[(0, 1, Cont.cell (AV.ptr 1 0)), (0, 2, Cont.cell AV.nils), (0, 3, Cont.cell (AV.vs 67)), (0, 4, Cont.cell (AV.int IntKind.i64 (IntKind.i64.wrap ((↑x : Int) + 1)))), (1, 0, Cont.cell (AV.int IntKind.i64 k)), (1, 1, Cont.cell (AV.int IntKind.i64 u)), (1, 2, Cont.cell (AV.int IntKind.i64 i)), (1, 3, Cont.cell (AV.int IntKind.i64 j)), (1, 4, Cont.cell (AV.int IntKind.i64 t)), (1, 5, Cont.top), (67, 0, Cont.vec 1 5 (1 + x + 1) (catF (1 + x) (lstU (orB (k, u, i, j, t))) (pget [(0, AV.int IntKind.u8 (by4 u x))])))], 107, 42⟩) (by kernel_rfl) (by kernel_rfl) ?_
      rw [wrap_add_one hlt (by omega)]
      refine round_normal (⟨x + 1, by omega⟩) (wk_go [1, 67] rfl (by decide) rfl rfl ⟨⟨_, rfl, rfl⟩, ⟨_, rfl, rfl⟩, ⟨_, rfl, rfl⟩, ⟨_, rfl, rfl⟩, ⟨_, rfl, rfl⟩, ⟨_, rfl, rfl⟩, ⟨_, rfl, rfl⟩, ⟨_, rfl, rfl⟩, ⟨_, rfl, rfl⟩, ⟨_, rfl, trivial⟩, ⟨_, rfl, ?_⟩, trivial⟩) ?_
      · refine ⟨rfl, rfl, rfl, fun y hy => catF_snoc (n := 1 + x) (F := lstU (orB (k, u, i, j, t))) ?_ y (by have : y < 1 + (x + 1) := hy; omega)⟩
        exact congrArg (AV.int .u8) (eu x hlt).symm
      · show 4 - (x + 1) < 4 - x; omega
    · have hlt : x = 4 := by have := of_decide_eq_false hc; omega
      subst hlt
      clear hc
      refine evC_exit ?_
      refine then_exit ?_
      refine round_exit ?_
      refine block_exit ?_
      refine then_normal ?_
      refine evC_go (dec := []) (ks := [(0, 1), (0, 2), (0, 3), (1, 0), (1, 1), (1, 2), (1, 3), (1, 4), (1, 5), (83, 0)]) (ps := [((1 : Nat) + (4 : Nat) + (2 : Nat)) * (1 : Nat) ≤ (140737488355328 : Nat), (1 : Nat) + (4 : Nat) + (2 : Nat) ≤ maxLen, (2 : Nat) = (0 : Nat) ∨ (1 : Nat) = (1 : Nat), (1 : Nat) = (1 : Nat), (5 : Nat) = (5 : Nat)]) (s' := ⟨[(0, 1, Cont.cell (AV.ptr 1 0)), (0, 2, Cont.cell AV.nils), (0, 3, Cont.cell (AV.vs 83)), (1, 0, Cont.cell (AV.int IntKind.i64 k)), (1, 1, Cont.cell (AV.int IntKind.i64 u)), (1, 2, Cont.cell (AV.int IntKind.i64 i)), (1, 3, Cont.cell (AV.int IntKind.i64 j)), (1, 4, Cont.cell (AV.int IntKind.i64 t)), (1, 5, Cont.top), (83, 0, Cont.vec 1 5 7 (catF (1 + 4) (lstU (orB (k, u, i, j, t))) (pget [(0, AV.int IntKind.u8 (IntKind.wrap IntKind.u8 i)), (1, AV.int IntKind.u8 (IntKind.wrap IntKind.u8 j))])))], 99, 42⟩) (by kernel_rfl) (by kernel_rfl) ?_ ?_
      · (simp only [All]; (repeat' apply And.intro) <;> (try intro _) <;> (try intro _) <;> (repeat' apply And.intro) <;> (try intro _) <;> (try intro _) <;> first | trivial | assumption | exact .inr trivial | exact .inr rfl | omega | rfl | exact ⟨_, rfl, rfl⟩ | exact ⟨rfl, rfl⟩ | exact ⟨fun _ => rfl, fun _ => rfl⟩ | (unfold maxLen; omega) | (unfold i64R; first | omega | decide) | decide)
      refine evC_seq ?_
      refine evC_go0 (dec := []) (ks := [(0, 1), (0, 2), (0, 3), (0, 5), (1, 0), (1, 1), (1, 2), (1, 3), (1, 4), (1, 5), (83, 0)]) (s' := ⟨[(0, 1, Cont.cell (AV.ptr 1 0)), (0, 2, Cont.cell AV.nils), (0, 3, Cont.cell (AV.vs 83)), (0, 5, Cont.cell (AV.int IntKind.i64 0)), (1, 0, Cont.cell (AV.int IntKind.i64 k)), (1, 1, Cont.cell (AV.int IntKind.i64 u)), (1, 2, Cont.cell (AV.int IntKind.i64 i)), (1, 3, Cont.cell (AV.int IntKind.i64 j)), (1, 4, Cont.cell (AV.int IntKind.i64 t)), (1, 5, Cont.top), (83, 0, Cont.vec 1 5 7 (catF (1 + 4) (lstU (orB (k, u, i, j, t))) (pget [(0, AV.int IntKind.u8 (IntKind.wrap IntKind.u8 i)), (1, AV.int IntKind.u8 (IntKind.wrap IntKind.u8 j))])))], 107, 42⟩) (by kernel_rfl) (by kernel_rfl) ?_
      refine evC_block ?_
      refine evC_loop (ι := { x : Nat // x ≤ 4 }) (fun x => ⟨[(0, 1, Cont.cell (AV.ptr 1 0)), (0, 2, Cont.cell AV.nils), (0, 3, Cont.cell (AV.vs 2)), (0, 5, .cell (.int .i64 (x.1 : Nat))), (1, 0, Cont.cell (AV.int IntKind.i64 k)), (1, 1, Cont.cell (AV.int IntKind.i64 u)), (1, 2, Cont.cell (AV.int IntKind.i64 i)), (1, 3, Cont.cell (AV.int IntKind.i64 j)), (1, 4, Cont.cell (AV.int IntKind.i64 t)), (1, 5, Cont.top), (2, 0, .vec 1 5 (7 + x.1) (lstU (orB (k, u, i, j, t))))], 3, 42⟩) (fun x => 4 - x.1) ⟨0, Nat.zero_le _⟩ (wk_go [1, 83] rfl (by decide) rfl rfl ⟨⟨_, rfl, rfl⟩, ⟨_, rfl, rfl⟩, ⟨_, rfl, rfl⟩, ⟨_, rfl, rfl⟩, ⟨_, rfl, rfl⟩, ⟨_, rfl, rfl⟩, ⟨_, rfl, rfl⟩, ⟨_, rfl, rfl⟩, ⟨_, rfl, rfl⟩, ⟨_, rfl, trivial⟩, ⟨_, rfl, ?_⟩, trivial⟩) ?_
      · refine ⟨rfl, rfl, rfl, fun y hy => ?_⟩
        have hy' : y < 7 := hy
        rcases (by omega : y < 5 ∨ y = 5 ∨ y = 6) with h | rfl | rfl
        · exact catF_lt h
        · exact congrArg (AV.int .u8) (IntKind.wrap_u8 _)
        · exact congrArg (AV.int .u8) (IntKind.wrap_u8 _)
      rintro ⟨x, hx⟩
      refine evC_seq ?_
      refine evC_go0 (dec := []) (ks := [(0, 1), (0, 2), (0, 3), (0, 5), (0, 31), (1, 0), (1, 1), (1, 2), (1, 3), (1, 4), (1, 5), (2, 0)]) (s' := ⟨[(0, 1, Cont.cell (AV.ptr 1 0)), (0, 2, Cont.cell AV.nils), (0, 3, Cont.cell (AV.vs 2)), (0, 5, Cont.cell (AV.int IntKind.i64 (↑x : Int))), (0, 31, Cont.cell (AV.bool (decide ((↑x : Int) < 4)))), (1, 0, Cont.cell (AV.int IntKind.i64 k)), (1, 1, Cont.cell (AV.int IntKind.i64 u)), (1, 2, Cont.cell (AV.int IntKind.i64 i)), (1, 3, Cont.cell (AV.int IntKind.i64 j)), (1, 4, Cont.cell (AV.int IntKind.i64 t)), (1, 5, Cont.top), (2, 0, Cont.vec 1 5 (7 + x) (lstU (orB (k, u, i, j, t))))], 19, 42⟩) (by kernel_rfl) (by kernel_rfl) ?_
      refine evC_if (q := decide ((↑x : Int) < 4)) (by kernel_rfl) (fun hc => ?_) (fun hc => ?_)
      · have hlt : x < 4 := by have := of_decide_eq_true hc; omega
        clear hc
        refine evC_skip ?_
        refine then_normal ?_
        refine evC_seq ?_
        refine evC_block ?_
        refine evC_goL (dec := []) (ks := [(0, 1), (0, 2), (0, 3), (0, 5), (1, 0), (1, 1), (1, 2), (1, 3), (1, 4), (1, 5), (67, 0)]) (ps := [(0 : Int) ≤ t ∧ t ≤ (9223372036854775807 : Int) ∧ (0 : Int) ≤ (↑x : Int) ∧ (↑x : Int) ≤ (3 : Int), ((7 : Nat) + x + (1 : Nat)) * (1 : Nat) ≤ (140737488355328 : Nat), (7 : Nat) + x + (1 : Nat) ≤ maxLen, (1 : Nat) = (0 : Nat) ∨ (1 : Nat) = (1 : Nat), (1 : Nat) = (1 : Nat), (5 : Nat) = (5 : Nat)]) (s' := ⟨[(0, 1, Cont.cell (AV.ptr 1 0)), (0, 2, Cont.cell AV.nils), (0, 3, Cont.cell (AV.vs 67)), (0, 5, Cont.cell (AV.int IntKind.i64 (↑x : Int))), (1, 0, Cont.cell (AV.int IntKind.i64 k)), (1, 1, Cont.cell (AV.int IntKind.i64 u)), (1, 2, Cont.cell (AV.int IntKind.i64 i)), (1, 3, Cont.cell (AV.int IntKind.i64 j)), (1, 4, Cont.cell (AV.int IntKind.i64 t)), (1, 5, Cont.top), (67, 0, Cont.vec 1 5 (7 + x + 1) (catF (7 + x) (lstU (orB (k, u, i, j, t))) (pget [(0, AV.int IntKind.u8 (by4 t x))])))], 83, 42⟩) (by kernel_rfl) (by kernel_rfl) ?_ ?_
        · (simp only [All]; (repeat' apply And.intro) <;> (try intro _) <;> (try intro _) <;> (repeat' apply And.intro) <;> (try intro _) <;> (try intro _) <;> first | trivial | assumption | exact .inr trivial | exact .inr rfl | omega | rfl | exact ⟨_, rfl, rfl⟩ | exact ⟨rfl, rfl⟩ | exact ⟨fun _ => rfl, fun _ => rfl⟩ | (unfold maxLen; omega) | (unfold i64R; first | omega | decide) | decide)
        refine block_normal ?_
        refine then_normal ?_
        refine evC_goL0 (dec := []) (ks := [(0, 1), (0, 2), (0, 3), (0, 5), (1, 0), (1, 1), (1, 2), (1, 3), (1, 4), (1, 5), (67, 0)]) (s' := ⟨[(0, 1, Cont.cell (AV.ptr 1 0)), (0, 2, Cont.cell AV.nils), (0, 3, Cont.cell (AV.vs 67)), (0, 5, Cont.cell (AV.int IntKind.i64 (IntKind.i64.wrap ((↑x : Int) + 1)))), (1, 0, Cont.cell (AV.int IntKind.i64 k)), (1, 1, Cont.cell (AV.int IntKind.i64 u)), (1, 2, Cont.cell (AV.int IntKind.i64 i)), (1, 3, Cont.cell (AV.int IntKind.i64 j)), (1, 4, Cont.cell (AV.int IntKind.i64 t)), (1, 5, Cont.top), (67, 0, Cont.vec 1 5 (7 + x + 1) (catF (7 + x) (lstU (orB (k, u, i, j, t))) (pget [(0, AV.int IntKind.u8 (by4 t x))])))], 107, 42⟩) (by kernel_rfl) (by kernel_rfl) ?_
        rw [wrap_add_one hlt (by omega)]
        refine round_normal (⟨x + 1, by omega⟩) (wk_go [1, 67] rfl (by decide) rfl rfl ⟨⟨_, rfl, rfl⟩, ⟨_, rfl, rfl⟩, ⟨_, rfl, rfl⟩, ⟨_, rfl, rfl⟩, ⟨_, rfl, rfl⟩, ⟨_, rfl, rfl⟩, ⟨_, rfl, rfl⟩, ⟨_, rfl, rfl⟩, ⟨_, rfl, rfl⟩, ⟨_, rfl, trivial⟩, ⟨_, rfl, ?_⟩, trivial⟩) ?_
        · refine ⟨rfl, rfl, rfl, fun y hy => catF_snoc (n := 7 + x) (F := lstU (orB (k, u, i, j, t))) ?_ y (by have : y < 7 + (x + 1) := hy; omega)⟩
          exact congrArg (AV.int .u8) (et x hlt).symm
        · show 4 - (x + 1) < 4 - x; omega
      · have hlt : x = 4 := by have := of_decide_eq_false hc; omega
        subst hlt
        clear hc
        refine evC_exit ?_
        refine then_exit ?_
        refine round_exit ?_
        refine block_exit ?_
        refine then_normal ?_
        refine evC_go0 (dec := []) (ks := [(0, 2), (2, 0)]) (s' := ⟨[(0, 2, Cont.cell (AV.vs 2)), (2, 0, Cont.vec 1 5 11 (lstU (orB (k, u, i, j, t))))], 35, 42⟩) (by kernel_rfl) (by kernel_rfl) ?_
        refine evC_ret ?_
        refine post_ret ?_
        refine ends_go [2] (AV.vs 1) [(1, 0, Cont.vec 1 5 11 (lstU (orB (k, u, i, j, t))))] rfl (by decide) rfl rfl (has_of _ rfl) rfl ⟨⟨_, rfl, ⟨rfl, rfl, rfl, fun _ _ => rfl⟩⟩, trivial⟩ ⟨⟨1, _, rfl, rfl, rfl, ⟨rfl, rfl, rfl, fun _ _ => ⟨has_of _ rfl, rfl⟩⟩⟩, trivial⟩ (kept_nil _)
  · cases e

/-! All orders' bytes. -/
def fO (q : Od) : Bool := frm q.1 q.2.1 q.2.2.1 q.2.2.2.1 q.2.2.2.2
def encL (w : Os) : Nat → List Int
  | 0 => []
  | k + 1 => encL w k ++ orB (w k)
theorem encL_len (w : Os) : ∀ k, (encL w k).length = 11 * k
  | 0 => rfl
  | k + 1 => by
    have := encL_len w k
    show (encL w k ++ orB (w k)).length = _
    rw [List.length_append, this]; show 11 * k + 11 = _; omega
def allO (w : Os) (n : Nat) : Bool := (List.range n).all fun i => fO (w i)
def okE (n : Nat) (w : Os) : Bool := decide (n ≤ 64) && allO w n
theorem lst_cat {l m : List Int} {n : Nat} {F g : Nat → AV} (hn : l.length = n) (hF : ∀ j, j < n → F j = lstU l j) (hg : ∀ j, j < m.length → g j = lstU m j) : ∀ j, j < n + m.length → catF n F g j = lstU (l ++ m) j := by
  intro j hj
  rcases Nat.lt_or_ge j n with h | h
  · rw [catF_lt h, hF j h]
    simp [lstU, List.getD_eq_getElem?_getD, List.getElem?_append_left (hn ▸ h)]
  · rw [catF_ge h, hg _ (by omega)]
    simp [lstU, List.getD_eq_getElem?_getD, List.getElem?_append_right (hn ▸ h), hn]
def sEnc : Spec := fun args hr nb => match args with
  | [v] => match sl 5 hr v with
    | some (n, f, rd) => some ⟨[(∀ i, i < n → f i = nO (O f) i) ∧ n ≤ maxLen], .vs nb, rd, [(nb, 0, .vec 1 5 (bif okE n (O f) then 11 * n else 0) (lstU (encL (O f) n)))]⟩
    | none => none
  | _ => none
theorem enc_ok : SpecOK Try.prog 15 sEnc := by
  refine spec_own (by kernel_rfl) T_ok (sget_cons form_ok (sget_cons four_ok sget_nil)) Try.func15 rfl rfl fun args hr nb out e => ?_
  unfold sEnc at e
  split at e
  · rename_i v
    split at e
    · rename_i n f rd hs1
      injection e with e; subst e
      refine ⟨fun x hx => sl_rd hs1 x hx, false, [.rs 5 n false (nO (O f))], rfl, fun hs => ?_⟩
      obtain ⟨h1, h2⟩ := hs _ List.mem_cons_self
      refine ⟨.cons _ _ _ _ (.slice _ _ _ _ _ hs1 (fun y hy => ⟨hy, by simp⟩) _ fun i hi => ⟨h1 i hi, (nO_flat _ i).has⟩) .nil, ?_⟩
      clear hs h1
      unfold maxLen at h2
      generalize O f = w
      refine evC_go0 (dec := []) (ks := [(0, 0), (0, 2)]) (s' := ⟨[(0, 0, Cont.cell (AV.rs 5 n false (nO w))), (0, 2, Cont.cell AV.nils)], 9, 43⟩) (by kernel_rfl) (by kernel_rfl) ?_
      refine evC_seq ?_
      refine evC_go0 (dec := []) (ks := [(0, 0), (0, 2), (0, 8)]) (s' := ⟨[(0, 0, Cont.cell (AV.rs 5 n false (nO w))), (0, 2, Cont.cell AV.nils), (0, 8, Cont.cell (AV.bool (decide ((↑n : Int) > 64))))], 33, 43⟩) (by kernel_rfl) (by kernel_rfl) ?_
      refine evC_if (q := decide ((↑n : Int) > 64)) (by kernel_rfl) (fun hc => ?_) (fun hc => ?_)
      · have hok : okE n w = false := by
          have : 64 < n := by have := of_decide_eq_true hc; omega
          have : ¬ n ≤ 64 := by omega
          simp [okE, this]
        rw [hok]
        simp only [cond_false]
        refine evC_go0 (dec := []) (ks := [(0, 0), (0, 2)]) (s' := ⟨[(0, 0, Cont.cell (AV.rs 5 n false (nO w))), (0, 2, Cont.cell AV.nils)], 41, 43⟩) (by kernel_rfl) (by kernel_rfl) ?_
        refine evC_wk _ (.nil 0 2 1 5 (fun _ => .nils) (Nat.le_of_ble_eq_true rfl) rfl) ?_
        refine evC_ret ?_
        refine then_ret ?_
        refine post_ret ?_
        refine ends_go [41] (AV.vs 1) [(1, 0, Cont.vec 1 5 0 fun x => AV.nils)] rfl (by decide) rfl rfl (has_of _ rfl) rfl ⟨⟨_, rfl, ⟨rfl, rfl, rfl, fun _ _ => rfl⟩⟩, trivial⟩ ⟨⟨1, _, rfl, rfl, rfl, ⟨rfl, rfl, rfl, fun _ hi => absurd hi (Nat.not_lt_zero _)⟩⟩, trivial⟩ (kept_nil _)
      · have hn : n ≤ 64 := by have := of_decide_eq_false hc; omega
        clear hc
        refine evC_skip ?_
        refine then_normal ?_
        refine evC_go0 (dec := []) (ks := [(0, 0), (0, 2), (0, 3)]) (s' := ⟨[(0, 0, Cont.cell (AV.rs 5 n false (nO w))), (0, 2, Cont.cell AV.nils), (0, 3, Cont.cell AV.nils)], 41, 43⟩) (by kernel_rfl) (by kernel_rfl) ?_
        refine evC_wk _ (.nil 0 3 1 5 (fun _ => .nils) (Nat.le_of_ble_eq_true rfl) rfl) ?_
        refine evC_seq ?_
        refine evC_go0 (dec := []) (ks := [(0, 2), (0, 3), (0, 9), (0, 10), (0, 11), (41, 0)]) (s' := ⟨[(0, 2, Cont.cell AV.nils), (0, 3, Cont.cell (AV.vs 41)), (0, 9, Cont.cell (AV.rs 5 n false (nO w))), (0, 10, Cont.cell (AV.int IntKind.i64 (↑n : Int))), (0, 11, Cont.cell (AV.int IntKind.i64 0)), (41, 0, Cont.vec 1 5 0 fun x => AV.nils)], 66, 43⟩) (by kernel_rfl) (by kernel_rfl) ?_
        refine evC_block ?_
        refine evC_loop (ι := { i : Nat // i ≤ n ∧ ∀ j, j < i → fO (w j) = true }) (fun x => ⟨[(0, 2, Cont.cell AV.nils), (0, 3, Cont.cell (AV.vs 1)), (0, 9, Cont.cell (AV.rs 5 n false (nO w))), (0, 10, Cont.cell (AV.int IntKind.i64 (↑n : Int))), (0, 11, .cell (.int .i64 (x.1 : Nat))), (1, 0, .vec 1 5 (11 * x.1) (lstU (encL w x.1)))], 2, 43⟩) (fun x => n - x.1) ⟨0, Nat.zero_le _, fun j hj => absurd hj (Nat.not_lt_zero j)⟩ (wk_go [41] rfl (by decide) rfl rfl ⟨⟨_, rfl, rfl⟩, ⟨_, rfl, rfl⟩, ⟨_, rfl, rfl⟩, ⟨_, rfl, rfl⟩, ⟨_, rfl, rfl⟩, ⟨_, rfl, ⟨rfl, rfl, rfl, fun _ hi => absurd hi (Nat.not_lt_zero _)⟩⟩, trivial⟩) ?_
        rintro ⟨i, hi, hj⟩
        refine evC_go0 (dec := []) (ks := [(0, 2), (0, 3), (0, 9), (0, 10), (0, 11), (0, 12), (1, 0)]) (s' := ⟨[(0, 2, Cont.cell AV.nils), (0, 3, Cont.cell (AV.vs 1)), (0, 9, Cont.cell (AV.rs 5 n false (nO w))), (0, 10, Cont.cell (AV.int IntKind.i64 (↑n : Int))), (0, 11, Cont.cell (AV.int IntKind.i64 (↑i : Int))), (0, 12, Cont.cell (AV.bool (decide ((↑i : Int) < (↑n : Int))))), (1, 0, Cont.vec 1 5 (11 * i) (lstU (encL w i)))], 10, 43⟩) (by kernel_rfl) (by kernel_rfl) ?_
        refine evC_seq ?_
        refine evC_if (q := decide ((↑i : Int) < (↑n : Int))) (by kernel_rfl) (fun hc => ?_) (fun hc => ?_)
        · have hlt : i < n := by have := of_decide_eq_true hc; omega
          clear hc
          refine evC_skip ?_
          refine then_normal ?_
          refine evC_seq ?_
          refine evC_block ?_
          refine evC_go (dec := []) (ks := [(0, 2), (0, 3), (0, 5), (0, 9), (0, 10), (0, 11), (1, 0), (26, 0), (26, 1), (26, 2), (26, 3), (26, 4), (26, 5)]) (ps := [(0 : Int) ≤ (↑i : Int), (↑i : Int) < (↑n : Int), (5 : Nat) = (5 : Nat)]) (s' := ⟨[(0, 2, Cont.cell AV.nils), (0, 3, Cont.cell (AV.vs 1)), (0, 5, Cont.cell (AV.ptr 26 0)), (0, 9, Cont.cell (AV.rs 5 n false (nO w))), (0, 10, Cont.cell (AV.int IntKind.i64 (↑n : Int))), (0, 11, Cont.cell (AV.int IntKind.i64 (↑i : Int))), (1, 0, Cont.vec 1 5 (11 * i) (lstU (encL w i))), (26, 0, Cont.cell (AV.int IntKind.i64 (Prod.fst (w i)))), (26, 1, Cont.cell (AV.int IntKind.i64 (Prod.fst (Prod.snd (w i))))), (26, 2, Cont.cell (AV.int IntKind.i64 (Prod.fst (Prod.snd (Prod.snd (w i)))))), (26, 3, Cont.cell (AV.int IntKind.i64 (Prod.fst (Prod.snd (Prod.snd (Prod.snd (w i))))))), (26, 4, Cont.cell (AV.int IntKind.i64 (Prod.snd (Prod.snd (Prod.snd (Prod.snd (w i))))))), (26, 5, Cont.top)], 42, 43⟩) (by kernel_rfl) (by kernel_rfl) ?_ ?_
          · (simp only [All]; (repeat' apply And.intro) <;> (try intro _) <;> (try intro _) <;> (repeat' apply And.intro) <;> (try intro _) <;> (try intro _) <;> first | trivial | assumption | exact .inr trivial | exact .inr rfl | omega | rfl | exact ⟨_, rfl, rfl⟩ | exact ⟨rfl, rfl⟩ | exact ⟨fun _ => rfl, fun _ => rfl⟩ | (unfold maxLen; omega) | (unfold i64R; first | omega | decide) | decide)
          refine evC_seq ?_
          refine evC_go0 (dec := []) (ks := [(0, 2), (0, 3), (0, 5), (0, 9), (0, 10), (0, 11), (0, 17), (1, 0), (26, 0), (26, 1), (26, 2), (26, 3), (26, 4), (26, 5)]) (s' := ⟨[(0, 2, Cont.cell AV.nils), (0, 3, Cont.cell (AV.vs 1)), (0, 5, Cont.cell (AV.ptr 26 0)), (0, 9, Cont.cell (AV.rs 5 n false (nO w))), (0, 10, Cont.cell (AV.int IntKind.i64 (↑n : Int))), (0, 11, Cont.cell (AV.int IntKind.i64 (↑i : Int))), (0, 17, Cont.cell (AV.bool !frm (Prod.fst (w i)) (Prod.fst (Prod.snd (w i))) (Prod.fst (Prod.snd (Prod.snd (w i)))) (Prod.fst (Prod.snd (Prod.snd (Prod.snd (w i))))) (Prod.snd (Prod.snd (Prod.snd (Prod.snd (w i))))))), (1, 0, Cont.vec 1 5 (11 * i) (lstU (encL w i))), (26, 0, Cont.cell (AV.int IntKind.i64 (Prod.fst (w i)))), (26, 1, Cont.cell (AV.int IntKind.i64 (Prod.fst (Prod.snd (w i))))), (26, 2, Cont.cell (AV.int IntKind.i64 (Prod.fst (Prod.snd (Prod.snd (w i)))))), (26, 3, Cont.cell (AV.int IntKind.i64 (Prod.fst (Prod.snd (Prod.snd (Prod.snd (w i))))))), (26, 4, Cont.cell (AV.int IntKind.i64 (Prod.snd (Prod.snd (Prod.snd (Prod.snd (w i))))))), (26, 5, Cont.top)], 66, 43⟩) (by kernel_rfl) (by kernel_rfl) ?_
          refine evC_if (q := !frm (Prod.fst (w i)) (Prod.fst (Prod.snd (w i))) (Prod.fst (Prod.snd (Prod.snd (w i)))) (Prod.fst (Prod.snd (Prod.snd (Prod.snd (w i))))) (Prod.snd (Prod.snd (Prod.snd (Prod.snd (w i)))))) (by kernel_rfl) (fun hc => ?_) (fun hc => ?_)
          · have hf : fO (w i) = false := (Bool.not_eq_true' _).mp hc
            have hok : okE n w = false := by
              have := all_false (p := fun i => fO (w i)) hlt hf
              unfold okE allO; rw [this]; simp
            rw [hok]
            simp only [cond_false]
            refine evC_go0 (dec := []) (ks := [(0, 2), (0, 3), (0, 5), (0, 9), (0, 10), (0, 11), (1, 0), (26, 0), (26, 1), (26, 2), (26, 3), (26, 4), (26, 5)]) (s' := ⟨[(0, 2, Cont.cell AV.nils), (0, 3, Cont.cell (AV.vs 1)), (0, 5, Cont.cell (AV.ptr 26 0)), (0, 9, Cont.cell (AV.rs 5 n false (nO w))), (0, 10, Cont.cell (AV.int IntKind.i64 (↑n : Int))), (0, 11, Cont.cell (AV.int IntKind.i64 (↑i : Int))), (1, 0, Cont.vec 1 5 (11 * i) (lstU (encL w i))), (26, 0, Cont.cell (AV.int IntKind.i64 (Prod.fst (w i)))), (26, 1, Cont.cell (AV.int IntKind.i64 (Prod.fst (Prod.snd (w i))))), (26, 2, Cont.cell (AV.int IntKind.i64 (Prod.fst (Prod.snd (Prod.snd (w i)))))), (26, 3, Cont.cell (AV.int IntKind.i64 (Prod.fst (Prod.snd (Prod.snd (Prod.snd (w i))))))), (26, 4, Cont.cell (AV.int IntKind.i64 (Prod.snd (Prod.snd (Prod.snd (Prod.snd (w i))))))), (26, 5, Cont.top)], 74, 43⟩) (by kernel_rfl) (by kernel_rfl) ?_
            refine evC_wk _ (.nil 0 2 1 5 (fun _ => .nils) (Nat.le_of_ble_eq_true rfl) rfl) ?_
            refine evC_ret ?_
            refine then_ret ?_
            refine block_ret ?_
            refine then_ret ?_
            refine round_ret ?_
            refine block_ret ?_
            refine then_ret ?_
            refine post_ret ?_
            refine ends_go [74] (AV.vs 1) [(1, 0, Cont.vec 1 5 0 fun x => AV.nils)] rfl (by decide) rfl rfl (has_of _ rfl) rfl ⟨⟨_, rfl, ⟨rfl, rfl, rfl, fun _ _ => rfl⟩⟩, trivial⟩ ⟨⟨1, _, rfl, rfl, rfl, ⟨rfl, rfl, rfl, fun _ hi => absurd hi (Nat.not_lt_zero _)⟩⟩, trivial⟩ (kept_nil _)
          · have hf : fO (w i) = true := (Bool.not_eq_false' _).mp hc
            clear hc
            refine evC_skip ?_
            refine then_normal ?_
            refine evC_go (dec := []) (ks := [(0, 2), (0, 3), (0, 5), (0, 9), (0, 10), (0, 11), (26, 0), (26, 1), (26, 2), (26, 3), (26, 4), (26, 5), (138, 0)]) (ps := [((11 : Nat) * i + (1 : Nat)) * (1 : Nat) ≤ (140737488355328 : Nat), (11 : Nat) * i + (1 : Nat) ≤ maxLen, (1 : Nat) = (0 : Nat) ∨ (1 : Nat) = (1 : Nat), (1 : Nat) = (1 : Nat), (5 : Nat) = (5 : Nat), ((11 : Nat) * i + (1 : Nat) + (4 : Nat)) * (1 : Nat) ≤ (140737488355328 : Nat), (11 : Nat) * i + (1 : Nat) + (4 : Nat) ≤ maxLen, (4 : Nat) = (0 : Nat) ∨ (1 : Nat) = (1 : Nat), (1 : Nat) = (1 : Nat), (5 : Nat) = (5 : Nat)]) (s' := ⟨[(0, 2, Cont.cell AV.nils), (0, 3, Cont.cell (AV.vs 138)), (0, 5, Cont.cell (AV.ptr 26 0)), (0, 9, Cont.cell (AV.rs 5 n false (nO w))), (0, 10, Cont.cell (AV.int IntKind.i64 (↑n : Int))), (0, 11, Cont.cell (AV.int IntKind.i64 (↑i : Int))), (26, 0, Cont.cell (AV.int IntKind.i64 (Prod.fst (w i)))), (26, 1, Cont.cell (AV.int IntKind.i64 (Prod.fst (Prod.snd (w i))))), (26, 2, Cont.cell (AV.int IntKind.i64 (Prod.fst (Prod.snd (Prod.snd (w i)))))), (26, 3, Cont.cell (AV.int IntKind.i64 (Prod.fst (Prod.snd (Prod.snd (Prod.snd (w i))))))), (26, 4, Cont.cell (AV.int IntKind.i64 (Prod.snd (Prod.snd (Prod.snd (Prod.snd (w i))))))), (26, 5, Cont.top), (138, 0, Cont.vec 1 5 (11 * i + 1 + 4) (catF (11 * i + 1) (catF (11 * i) (lstU (encL w i)) (pget [(0, AV.int IntKind.u8 (IntKind.wrap IntKind.u8 (Prod.fst (w i))))])) (lstU (four (Prod.fst (Prod.snd (w i)))))))], 154, 43⟩) (by kernel_rfl) (by kernel_rfl) ?_ ?_
            · (simp only [All]; (repeat' apply And.intro) <;> (try intro _) <;> (try intro _) <;> (repeat' apply And.intro) <;> (try intro _) <;> (try intro _) <;> first | trivial | assumption | exact .inr trivial | exact .inr rfl | omega | rfl | exact ⟨_, rfl, rfl⟩ | exact ⟨rfl, rfl⟩ | exact ⟨fun _ => rfl, fun _ => rfl⟩ | (unfold maxLen; omega) | (unfold i64R; first | omega | decide) | decide)
            refine evC_goL (dec := []) (ks := [(0, 2), (0, 3), (0, 9), (0, 10), (0, 11), (250, 0)]) (ps := [((11 : Nat) * i + (1 : Nat) + (4 : Nat) + (2 : Nat)) * (1 : Nat) ≤ (140737488355328 : Nat), (11 : Nat) * i + (1 : Nat) + (4 : Nat) + (2 : Nat) ≤ maxLen, (2 : Nat) = (0 : Nat) ∨ (1 : Nat) = (1 : Nat), (1 : Nat) = (1 : Nat), (5 : Nat) = (5 : Nat), ((11 : Nat) * i + (1 : Nat) + (4 : Nat) + (2 : Nat) + (4 : Nat)) * (1 : Nat) ≤ (140737488355328 : Nat), (11 : Nat) * i + (1 : Nat) + (4 : Nat) + (2 : Nat) + (4 : Nat) ≤ maxLen, (4 : Nat) = (0 : Nat) ∨ (1 : Nat) = (1 : Nat), (1 : Nat) = (1 : Nat), (5 : Nat) = (5 : Nat)]) (s' := ⟨[(0, 2, Cont.cell AV.nils), (0, 3, Cont.cell (AV.vs 250)), (0, 9, Cont.cell (AV.rs 5 n false (nO w))), (0, 10, Cont.cell (AV.int IntKind.i64 (↑n : Int))), (0, 11, Cont.cell (AV.int IntKind.i64 (↑i : Int))), (250, 0, Cont.vec 1 5 (11 * i + 1 + 4 + 2 + 4) (catF (11 * i + 1 + 4 + 2) (catF (11 * i + 1 + 4) (catF (11 * i + 1) (catF (11 * i) (lstU (encL w i)) (pget [(0, AV.int IntKind.u8 (IntKind.wrap IntKind.u8 (Prod.fst (w i))))])) (lstU (four (Prod.fst (Prod.snd (w i)))))) (pget [(0, AV.int IntKind.u8 (IntKind.wrap IntKind.u8 (Prod.fst (Prod.snd (Prod.snd (w i)))))), (1, AV.int IntKind.u8 (IntKind.wrap IntKind.u8 (Prod.fst (Prod.snd (Prod.snd (Prod.snd (w i)))))))])) (lstU (four (Prod.snd (Prod.snd (Prod.snd (Prod.snd (w i)))))))))], 266, 43⟩) (by kernel_rfl) (by kernel_rfl) ?_ ?_
            · (simp only [All]; (repeat' apply And.intro) <;> (try intro _) <;> (try intro _) <;> (repeat' apply And.intro) <;> (try intro _) <;> (try intro _) <;> first | trivial | assumption | exact .inr trivial | exact .inr rfl | omega | rfl | exact ⟨_, rfl, rfl⟩ | exact ⟨rfl, rfl⟩ | exact ⟨fun _ => rfl, fun _ => rfl⟩ | (unfold maxLen; omega) | (unfold i64R; first | omega | decide) | decide)
            refine block_normal ?_
            refine then_normal ?_
            refine evC_goL0 (dec := []) (ks := [(0, 2), (0, 3), (0, 9), (0, 10), (0, 11), (250, 0)]) (s' := ⟨[(0, 2, Cont.cell AV.nils), (0, 3, Cont.cell (AV.vs 250)), (0, 9, Cont.cell (AV.rs 5 n false (nO w))), (0, 10, Cont.cell (AV.int IntKind.i64 (↑n : Int))), (0, 11, Cont.cell (AV.int IntKind.i64 (IntKind.i64.wrap ((↑i : Int) + 1)))), (250, 0, Cont.vec 1 5 (11 * i + 1 + 4 + 2 + 4) (catF (11 * i + 1 + 4 + 2) (catF (11 * i + 1 + 4) (catF (11 * i + 1) (catF (11 * i) (lstU (encL w i)) (pget [(0, AV.int IntKind.u8 (IntKind.wrap IntKind.u8 (Prod.fst (w i))))])) (lstU (four (Prod.fst (Prod.snd (w i)))))) (pget [(0, AV.int IntKind.u8 (IntKind.wrap IntKind.u8 (Prod.fst (Prod.snd (Prod.snd (w i)))))), (1, AV.int IntKind.u8 (IntKind.wrap IntKind.u8 (Prod.fst (Prod.snd (Prod.snd (Prod.snd (w i)))))))])) (lstU (four (Prod.snd (Prod.snd (Prod.snd (Prod.snd (w i)))))))))], 282, 43⟩) (by kernel_rfl) (by kernel_rfl) ?_
            rw [wrap_add_one hlt (by omega)]
            refine round_normal (⟨i + 1, by omega, fun j hj' => ?_⟩) (wk_go [250] rfl (by decide) rfl rfl ⟨⟨_, rfl, rfl⟩, ⟨_, rfl, rfl⟩, ⟨_, rfl, rfl⟩, ⟨_, rfl, rfl⟩, ⟨_, rfl, rfl⟩, ⟨_, rfl, ?_⟩, trivial⟩) ?_
            · rcases Nat.lt_or_ge j i with h | h
              · exact hj j h
              · have : j = i := by omega
                subst this; exact hf
            · refine ⟨rfl, rfl, by show _ = 11 * (i + 1); omega, fun y hy => ?_⟩
              have hy' : y < 11 * (i + 1) := hy
              have el := encL_len w i
              have h1 := lst_cat (l := encL w i) (m := [(w i).1 % 256]) (n := 11 * i) (F := lstU (encL w i)) (g := pget [(0, AV.int .u8 (IntKind.u8.wrap (w i).1))]) el (fun _ _ => rfl) (fun j hj => by
                have : j = 0 := by simp at hj; omega
                subst this
                exact congrArg (AV.int .u8) (IntKind.wrap_u8 _))
              have h2 := lst_cat (m := four (w i).2.1) (g := lstU (four (w i).2.1)) (by rw [List.length_append, el]) h1 (fun _ _ => rfl)
              have h3 := lst_cat (m := [(w i).2.2.1 % 256, (w i).2.2.2.1 % 256]) (g := pget [(0, AV.int .u8 (IntKind.u8.wrap (w i).2.2.1)), (1, AV.int .u8 (IntKind.u8.wrap (w i).2.2.2.1))]) (by rw [List.length_append, List.length_append, el]) h2 (fun j hj => by
                have : j = 0 ∨ j = 1 := by simp at hj; omega
                rcases this with rfl | rfl <;> exact congrArg (AV.int .u8) (IntKind.wrap_u8 _))
              have h4 := lst_cat (m := four (w i).2.2.2.2) (g := lstU (four (w i).2.2.2.2)) (by rw [List.length_append, List.length_append, List.length_append, el]) h3 (fun _ _ => rfl)
              have h5 := h4 y (by show y < 11 * i + 1 + 4 + 2 + 4; omega)
              have e5 : encL w i ++ [(w i).1 % 256] ++ four (w i).2.1 ++ [(w i).2.2.1 % 256, (w i).2.2.2.1 % 256] ++ four (w i).2.2.2.2 = encL w (i + 1) := by
                show _ = encL w i ++ orB (w i)
                simp [four, orB]
              rw [e5] at h5
              exact h5
            · show n - (i + 1) < n - i; omega
        · have hlt : i = n := by have := of_decide_eq_false hc; omega
          subst hlt
          have hok : okE i w = true := by
            have := all_true (p := fun i => fO (w i)) hj
            unfold okE allO; rw [this]; simp [hn]
          rw [hok]
          simp only [cond_true]
          refine evC_exit ?_
          refine then_exit ?_
          refine round_exit ?_
          refine block_exit ?_
          refine then_normal ?_
          refine evC_go0 (dec := []) (ks := [(0, 2), (1, 0)]) (s' := ⟨[(0, 2, Cont.cell (AV.vs 1)), (1, 0, Cont.vec 1 5 (11 * i) (lstU (encL w i)))], 26, 43⟩) (by kernel_rfl) (by kernel_rfl) ?_
          refine evC_ret ?_
          refine post_ret ?_
          refine ends_go [1] (AV.vs 1) [(1, 0, Cont.vec 1 5 (11 * i) (lstU (encL w i)))] rfl (by decide) rfl rfl (has_of _ rfl) rfl ⟨⟨_, rfl, ⟨rfl, rfl, rfl, fun _ _ => rfl⟩⟩, trivial⟩ ⟨⟨1, _, rfl, rfl, rfl, ⟨rfl, rfl, rfl, fun _ _ => ⟨has_of _ rfl, rfl⟩⟩⟩, trivial⟩ (kept_nil _)
    · cases e
  · cases e
end Go.Eng.S22
