/- Seat 22: the orders of bytes, walked. -/
import Derived.Test.YtdflehcijhejlaaEngX
import Derived.Test.YtdflehcijhejlaaS22C
set_option linter.unusedSimpArgs false
set_option linter.unusedVariables false
namespace Go.Eng.S22
open Go.Proofs Go.IntWalk
set_option maxRecDepth 10000

def decL (u : Nat → Int) : Os := fun k => decO u (11 * k)
def badD (u : Nat → Int) (k : Nat) : Bool := !fO (decL u k)
def errD (n : Nat) (u : Nat → Int) : Int := bif !(n % 11 == 0) then 2 else bif Nat.blt 64 (n / 11) then 7 else bif Nat.blt (fstN (badD u) (n / 11)) (n / 11) then 3 else 0
def atD (n : Nat) (u : Nat → Int) : Int := bif !(n % 11 == 0) then ((n / 11 : Nat) : Int) else bif Nat.blt 64 (n / 11) then 64 else bif Nat.blt (fstN (badD u) (n / 11)) (n / 11) then ((fstN (badD u) (n / 11) : Nat) : Int) else 0
def lenD (n : Nat) (u : Nat → Int) : Nat := bif !(n % 11 == 0) then 0 else bif Nat.blt 64 (n / 11) then 0 else bif Nat.blt (fstN (badD u) (n / 11)) (n / 11) then 0 else n / 11
def sDec : Spec := fun args hr nb => match args with
  | [v] => match sl 1 hr v with
    | some (n, f, rd) => some ⟨[IsU n f ∧ n ≤ maxLen], .tup [.vs nb, .int .i64 (errD n (U f)), .int .i64 (atD n (U f))], rd, [(nb, 0, .vec 5 28 (lenD n (U f)) (nO (decL (U f))))]⟩
    | none => none
  | _ => none
theorem dec_short {n : Nat} {u : Nat → Int} (h : n % 11 ≠ 0) : errD n u = 2 ∧ atD n u = ((n / 11 : Nat) : Int) ∧ lenD n u = 0 := by
  have : (n % 11 == 0) = false := by simpa using h
  simp [errD, atD, lenD, this]
theorem dec_extra {n : Nat} {u : Nat → Int} (h : n % 11 = 0) (h2 : 64 < n / 11) : errD n u = 7 ∧ atD n u = 64 ∧ lenD n u = 0 := by
  have : (n % 11 == 0) = true := by simpa using h
  simp [errD, atD, lenD, this, blt_yes h2]
theorem dec_form {n : Nat} {u : Nat → Int} (h : n % 11 = 0) (h2 : ¬ 64 < n / 11) {i : Nat} (hi : i < n / 11) (hb : badD u i = true) (hj : ∀ j, j < i → badD u j = false) : errD n u = 3 ∧ atD n u = (i : Int) ∧ lenD n u = 0 := by
  have : (n % 11 == 0) = true := by simpa using h
  have hf := fst_at hi hb hj
  simp [errD, atD, lenD, this, blt_no h2, hf, blt_yes hi]
theorem dec_good {n : Nat} {u : Nat → Int} (h : n % 11 = 0) (h2 : ¬ 64 < n / 11) (hj : ∀ j, j < n / 11 → badD u j = false) : errD n u = 0 ∧ atD n u = 0 ∧ lenD n u = n / 11 := by
  have : (n % 11 == 0) = true := by simpa using h
  have hf := fst_none hj
  simp [errD, atD, lenD, this, blt_no h2, hf, blt_no (Nat.lt_irrefl (n / 11))]
theorem quo11 (n : Nat) : Int.tdiv (n : Int) 11 = ((n / 11 : Nat) : Int) := by
  rw [Int.tdiv_eq_ediv_of_nonneg (by omega)]; rfl
theorem rdec_ok : SpecOK Try.prog 17 sDec := by
  refine spec_own (by kernel_rfl) T_ok (sget_cons refForm_ok (sget_cons order_ok sget_nil)) Try.func17 rfl rfl fun args hr nb out e => ?_
  unfold sDec at e
  split at e
  · rename_i v
    split at e
    · rename_i n f rd hs1
      injection e with e; subst e
      refine ⟨fun x hx => sl_rd hs1 x hx, false, [.rs 1 n false (nU (U f))], rfl, fun hs => ?_⟩
      obtain ⟨h1, k2⟩ := hs _ List.mem_cons_self
      refine ⟨.cons _ _ _ _ (.slice _ _ _ _ _ hs1 (fun y hy => ⟨hy, by simp⟩) _ fun i hi => ⟨(h1.get i hi).1, (nU_flat _ i).has⟩) .nil, ?_⟩
      clear hs
      have h2 : ∀ i, i < n → 0 ≤ U f i ∧ U f i ≤ 255 := fun i hi => (h1.get i hi).2
      have h3 : IsU n (nU (U f)) := ⟨fun i hi => ⟨rfl, (h1.get i hi).2⟩⟩
      clear h1
      unfold maxLen at k2
      generalize U f = u at h2 h3 ⊢
      refine evC_go0 (dec := []) (ks := [(0, 0), (0, 2), (0, 3), (0, 4)]) (s' := ⟨[(0, 0, Cont.cell (AV.rs 1 n false (nU u))), (0, 2, Cont.cell AV.nils), (0, 3, Cont.cell (AV.int IntKind.i64 0)), (0, 4, Cont.cell (AV.int IntKind.i64 0))], 25, 39⟩) (by kernel_rfl) (by kernel_rfl) ?_
      refine evC_go (dec := []) (ks := [(0, 0), (0, 2), (0, 3), (0, 4), (0, 5)]) (ps := [(11 : Int) ≠ (0 : Int)]) (s' := ⟨[(0, 0, Cont.cell (AV.rs 1 n false (nU u))), (0, 2, Cont.cell AV.nils), (0, 3, Cont.cell (AV.int IntKind.i64 0)), (0, 4, Cont.cell (AV.int IntKind.i64 0)), (0, 5, Cont.cell (AV.int IntKind.i64 (IntKind.i64.wrap (Int.tdiv (↑n : Int) 11))))], 57, 39⟩) (by kernel_rfl) (by kernel_rfl) ?_ ?_
      · (simp only [All]; (repeat' apply And.intro) <;> (try intro _) <;> (try intro _) <;> (repeat' apply And.intro) <;> (try intro _) <;> (try intro _) <;> first | trivial | assumption | exact .inr trivial | exact .inr rfl | omega | rfl | exact ⟨_, rfl, rfl⟩ | exact ⟨rfl, rfl⟩ | exact ⟨fun _ => rfl, fun _ => rfl⟩ | (unfold maxLen; omega) | (unfold i64R; first | omega | decide) | decide)
      rw [quo11, i64_nat (n := n / 11) (by omega)]
      refine evC_seq ?_
      refine evC_go0 (dec := []) (ks := [(0, 0), (0, 2), (0, 3), (0, 4), (0, 5), (0, 15)]) (s' := ⟨[(0, 0, Cont.cell (AV.rs 1 n false (nU u))), (0, 2, Cont.cell AV.nils), (0, 3, Cont.cell (AV.int IntKind.i64 0)), (0, 4, Cont.cell (AV.int IntKind.i64 0)), (0, 5, Cont.cell (AV.int IntKind.i64 (↑(n / 11) : Int))), (0, 15, Cont.cell (AV.bool (IntKind.i64.wrap ((↑(n / 11) : Int) * 11) != (↑n : Int))))], 97, 39⟩) (by kernel_rfl) (by kernel_rfl) ?_
      rw [w64 (x := ((n / 11 : Nat) : Int) * 11) (by omega) (by omega)]
      refine evC_if (q := (↑(n / 11) : Int) * 11 != (↑n : Int)) (by kernel_rfl) (fun hc => ?_) (fun hc => ?_)
      · have hn : n % 11 ≠ 0 := by
          intro h
          have : ((n / 11 : Nat) : Int) * 11 = (n : Int) := by omega
          rw [this] at hc
          simp at hc
        obtain ⟨q1, q2, q3⟩ := dec_short (u := u) hn
        rw [q1, q2, q3]
        clear hc
        refine evC_go0 (dec := []) (ks := [(0, 0), (0, 2), (0, 3), (0, 4), (0, 5)]) (s' := ⟨[(0, 0, Cont.cell (AV.rs 1 n false (nU u))), (0, 2, Cont.cell AV.nils), (0, 3, Cont.cell (AV.int IntKind.i64 2)), (0, 4, Cont.cell (AV.int IntKind.i64 (↑(n / 11) : Int))), (0, 5, Cont.cell (AV.int IntKind.i64 (↑(n / 11) : Int)))], 129, 39⟩) (by kernel_rfl) (by kernel_rfl) ?_
        refine evC_wk _ (.nil 0 2 5 28 (fun _ => .nils) (Nat.le_of_ble_eq_true rfl) rfl) ?_
        refine evC_ret ?_
        refine then_ret ?_
        refine post_ret ?_
        refine ends_go [129] (AV.tup [AV.vs 1, AV.int IntKind.i64 2, AV.int IntKind.i64 (↑(n / 11) : Int)]) [(1, 0, Cont.vec 5 28 0 fun x => AV.nils)] rfl (by decide) rfl rfl (has_of _ rfl) rfl ⟨⟨_, rfl, ⟨rfl, rfl, rfl, fun _ _ => rfl⟩⟩, trivial⟩ ⟨⟨1, _, rfl, rfl, rfl, ⟨rfl, rfl, rfl, fun _ hi => absurd hi (Nat.not_lt_zero _)⟩⟩, trivial⟩ (kept_nil _)
      · have hn : n % 11 = 0 := by
          have : ((n / 11 : Nat) : Int) * 11 = (n : Int) := by simpa [bne] using hc
          omega
        clear hc
        refine evC_skip ?_
        refine then_normal ?_
        refine evC_seq ?_
        refine evC_go0 (dec := []) (ks := [(0, 0), (0, 2), (0, 3), (0, 4), (0, 5), (0, 18)]) (s' := ⟨[(0, 0, Cont.cell (AV.rs 1 n false (nU u))), (0, 2, Cont.cell AV.nils), (0, 3, Cont.cell (AV.int IntKind.i64 0)), (0, 4, Cont.cell (AV.int IntKind.i64 0)), (0, 5, Cont.cell (AV.int IntKind.i64 (↑(n / 11) : Int))), (0, 18, Cont.cell (AV.bool (decide ((↑(n / 11) : Int) > 64))))], 113, 39⟩) (by kernel_rfl) (by kernel_rfl) ?_
        refine evC_if (q := decide ((↑(n / 11) : Int) > 64)) (by kernel_rfl) (fun hc => ?_) (fun hc => ?_)
        · have h64 : 64 < n / 11 := by have := of_decide_eq_true hc; omega
          obtain ⟨q1, q2, q3⟩ := dec_extra (u := u) hn h64
          rw [q1, q2, q3]
          clear hc
          refine evC_go0 (dec := []) (ks := [(0, 0), (0, 2), (0, 3), (0, 4), (0, 5)]) (s' := ⟨[(0, 0, Cont.cell (AV.rs 1 n false (nU u))), (0, 2, Cont.cell AV.nils), (0, 3, Cont.cell (AV.int IntKind.i64 7)), (0, 4, Cont.cell (AV.int IntKind.i64 64)), (0, 5, Cont.cell (AV.int IntKind.i64 (↑(n / 11) : Int)))], 137, 39⟩) (by kernel_rfl) (by kernel_rfl) ?_
          refine evC_wk _ (.nil 0 2 5 28 (fun _ => .nils) (Nat.le_of_ble_eq_true rfl) rfl) ?_
          refine evC_ret ?_
          refine then_ret ?_
          refine post_ret ?_
          refine ends_go [137] (AV.tup [AV.vs 1, AV.int IntKind.i64 7, AV.int IntKind.i64 64]) [(1, 0, Cont.vec 5 28 0 fun x => AV.nils)] rfl (by decide) rfl rfl (has_of _ rfl) rfl ⟨⟨_, rfl, ⟨rfl, rfl, rfl, fun _ _ => rfl⟩⟩, trivial⟩ ⟨⟨1, _, rfl, rfl, rfl, ⟨rfl, rfl, rfl, fun _ hi => absurd hi (Nat.not_lt_zero _)⟩⟩, trivial⟩ (kept_nil _)
        · have h64 : ¬ 64 < n / 11 := by have := of_decide_eq_false hc; omega
          clear hc
          refine evC_skip ?_
          refine then_normal ?_
          refine evC_go0 (dec := []) (ks := [(0, 0), (0, 2), (0, 3), (0, 4), (0, 5), (0, 6)]) (s' := ⟨[(0, 0, Cont.cell (AV.rs 1 n false (nU u))), (0, 2, Cont.cell AV.nils), (0, 3, Cont.cell (AV.int IntKind.i64 0)), (0, 4, Cont.cell (AV.int IntKind.i64 0)), (0, 5, Cont.cell (AV.int IntKind.i64 (↑(n / 11) : Int))), (0, 6, Cont.cell AV.nils)], 121, 39⟩) (by kernel_rfl) (by kernel_rfl) ?_
          refine evC_wk _ (.nil 0 6 5 28 (fun _ => .nils) (Nat.le_of_ble_eq_true rfl) rfl) ?_
          refine evC_seq ?_
          refine evC_go0 (dec := []) (ks := [(0, 0), (0, 2), (0, 3), (0, 4), (0, 5), (0, 6), (0, 7), (121, 0)]) (s' := ⟨[(0, 0, Cont.cell (AV.rs 1 n false (nU u))), (0, 2, Cont.cell AV.nils), (0, 3, Cont.cell (AV.int IntKind.i64 0)), (0, 4, Cont.cell (AV.int IntKind.i64 0)), (0, 5, Cont.cell (AV.int IntKind.i64 (↑(n / 11) : Int))), (0, 6, Cont.cell (AV.vs 121)), (0, 7, Cont.cell (AV.int IntKind.i64 0)), (121, 0, Cont.vec 5 28 0 fun x => AV.nils)], 130, 39⟩) (by kernel_rfl) (by kernel_rfl) ?_
          refine evC_block ?_
          refine evC_loop (ι := { i : Nat // i ≤ n / 11 ∧ ∀ j, j < i → badD u j = false }) (fun x => ⟨[(0, 0, Cont.cell (AV.rs 1 n false (nU u))), (0, 2, Cont.cell AV.nils), (0, 3, Cont.cell (AV.int IntKind.i64 0)), (0, 4, Cont.cell (AV.int IntKind.i64 0)), (0, 5, Cont.cell (AV.int IntKind.i64 (↑(n / 11) : Int))), (0, 6, Cont.cell (AV.vs 1)), (0, 7, .cell (.int .i64 (x.1 : Nat))), (1, 0, .vec 5 28 x.1 (nO (decL u)))], 2, 39⟩) (fun x => n / 11 - x.1) ⟨0, Nat.zero_le _, fun j hj => absurd hj (Nat.not_lt_zero j)⟩ (wk_go [121] rfl (by decide) rfl rfl ⟨⟨_, rfl, rfl⟩, ⟨_, rfl, rfl⟩, ⟨_, rfl, rfl⟩, ⟨_, rfl, rfl⟩, ⟨_, rfl, rfl⟩, ⟨_, rfl, rfl⟩, ⟨_, rfl, rfl⟩, ⟨_, rfl, ⟨rfl, rfl, rfl, fun _ hi => absurd hi (Nat.not_lt_zero _)⟩⟩, trivial⟩) ?_
          rintro ⟨i, hi, hj⟩
          refine evC_seq ?_
          refine evC_go0 (dec := []) (ks := [(0, 0), (0, 2), (0, 3), (0, 4), (0, 5), (0, 6), (0, 7), (0, 21), (1, 0)]) (s' := ⟨[(0, 0, Cont.cell (AV.rs 1 n false (nU u))), (0, 2, Cont.cell AV.nils), (0, 3, Cont.cell (AV.int IntKind.i64 0)), (0, 4, Cont.cell (AV.int IntKind.i64 0)), (0, 5, Cont.cell (AV.int IntKind.i64 (↑(n / 11) : Int))), (0, 6, Cont.cell (AV.vs 1)), (0, 7, Cont.cell (AV.int IntKind.i64 (↑i : Int))), (0, 21, Cont.cell (AV.bool (decide ((↑i : Int) < (↑(n / 11) : Int))))), (1, 0, Cont.vec 5 28 i (nO (decL u)))], 26, 39⟩) (by kernel_rfl) (by kernel_rfl) ?_
          refine evC_if (q := decide ((↑i : Int) < (↑(n / 11) : Int))) (by kernel_rfl) (fun hc => ?_) (fun hc => ?_)
          · have hlt : i < n / 11 := by have := of_decide_eq_true hc; omega
            clear hc
            have e11 : IntKind.i64.wrap (11 * (i : Int)) = ((11 * i : Nat) : Int) := by rw [w64 (by omega) (by omega)]; push_cast; rfl
            refine evC_skip ?_
            refine then_normal ?_
            refine evC_seq ?_
            refine evC_block ?_
            refine evC_seq ?_
            refine evC_go (dec := []) (ks := [(0, 0), (0, 2), (0, 3), (0, 4), (0, 5), (0, 6), (0, 7), (0, 29), (1, 0)]) (ps := [(0 : Int) ≤ IntKind.i64.wrap ((11 : Int) * (↑i : Int)) ∧ IntKind.i64.wrap ((11 : Int) * (↑i : Int)) + (11 : Int) ≤ (↑n : Int) ∧ n ≤ (9223372036854775807 : Nat) ∧ IsU n (nU u)]) (s' := ⟨[(0, 0, Cont.cell (AV.rs 1 n false (nU u))), (0, 2, Cont.cell AV.nils), (0, 3, Cont.cell (AV.int IntKind.i64 0)), (0, 4, Cont.cell (AV.int IntKind.i64 0)), (0, 5, Cont.cell (AV.int IntKind.i64 (↑(n / 11) : Int))), (0, 6, Cont.cell (AV.vs 1)), (0, 7, Cont.cell (AV.int IntKind.i64 (↑i : Int))), (0, 29, Cont.cell (AV.bool !frm (Prod.fst (decO (U (nU u)) (Int.toNat (IntKind.i64.wrap (11 * (↑i : Int)))))) (Prod.fst (Prod.snd (decO (U (nU u)) (Int.toNat (IntKind.i64.wrap (11 * (↑i : Int))))))) (Prod.fst (Prod.snd (Prod.snd (decO (U (nU u)) (Int.toNat (IntKind.i64.wrap (11 * (↑i : Int)))))))) (Prod.fst (Prod.snd (Prod.snd (Prod.snd (decO (U (nU u)) (Int.toNat (IntKind.i64.wrap (11 * (↑i : Int))))))))) (Prod.snd (Prod.snd (Prod.snd (Prod.snd (decO (U (nU u)) (Int.toNat (IntKind.i64.wrap (11 * (↑i : Int))))))))))), (1, 0, Cont.vec 5 28 i (nO (decL u)))], 74, 39⟩) (by kernel_rfl) (by kernel_rfl) ?_ ?_
            · rw [e11]
              (simp only [All]; (repeat' apply And.intro) <;> (try intro _) <;> (try intro _) <;> (repeat' apply And.intro) <;> (try intro _) <;> (try intro _) <;> first | trivial | assumption | exact .inr trivial | exact .inr rfl | omega | rfl | exact ⟨_, rfl, rfl⟩ | exact ⟨rfl, rfl⟩ | exact ⟨fun _ => rfl, fun _ => rfl⟩ | (unfold maxLen; omega) | (unfold i64R; first | omega | decide) | decide)
            rw [e11]
            refine evC_if (q := !frm (Prod.fst (decO (U (nU u)) (11 * i))) (Prod.fst (Prod.snd (decO (U (nU u)) (11 * i)))) (Prod.fst (Prod.snd (Prod.snd (decO (U (nU u)) (11 * i))))) (Prod.fst (Prod.snd (Prod.snd (Prod.snd (decO (U (nU u)) (11 * i)))))) (Prod.snd (Prod.snd (Prod.snd (Prod.snd (decO (U (nU u)) (11 * i))))))) (by kernel_rfl) (fun hc => ?_) (fun hc => ?_)
            · have hf : badD u i = true := hc
              obtain ⟨q1, q2, q3⟩ := dec_form (u := u) hn h64 hlt hf hj
              rw [q1, q2, q3]
              clear hc
              refine evC_go0 (dec := []) (ks := [(0, 0), (0, 2), (0, 3), (0, 4), (0, 5), (0, 6), (0, 7), (1, 0)]) (s' := ⟨[(0, 0, Cont.cell (AV.rs 1 n false (nU u))), (0, 2, Cont.cell AV.nils), (0, 3, Cont.cell (AV.int IntKind.i64 3)), (0, 4, Cont.cell (AV.int IntKind.i64 (↑i : Int))), (0, 5, Cont.cell (AV.int IntKind.i64 (↑(n / 11) : Int))), (0, 6, Cont.cell (AV.vs 1)), (0, 7, Cont.cell (AV.int IntKind.i64 (↑i : Int))), (1, 0, Cont.vec 5 28 i (nO (decL u)))], 106, 39⟩) (by kernel_rfl) (by kernel_rfl) ?_
              refine evC_wk _ (.nil 0 2 5 28 (fun _ => .nils) (Nat.le_of_ble_eq_true rfl) rfl) ?_
              refine evC_ret ?_
              refine then_ret ?_
              refine block_ret ?_
              refine then_ret ?_
              refine round_ret ?_
              refine block_ret ?_
              refine then_ret ?_
              refine post_ret ?_
              refine ends_go [106] (AV.tup [AV.vs 1, AV.int IntKind.i64 3, AV.int IntKind.i64 (↑i : Int)]) [(1, 0, Cont.vec 5 28 0 fun x => AV.nils)] rfl (by decide) rfl rfl (has_of _ rfl) rfl ⟨⟨_, rfl, ⟨rfl, rfl, rfl, fun _ _ => rfl⟩⟩, trivial⟩ ⟨⟨1, _, rfl, rfl, rfl, ⟨rfl, rfl, rfl, fun _ hi => absurd hi (Nat.not_lt_zero _)⟩⟩, trivial⟩ (kept_nil _)
            · have hf : badD u i = false := hc
              clear hc
              refine evC_skip ?_
              refine then_normal ?_
              refine evC_goL (dec := []) (ks := [(0, 0), (0, 2), (0, 3), (0, 4), (0, 5), (0, 6), (0, 7), (122, 0)]) (ps := [(0 : Int) ≤ IntKind.i64.wrap ((11 : Int) * (↑i : Int)) ∧ IntKind.i64.wrap ((11 : Int) * (↑i : Int)) + (11 : Int) ≤ (↑n : Int) ∧ n ≤ (9223372036854775807 : Nat) ∧ IsU n (nU u), (i + (1 : Nat)) * (40 : Nat) ≤ (140737488355328 : Nat), i + (1 : Nat) ≤ maxLen, (1 : Nat) = (0 : Nat) ∨ (5 : Nat) = (5 : Nat), (5 : Nat) = (5 : Nat), (28 : Nat) = (28 : Nat)]) (s' := ⟨[(0, 0, Cont.cell (AV.rs 1 n false (nU u))), (0, 2, Cont.cell AV.nils), (0, 3, Cont.cell (AV.int IntKind.i64 0)), (0, 4, Cont.cell (AV.int IntKind.i64 0)), (0, 5, Cont.cell (AV.int IntKind.i64 (↑(n / 11) : Int))), (0, 6, Cont.cell (AV.vs 122)), (0, 7, Cont.cell (AV.int IntKind.i64 (↑i : Int))), (122, 0, Cont.vec 5 28 (i + 1) (catF i (nO (decL u)) (pget [(0, odv (decO (U (nU u)) (Int.toNat (IntKind.i64.wrap (11 * (↑i : Int))))))])))], 138, 39⟩) (by kernel_rfl) (by kernel_rfl) ?_ ?_
              · rw [e11]
                (simp only [All]; (repeat' apply And.intro) <;> (try intro _) <;> (try intro _) <;> (repeat' apply And.intro) <;> (try intro _) <;> (try intro _) <;> first | trivial | assumption | exact .inr trivial | exact .inr rfl | omega | rfl | exact ⟨_, rfl, rfl⟩ | exact ⟨rfl, rfl⟩ | exact ⟨fun _ => rfl, fun _ => rfl⟩ | (unfold maxLen; omega) | (unfold i64R; first | omega | decide) | decide)
              rw [e11]
              refine block_normal ?_
              refine then_normal ?_
              refine evC_goL0 (dec := []) (ks := [(0, 0), (0, 2), (0, 3), (0, 4), (0, 5), (0, 6), (0, 7), (122, 0)]) (s' := ⟨[(0, 0, Cont.cell (AV.rs 1 n false (nU u))), (0, 2, Cont.cell AV.nils), (0, 3, Cont.cell (AV.int IntKind.i64 0)), (0, 4, Cont.cell (AV.int IntKind.i64 0)), (0, 5, Cont.cell (AV.int IntKind.i64 (↑(n / 11) : Int))), (0, 6, Cont.cell (AV.vs 122)), (0, 7, Cont.cell (AV.int IntKind.i64 (IntKind.i64.wrap ((↑i : Int) + 1)))), (122, 0, Cont.vec 5 28 (i + 1) (catF i (nO (decL u)) (pget [(0, odv (decO (U (nU u)) (11 * i)))])))], 162, 39⟩) (by kernel_rfl) (by kernel_rfl) ?_
              rw [wrap_add_one hlt (by omega)]
              refine round_normal (⟨i + 1, by omega, fun j hj' => ?_⟩) (wk_go [122] rfl (by decide) rfl rfl ⟨⟨_, rfl, rfl⟩, ⟨_, rfl, rfl⟩, ⟨_, rfl, rfl⟩, ⟨_, rfl, rfl⟩, ⟨_, rfl, rfl⟩, ⟨_, rfl, rfl⟩, ⟨_, rfl, rfl⟩, ⟨_, rfl, ?_⟩, trivial⟩) ?_
              · rcases Nat.lt_or_ge j i with h | h
                · exact hj j h
                · have : j = i := by omega
                  subst this; exact hf
              · exact ⟨rfl, rfl, rfl, fun y hy => catF_snoc (n := i) (F := nO (decL u)) rfl y hy⟩
              · show n / 11 - (i + 1) < n / 11 - i; omega
          · have hlt : i = n / 11 := by have := of_decide_eq_false hc; omega
            subst hlt
            clear hc
            obtain ⟨q1, q2, q3⟩ := dec_good (u := u) hn h64 hj
            rw [q1, q2, q3]
            refine evC_exit ?_
            refine then_exit ?_
            refine round_exit ?_
            refine block_exit ?_
            refine then_normal ?_
            refine evC_go0 (dec := []) (ks := [(0, 2), (0, 3), (0, 4), (1, 0)]) (s' := ⟨[(0, 2, Cont.cell (AV.vs 1)), (0, 3, Cont.cell (AV.int IntKind.i64 0)), (0, 4, Cont.cell (AV.int IntKind.i64 0)), (1, 0, Cont.vec 5 28 (n / 11) (nO (decL u)))], 58, 39⟩) (by kernel_rfl) (by kernel_rfl) ?_
            refine evC_ret ?_
            refine post_ret ?_
            refine ends_go [1] (AV.tup [AV.vs 1, AV.int IntKind.i64 0, AV.int IntKind.i64 0]) [(1, 0, Cont.vec 5 28 (n / 11) (nO (decL u)))] rfl (by decide) rfl rfl (has_of _ rfl) rfl ⟨⟨_, rfl, ⟨rfl, rfl, rfl, fun _ _ => rfl⟩⟩, trivial⟩ ⟨⟨1, _, rfl, rfl, rfl, ⟨rfl, rfl, rfl, fun _ _ => ⟨has_of _ rfl, rfl⟩⟩⟩, trivial⟩ (kept_nil _)
    · cases e
  · cases e
theorem dec_ok : SpecOK Try.prog 16 sDec := by
  refine spec_own (by kernel_rfl) T_ok (sget_cons form_ok (sget_cons number_ok sget_nil)) Try.func16 rfl rfl fun args hr nb out e => ?_
  unfold sDec at e
  split at e
  · rename_i v
    split at e
    · rename_i n f rd hs1
      injection e with e; subst e
      refine ⟨fun x hx => sl_rd hs1 x hx, false, [.rs 1 n false (nU (U f))], rfl, fun hs => ?_⟩
      obtain ⟨h1, k2⟩ := hs _ List.mem_cons_self
      refine ⟨.cons _ _ _ _ (.slice _ _ _ _ _ hs1 (fun y hy => ⟨hy, by simp⟩) _ fun i hi => ⟨(h1.get i hi).1, (nU_flat _ i).has⟩) .nil, ?_⟩
      clear hs
      have h2 : ∀ i, i < n → 0 ≤ U f i ∧ U f i ≤ 255 := fun i hi => (h1.get i hi).2
      clear h1
      unfold maxLen at k2
      generalize U f = u at h2 ⊢
      refine evC_go0 (dec := []) (ks := [(0, 0), (0, 2), (0, 3), (0, 4)]) (s' := ⟨[(0, 0, Cont.cell (AV.rs 1 n false (nU u))), (0, 2, Cont.cell AV.nils), (0, 3, Cont.cell (AV.int IntKind.i64 0)), (0, 4, Cont.cell (AV.int IntKind.i64 0))], 25, 62⟩) (by kernel_rfl) (by kernel_rfl) ?_
      refine evC_go (dec := []) (ks := [(0, 0), (0, 2), (0, 3), (0, 4), (0, 5)]) (ps := [(11 : Int) ≠ (0 : Int)]) (s' := ⟨[(0, 0, Cont.cell (AV.rs 1 n false (nU u))), (0, 2, Cont.cell AV.nils), (0, 3, Cont.cell (AV.int IntKind.i64 0)), (0, 4, Cont.cell (AV.int IntKind.i64 0)), (0, 5, Cont.cell (AV.int IntKind.i64 (IntKind.i64.wrap (Int.tdiv (↑n : Int) 11))))], 57, 62⟩) (by kernel_rfl) (by kernel_rfl) ?_ ?_
      · (simp only [All]; (repeat' apply And.intro) <;> (try intro _) <;> (try intro _) <;> (repeat' apply And.intro) <;> (try intro _) <;> (try intro _) <;> first | trivial | assumption | exact .inr trivial | exact .inr rfl | omega | rfl | exact ⟨_, rfl, rfl⟩ | exact ⟨rfl, rfl⟩ | exact ⟨fun _ => rfl, fun _ => rfl⟩ | (unfold maxLen; omega) | (unfold i64R; first | omega | decide) | decide)
      rw [quo11, i64_nat (n := n / 11) (by omega)]
      have er : Int.tmod (n : Int) 11 = ((n % 11 : Nat) : Int) := by rw [Int.tmod_eq_emod_of_nonneg (by omega)]; rfl
      refine evC_seq ?_
      refine evC_block ?_
      refine evC_go (dec := []) (ks := [(0, 0), (0, 2), (0, 3), (0, 4), (0, 5), (0, 13)]) (ps := [(11 : Int) ≠ (0 : Int)]) (s' := ⟨[(0, 0, Cont.cell (AV.rs 1 n false (nU u))), (0, 2, Cont.cell AV.nils), (0, 3, Cont.cell (AV.int IntKind.i64 0)), (0, 4, Cont.cell (AV.int IntKind.i64 0)), (0, 5, Cont.cell (AV.int IntKind.i64 (↑(n / 11) : Int))), (0, 13, Cont.cell (AV.bool (Int.tmod (↑n : Int) 11 != 0)))], 97, 62⟩) (by kernel_rfl) (by kernel_rfl) ?_ ?_
      · (simp only [All]; (repeat' apply And.intro) <;> (try intro _) <;> (try intro _) <;> (repeat' apply And.intro) <;> (try intro _) <;> (try intro _) <;> first | trivial | assumption | exact .inr trivial | exact .inr rfl | omega | rfl | exact ⟨_, rfl, rfl⟩ | exact ⟨rfl, rfl⟩ | exact ⟨fun _ => rfl, fun _ => rfl⟩ | (unfold maxLen; omega) | (unfold i64R; first | omega | decide) | decide)
      rw [er]
      refine evC_if (q := (↑(n % 11) : Int) != 0) (by kernel_rfl) (fun hc => ?_) (fun hc => ?_)
      · have hn : n % 11 ≠ 0 := by
          intro h
          rw [h] at hc
          simp at hc
        obtain ⟨q1, q2, q3⟩ := dec_short (u := u) hn
        rw [q1, q2, q3]
        clear hc
        refine evC_go0 (dec := []) (ks := [(0, 0), (0, 2), (0, 3), (0, 4), (0, 5)]) (s' := ⟨[(0, 0, Cont.cell (AV.rs 1 n false (nU u))), (0, 2, Cont.cell AV.nils), (0, 3, Cont.cell (AV.int IntKind.i64 2)), (0, 4, Cont.cell (AV.int IntKind.i64 (↑(n / 11) : Int))), (0, 5, Cont.cell (AV.int IntKind.i64 (↑(n / 11) : Int)))], 129, 62⟩) (by kernel_rfl) (by kernel_rfl) ?_
        refine evC_wk _ (.nil 0 2 5 28 (fun _ => .nils) (Nat.le_of_ble_eq_true rfl) rfl) ?_
        refine evC_ret ?_
        refine block_ret ?_
        refine then_ret ?_
        refine post_ret ?_
        refine ends_go [129] (AV.tup [AV.vs 1, AV.int IntKind.i64 2, AV.int IntKind.i64 (↑(n / 11) : Int)]) [(1, 0, Cont.vec 5 28 0 fun x => AV.nils)] rfl (by decide) rfl rfl (has_of _ rfl) rfl ⟨⟨_, rfl, ⟨rfl, rfl, rfl, fun _ _ => rfl⟩⟩, trivial⟩ ⟨⟨1, _, rfl, rfl, rfl, ⟨rfl, rfl, rfl, fun _ hi => absurd hi (Nat.not_lt_zero _)⟩⟩, trivial⟩ (kept_nil _)
      · have hn : n % 11 = 0 := by
          have : ((n % 11 : Nat) : Int) = 0 := by simpa [bne] using hc
          omega
        clear hc
        refine evC_go0 (dec := []) (ks := [(0, 0), (0, 2), (0, 3), (0, 4), (0, 5), (0, 19)]) (s' := ⟨[(0, 0, Cont.cell (AV.rs 1 n false (nU u))), (0, 2, Cont.cell AV.nils), (0, 3, Cont.cell (AV.int IntKind.i64 0)), (0, 4, Cont.cell (AV.int IntKind.i64 0)), (0, 5, Cont.cell (AV.int IntKind.i64 (↑(n / 11) : Int))), (0, 19, Cont.cell (AV.bool (decide ((↑(n / 11) : Int) > 64))))], 121, 62⟩) (by kernel_rfl) (by kernel_rfl) ?_
        refine evC_if (q := decide ((↑(n / 11) : Int) > 64)) (by kernel_rfl) (fun hc => ?_) (fun hc => ?_)
        · have h64 : 64 < n / 11 := by have := of_decide_eq_true hc; omega
          obtain ⟨q1, q2, q3⟩ := dec_extra (u := u) hn h64
          rw [q1, q2, q3]
          clear hc
          refine evC_go0 (dec := []) (ks := [(0, 0), (0, 2), (0, 3), (0, 4), (0, 5)]) (s' := ⟨[(0, 0, Cont.cell (AV.rs 1 n false (nU u))), (0, 2, Cont.cell AV.nils), (0, 3, Cont.cell (AV.int IntKind.i64 7)), (0, 4, Cont.cell (AV.int IntKind.i64 64)), (0, 5, Cont.cell (AV.int IntKind.i64 (↑(n / 11) : Int)))], 145, 62⟩) (by kernel_rfl) (by kernel_rfl) ?_
          refine evC_wk _ (.nil 0 2 5 28 (fun _ => .nils) (Nat.le_of_ble_eq_true rfl) rfl) ?_
          refine evC_ret ?_
          refine block_ret ?_
          refine then_ret ?_
          refine post_ret ?_
          refine ends_go [145] (AV.tup [AV.vs 1, AV.int IntKind.i64 7, AV.int IntKind.i64 64]) [(1, 0, Cont.vec 5 28 0 fun x => AV.nils)] rfl (by decide) rfl rfl (has_of _ rfl) rfl ⟨⟨_, rfl, ⟨rfl, rfl, rfl, fun _ _ => rfl⟩⟩, trivial⟩ ⟨⟨1, _, rfl, rfl, rfl, ⟨rfl, rfl, rfl, fun _ hi => absurd hi (Nat.not_lt_zero _)⟩⟩, trivial⟩ (kept_nil _)
        · have h64 : ¬ 64 < n / 11 := by have := of_decide_eq_false hc; omega
          clear hc
          refine evC_skip ?_
          refine block_normal ?_
          refine then_normal ?_
          refine evC_go0 (dec := []) (ks := [(0, 0), (0, 2), (0, 3), (0, 4), (0, 5), (0, 6)]) (s' := ⟨[(0, 0, Cont.cell (AV.rs 1 n false (nU u))), (0, 2, Cont.cell AV.nils), (0, 3, Cont.cell (AV.int IntKind.i64 0)), (0, 4, Cont.cell (AV.int IntKind.i64 0)), (0, 5, Cont.cell (AV.int IntKind.i64 (↑(n / 11) : Int))), (0, 6, Cont.cell AV.nils)], 129, 62⟩) (by kernel_rfl) (by kernel_rfl) ?_
          refine evC_wk _ (.nil 0 6 5 28 (fun _ => .nils) (Nat.le_of_ble_eq_true rfl) rfl) ?_
          refine evC_seq ?_
          refine evC_go0 (dec := []) (ks := [(0, 0), (0, 2), (0, 3), (0, 4), (0, 6), (0, 22), (0, 23), (129, 0)]) (s' := ⟨[(0, 0, Cont.cell (AV.rs 1 n false (nU u))), (0, 2, Cont.cell AV.nils), (0, 3, Cont.cell (AV.int IntKind.i64 0)), (0, 4, Cont.cell (AV.int IntKind.i64 0)), (0, 6, Cont.cell (AV.vs 129)), (0, 22, Cont.cell (AV.int IntKind.i64 (↑(n / 11) : Int))), (0, 23, Cont.cell (AV.int IntKind.i64 0)), (129, 0, Cont.vec 5 28 0 fun x => AV.nils)], 146, 62⟩) (by kernel_rfl) (by kernel_rfl) ?_
          refine evC_block ?_
          refine evC_loop (ι := { i : Nat // i ≤ n / 11 ∧ ∀ j, j < i → badD u j = false }) (fun x => ⟨[(0, 0, Cont.cell (AV.rs 1 n false (nU u))), (0, 2, Cont.cell AV.nils), (0, 3, Cont.cell (AV.int IntKind.i64 0)), (0, 4, Cont.cell (AV.int IntKind.i64 0)), (0, 6, Cont.cell (AV.vs 1)), (0, 22, Cont.cell (AV.int IntKind.i64 (↑(n / 11) : Int))), (0, 23, .cell (.int .i64 (x.1 : Nat))), (1, 0, .vec 5 28 x.1 (nO (decL u)))], 2, 62⟩) (fun x => n / 11 - x.1) ⟨0, Nat.zero_le _, fun j hj => absurd hj (Nat.not_lt_zero j)⟩ (wk_go [129] rfl (by decide) rfl rfl ⟨⟨_, rfl, rfl⟩, ⟨_, rfl, rfl⟩, ⟨_, rfl, rfl⟩, ⟨_, rfl, rfl⟩, ⟨_, rfl, rfl⟩, ⟨_, rfl, rfl⟩, ⟨_, rfl, rfl⟩, ⟨_, rfl, ⟨rfl, rfl, rfl, fun _ hi => absurd hi (Nat.not_lt_zero _)⟩⟩, trivial⟩) ?_
          rintro ⟨i, hi, hj⟩
          refine evC_go0 (dec := []) (ks := [(0, 0), (0, 2), (0, 3), (0, 4), (0, 6), (0, 22), (0, 23), (0, 24), (1, 0)]) (s' := ⟨[(0, 0, Cont.cell (AV.rs 1 n false (nU u))), (0, 2, Cont.cell AV.nils), (0, 3, Cont.cell (AV.int IntKind.i64 0)), (0, 4, Cont.cell (AV.int IntKind.i64 0)), (0, 6, Cont.cell (AV.vs 1)), (0, 22, Cont.cell (AV.int IntKind.i64 (↑(n / 11) : Int))), (0, 23, Cont.cell (AV.int IntKind.i64 (↑i : Int))), (0, 24, Cont.cell (AV.bool (decide ((↑i : Int) < (↑(n / 11) : Int))))), (1, 0, Cont.vec 5 28 i (nO (decL u)))], 10, 62⟩) (by kernel_rfl) (by kernel_rfl) ?_
          refine evC_seq ?_
          refine evC_if (q := decide ((↑i : Int) < (↑(n / 11) : Int))) (by kernel_rfl) (fun hc => ?_) (fun hc => ?_)
          · have hlt : i < n / 11 := by have := of_decide_eq_true hc; omega
            clear hc
            have e11 : IntKind.i64.wrap ((i : Int) * 11) = ((11 * i : Nat) : Int) := by rw [w64 (by omega) (by omega)]; push_cast; omega
            have e12 : IntKind.i64.wrap (IntKind.i64.wrap ((i : Int) + 1) * 11) = ((11 * i + 11 : Nat) : Int) := by rw [w64 (x := (i : Int) + 1) (by omega) (by omega), w64 (by omega) (by omega)]; push_cast; omega
            refine evC_skip ?_
            refine then_normal ?_
            refine evC_seq ?_
            refine evC_block ?_
            refine evC_go0 (dec := []) (ks := [(0, 0), (0, 2), (0, 3), (0, 4), (0, 6), (0, 7), (0, 22), (0, 23), (1, 0)]) (s' := ⟨[(0, 0, Cont.cell (AV.rs 1 n false (nU u))), (0, 2, Cont.cell AV.nils), (0, 3, Cont.cell (AV.int IntKind.i64 0)), (0, 4, Cont.cell (AV.int IntKind.i64 0)), (0, 6, Cont.cell (AV.vs 1)), (0, 7, Cont.cell (AV.int IntKind.i64 (↑i : Int))), (0, 22, Cont.cell (AV.int IntKind.i64 (↑(n / 11) : Int))), (0, 23, Cont.cell (AV.int IntKind.i64 (↑i : Int))), (1, 0, Cont.vec 5 28 i (nO (decL u)))], 26, 62⟩) (by kernel_rfl) (by kernel_rfl) ?_
            refine evC_go (dec := []) (ks := [(0, 0), (0, 2), (0, 3), (0, 4), (0, 6), (0, 7), (0, 8), (0, 22), (0, 23), (1, 0)]) (ps := [(0 : Int) ≤ IntKind.i64.wrap ((↑i : Int) * (11 : Int)), IntKind.i64.wrap ((↑i : Int) * (11 : Int)) ≤ IntKind.i64.wrap (IntKind.i64.wrap ((↑i : Int) + (1 : Int)) * (11 : Int)), IntKind.i64.wrap (IntKind.i64.wrap ((↑i : Int) + (1 : Int)) * (11 : Int)) ≤ (↑n : Int), IntKind.i64.wrap (IntKind.i64.wrap ((↑i : Int) + (1 : Int)) * (11 : Int)) = IntKind.i64.wrap (IntKind.i64.wrap ((↑i : Int) + (1 : Int)) * (11 : Int)), (1 : Nat) = (1 : Nat), false = true → true = true]) (s' := ⟨[(0, 0, Cont.cell (AV.rs 1 n false (nU u))), (0, 2, Cont.cell AV.nils), (0, 3, Cont.cell (AV.int IntKind.i64 0)), (0, 4, Cont.cell (AV.int IntKind.i64 0)), (0, 6, Cont.cell (AV.vs 1)), (0, 7, Cont.cell (AV.int IntKind.i64 (↑i : Int))), (0, 8, Cont.cell (AV.rs 1 (Int.toNat (IntKind.i64.wrap (IntKind.i64.wrap ((↑i : Int) + 1) * 11)) - Int.toNat (IntKind.i64.wrap ((↑i : Int) * 11))) false fun i_1 => nU u (Int.toNat (IntKind.i64.wrap ((↑i : Int) * 11)) + i_1))), (0, 22, Cont.cell (AV.int IntKind.i64 (↑(n / 11) : Int))), (0, 23, Cont.cell (AV.int IntKind.i64 (↑i : Int))), (1, 0, Cont.vec 5 28 i (nO (decL u)))], 90, 62⟩) (by kernel_rfl) (by kernel_rfl) ?_ ?_
            · rw [e11, e12]
              (simp only [All]; (repeat' apply And.intro) <;> (try intro _) <;> (try intro _) <;> (repeat' apply And.intro) <;> (try intro _) <;> (try intro _) <;> first | trivial | assumption | exact .inr trivial | exact .inr rfl | omega | rfl | exact ⟨_, rfl, rfl⟩ | exact ⟨rfl, rfl⟩ | exact ⟨fun _ => rfl, fun _ => rfl⟩ | (unfold maxLen; omega) | (unfold i64R; first | omega | decide) | decide)
            rw [e11, e12]
            simp only [Int.toNat_natCast, Nat.add_sub_cancel_left]
            have r0 : ∀ j, j < 11 → 0 ≤ u (11 * i + j) ∧ u (11 * i + j) ≤ 255 := fun j hj => h2 _ (by omega)
            have i1 : IsU 4 (fun j => nU u (11 * i + (Int.toNat 1 + j))) := ⟨fun j hj => ⟨rfl, r0 (1 + j) (by omega)⟩⟩
            have i7 : IsU 4 (fun j => nU u (11 * i + (Int.toNat 7 + j))) := ⟨fun j hj => ⟨rfl, r0 (7 + j) (by omega)⟩⟩
            refine evC_go (dec := []) (ks := [(0, 0), (0, 2), (0, 3), (0, 4), (0, 6), (0, 7), (0, 9), (0, 22), (0, 23), (1, 0), (242, 0), (242, 1), (242, 2), (242, 3), (242, 4), (242, 5)]) (ps := [(0 : Int) ≤ (0 : Int), (0 : Int) < (↑(11 : Nat) : Int), (1 : Nat) = (1 : Nat), (0 : Int) ≤ (1 : Int), (1 : Int) ≤ (5 : Int), (5 : Int) ≤ (↑(11 : Nat) : Int), (5 : Int) = (5 : Int), (1 : Nat) = (1 : Nat), false = true → true = true, Int.toNat (5 : Int) - Int.toNat (1 : Int) = (4 : Nat) ∧ IsU (4 : Nat) fun i_1 => nU u ((11 : Nat) * i + (Int.toNat (1 : Int) + i_1)), (0 : Int) ≤ (5 : Int), (5 : Int) < (↑(11 : Nat) : Int), (1 : Nat) = (1 : Nat), (0 : Int) ≤ (6 : Int), (6 : Int) < (↑(11 : Nat) : Int), (1 : Nat) = (1 : Nat), (0 : Int) ≤ (7 : Int), (7 : Int) ≤ (11 : Int), (11 : Int) ≤ (↑(11 : Nat) : Int), (11 : Int) = (11 : Int), (1 : Nat) = (1 : Nat), false = true → true = true, Int.toNat (11 : Int) - Int.toNat (7 : Int) = (4 : Nat) ∧ IsU (4 : Nat) fun i_1 => nU u ((11 : Nat) * i + (Int.toNat (7 : Int) + i_1))]) (s' := ⟨[(0, 0, Cont.cell (AV.rs 1 n false (nU u))), (0, 2, Cont.cell AV.nils), (0, 3, Cont.cell (AV.int IntKind.i64 0)), (0, 4, Cont.cell (AV.int IntKind.i64 0)), (0, 6, Cont.cell (AV.vs 1)), (0, 7, Cont.cell (AV.int IntKind.i64 (↑i : Int))), (0, 9, Cont.cell (AV.ptr 242 0)), (0, 22, Cont.cell (AV.int IntKind.i64 (↑(n / 11) : Int))), (0, 23, Cont.cell (AV.int IntKind.i64 (↑i : Int))), (1, 0, Cont.vec 5 28 i (nO (decL u))), (242, 0, Cont.cell (AV.int IntKind.i64 (IntKind.i64.wrap (u (11 * i + Int.toNat 0))))), (242, 1, Cont.cell (AV.int IntKind.i64 (num4 (U fun i_1 => nU u (11 * i + (Int.toNat 1 + i_1))) 0))), (242, 2, Cont.cell (AV.int IntKind.i64 (IntKind.i64.wrap (u (11 * i + Int.toNat 5))))), (242, 3, Cont.cell (AV.int IntKind.i64 (IntKind.i64.wrap (u (11 * i + Int.toNat 6))))), (242, 4, Cont.cell (AV.int IntKind.i64 (num4 (U fun i_1 => nU u (11 * i + (Int.toNat 7 + i_1))) 0))), (242, 5, Cont.top)], 258, 62⟩) (by kernel_rfl) (by kernel_rfl) ?_ ?_
            · refine ⟨by omega, by omega, rfl, by omega, by omega, by omega, by omega, rfl, fun _ => rfl, ⟨rfl, i1⟩, by omega, by omega, rfl, by omega, by omega, rfl, by omega, by omega, by omega, by omega, rfl, fun _ => rfl, ⟨rfl, i7⟩⟩
            refine evC_wk (s' := ⟨[(0, 0, Cont.cell (AV.rs 1 n false (nU u))), (0, 2, Cont.cell AV.nils), (0, 3, Cont.cell (AV.int IntKind.i64 0)), (0, 4, Cont.cell (AV.int IntKind.i64 0)), (0, 6, Cont.cell (AV.vs 1)), (0, 7, Cont.cell (AV.int IntKind.i64 (↑i : Int))), (0, 9, Cont.cell (AV.ptr 2 0)), (0, 22, Cont.cell (AV.int IntKind.i64 (↑(n / 11) : Int))), (0, 23, Cont.cell (AV.int IntKind.i64 (↑i : Int))), (1, 0, Cont.vec 5 28 i (nO (decL u))), (2, 0, .cell (.int .i64 (decL u i).1)), (2, 1, .cell (.int .i64 (decL u i).2.1)), (2, 2, .cell (.int .i64 (decL u i).2.2.1)), (2, 3, .cell (.int .i64 (decL u i).2.2.2.1)), (2, 4, .cell (.int .i64 (decL u i).2.2.2.2)), (2, 5, Cont.top)], 3, 62⟩) _ (wk_go [1, 242] rfl (by decide) rfl rfl ⟨⟨_, rfl, rfl⟩, ⟨_, rfl, rfl⟩, ⟨_, rfl, rfl⟩, ⟨_, rfl, rfl⟩, ⟨_, rfl, rfl⟩, ⟨_, rfl, rfl⟩, ⟨_, rfl, rfl⟩, ⟨_, rfl, rfl⟩, ⟨_, rfl, rfl⟩, ⟨_, rfl, rfl, rfl, rfl, fun _ _ => rfl⟩, ⟨_, rfl, ?_⟩, ⟨_, rfl, rfl⟩, ⟨_, rfl, ?_⟩, ⟨_, rfl, ?_⟩, ⟨_, rfl, rfl⟩, ⟨_, rfl, trivial⟩, trivial⟩) ?_
            · show AV.int .i64 _ = AV.int .i64 _
              have := r0 0 (by omega)
              exact congrArg _ (w64 (x := u (11 * i + 0)) this.1 (by omega))
            · show AV.int .i64 _ = AV.int .i64 _
              have := r0 5 (by omega)
              exact congrArg _ (w64 (x := u (11 * i + 5)) this.1 (by omega))
            · show AV.int .i64 _ = AV.int .i64 _
              have := r0 6 (by omega)
              exact congrArg _ (w64 (x := u (11 * i + 6)) this.1 (by omega))
            refine evC_seq ?_
            refine evC_go0 (dec := []) (ks := [(0, 0), (0, 2), (0, 3), (0, 4), (0, 6), (0, 7), (0, 9), (0, 22), (0, 23), (0, 54), (1, 0), (2, 0), (2, 1), (2, 2), (2, 3), (2, 4), (2, 5)]) (s' := ⟨[(0, 0, Cont.cell (AV.rs 1 n false (nU u))), (0, 2, Cont.cell AV.nils), (0, 3, Cont.cell (AV.int IntKind.i64 0)), (0, 4, Cont.cell (AV.int IntKind.i64 0)), (0, 6, Cont.cell (AV.vs 1)), (0, 7, Cont.cell (AV.int IntKind.i64 (↑i : Int))), (0, 9, Cont.cell (AV.ptr 2 0)), (0, 22, Cont.cell (AV.int IntKind.i64 (↑(n / 11) : Int))), (0, 23, Cont.cell (AV.int IntKind.i64 (↑i : Int))), (0, 54, Cont.cell (AV.bool !frm (Prod.fst (decL u i)) (Prod.fst (Prod.snd (decL u i))) (Prod.fst (Prod.snd (Prod.snd (decL u i)))) (Prod.fst (Prod.snd (Prod.snd (Prod.snd (decL u i))))) (Prod.snd (Prod.snd (Prod.snd (Prod.snd (decL u i))))))), (1, 0, Cont.vec 5 28 i (nO (decL u))), (2, 0, Cont.cell (AV.int IntKind.i64 (Prod.fst (decL u i)))), (2, 1, Cont.cell (AV.int IntKind.i64 (Prod.fst (Prod.snd (decL u i))))), (2, 2, Cont.cell (AV.int IntKind.i64 (Prod.fst (Prod.snd (Prod.snd (decL u i)))))), (2, 3, Cont.cell (AV.int IntKind.i64 (Prod.fst (Prod.snd (Prod.snd (Prod.snd (decL u i))))))), (2, 4, Cont.cell (AV.int IntKind.i64 (Prod.snd (Prod.snd (Prod.snd (Prod.snd (decL u i))))))), (2, 5, Cont.top)], 27, 62⟩) (by kernel_rfl) (by kernel_rfl) ?_
            refine evC_if (q := !frm (Prod.fst (decL u i)) (Prod.fst (Prod.snd (decL u i))) (Prod.fst (Prod.snd (Prod.snd (decL u i)))) (Prod.fst (Prod.snd (Prod.snd (Prod.snd (decL u i))))) (Prod.snd (Prod.snd (Prod.snd (Prod.snd (decL u i)))))) (by kernel_rfl) (fun hc => ?_) (fun hc => ?_)
            · have hf : badD u i = true := hc
              obtain ⟨q1, q2, q3⟩ := dec_form (u := u) hn h64 hlt hf hj
              rw [q1, q2, q3]
              clear hc
              refine evC_go0 (dec := []) (ks := [(0, 0), (0, 2), (0, 3), (0, 4), (0, 6), (0, 9), (0, 22), (0, 23), (1, 0), (2, 0), (2, 1), (2, 2), (2, 3), (2, 4), (2, 5)]) (s' := ⟨[(0, 0, Cont.cell (AV.rs 1 n false (nU u))), (0, 2, Cont.cell AV.nils), (0, 3, Cont.cell (AV.int IntKind.i64 3)), (0, 4, Cont.cell (AV.int IntKind.i64 (↑i : Int))), (0, 6, Cont.cell (AV.vs 1)), (0, 9, Cont.cell (AV.ptr 2 0)), (0, 22, Cont.cell (AV.int IntKind.i64 (↑(n / 11) : Int))), (0, 23, Cont.cell (AV.int IntKind.i64 (↑i : Int))), (1, 0, Cont.vec 5 28 i (nO (decL u))), (2, 0, Cont.cell (AV.int IntKind.i64 (Prod.fst (decL u i)))), (2, 1, Cont.cell (AV.int IntKind.i64 (Prod.fst (Prod.snd (decL u i))))), (2, 2, Cont.cell (AV.int IntKind.i64 (Prod.fst (Prod.snd (Prod.snd (decL u i)))))), (2, 3, Cont.cell (AV.int IntKind.i64 (Prod.fst (Prod.snd (Prod.snd (Prod.snd (decL u i))))))), (2, 4, Cont.cell (AV.int IntKind.i64 (Prod.snd (Prod.snd (Prod.snd (Prod.snd (decL u i))))))), (2, 5, Cont.top)], 59, 62⟩) (by kernel_rfl) (by kernel_rfl) ?_
              refine evC_wk _ (.nil 0 2 5 28 (fun _ => .nils) (Nat.le_of_ble_eq_true rfl) rfl) ?_
              refine evC_ret ?_
              refine then_ret ?_
              refine block_ret ?_
              refine then_ret ?_
              refine round_ret ?_
              refine block_ret ?_
              refine then_ret ?_
              refine post_ret ?_
              refine ends_go [59] (AV.tup [AV.vs 1, AV.int IntKind.i64 3, AV.int IntKind.i64 (↑i : Int)]) [(1, 0, Cont.vec 5 28 0 fun x => AV.nils)] rfl (by decide) rfl rfl (has_of _ rfl) rfl ⟨⟨_, rfl, ⟨rfl, rfl, rfl, fun _ _ => rfl⟩⟩, trivial⟩ ⟨⟨1, _, rfl, rfl, rfl, ⟨rfl, rfl, rfl, fun _ hi => absurd hi (Nat.not_lt_zero _)⟩⟩, trivial⟩ (kept_nil _)
            · have hf : badD u i = false := hc
              clear hc
              refine evC_skip ?_
              refine then_normal ?_
              refine evC_goL (dec := []) (ks := [(0, 0), (0, 2), (0, 3), (0, 4), (0, 6), (0, 22), (0, 23), (51, 0)]) (ps := [(i + (1 : Nat)) * (40 : Nat) ≤ (140737488355328 : Nat), i + (1 : Nat) ≤ maxLen, (1 : Nat) = (0 : Nat) ∨ (5 : Nat) = (5 : Nat), (5 : Nat) = (5 : Nat), (28 : Nat) = (28 : Nat)]) (s' := ⟨[(0, 0, Cont.cell (AV.rs 1 n false (nU u))), (0, 2, Cont.cell AV.nils), (0, 3, Cont.cell (AV.int IntKind.i64 0)), (0, 4, Cont.cell (AV.int IntKind.i64 0)), (0, 6, Cont.cell (AV.vs 51)), (0, 22, Cont.cell (AV.int IntKind.i64 (↑(n / 11) : Int))), (0, 23, Cont.cell (AV.int IntKind.i64 (↑i : Int))), (51, 0, Cont.vec 5 28 (i + 1) (catF i (nO (decL u)) (pget [(0, AV.agg [AV.int IntKind.i64 (Prod.fst (decL u i)), AV.int IntKind.i64 (Prod.fst (Prod.snd (decL u i))), AV.int IntKind.i64 (Prod.fst (Prod.snd (Prod.snd (decL u i)))), AV.int IntKind.i64 (Prod.fst (Prod.snd (Prod.snd (Prod.snd (decL u i))))), AV.int IntKind.i64 (Prod.snd (Prod.snd (Prod.snd (Prod.snd (decL u i)))))])])))], 67, 62⟩) (by kernel_rfl) (by kernel_rfl) ?_ ?_
              · (simp only [All]; (repeat' apply And.intro) <;> (try intro _) <;> (try intro _) <;> (repeat' apply And.intro) <;> (try intro _) <;> (try intro _) <;> first | trivial | assumption | exact .inr trivial | exact .inr rfl | omega | rfl | exact ⟨_, rfl, rfl⟩ | exact ⟨rfl, rfl⟩ | exact ⟨fun _ => rfl, fun _ => rfl⟩ | (unfold maxLen; omega) | (unfold i64R; first | omega | decide) | decide)
              refine block_normal ?_
              refine then_normal ?_
              refine evC_goL0 (dec := []) (ks := [(0, 0), (0, 2), (0, 3), (0, 4), (0, 6), (0, 22), (0, 23), (51, 0)]) (s' := ⟨[(0, 0, Cont.cell (AV.rs 1 n false (nU u))), (0, 2, Cont.cell AV.nils), (0, 3, Cont.cell (AV.int IntKind.i64 0)), (0, 4, Cont.cell (AV.int IntKind.i64 0)), (0, 6, Cont.cell (AV.vs 51)), (0, 22, Cont.cell (AV.int IntKind.i64 (↑(n / 11) : Int))), (0, 23, Cont.cell (AV.int IntKind.i64 (IntKind.i64.wrap ((↑i : Int) + 1)))), (51, 0, Cont.vec 5 28 (i + 1) (catF i (nO (decL u)) (pget [(0, AV.agg [AV.int IntKind.i64 (Prod.fst (decL u i)), AV.int IntKind.i64 (Prod.fst (Prod.snd (decL u i))), AV.int IntKind.i64 (Prod.fst (Prod.snd (Prod.snd (decL u i)))), AV.int IntKind.i64 (Prod.fst (Prod.snd (Prod.snd (Prod.snd (decL u i))))), AV.int IntKind.i64 (Prod.snd (Prod.snd (Prod.snd (Prod.snd (decL u i)))))])])))], 83, 62⟩) (by kernel_rfl) (by kernel_rfl) ?_
              rw [wrap_add_one hlt (by omega)]
              refine round_normal (⟨i + 1, by omega, fun j hj' => ?_⟩) (wk_go [51] rfl (by decide) rfl rfl ⟨⟨_, rfl, rfl⟩, ⟨_, rfl, rfl⟩, ⟨_, rfl, rfl⟩, ⟨_, rfl, rfl⟩, ⟨_, rfl, rfl⟩, ⟨_, rfl, rfl⟩, ⟨_, rfl, rfl⟩, ⟨_, rfl, ?_⟩, trivial⟩) ?_
              · rcases Nat.lt_or_ge j i with h | h
                · exact hj j h
                · have : j = i := by omega
                  subst this; exact hf
              · exact ⟨rfl, rfl, rfl, fun y hy => catF_snoc (n := i) (F := nO (decL u)) rfl y hy⟩
              · show n / 11 - (i + 1) < n / 11 - i; omega
          · have hlt : i = n / 11 := by have := of_decide_eq_false hc; omega
            subst hlt
            clear hc
            obtain ⟨q1, q2, q3⟩ := dec_good (u := u) hn h64 hj
            rw [q1, q2, q3]
            refine evC_exit ?_
            refine then_exit ?_
            refine round_exit ?_
            refine block_exit ?_
            refine then_normal ?_
            refine evC_go0 (dec := []) (ks := [(0, 2), (0, 3), (0, 4), (1, 0)]) (s' := ⟨[(0, 2, Cont.cell (AV.vs 1)), (0, 3, Cont.cell (AV.int IntKind.i64 0)), (0, 4, Cont.cell (AV.int IntKind.i64 0)), (1, 0, Cont.vec 5 28 (n / 11) (nO (decL u)))], 42, 62⟩) (by kernel_rfl) (by kernel_rfl) ?_
            refine evC_ret ?_
            refine post_ret ?_
            refine ends_go [1] (AV.tup [AV.vs 1, AV.int IntKind.i64 0, AV.int IntKind.i64 0]) [(1, 0, Cont.vec 5 28 (n / 11) (nO (decL u)))] rfl (by decide) rfl rfl (has_of _ rfl) rfl ⟨⟨_, rfl, ⟨rfl, rfl, rfl, fun _ _ => rfl⟩⟩, trivial⟩ ⟨⟨1, _, rfl, rfl, rfl, ⟨rfl, rfl, rfl, fun _ _ => ⟨has_of _ rfl, rfl⟩⟩⟩, trivial⟩ (kept_nil _)
    · cases e
  · cases e
end Go.Eng.S22
