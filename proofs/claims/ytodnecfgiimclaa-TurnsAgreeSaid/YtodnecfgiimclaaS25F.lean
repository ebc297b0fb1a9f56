/- Seat 25: the number of bytes, walked. -/
import Derived.Test.YtodnecfgiimclaaEngX
import Derived.Test.YtodnecfgiimclaaS25E
set_option linter.unusedSimpArgs false
set_option linter.unusedVariables false
namespace Go.Eng.S25
open Go.Proofs Go.IntWalk
set_option maxRecDepth 10000

def numL : List Int → Int
  | [] => 0
  | x :: L => x + 256 * numL L
theorem numL_snoc : ∀ (L : List Int) (x : Int), numL (L ++ [x]) = numL L + x * 256 ^ L.length
  | [], x => by simp [numL]
  | y :: L, x => by
    rw [List.cons_append, numL, numL_snoc, numL, List.length_cons, Int.pow_succ, Int.mul_add]
    have : x * (256 ^ L.length * 256) = 256 * (x * 256 ^ L.length) := by rw [← Int.mul_assoc, Int.mul_comm]
    omega
theorem numL_rng : ∀ {L : List Int}, IsU L → 0 ≤ numL L ∧ numL L < 256 ^ L.length
  | [], _ => ⟨Int.le_refl _, by simp [numL]⟩
  | x :: L, h => by
    have h1 := h x List.mem_cons_self
    have h2 := numL_rng (L := L) fun y hy => h y (List.mem_cons_of_mem _ hy)
    rw [numL, List.length_cons, Int.pow_succ]
    omega
theorem u64_in {x : Int} (h : 0 ≤ x ∧ x < 18446744073709551616) : IntKind.u64.wrap x = x := by
  rw [IntKind.wrap_u64]; omega
theorem ofInt_nat {a : Nat} (h : a < 18446744073709551616) : (BitVec.ofInt 64 (a : Int)).toNat = a := by
  rw [BitVec.toNat_ofInt]
  show ((a : Int) % (2 ^ 64 : Nat)).toNat = a
  rw [Int.emod_eq_of_lt (by omega) (by show (a : Int) < 18446744073709551616; omega)]
  rfl
theorem or_byte {a c : Int} {i : Nat} (hi : i < 8) (ha : 0 ≤ a ∧ a < 256 ^ i) (hc : 0 ≤ c ∧ c ≤ 255) : IntKind.u64.wrap (BitVec.ofInt IntKind.u64.bits a ||| BitVec.ofInt IntKind.u64.bits (IntKind.u64.wrap (IntKind.u64.wrap c * 2 ^ min (8 * (i : Int)).toNat IntKind.u64.bits))).toNat = a + c * 256 ^ i := by
  have e1 : min (8 * (i : Int)).toNat IntKind.u64.bits = 8 * i := by
    show min (8 * (i : Int)).toNat 64 = 8 * i
    omega
  have e2 : (2 : Int) ^ (8 * i) = 256 ^ i := by rw [Int.pow_mul]; rfl
  have e3 : (256 : Int) ^ i = ((256 ^ i : Nat) : Int) := by rw [Int.natCast_pow]; rfl
  have e4 : (256 : Nat) ^ i = 2 ^ (8 * i) := by rw [Nat.pow_mul]
  have e5 : (256 : Nat) ^ i ≤ 256 ^ 7 := Nat.pow_le_pow_right (by omega) (by omega)
  obtain ⟨a, rfl⟩ := Int.eq_ofNat_of_zero_le ha.1
  obtain ⟨c, rfl⟩ := Int.eq_ofNat_of_zero_le hc.1
  have ha2 : a < 256 ^ i := by have := ha.2; rw [e3] at this; omega
  have hc2 : c ≤ 255 := by omega
  have h1 : c * 256 ^ i ≤ 255 * 256 ^ 7 := Nat.mul_le_mul hc2 e5
  rw [e1, e2, u64_in (x := (c : Int)) (by omega), e3, ← Int.natCast_mul, u64_in (x := ((c * 256 ^ i : Nat) : Int)) (by omega)]
  show IntKind.u64.wrap ((BitVec.ofInt 64 (a : Int) ||| BitVec.ofInt 64 ((c * 256 ^ i : Nat) : Int)).toNat : Int) = _
  rw [BitVec.toNat_or, ofInt_nat (by omega), ofInt_nat (by omega)]
  have h2 : a ||| c * 256 ^ i = a + c * 256 ^ i := by
    rw [Nat.or_comm, Nat.mul_comm c, e4, ← Nat.two_pow_add_eq_or_of_lt (by rw [← e4]; exact ha2), Nat.add_comm]
  rw [h2, u64_in (x := ((a + c * 256 ^ i : Nat) : Int)) (by omega)]
  rw [Int.natCast_add, Int.natCast_mul]
def sNum : Spec := fun args hr _ => match args with
  | [v] => match sl 1 hr v with
    | some (m, f, rd) => some ⟨[IsB m f, m ≤ 8], .int .u64 (numL (bytesL m f)), rd, []⟩
    | none => none
  | _ => none
theorem num_ok : SpecOK Try.prog 34 sNum := by
  refine spec_own (by kernel_rfl) T_ok sget_nil Try.func34 rfl rfl fun args hr nb out e => ?_
  unfold sNum at e
  split at e
  · rename_i v
    split at e
    · rename_i m f rd hs1
      injection e with e; subst e
      by_cases hB : IsB m f
      rotate_left
      · exact ⟨fun x hx => sl_rd hs1 x hx, true, [], rfl, fun hs => absurd (hs _ List.mem_cons_self) hB⟩
      obtain ⟨L, rfl, hL, eL, hf⟩ := hB.list
      refine ⟨fun x hx => sl_rd hs1 x hx, false, [bs L], rfl, fun hs => ?_⟩
      have h8 := hs _ (List.mem_cons_of_mem _ List.mem_cons_self)
      refine ⟨.cons _ _ _ _ (.slice _ _ _ _ _ hs1 (fun y hy => ⟨hy, by simp⟩) _ fun i hi => ⟨hf i hi, (nU_flat _ i).has⟩) .nil, ?_⟩
      rw [eL]
      clear hs hB hf eL hs1
      unfold bs
      refine evC_go0 (dec := []) (ks := [(0, 0), (0, 2)]) (s' := ⟨[(0, 0, Cont.cell (AV.rs 1 (List.length L) false (nU L))), (0, 2, Cont.cell (AV.int IntKind.u64 0))], 33, 22⟩) (by kernel_rfl) (by kernel_rfl) ?_
      refine evC_go0 (dec := []) (ks := [(0, 0), (0, 2), (0, 3)]) (s' := ⟨[(0, 0, Cont.cell (AV.rs 1 (List.length L) false (nU L))), (0, 2, Cont.cell (AV.int IntKind.u64 0)), (0, 3, Cont.cell (AV.int IntKind.u64 0))], 65, 22⟩) (by kernel_rfl) (by kernel_rfl) ?_
      refine evC_seq ?_
      refine evC_go0 (dec := []) (ks := [(0, 2), (0, 3), (0, 6), (0, 7), (0, 8)]) (s' := ⟨[(0, 2, Cont.cell (AV.int IntKind.u64 0)), (0, 3, Cont.cell (AV.int IntKind.u64 0)), (0, 6, Cont.cell (AV.rs 1 (List.length L) false (nU L))), (0, 7, Cont.cell (AV.int IntKind.i64 (↑(List.length L) : Int))), (0, 8, Cont.cell (AV.int IntKind.i64 0))], 161, 22⟩) (by kernel_rfl) (by kernel_rfl) ?_
      refine evC_block ?_
      refine evC_loop (ι := { i : Nat // i ≤ L.length }) (fun i => ⟨[(0, 2, Cont.cell (AV.int IntKind.u64 0)), (0, 3, .cell (.int .u64 (numL (L.take i.1)))), (0, 6, Cont.cell (AV.rs 1 (List.length L) false (nU L))), (0, 7, Cont.cell (AV.int IntKind.i64 (↑(List.length L) : Int))), (0, 8, .cell (.int .i64 (i.1 : Nat)))], 1, 22⟩) (fun i => L.length - i.1) ⟨0, Nat.zero_le _⟩ (wk_go [] rfl (by decide) rfl rfl ⟨⟨_, rfl, rfl⟩, ⟨_, rfl, rfl⟩, ⟨_, rfl, rfl⟩, ⟨_, rfl, rfl⟩, ⟨_, rfl, rfl⟩, trivial⟩) ?_
      rintro ⟨i, hi⟩
      refine evC_go0 (dec := []) (ks := [(0, 2), (0, 3), (0, 6), (0, 7), (0, 8), (0, 9)]) (s' := ⟨[(0, 2, Cont.cell (AV.int IntKind.u64 0)), (0, 3, Cont.cell (AV.int IntKind.u64 (numL (List.take i L)))), (0, 6, Cont.cell (AV.rs 1 (List.length L) false (nU L))), (0, 7, Cont.cell (AV.int IntKind.i64 (↑(List.length L) : Int))), (0, 8, Cont.cell (AV.int IntKind.i64 (↑i : Int))), (0, 9, Cont.cell (AV.bool (decide ((↑i : Int) < (↑(List.length L) : Int)))))], 33, 22⟩) (by kernel_rfl) (by kernel_rfl) ?_
      refine evC_seq ?_
      refine evC_if (q := decide ((↑i : Int) < (↑(List.length L) : Int))) (by kernel_rfl) (fun hc => ?_) (fun hc => ?_)
      · have hlt : i < L.length := by have := of_decide_eq_true hc; omega
        clear hc
        refine evC_skip ?_
        refine then_normal ?_
        refine evC_seq ?_
        refine evC_block ?_
        refine evC_go (dec := []) (ks := [(0, 2), (0, 3), (0, 4), (0, 5), (0, 6), (0, 7), (0, 8)]) (ps := [(0 : Int) ≤ (↑i : Int), (↑i : Int) < (↑(List.length L) : Int), (1 : Nat) = (1 : Nat)]) (s' := ⟨[(0, 2, Cont.cell (AV.int IntKind.u64 0)), (0, 3, Cont.cell (AV.int IntKind.u64 (numL (List.take i L)))), (0, 4, Cont.cell (AV.int IntKind.i64 (↑i : Int))), (0, 5, Cont.cell (AV.int IntKind.u8 (List.getD L i 0))), (0, 6, Cont.cell (AV.rs 1 (List.length L) false (nU L))), (0, 7, Cont.cell (AV.int IntKind.i64 (↑(List.length L) : Int))), (0, 8, Cont.cell (AV.int IntKind.i64 (↑i : Int)))], 193, 22⟩) (by kernel_rfl) (by kernel_rfl) ?_ ?_
        · (simp only [All]; (repeat' apply And.intro) <;> (try intro _) <;> (try intro _) <;> (repeat' apply And.intro) <;> (try intro _) <;> (try intro _) <;> first | trivial | assumption | exact .inr trivial | exact .inr rfl | omega | rfl | exact ⟨_, rfl, rfl⟩ | exact ⟨rfl, rfl⟩ | exact ⟨fun _ => rfl, fun _ => rfl⟩ | (unfold maxLen; omega) | (unfold i64R; first | omega | decide) | decide)
        refine evC_goL (dec := []) (ks := [(0, 2), (0, 3), (0, 6), (0, 7), (0, 8)]) (ps := [(0 : Int) ≤ IntKind.i64.wrap ((8 : Int) * (↑i : Int))]) (s' := ⟨[(0, 2, Cont.cell (AV.int IntKind.u64 0)), (0, 3, Cont.cell (AV.int IntKind.u64 (IntKind.wrap IntKind.u64 (↑(BitVec.toNat (BitVec.ofInt (IntKind.bits IntKind.u64) (numL (List.take i L)) ||| BitVec.ofInt (IntKind.bits IntKind.u64) (IntKind.wrap IntKind.u64 (IntKind.wrap IntKind.u64 (List.getD L i 0) * 2 ^ min (Int.toNat (IntKind.i64.wrap (8 * (↑i : Int)))) (IntKind.bits IntKind.u64))))) : Int)))), (0, 6, Cont.cell (AV.rs 1 (List.length L) false (nU L))), (0, 7, Cont.cell (AV.int IntKind.i64 (↑(List.length L) : Int))), (0, 8, Cont.cell (AV.int IntKind.i64 (↑i : Int)))], 449, 22⟩) (by kernel_rfl) (by kernel_rfl) ?_ ?_
        · rw [i64_in (8 * (i : Int)) (by omega)]
          (simp only [All]; (repeat' apply And.intro) <;> (try intro _) <;> (try intro _) <;> (repeat' apply And.intro) <;> (try intro _) <;> (try intro _) <;> first | trivial | assumption | exact .inr trivial | exact .inr rfl | omega | rfl | exact ⟨_, rfl, rfl⟩ | exact ⟨rfl, rfl⟩ | exact ⟨fun _ => rfl, fun _ => rfl⟩ | (unfold maxLen; omega) | (unfold i64R; first | omega | decide) | decide)
        rw [i64_in (8 * (i : Int)) (by omega)]
        have hx : 0 ≤ L.getD i 0 ∧ L.getD i 0 ≤ 255 := ((isB hL).get i hlt).2
        have ht : IsU (L.take i) := fun y hy => hL y (List.mem_of_mem_take hy)
        have hr := numL_rng ht
        have hlen : (L.take i).length = i := by rw [List.length_take]; omega
        rw [hlen] at hr
        have htk : L.take (i + 1) = L.take i ++ [L.getD i 0] := by
          rw [List.take_add_one, List.getD_eq_getElem?_getD, List.getElem?_eq_getElem hlt]; rfl
        rw [or_byte (by omega) hr hx]
        refine block_normal ?_
        refine then_normal ?_
        refine evC_goL0 (dec := []) (ks := [(0, 2), (0, 3), (0, 6), (0, 7), (0, 8)]) (s' := ⟨[(0, 2, Cont.cell (AV.int IntKind.u64 0)), (0, 3, Cont.cell (AV.int IntKind.u64 (numL (List.take i L) + List.getD L i 0 * 256 ^ i))), (0, 6, Cont.cell (AV.rs 1 (List.length L) false (nU L))), (0, 7, Cont.cell (AV.int IntKind.i64 (↑(List.length L) : Int))), (0, 8, Cont.cell (AV.int IntKind.i64 (IntKind.i64.wrap ((↑i : Int) + 1))))], 513, 22⟩) (by kernel_rfl) (by kernel_rfl) ?_
        refine round_normal (⟨i + 1, hlt⟩) (wk_go [] rfl (by decide) rfl rfl ⟨⟨_, rfl, rfl⟩, ⟨_, rfl, ?_⟩, ⟨_, rfl, rfl⟩, ⟨_, rfl, rfl⟩, ⟨_, rfl, ?_⟩, trivial⟩) ?_
        · show AV.int .u64 _ = AV.int .u64 _
          rw [htk, numL_snoc, hlen]
        · show AV.int .i64 _ = AV.int .i64 _
          rw [i64_in ((i : Int) + 1) (by omega)]
          rfl
        · show L.length - (i + 1) < L.length - i
          omega
      · have : i = L.length := by have := of_decide_eq_false hc; omega
        subst this
        refine evC_exit ?_
        refine then_exit ?_
        refine round_exit ?_
        refine block_exit ?_
        refine then_normal ?_
        refine evC_go0 (dec := []) (ks := [(0, 2)]) (s' := ⟨[(0, 2, Cont.cell (AV.int IntKind.u64 (numL (List.take (List.length L) L))))], 97, 22⟩) (by kernel_rfl) (by kernel_rfl) ?_
        refine evC_ret ?_
        refine post_ret ?_
        refine ends_flat (vs := [AV.int IntKind.u64 (numL (List.take (List.length L) L))]) (Nat.zero_lt_succ _) (by kernel_rfl) (flat_of _ (by kernel_rfl)) rfl ?_
        rw [List.take_length]
        rfl
    · cases e
  · cases e
end Go.Eng.S25
