/- Seat 22: bytes of orders, walked. -/
import Derived.Test.YtdflehcijhejlaaEngX
import Derived.Test.YtdflehcijhejlaaS22A
set_option linter.unusedSimpArgs false
set_option linter.unusedVariables false
namespace Go.Eng.S22
open Go.Proofs Go.IntWalk
set_option maxRecDepth 10000

/-- A number's byte. -/
def by4 (v : Int) (i : Nat) : Int := v / 256 ^ i % 256
theorem by4_rng (v : Int) (i : Nat) : 0 ≤ by4 v i ∧ by4 v i ≤ 255 := by unfold by4; omega
def lstU (l : List Int) (i : Nat) : AV := .int .u8 (l.getD i 0)
def four (v : Int) : List Int := [by4 v 0, by4 v 1, by4 v 2, by4 v 3]
theorem shr_by4 (v : Int) (k : Int) (i : Nat) (h : (2 : Int) ^ min (Int.toNat k) IntKind.i64.bits = 256 ^ i) : IntKind.u8.wrap (v.fdiv (2 ^ min (Int.toNat k) IntKind.i64.bits)) = by4 v i := by
  rw [h, IntKind.wrap_u8, Int.fdiv_eq_ediv_of_nonneg _ (Int.le_of_lt (Int.pow_pos (by omega)))]
  rfl
def sFour : Spec := fun args _ nb => match args with
  | [.int .i64 v] => some ⟨[], .vs nb, [], [(nb, 0, .vec 1 5 4 (lstU (four v)))]⟩
  | _ => none
theorem four_ok : SpecOK Try.prog 25 sFour := by
  refine spec_own (by kernel_rfl) T_ok sget_nil Try.func25 rfl rfl fun args hr nb out e => ?_
  unfold sFour at e
  split at e
  · rename_i v
    injection e with e; subst e
    refine ⟨(fun _ h => nomatch h), true, [.int .i64 v], rfl, fun _ => ⟨.cons _ _ _ _ (.same _ _ (.int _ _)) .nil, ?_⟩⟩
    refine evC_go0 (dec := []) (ks := [(0, 0), (0, 2)]) (s' := ⟨[(0, 0, Cont.cell (AV.int IntKind.i64 v)), (0, 2, Cont.cell AV.nils)], 9, 15⟩) (by kernel_rfl) (by kernel_rfl) ?_
    refine evC_go (dec := []) (ks := [(0, 2), (97, 0)]) (ps := [(0 : Int) ≤ (8 : Int), (0 : Int) ≤ (16 : Int), (0 : Int) ≤ (24 : Int)]) (s' := ⟨[(0, 2, Cont.cell (AV.vs 97)), (97, 0, Cont.vec 1 5 4 (pget [(0, AV.int IntKind.u8 (IntKind.wrap IntKind.u8 v)), (1, AV.int IntKind.u8 (IntKind.wrap IntKind.u8 (Int.fdiv v (2 ^ min (Int.toNat 8) (IntKind.bits IntKind.i64))))), (2, AV.int IntKind.u8 (IntKind.wrap IntKind.u8 (Int.fdiv v (2 ^ min (Int.toNat 16) (IntKind.bits IntKind.i64))))), (3, AV.int IntKind.u8 (IntKind.wrap IntKind.u8 (Int.fdiv v (2 ^ min (Int.toNat 24) (IntKind.bits IntKind.i64)))))]))], 113, 15⟩) (by kernel_rfl) (by kernel_rfl) ?_ ?_
    · (simp only [All]; (repeat' apply And.intro) <;> (try intro _) <;> (try intro _) <;> (repeat' apply And.intro) <;> (try intro _) <;> (try intro _) <;> first | trivial | assumption | exact .inr trivial | exact .inr rfl | omega | rfl | exact ⟨_, rfl, rfl⟩ | exact ⟨rfl, rfl⟩ | exact ⟨fun _ => rfl, fun _ => rfl⟩ | (unfold maxLen; omega) | (unfold i64R; first | omega | decide) | decide)
    have e0 : IntKind.u8.wrap v = by4 v 0 := by rw [IntKind.wrap_u8]; unfold by4; simp
    have e1 : IntKind.u8.wrap (v.fdiv (2 ^ min (Int.toNat 8) IntKind.i64.bits)) = by4 v 1 := shr_by4 v 8 1 rfl
    have e2 : IntKind.u8.wrap (v.fdiv (2 ^ min (Int.toNat 16) IntKind.i64.bits)) = by4 v 2 := shr_by4 v 16 2 rfl
    have e3 : IntKind.u8.wrap (v.fdiv (2 ^ min (Int.toNat 24) IntKind.i64.bits)) = by4 v 3 := shr_by4 v 24 3 rfl
    rw [e0, e1, e2, e3]
    refine evC_wk (s' := ⟨[(0, 2, Cont.cell (AV.vs 1)), (1, 0, .vec 1 5 4 (lstU (four v)))], 2, 15⟩) _ (wk_go [97] rfl (by decide) rfl rfl ⟨⟨_, rfl, rfl⟩, ⟨_, rfl, ?_⟩, trivial⟩) ?_
    · refine ⟨rfl, rfl, rfl, fun j hj => ?_⟩
      rcases (by omega : j = 0 ∨ j = 1 ∨ j = 2 ∨ j = 3) with rfl | rfl | rfl | rfl <;> rfl
    refine evC_ret ?_
    refine post_ret ?_
    refine ends_go [1] (AV.vs 1) [(1, 0, Cont.vec 1 5 4 (lstU (four v)))] rfl (by decide) rfl rfl (has_of _ rfl) rfl ⟨⟨_, rfl, ⟨rfl, rfl, rfl, fun _ _ => rfl⟩⟩, trivial⟩ ⟨⟨1, _, rfl, rfl, rfl, ⟨rfl, rfl, rfl, fun _ _ => ⟨has_of _ rfl, rfl⟩⟩⟩, trivial⟩ (kept_nil _)
  · cases e

theorem pow_pos256 (i : Nat) : (0 : Int) < 256 ^ i := Int.pow_pos (by omega)
theorem pow_div {v : Int} (h : 0 ≤ v) (i : Nat) : 0 ≤ v / 256 ^ i ∧ v / 256 ^ i ≤ v :=
  ⟨Int.ediv_nonneg h (Int.le_of_lt (pow_pos256 i)), Int.ediv_le_self _ h⟩
theorem pow_next (v : Int) (i : Nat) : v / 256 ^ (i + 1) = v / 256 ^ i / 256 := by
  rw [Int.pow_succ, Int.ediv_ediv_of_nonneg (Int.le_of_lt (pow_pos256 i))]
def sByte : Spec := fun args _ _ => match args with
  | [.int .i64 v, .int .i64 k] => some ⟨[0 ≤ v ∧ v ≤ 9223372036854775807 ∧ 0 ≤ k ∧ k ≤ 3], .int .u8 (by4 v k.toNat), [], []⟩
  | _ => none
theorem byteOf_ok : SpecOK Try.prog 24 sByte := by
  refine spec_own (by kernel_rfl) T_ok sget_nil Try.func24 rfl rfl fun args hr nb out e => ?_
  unfold sByte at e
  split at e
  · rename_i v k
    injection e with e; subst e
    refine ⟨(fun _ h => nomatch h), true, [.int .i64 v, .int .i64 k], rfl, fun hs => ⟨.cons _ _ _ _ (.same _ _ (.int _ _)) (.cons _ _ _ _ (.same _ _ (.int _ _)) .nil), ?_⟩⟩
    obtain ⟨h0, h1, h2, h3⟩ := hs _ List.mem_cons_self
    clear hs
    obtain ⟨n, rfl⟩ := Int.eq_ofNat_of_zero_le h2
    have e0 : (Int.toNat (n : Int)) = n := by omega
    rw [e0]
    refine evC_go0 (dec := []) (ks := [(0, 0), (0, 1), (0, 4)]) (s' := ⟨[(0, 0, Cont.cell (AV.int IntKind.i64 v)), (0, 1, Cont.cell (AV.int IntKind.i64 (↑n : Int))), (0, 4, Cont.cell (AV.int IntKind.u8 0))], 9, 16⟩) (by kernel_rfl) (by kernel_rfl) ?_
    refine evC_seq ?_
    refine evC_go0 (dec := []) (ks := [(0, 0), (0, 1), (0, 4), (0, 5)]) (s' := ⟨[(0, 0, Cont.cell (AV.int IntKind.i64 v)), (0, 1, Cont.cell (AV.int IntKind.i64 (↑n : Int))), (0, 4, Cont.cell (AV.int IntKind.u8 0)), (0, 5, Cont.cell (AV.int IntKind.i64 0))], 17, 16⟩) (by kernel_rfl) (by kernel_rfl) ?_
    refine evC_block ?_
    refine evC_loop (ι := { i : Nat // i ≤ n }) (fun x => ⟨[(0, 0, .cell (.int .i64 (v / 256 ^ x.1))), (0, 1, Cont.cell (AV.int IntKind.i64 (↑n : Int))), (0, 4, Cont.cell (AV.int IntKind.u8 0)), (0, 5, .cell (.int .i64 (x.1 : Nat)))], 1, 16⟩) (fun x => n - x.1) ⟨0, Nat.zero_le _⟩ (wk_go [] rfl (by decide) rfl rfl ⟨⟨_, rfl, ?_⟩, ⟨_, rfl, rfl⟩, ⟨_, rfl, rfl⟩, ⟨_, rfl, rfl⟩, trivial⟩) ?_
    · show AV.int .i64 _ = AV.int .i64 _
      simp
    rintro ⟨i, hi⟩
    have hb := pow_div h0 i
    refine evC_seq ?_
    refine evC_go0 (dec := []) (ks := [(0, 0), (0, 1), (0, 4), (0, 5), (0, 8)]) (s' := ⟨[(0, 0, Cont.cell (AV.int IntKind.i64 (v / 256 ^ i))), (0, 1, Cont.cell (AV.int IntKind.i64 (↑n : Int))), (0, 4, Cont.cell (AV.int IntKind.u8 0)), (0, 5, Cont.cell (AV.int IntKind.i64 (↑i : Int))), (0, 8, Cont.cell (AV.bool (decide ((↑i : Int) < (↑n : Int)))))], 25, 16⟩) (by kernel_rfl) (by kernel_rfl) ?_
    refine evC_if (q := decide ((↑i : Int) < (↑n : Int))) (by kernel_rfl) (fun hc => ?_) (fun hc => ?_)
    · have hlt : i < n := by have := of_decide_eq_true hc; omega
      refine evC_skip ?_
      refine then_normal ?_
      refine evC_seq ?_
      refine evC_block ?_
      refine evC_goL (dec := []) (ks := [(0, 0), (0, 1), (0, 4), (0, 5)]) (ps := [(256 : Int) ≠ (0 : Int)]) (s' := ⟨[(0, 0, Cont.cell (AV.int IntKind.i64 (IntKind.i64.wrap (Int.tdiv (v / 256 ^ i) 256)))), (0, 1, Cont.cell (AV.int IntKind.i64 (↑n : Int))), (0, 4, Cont.cell (AV.int IntKind.u8 0)), (0, 5, Cont.cell (AV.int IntKind.i64 (↑i : Int)))], 49, 16⟩) (by kernel_rfl) (by kernel_rfl) ?_ ?_
      · (simp only [All]; (repeat' apply And.intro) <;> (try intro _) <;> (try intro _) <;> (repeat' apply And.intro) <;> (try intro _) <;> (try intro _) <;> first | trivial | assumption | exact .inr trivial | exact .inr rfl | omega | rfl | exact ⟨_, rfl, rfl⟩ | exact ⟨rfl, rfl⟩ | exact ⟨fun _ => rfl, fun _ => rfl⟩ | (unfold maxLen; omega) | (unfold i64R; first | omega | decide) | decide)
      rw [Int.tdiv_eq_ediv_of_nonneg hb.1]
      refine block_normal ?_
      refine then_normal ?_
      refine evC_goL0 (dec := []) (ks := [(0, 0), (0, 1), (0, 4), (0, 5)]) (s' := ⟨[(0, 0, Cont.cell (AV.int IntKind.i64 (IntKind.i64.wrap (v / 256 ^ i / 256)))), (0, 1, Cont.cell (AV.int IntKind.i64 (↑n : Int))), (0, 4, Cont.cell (AV.int IntKind.u8 0)), (0, 5, Cont.cell (AV.int IntKind.i64 (IntKind.i64.wrap ((↑i : Int) + 1))))], 73, 16⟩) (by kernel_rfl) (by kernel_rfl) ?_
      rw [wrap_add_one hlt (by omega)]
      refine round_normal (⟨i + 1, hlt⟩) (wk_go [] rfl (by decide) rfl rfl ⟨⟨_, rfl, ?_⟩, ⟨_, rfl, rfl⟩, ⟨_, rfl, rfl⟩, ⟨_, rfl, rfl⟩, trivial⟩) ?_
      · show AV.int .i64 _ = AV.int .i64 _
        rw [pow_next]
        generalize v / 256 ^ i = q at hb
        have e9 : IntKind.i64.wrap (q / 256) = q / 256 := by rw [i64_in] <;> omega
        rw [e9]
      · show n - (i + 1) < n - i; omega
    · have hlt : i = n := by have := of_decide_eq_false hc; omega
      subst hlt
      refine evC_exit ?_
      refine then_exit ?_
      refine round_exit ?_
      refine block_exit ?_
      refine then_normal ?_
      refine evC_go (dec := []) (ks := [(0, 4)]) (ps := [(256 : Int) ≠ (0 : Int)]) (s' := ⟨[(0, 4, Cont.cell (AV.int IntKind.u8 (IntKind.wrap IntKind.u8 (Int.tmod (v / 256 ^ i) 256))))], 57, 16⟩) (by kernel_rfl) (by kernel_rfl) ?_ ?_
      · (simp only [All]; (repeat' apply And.intro) <;> (try intro _) <;> (try intro _) <;> (repeat' apply And.intro) <;> (try intro _) <;> (try intro _) <;> first | trivial | assumption | exact .inr trivial | exact .inr rfl | omega | rfl | exact ⟨_, rfl, rfl⟩ | exact ⟨rfl, rfl⟩ | exact ⟨fun _ => rfl, fun _ => rfl⟩ | (unfold maxLen; omega) | (unfold i64R; first | omega | decide) | decide)
      have e2 : IntKind.u8.wrap ((v / 256 ^ i).tmod 256) = by4 v i := by
        rw [Int.tmod_eq_emod_of_nonneg hb.1, IntKind.wrap_u8]
        unfold by4; omega
      rw [e2]
      refine evC_ret ?_
      refine post_ret ?_
      refine ends_flat (vs := [AV.int IntKind.u8 (by4 v i)]) (Nat.zero_lt_succ _) (by kernel_rfl) (flat_of _ (by kernel_rfl)) rfl ?_
      rfl
  · cases e

def U (f : Nat → AV) : Nat → Int := fun i => iv (f i)
def nU (u : Nat → Int) : Nat → AV := fun i => .int .u8 (u i)
theorem nU_flat (u : Nat → Int) (i : Nat) : Flat (nU u i) := .int _ _
theorem U_nU (u : Nat → Int) : U (nU u) = u := rfl
structure IsU (n : Nat) (f : Nat → AV) : Prop where
  get : ∀ i, i < n → f i = nU (U f) i ∧ 0 ≤ U f i ∧ U f i ≤ 255
def num4 (u : Nat → Int) (k : Nat) : Int := u k + 256 * u (k + 1) + 65536 * u (k + 2) + 16777216 * u (k + 3)
theorem num4_rng {u : Nat → Int} {k : Nat} (h : ∀ i, k ≤ i → i < k + 4 → 0 ≤ u i ∧ u i ≤ 255) : 0 ≤ num4 u k ∧ num4 u k ≤ 4294967295 := by
  have h0 := h k (by omega) (by omega)
  have h1 := h (k + 1) (by omega) (by omega)
  have h2 := h (k + 2) (by omega) (by omega)
  have h3 := h (k + 3) (by omega) (by omega)
  unfold num4; omega
theorem w64 {x : Int} (h0 : 0 ≤ x) (h1 : x ≤ 9223372036854775807) : IntKind.i64.wrap x = x := by rw [i64_in] <;> omega
theorem num_eq {a b c d : Int} (ha : 0 ≤ a ∧ a ≤ 255) (hb : 0 ≤ b ∧ b ≤ 255) (hc : 0 ≤ c ∧ c ≤ 255) (hd : 0 ≤ d ∧ d ≤ 255) :
    IntKind.i64.wrap (IntKind.i64.wrap (IntKind.i64.wrap (IntKind.i64.wrap a + IntKind.i64.wrap (256 * IntKind.i64.wrap b)) + IntKind.i64.wrap (65536 * IntKind.i64.wrap c)) + IntKind.i64.wrap (16777216 * IntKind.i64.wrap d)) = a + 256 * b + 65536 * c + 16777216 * d := by
  rw [w64 ha.1 (by omega), w64 hb.1 (by omega), w64 hc.1 (by omega), w64 hd.1 (by omega), w64 (x := 256 * b) (by omega) (by omega), w64 (x := 65536 * c) (by omega) (by omega), w64 (x := 16777216 * d) (by omega) (by omega),
    w64 (x := a + 256 * b) (by omega) (by omega), w64 (x := a + 256 * b + 65536 * c) (by omega) (by omega), w64 (x := a + 256 * b + 65536 * c + 16777216 * d) (by omega) (by omega)]
theorem or_step {x y : Int} {s : Nat} (h0 : 0 ≤ x) (h1 : x < 2 ^ s) (h2 : 0 ≤ y) (h3 : y ≤ 255) (hs : s ≤ 24) :
    IntKind.i64.wrap ((BitVec.ofInt IntKind.i64.bits x ||| BitVec.ofInt IntKind.i64.bits (y * 2 ^ s)).toNat : Int) = x + y * 2 ^ s := by
  obtain ⟨a, rfl⟩ := Int.eq_ofNat_of_zero_le h0
  obtain ⟨b, rfl⟩ := Int.eq_ofNat_of_zero_le h2
  have h1' : a < 2 ^ s := by exact_mod_cast h1
  have hp : 2 ^ s ≤ 2 ^ 24 := Nat.pow_le_pow_right (by omega) hs
  have hb : b * 2 ^ s ≤ 255 * 2 ^ 24 := Nat.mul_le_mul (by omega) hp
  have e : ((b : Int) * 2 ^ s) = ((b * 2 ^ s : Nat) : Int) := by push_cast; rfl
  rw [e, BitVec.toNat_or, BitVec.toNat_ofInt, BitVec.toNat_ofInt]
  have e1 : ((a : Int) % ((2 ^ IntKind.i64.bits : Nat) : Int)).toNat = a := by
    have : (2 ^ IntKind.i64.bits : Nat) = 18446744073709551616 := rfl
    rw [this]; omega
  have e2 : (((b * 2 ^ s : Nat) : Int) % ((2 ^ IntKind.i64.bits : Nat) : Int)).toNat = b * 2 ^ s := by
    have : (2 ^ IntKind.i64.bits : Nat) = 18446744073709551616 := rfl
    rw [this]; omega
  have e3 : a ||| b * 2 ^ s = a + b * 2 ^ s := by
    rw [Nat.or_comm, ← Nat.shiftLeft_eq, ← Nat.shiftLeft_add_eq_or_of_lt h1', Nat.add_comm]
  rw [e1, e2, e3, w64 (by omega) (by omega)]
  push_cast; rfl
theorem num_or {a b c d : Int} (ha : 0 ≤ a ∧ a ≤ 255) (hb : 0 ≤ b ∧ b ≤ 255) (hc : 0 ≤ c ∧ c ≤ 255) (hd : 0 ≤ d ∧ d ≤ 255) :
    IntKind.i64.wrap ((BitVec.ofInt IntKind.i64.bits (IntKind.i64.wrap ((BitVec.ofInt IntKind.i64.bits (IntKind.i64.wrap ((BitVec.ofInt IntKind.i64.bits (IntKind.i64.wrap a) ||| BitVec.ofInt IntKind.i64.bits (IntKind.i64.wrap (IntKind.i64.wrap b * 2 ^ min (Int.toNat 8) IntKind.i64.bits))).toNat : Int)) |||
      BitVec.ofInt IntKind.i64.bits (IntKind.i64.wrap (IntKind.i64.wrap c * 2 ^ min (Int.toNat 16) IntKind.i64.bits))).toNat : Int)) ||| BitVec.ofInt IntKind.i64.bits (IntKind.i64.wrap (IntKind.i64.wrap d * 2 ^ min (Int.toNat 24) IntKind.i64.bits))).toNat : Int) = a + 256 * b + 65536 * c + 16777216 * d := by
  have e1 : min (Int.toNat 8) IntKind.i64.bits = 8 := rfl
  have e2 : min (Int.toNat 16) IntKind.i64.bits = 16 := rfl
  have e3 : min (Int.toNat 24) IntKind.i64.bits = 24 := rfl
  rw [e1, e2, e3, w64 ha.1 (by omega), w64 hb.1 (by omega), w64 hc.1 (by omega), w64 hd.1 (by omega), w64 (x := b * 2 ^ 8) (by omega) (by omega), w64 (x := c * 2 ^ 16) (by omega) (by omega), w64 (x := d * 2 ^ 24) (by omega) (by omega),
    or_step (s := 8) ha.1 (by omega) hb.1 hb.2 (by omega), or_step (s := 16) (by omega) (by omega) hc.1 hc.2 (by omega), or_step (s := 24) (by omega) (by omega) hd.1 hd.2 (by omega)]
  omega
def sNumb : Spec := fun args hr _ => match args with
  | [v] => match sl 1 hr v with
    | some (n, f, rd) => some ⟨[n = 4 ∧ IsU 4 f], .int .i64 (num4 (U f) 0), rd, []⟩
    | none => none
  | _ => none
theorem number_ok : SpecOK Try.prog 26 sNumb := by
  refine spec_own (by kernel_rfl) T_ok sget_nil Try.func26 rfl rfl fun args hr nb out e => ?_
  unfold sNumb at e
  split at e
  · rename_i v
    split at e
    · rename_i n f rd hs1
      injection e with e; subst e
      refine ⟨fun x hx => sl_rd hs1 x hx, false, [.rs 1 n false (nU (U f))], rfl, fun hs => ?_⟩
      obtain ⟨rfl, h1⟩ := hs _ List.mem_cons_self
      refine ⟨.cons _ _ _ _ (.slice _ _ _ _ _ hs1 (fun y hy => ⟨hy, by simp⟩) _ fun i hi => ⟨(h1.get i hi).1, (nU_flat _ i).has⟩) .nil, ?_⟩
      clear hs
      have h2 : ∀ i, i < 4 → 0 ≤ U f i ∧ U f i ≤ 255 := fun i hi => (h1.get i hi).2
      clear h1
      generalize U f = u at h2 ⊢
      refine evC_go0 (dec := []) (ks := [(0, 0), (0, 2)]) (s' := ⟨[(0, 0, Cont.cell (AV.rs 1 4 false (nU u))), (0, 2, Cont.cell (AV.int IntKind.i64 0))], 9, 25⟩) (by kernel_rfl) (by kernel_rfl) ?_
      refine evC_go (dec := []) (ks := [(0, 2)]) (ps := [(0 : Int) ≤ (0 : Int), (0 : Int) < (↑(4 : Nat) : Int), (1 : Nat) = (1 : Nat), (0 : Int) ≤ (1 : Int), (1 : Int) < (↑(4 : Nat) : Int), (1 : Nat) = (1 : Nat), (0 : Int) ≤ (8 : Int), (0 : Int) ≤ (2 : Int), (2 : Int) < (↑(4 : Nat) : Int), (1 : Nat) = (1 : Nat), (0 : Int) ≤ (16 : Int), (0 : Int) ≤ (3 : Int), (3 : Int) < (↑(4 : Nat) : Int), (1 : Nat) = (1 : Nat), (0 : Int) ≤ (24 : Int)]) (s' := ⟨[(0, 2, Cont.cell (AV.int IntKind.i64 (IntKind.i64.wrap (↑(BitVec.toNat (BitVec.ofInt (IntKind.bits IntKind.i64) (IntKind.i64.wrap (↑(BitVec.toNat (BitVec.ofInt (IntKind.bits IntKind.i64) (IntKind.i64.wrap (↑(BitVec.toNat (BitVec.ofInt (IntKind.bits IntKind.i64) (IntKind.i64.wrap (u (Int.toNat 0))) ||| BitVec.ofInt (IntKind.bits IntKind.i64) (IntKind.i64.wrap (IntKind.i64.wrap (u (Int.toNat 1)) * 2 ^ min (Int.toNat 8) (IntKind.bits IntKind.i64))))) : Int)) ||| BitVec.ofInt (IntKind.bits IntKind.i64) (IntKind.i64.wrap (IntKind.i64.wrap (u (Int.toNat 2)) * 2 ^ min (Int.toNat 16) (IntKind.bits IntKind.i64))))) : Int)) ||| BitVec.ofInt (IntKind.bits IntKind.i64) (IntKind.i64.wrap (IntKind.i64.wrap (u (Int.toNat 3)) * 2 ^ min (Int.toNat 24) (IntKind.bits IntKind.i64))))) : Int))))], 193, 25⟩) (by kernel_rfl) (by kernel_rfl) ?_ ?_
      · (simp only [All]; (repeat' apply And.intro) <;> (try intro _) <;> (try intro _) <;> (repeat' apply And.intro) <;> (try intro _) <;> (try intro _) <;> first | trivial | assumption | exact .inr trivial | exact .inr rfl | omega | rfl | exact ⟨_, rfl, rfl⟩ | exact ⟨rfl, rfl⟩ | exact ⟨fun _ => rfl, fun _ => rfl⟩ | (unfold maxLen; omega) | (unfold i64R; first | omega | decide) | decide)
      refine evC_ret ?_
      refine post_ret ?_
      refine ends_flat (vs := [AV.int IntKind.i64 (IntKind.i64.wrap (↑(BitVec.toNat (BitVec.ofInt (IntKind.bits IntKind.i64) (IntKind.i64.wrap (↑(BitVec.toNat (BitVec.ofInt (IntKind.bits IntKind.i64) (IntKind.i64.wrap (↑(BitVec.toNat (BitVec.ofInt (IntKind.bits IntKind.i64) (IntKind.i64.wrap (u (Int.toNat 0))) ||| BitVec.ofInt (IntKind.bits IntKind.i64) (IntKind.i64.wrap (IntKind.i64.wrap (u (Int.toNat 1)) * 2 ^ min (Int.toNat 8) (IntKind.bits IntKind.i64))))) : Int)) ||| BitVec.ofInt (IntKind.bits IntKind.i64) (IntKind.i64.wrap (IntKind.i64.wrap (u (Int.toNat 2)) * 2 ^ min (Int.toNat 16) (IntKind.bits IntKind.i64))))) : Int)) ||| BitVec.ofInt (IntKind.bits IntKind.i64) (IntKind.i64.wrap (IntKind.i64.wrap (u (Int.toNat 3)) * 2 ^ min (Int.toNat 24) (IntKind.bits IntKind.i64))))) : Int))]) (Nat.zero_lt_succ _) (by kernel_rfl) (flat_of _ (by kernel_rfl)) rfl ?_
      exact congrArg (AV.int .i64) (num_or (h2 0 (by omega)) (h2 1 (by omega)) (h2 2 (by omega)) (h2 3 (by omega))).symm
    · cases e
  · cases e
def sNum : Spec := fun args hr _ => match args with
  | [v, .int .i64 k] => match sl 1 hr v with
    | some (n, f, rd) => some ⟨[0 ≤ k ∧ k + 4 ≤ n ∧ n ≤ 9223372036854775807 ∧ IsU n f], .int .i64 (num4 (U f) k.toNat), rd, []⟩
    | none => none
  | _ => none
theorem num_ok : SpecOK Try.prog 35 sNum := by
  refine spec_own (by kernel_rfl) T_ok sget_nil Try.func35 rfl rfl fun args hr nb out e => ?_
  unfold sNum at e
  split at e
  · rename_i v k
    split at e
    · rename_i n f rd hs1
      injection e with e; subst e
      refine ⟨fun x hx => sl_rd hs1 x hx, false, [.rs 1 n false (nU (U f)), .int .i64 k], rfl, fun hs => ?_⟩
      obtain ⟨k0, k1, k2, h1⟩ := hs _ List.mem_cons_self
      refine ⟨.cons _ _ _ _ (.slice _ _ _ _ _ hs1 (fun y hy => ⟨hy, by simp⟩) _ fun i hi => ⟨(h1.get i hi).1, (nU_flat _ i).has⟩) (.cons _ _ _ _ (.same _ _ (.int _ _)) .nil), ?_⟩
      clear hs
      have h2 : ∀ i, i < n → 0 ≤ U f i ∧ U f i ≤ 255 := fun i hi => (h1.get i hi).2
      clear h1
      generalize U f = u at h2 ⊢
      obtain ⟨p, rfl⟩ := Int.eq_ofNat_of_zero_le k0
      refine evC_go0 (dec := []) (ks := [(0, 0), (0, 1), (0, 4)]) (s' := ⟨[(0, 0, Cont.cell (AV.rs 1 n false (nU u))), (0, 1, Cont.cell (AV.int IntKind.i64 (↑p : Int))), (0, 4, Cont.cell (AV.int IntKind.i64 0))], 9, 34⟩) (by kernel_rfl) (by kernel_rfl) ?_
      refine evC_go (dec := []) (ks := [(0, 4)]) (ps := [(0 : Int) ≤ (↑p : Int), (↑p : Int) < (↑n : Int), (1 : Nat) = (1 : Nat), (0 : Int) ≤ IntKind.i64.wrap ((↑p : Int) + (1 : Int)), IntKind.i64.wrap ((↑p : Int) + (1 : Int)) < (↑n : Int), (1 : Nat) = (1 : Nat), (0 : Int) ≤ IntKind.i64.wrap ((↑p : Int) + (2 : Int)), IntKind.i64.wrap ((↑p : Int) + (2 : Int)) < (↑n : Int), (1 : Nat) = (1 : Nat), (0 : Int) ≤ IntKind.i64.wrap ((↑p : Int) + (3 : Int)), IntKind.i64.wrap ((↑p : Int) + (3 : Int)) < (↑n : Int), (1 : Nat) = (1 : Nat)]) (s' := ⟨[(0, 4, Cont.cell (AV.int IntKind.i64 (IntKind.i64.wrap (IntKind.i64.wrap (IntKind.i64.wrap (IntKind.i64.wrap (u p) + IntKind.i64.wrap (256 * IntKind.i64.wrap (u (Int.toNat (IntKind.i64.wrap ((↑p : Int) + 1)))))) + IntKind.i64.wrap (65536 * IntKind.i64.wrap (u (Int.toNat (IntKind.i64.wrap ((↑p : Int) + 2)))))) + IntKind.i64.wrap (16777216 * IntKind.i64.wrap (u (Int.toNat (IntKind.i64.wrap ((↑p : Int) + 3)))))))))], 249, 34⟩) (by kernel_rfl) (by kernel_rfl) ?_ ?_
      · rw [w64 (x := (p : Int) + 1) (by omega) (by omega), w64 (x := (p : Int) + 2) (by omega) (by omega), w64 (x := (p : Int) + 3) (by omega) (by omega)]
        (simp only [All]; (repeat' apply And.intro) <;> (try intro _) <;> (try intro _) <;> (repeat' apply And.intro) <;> (try intro _) <;> (try intro _) <;> first | trivial | assumption | exact .inr trivial | exact .inr rfl | omega | rfl | exact ⟨_, rfl, rfl⟩ | exact ⟨rfl, rfl⟩ | exact ⟨fun _ => rfl, fun _ => rfl⟩ | (unfold maxLen; omega) | (unfold i64R; first | omega | decide) | decide)
      refine evC_ret ?_
      refine post_ret ?_
      refine ends_flat (vs := [AV.int IntKind.i64 (IntKind.i64.wrap (IntKind.i64.wrap (IntKind.i64.wrap (IntKind.i64.wrap (u p) + IntKind.i64.wrap (256 * IntKind.i64.wrap (u (Int.toNat (IntKind.i64.wrap ((↑p : Int) + 1)))))) + IntKind.i64.wrap (65536 * IntKind.i64.wrap (u (Int.toNat (IntKind.i64.wrap ((↑p : Int) + 2)))))) + IntKind.i64.wrap (16777216 * IntKind.i64.wrap (u (Int.toNat (IntKind.i64.wrap ((↑p : Int) + 3)))))))]) (Nat.zero_lt_succ _) (by kernel_rfl) (flat_of _ (by kernel_rfl)) rfl ?_
      rw [w64 (x := (p : Int) + 1) (by omega) (by omega), w64 (x := (p : Int) + 2) (by omega) (by omega), w64 (x := (p : Int) + 3) (by omega) (by omega)]
      exact congrArg (AV.int .i64) (num_eq (h2 p (by omega)) (h2 (p + 1) (by omega)) (h2 (p + 2) (by omega)) (h2 (p + 3) (by omega))).symm
    · cases e
  · cases e
end Go.Eng.S22
