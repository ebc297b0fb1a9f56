/- Seat 25: the sets of a message that lies in a row of the caller's own; walked. -/
import Derived.Test.YtodnecfgiimclaaEngX
import Derived.Test.YtodnecfgiimclaaS25L
set_option linter.unusedSimpArgs false
set_option linter.unusedVariables false
set_option maxHeartbeats 2000000
namespace Go.Eng.S25
open Go.Proofs Go.IntWalk
set_option maxRecDepth 10000
def sCutV : Spec := fun args hr nb => match args with
 | [.vs j] => match hr j 0 with
   | some (.vec 1 5 m f) => some ⟨[0 < j, IsB m f, m ≤ 100000000], .tup [.vs nb, .int .i64 (cutF (bytesL m f)).2], [(j, 0, .vec 1 5 m f)], [(nb, 0, .vec 1 30 (cutF (bytesL m f)).1.length (nB (cutF (bytesL m f)).1))]⟩
   | _ => none
 | [.nils] => some ⟨[], .tup [.vs nb, .int .i64 2], [], [(nb, 0, .vec 1 30 0 (nB []))]⟩
 | _ => none
theorem bytes_take (R : List Int) (k : Nat) (h : k ≤ R.length) : bytesL k (nU R) = R.take k := by
 have := bytes_cut R 0 k h
 simpa using this
theorem cut_walkV {j nb : Nat} {L : List Int} {sd : List Prop} {rd : List (Nat × Nat × Cont)} (hL : IsU L) (hm : L.length ≤ 100000000)
 (k4 : ∀ fin up, hget fin 1 0 = some (.vec 1 5 L.length (nU L)) → KeptH [j] nb true fin up rd) :
 evC T [(34, sNum)] ([j].length + 1) (Try.f33.body.getD .skip) (Post T Try.f33 [j] nb ⟨sd, .tup [.vs nb, .int .i64 (cutF L).2], rd, [(nb, 0, .vec 1 30 (cutF L).1.length (nB (cutF L).1))]⟩ true) ⟨slots0 0 [.vs 1] ++ [(1, 0, .vec 1 5 L.length (nU L))], [j].length + 1, Try.f33.ntmps⟩ := by
 refine evC_go0K (s' := ⟨[(0, 0, zV 1), (0, 2, .cell AV.nils), (0, 3, zI 0), (1, 0, .vec 1 5 L.length (nU L))], 66, 49⟩) ?_
 refine evC_seq ?_
 refine evC_go0K (s' := ⟨[(0, 0, zV 1), (0, 2, .cell AV.nils), (0, 3, zI 0), (0, 9, zB (decide ((↑L.length : Int) < 19))), (1, 0, .vec 1 5 L.length (nU L))], 162, 49⟩) ?_
 refine evC_if (q := decide ((↑(List.length L) : Int) < 19)) (by kernel_rfl) (fun hc => ?_) (fun hc => ?_)
 ·have hc1 : L.length < 19 := by have := of_decide_eq_true hc; omega
  have hF : cutF L = ([], 2) := by
   unfold cutF
   have : Nat.blt L.length 19 = true := by simpa [Nat.blt_eq] using hc1
   rw [this]; rfl
  rw [hF]
  refine evC_go0K (s' := ⟨[(0, 0, zV 1), (0, 2, .cell AV.nils), (0, 3, zI 2), (1, 0, .vec 1 5 L.length (nU L))], 226, 49⟩) ?_
  refine evC_wk _ (.nil 0 2 1 30 (fun _ => .nils) (Nat.le_of_ble_eq_true rfl) rfl) ?_
  refine evC_ret ?_
  refine then_ret ?_
  refine post_ret ?_
  refine ends_go [226] (AV.tup [AV.vs 2, AV.int IntKind.i64 2]) [(1, 0, .vec 1 5 L.length (nU L)), (2, 0, .vec 1 30 0 fun x => AV.nils)] rfl (by decide) rfl rfl (has_of _ rfl) rfl ⟨⟨_, rfl, ⟨rfl, rfl, rfl, fun _ _ => rfl⟩⟩, ⟨_, rfl, ⟨rfl, rfl, rfl, fun _ _ => rfl⟩⟩, trivial⟩ ⟨fun _ => ⟨2, _, rfl, rfl, rfl, ⟨rfl, rfl, rfl, fun _ hi => absurd hi (Nat.not_lt_zero _)⟩⟩, trivial⟩ ?_
  exact k4 _ _ rfl
 ·have hc1 : ¬ L.length < 19 := by have := of_decide_eq_false hc; omega
  have hF : cutF L = cutA (L.getD 18 0).toNat (L.drop 19) [] := by
   unfold cutF
   have : Nat.blt L.length 19 = false := by
    cases e : Nat.blt L.length 19 with
    | false => rfl
    | true => exact absurd (by simpa [Nat.blt_eq] using e) hc1
   rw [this]; rfl
  clear hc
  generalize cutF L = res at hF ⊢
  have h18 : 0 ≤ L.getD 18 0 ∧ L.getD 18 0 ≤ 255 := ((isB hL).get 18 (by omega)).2
  obtain ⟨c, hcc⟩ := Int.eq_ofNat_of_zero_le h18.1
  rw [hcc, Int.toNat_natCast] at hF
  refine evC_skip ?_
  refine then_normal ?_
  refine evC_go0K (s' := ⟨[(0, 0, zV 1), (0, 2, .cell AV.nils), (0, 3, zI 0), (0, 4, .cell AV.nils), (1, 0, .vec 1 5 L.length (nU L))], 194, 49⟩) ?_
  refine evC_wk _ (.nil 0 4 1 30 (fun _ => .nils) (Nat.le_of_ble_eq_true rfl) rfl) ?_
  refine evC_goK (ps := [(0 : Int) ≤ 19, (19 : Int) ≤ (↑L.length : Int), (↑L.length : Int) ≤ ↑L.length, 1 = 1]) (s' := ⟨[(0, 0, zV 1), (0, 2, .cell AV.nils), (0, 3, zI 0), (0, 4, zV 194), (0, 5, .cell (AV.sub 1 1 19 (L.length - Int.toNat 19))), (1, 0, .vec 1 5 L.length (nU L)), (194, 0, .vec 1 30 0 fun x => AV.nils)], 291, 49⟩) ?_ ?_
  ·exact ⟨by decide, by omega, by omega, rfl⟩
  refine evC_seq ?_
  refine evC_goK (ps := [(0 : Int) ≤ 18, (18 : Int) < (↑L.length : Int), 1 = 1, (0 : Int) ≤ 18, (18 : Int) < (↑L.length : Int), 1 = 1]) (s' := ⟨[(0, 2, .cell AV.nils), (0, 3, zI 0), (0, 4, zV 194), (0, 5, .cell (AV.sub 1 1 19 (L.length - Int.toNat 19))), (0, 14, .cell (AV.int IntKind.u8 (List.getD L (Int.toNat 18) 0))), (0, 15, .cell (AV.int IntKind.u8 0)), (1, 0, .vec 1 5 L.length (nU L)), (194, 0, .vec 1 30 0 fun x => AV.nils)], 419, 49⟩) ?_ ?_
  ·exact ⟨by decide, by omega, rfl, by decide, by omega, rfl⟩
  rw [show Int.toNat 19 = 19 from rfl, show L.getD (Int.toNat 18) 0 = (c : Int) from hcc]
  refine evC_block ?_
  refine evC_loop (ι := { x : Nat × Nat × List (List Int) // (x.1 ≤ c ∧ x.2.1 ≤ L.length) ∧ cutA (c - x.1) (L.drop x.2.1) x.2.2 = res ∧ x.2.2.length ≤ x.1 }) (fun x => ⟨[(0, 2, Cont.cell AV.nils), (0, 3, zI 0), (0, 4, zV 2), (0, 5, .cell (.sub 1 1 x.1.2.1 (L.length - x.1.2.1))), (0, 14, Cont.cell (AV.int IntKind.u8 (↑c : Int))), (0, 15, .cell (.int .u8 (x.1.1 : Nat))), (1, 0, Cont.vec 1 5 L.length (nU L)), (2, 0, .vec 1 30 x.1.2.2.length (nB x.1.2.2))], 3, 49⟩) (fun x => c - x.1.1) ⟨(0, 19, []), ⟨Nat.zero_le _, by show 19 ≤ L.length; omega⟩, hF.symm, Nat.le_refl _⟩ (wk_go [194] rfl (by decide) rfl rfl ⟨⟨_, rfl, rfl⟩, ⟨_, rfl, rfl⟩, ⟨_, rfl, rfl⟩, ⟨_, rfl, rfl⟩, ⟨_, rfl, rfl⟩, ⟨_, rfl, rfl⟩, ⟨_, rfl, rfl, rfl, rfl, fun _ _ => rfl⟩, ⟨_, rfl, ⟨rfl, rfl, rfl, fun _ hi => absurd hi (Nat.not_lt_zero _)⟩⟩, trivial⟩) ?_
  rintro ⟨⟨i, p, acc⟩, ⟨hi, hp⟩, hcut, hacc⟩
  simp only at hi hp hcut hacc
  obtain ⟨R, hR0⟩ : ∃ R, R = L.drop p := ⟨_, rfl⟩
  have hRl0 : R.length = L.length - p := by rw [hR0, List.length_drop]
  have hR : IsU R := by rw [hR0]; exact isU_drop hL p
  have hRl : R.length ≤ 100000000 := by omega
  rw [← hR0] at hcut
  have hget : ∀ k, nU L (p + k) = nU R k := fun k => by rw [hR0]; exact congrFun (nU_drop L p) k
  refine evC_go0K (s' := ⟨[(0, 2, .cell AV.nils), (0, 3, zI 0), (0, 4, zV 2), (0, 5, .cell (AV.sub 1 1 p (L.length - p))), (0, 14, .cell (AV.int IntKind.u8 (↑c : Int))), (0, 15, .cell (AV.int IntKind.u8 (↑i : Int))), (0, 16, zB (decide ((↑i : Int) < ↑c))), (1, 0, .vec 1 5 L.length (nU L)), (2, 0, .vec 1 30 acc.length (nB acc))], 35, 49⟩) ?_
  refine evC_seq ?_
  refine evC_if (q := decide ((↑i : Int) < (↑c : Int))) (by kernel_rfl) (fun hc => ?_) (fun hc => ?_)
  ·have hlt : i < c := by have := of_decide_eq_true hc; omega
   clear hc
   obtain ⟨d, hd⟩ : ∃ d, c - i = d + 1 := ⟨c - i - 1, by omega⟩
   rw [hd] at hcut
   simp only [cutA] at hcut
   refine evC_skip ?_
   refine then_normal ?_
   refine evC_seq ?_
   refine evC_block ?_
   refine evC_seq ?_
   refine evC_go0K (s' := ⟨[(0, 2, .cell AV.nils), (0, 3, zI 0), (0, 4, zV 2), (0, 5, .cell (AV.sub 1 1 p (L.length - p))), (0, 14, .cell (AV.int IntKind.u8 (↑c : Int))), (0, 15, .cell (AV.int IntKind.u8 (↑i : Int))), (0, 19, zB (decide ((↑(L.length - p) : Int) < 2))), (1, 0, .vec 1 5 L.length (nU L)), (2, 0, .vec 1 30 acc.length (nB acc))], 131, 49⟩) ?_
   rw [← hRl0]
   refine evC_if (q := decide ((↑(List.length R) : Int) < 2)) (by kernel_rfl) (fun hc => ?_) (fun hc => ?_)
   ·have h2 : R.length < 2 := by have := of_decide_eq_true hc; omega
    rw [nblt_yes h2] at hcut
    simp only [cond_true] at hcut
    subst hcut
    refine evC_go0K (s' := ⟨[(0, 2, .cell AV.nils), (0, 3, zI 2), (0, 4, zV 2), (0, 5, .cell (AV.sub 1 1 p R.length)), (0, 14, .cell (AV.int IntKind.u8 (↑c : Int))), (0, 15, .cell (AV.int IntKind.u8 (↑i : Int))), (1, 0, .vec 1 5 L.length (nU L)), (2, 0, .vec 1 30 acc.length (nB acc))], 195, 49⟩) ?_
    refine evC_wk _ (.nil 0 2 1 30 (fun _ => .nils) (Nat.le_of_ble_eq_true rfl) rfl) ?_
    refine evC_ret ?_
    refine then_ret ?_
    refine block_ret ?_
    refine then_ret ?_
    refine round_ret ?_
    refine block_ret ?_
    refine then_ret ?_
    refine post_ret ?_
    refine ends_go [195] (AV.tup [AV.vs 2, AV.int IntKind.i64 2]) [(1, 0, .vec 1 5 L.length (nU L)), (2, 0, .vec 1 30 0 fun x => AV.nils)] rfl (by decide) rfl rfl (has_of _ rfl) rfl ⟨⟨_, rfl, ⟨rfl, rfl, rfl, fun _ _ => rfl⟩⟩, ⟨_, rfl, ⟨rfl, rfl, rfl, fun _ _ => rfl⟩⟩, trivial⟩ ⟨fun _ => ⟨2, _, rfl, rfl, rfl, ⟨rfl, rfl, rfl, fun _ hi => absurd hi (Nat.not_lt_zero _)⟩⟩, trivial⟩ ?_
    exact k4 _ _ rfl
   ·have h2 : ¬ R.length < 2 := by have := of_decide_eq_false hc; omega
    rw [nblt_no h2] at hcut
    simp only [cond_false] at hcut
    clear hc
    have hR2 : IsU (R.take 2) := isU_take hR 2
    have hl2 : (R.take 2).length = 2 := by rw [List.length_take]; omega
    have hn := numL_rng hR2
    rw [hl2] at hn
    have hf0 : (fun i => nU L (p + Int.toNat 0 + i)) = nU R := funext fun i => hget i
    refine evC_skip ?_
    refine then_normal ?_
    refine evC_goK (ps := [(0 : Int) ≤ 0, (0 : Int) ≤ 2, (2 : Int) ≤ (↑R.length : Int), 1 = 1, IsB (Int.toNat (2 : Int) - Int.toNat (0 : Int)) fun i => nU L (p + Int.toNat (0 : Int) + i), Int.toNat (2 : Int) - Int.toNat (0 : Int) ≤ (8 : Nat)]) (s' := ⟨[(0, 2, .cell AV.nils), (0, 3, zI 0), (0, 4, zV 2), (0, 5, .cell (AV.sub 1 1 p R.length)), (0, 6, zI (IntKind.i64.wrap (numL (bytesL (Int.toNat 2 - Int.toNat 0) fun i => nU L (p + Int.toNat 0 + i))))), (0, 14, .cell (AV.int IntKind.u8 (↑c : Int))), (0, 15, .cell (AV.int IntKind.u8 (↑i : Int))), (1, 0, .vec 1 5 L.length (nU L)), (2, 0, .vec 1 30 acc.length (nB acc))], 291, 49⟩) ?_ ?_
    ·rw [hf0]
     exact ⟨by decide, by decide, by omega, rfl, ⟨fun i hi => (isB hR).get i (by have : i < 2 := hi; omega)⟩, (by show 2 - 0 ≤ 8; omega)⟩
    rw [hf0, show bytesL (Int.toNat 2 - Int.toNat 0) (nU R) = R.take 2 from bytes_take R 2 (by omega)]
    generalize numL (R.take 2) = z at hcut hn ⊢
    obtain ⟨z, rfl⟩ := Int.eq_ofNat_of_zero_le hn.1
    have hz : z < 65536 := by have := hn.2; omega
    rw [i64_in (z : Int) (by omega)]
    simp only [Int.toNat_natCast] at hcut
    refine evC_seq ?_
    refine evC_go0K (s' := ⟨[(0, 2, .cell AV.nils), (0, 3, zI 0), (0, 4, zV 2), (0, 5, .cell (AV.sub 1 1 p R.length)), (0, 6, zI z), (0, 14, .cell (AV.int IntKind.u8 (↑c : Int))), (0, 15, .cell (AV.int IntKind.u8 (↑i : Int))), (0, 25, zB (decide ((↑z : Int) > 704))), (1, 0, .vec 1 5 L.length (nU L)), (2, 0, .vec 1 30 acc.length (nB acc))], 355, 49⟩) ?_
    refine evC_if (q := decide ((↑z : Int) > 704)) (by kernel_rfl) (fun hc => ?_) (fun hc => ?_)
    ·rw [hc] at hcut
     simp only [cond_true] at hcut
     subst hcut
     refine evC_go0K (s' := ⟨[(0, 2, .cell AV.nils), (0, 3, zI 3), (0, 4, zV 2), (0, 5, .cell (AV.sub 1 1 p R.length)), (0, 6, zI z), (0, 14, .cell (AV.int IntKind.u8 (↑c : Int))), (0, 15, .cell (AV.int IntKind.u8 (↑i : Int))), (1, 0, .vec 1 5 L.length (nU L)), (2, 0, .vec 1 30 acc.length (nB acc))], 419, 49⟩) ?_
     refine evC_wk _ (.nil 0 2 1 30 (fun _ => .nils) (Nat.le_of_ble_eq_true rfl) rfl) ?_
     refine evC_ret ?_
     refine then_ret ?_
     refine block_ret ?_
     refine then_ret ?_
     refine round_ret ?_
     refine block_ret ?_
     refine then_ret ?_
     refine post_ret ?_
     refine ends_go [419] (AV.tup [AV.vs 2, AV.int IntKind.i64 3]) [(1, 0, .vec 1 5 L.length (nU L)), (2, 0, .vec 1 30 0 fun x => AV.nils)] rfl (by decide) rfl rfl (has_of _ rfl) rfl ⟨⟨_, rfl, ⟨rfl, rfl, rfl, fun _ _ => rfl⟩⟩, ⟨_, rfl, ⟨rfl, rfl, rfl, fun _ _ => rfl⟩⟩, trivial⟩ ⟨fun _ => ⟨2, _, rfl, rfl, rfl, ⟨rfl, rfl, rfl, fun _ hi => absurd hi (Nat.not_lt_zero _)⟩⟩, trivial⟩ ?_
     exact k4 _ _ rfl
    ·rw [hc] at hcut
     have h7 := of_decide_eq_false hc
     clear hc
     simp only [cond_false] at hcut
     refine evC_skip ?_
     refine then_normal ?_
     refine evC_seq ?_
     refine evC_go0K (s' := ⟨[(0, 2, .cell AV.nils), (0, 3, zI 0), (0, 4, zV 2), (0, 5, .cell (AV.sub 1 1 p R.length)), (0, 6, zI z), (0, 14, .cell (AV.int IntKind.u8 (↑c : Int))), (0, 15, .cell (AV.int IntKind.u8 (↑i : Int))), (0, 30, zB (decide ((↑R.length : Int) < IntKind.i64.wrap (2 + (↑z : Int))))), (1, 0, .vec 1 5 L.length (nU L)), (2, 0, .vec 1 30 acc.length (nB acc))], 515, 49⟩) ?_
     rw [i64_in (2 + (z : Int)) (by omega)]
     refine evC_if (q := decide ((↑(List.length R) : Int) < 2 + (↑z : Int))) (by kernel_rfl) (fun hc => ?_) (fun hc => ?_)
     ·rw [hc] at hcut
      simp only [cond_true] at hcut
      subst hcut
      refine evC_go0K (s' := ⟨[(0, 2, .cell AV.nils), (0, 3, zI 2), (0, 4, zV 2), (0, 5, .cell (AV.sub 1 1 p R.length)), (0, 6, zI z), (0, 14, .cell (AV.int IntKind.u8 (↑c : Int))), (0, 15, .cell (AV.int IntKind.u8 (↑i : Int))), (1, 0, .vec 1 5 L.length (nU L)), (2, 0, .vec 1 30 acc.length (nB acc))], 579, 49⟩) ?_
      refine evC_wk _ (.nil 0 2 1 30 (fun _ => .nils) (Nat.le_of_ble_eq_true rfl) rfl) ?_
      refine evC_ret ?_
      refine then_ret ?_
      refine block_ret ?_
      refine then_ret ?_
      refine round_ret ?_
      refine block_ret ?_
      refine then_ret ?_
      refine post_ret ?_
      refine ends_go [579] (AV.tup [AV.vs 2, AV.int IntKind.i64 2]) [(1, 0, .vec 1 5 L.length (nU L)), (2, 0, .vec 1 30 0 fun x => AV.nils)] rfl (by decide) rfl rfl (has_of _ rfl) rfl ⟨⟨_, rfl, ⟨rfl, rfl, rfl, fun _ _ => rfl⟩⟩, ⟨_, rfl, ⟨rfl, rfl, rfl, fun _ _ => rfl⟩⟩, trivial⟩ ⟨fun _ => ⟨2, _, rfl, rfl, rfl, ⟨rfl, rfl, rfl, fun _ hi => absurd hi (Nat.not_lt_zero _)⟩⟩, trivial⟩ ?_
      exact k4 _ _ rfl
     ·rw [hc] at hcut
      have h8 := of_decide_eq_false hc
      clear hc
      simp only [cond_false] at hcut
      have e2 : IntKind.i64.wrap (2 + (z : Int)) = ((2 + z : Nat) : Int) := by rw [i64_in (2 + (z : Int)) (by omega)]; rfl
      refine evC_skip ?_
      refine then_normal ?_
      refine evC_goK (ps := [(0 : Int) ≤ 2, (2 : Int) ≤ IntKind.i64.wrap ((2 : Int) + (↑z : Int)), IntKind.i64.wrap ((2 : Int) + (↑z : Int)) ≤ (↑R.length : Int), 1 = 1, ((0 : Nat) + (Int.toNat (IntKind.i64.wrap ((2 : Int) + (↑z : Int))) - Int.toNat (2 : Int))) * 1 ≤ 140737488355328, (0 : Nat) + (Int.toNat (IntKind.i64.wrap ((2 : Int) + (↑z : Int))) - Int.toNat (2 : Int)) ≤ maxLen, Int.toNat (IntKind.i64.wrap ((2 : Int) + (↑z : Int))) - Int.toNat (2 : Int) = (0 : Nat) ∨ 1 = 1, 1 = 1, 5 = 5, (acc.length + (1 : Nat)) * 24 ≤ 140737488355328, acc.length + (1 : Nat) ≤ maxLen, 1 = 0 ∨ 1 = 1, 1 = 1, 30 = 30]) (s' := ⟨[(0, 2, .cell AV.nils), (0, 3, zI 0), (0, 4, zV 771), (0, 5, .cell (AV.sub 1 1 p R.length)), (0, 6, zI z), (0, 14, .cell (AV.int IntKind.u8 (↑c : Int))), (0, 15, .cell (AV.int IntKind.u8 (↑i : Int))), (1, 0, .vec 1 5 L.length (nU L)), (707, 0, .vec 1 5 (0 + (Int.toNat (IntKind.i64.wrap (2 + (↑z : Int))) - Int.toNat 2)) (catF 0 (pget []) fun i => nU L (p + Int.toNat 2 + i))), (771, 0, .vec 1 30 (acc.length + 1) (catF acc.length (nB acc) (pget [(0, AV.vs 707)])))], 835, 49⟩) ?_ ?_
      ·rw [e2]
       simp only [Int.toNat_natCast]
       (simp only [All]; (repeat' apply And.intro) <;> (try intro _) <;> (try intro _) <;> (repeat' apply And.intro) <;> (try intro _) <;> (try intro _) <;> first | trivial | assumption | exact .inr trivial | exact .inr rfl | omega | rfl | exact ⟨_, rfl, rfl⟩ | exact ⟨rfl, rfl⟩ | exact ⟨fun _ => rfl, fun _ => rfl⟩ | (unfold maxLen; omega) | (unfold i64R; first | omega | decide) | decide)
      obtain ⟨S, hS⟩ : ∃ S, S = (R.drop 2).take z := ⟨_, rfl⟩
      rw [← hS] at hcut
      have hSl : S.length = z := by rw [hS, List.length_take, List.length_drop]; omega
      rw [e2]
      refine evC_wk (s' := ⟨[(0, 2, Cont.cell AV.nils), (0, 3, zI 0), (0, 4, zV 2), (0, 5, Cont.cell (AV.sub 1 1 p R.length)), (0, 6, zI z), (0, 14, Cont.cell (AV.int IntKind.u8 (↑c : Int))), (0, 15, Cont.cell (AV.int IntKind.u8 (↑i : Int))), (1, 0, Cont.vec 1 5 L.length (nU L)), (2, 0, Cont.vec 1 30 (acc.length + 1) (catF acc.length (nB acc) (pget [(0, AV.vs 3)]))), (3, 0, .vec 1 5 S.length (nU S))], 4, 49⟩) _ (wk_go [771, 707] rfl (by decide) rfl rfl ⟨⟨_, rfl, rfl⟩, ⟨_, rfl, rfl⟩, ⟨_, rfl, rfl⟩, ⟨_, rfl, rfl⟩, ⟨_, rfl, rfl⟩, ⟨_, rfl, rfl⟩, ⟨_, rfl, rfl⟩, ⟨_, rfl, rfl, rfl, rfl, fun _ _ => rfl⟩, ⟨_, rfl, ?_⟩, ⟨_, rfl, ?_⟩, trivial⟩) ?_
      ·exact cw_cat_vs _ _ _ _ _ _ rfl
      ·refine ⟨rfl, rfl, by simp only [Int.toNat_natCast]; omega, fun i hi => ?_⟩
       have hi : i < z := by rw [← hSl]; exact hi
       show nU L (p + 2 + i) = nU S i
       rw [Nat.add_assoc, hget, hS, ← nU_take (R.drop 2) z i hi]
       exact congrFun (nU_drop R 2) i
      refine evC_wk (s' := ⟨[(0, 2, Cont.cell AV.nils), (0, 3, zI 0), (0, 4, zV 2), (0, 5, Cont.cell (AV.sub 1 1 p R.length)), (0, 6, zI z), (0, 14, Cont.cell (AV.int IntKind.u8 (↑c : Int))), (0, 15, Cont.cell (AV.int IntKind.u8 (↑i : Int))), (1, 0, Cont.vec 1 5 L.length (nU L)), (2, 0, Cont.vec 1 30 (acc.length + 1) (catF acc.length (nB acc) (pget [(0, AV.rs 1 S.length false (nU S))])))], 3, 49⟩) _ (.trans (.frz 3 1 5 S.length (nU S) (Nat.le_of_ble_eq_true rfl) rfl) (wk_go [2] rfl (by decide) rfl rfl ⟨⟨_, rfl, rfl⟩, ⟨_, rfl, rfl⟩, ⟨_, rfl, rfl⟩, ⟨_, rfl, rfl⟩, ⟨_, rfl, rfl⟩, ⟨_, rfl, rfl⟩, ⟨_, rfl, rfl⟩, ⟨_, rfl, rfl, rfl, rfl, fun _ _ => rfl⟩, ⟨_, rfl, ?_⟩, trivial⟩)) ?_
      ·exact cw_cat_frz _ _ _ _ _ _
      refine evC_wk (s' := ⟨[(0, 2, Cont.cell AV.nils), (0, 3, zI 0), (0, 4, zV 2), (0, 5, Cont.cell (AV.sub 1 1 p R.length)), (0, 6, zI z), (0, 14, Cont.cell (AV.int IntKind.u8 (↑c : Int))), (0, 15, Cont.cell (AV.int IntKind.u8 (↑i : Int))), (1, 0, Cont.vec 1 5 L.length (nU L)), (2, 0, .vec 1 30 (acc ++ [S]).length (nB (acc ++ [S])))], 3, 49⟩) _ (wk_go [2] rfl (by decide) rfl rfl ⟨⟨_, rfl, rfl⟩, ⟨_, rfl, rfl⟩, ⟨_, rfl, rfl⟩, ⟨_, rfl, rfl⟩, ⟨_, rfl, rfl⟩, ⟨_, rfl, rfl⟩, ⟨_, rfl, rfl⟩, ⟨_, rfl, rfl, rfl, rfl, fun _ _ => rfl⟩, ⟨_, rfl, ?_⟩, trivial⟩) ?_
      ·exact ⟨rfl, rfl, by rw [List.length_append]; rfl, fun i hi => cat_nB acc S i (by rw [List.length_append] at hi; exact hi)⟩
      refine evC_goLK (ps := [(0 : Int) ≤ IntKind.i64.wrap ((2 : Int) + (↑z : Int)), IntKind.i64.wrap ((2 : Int) + (↑z : Int)) ≤ (↑R.length : Int), (↑R.length : Int) ≤ ↑R.length, 1 = 1]) (s' := ⟨[(0, 2, .cell AV.nils), (0, 3, zI 0), (0, 4, zV 2), (0, 5, .cell (AV.sub 1 1 (p + Int.toNat (IntKind.i64.wrap (2 + (↑z : Int)))) (R.length - Int.toNat (IntKind.i64.wrap (2 + (↑z : Int)))))), (0, 14, .cell (AV.int IntKind.u8 (↑c : Int))), (0, 15, .cell (AV.int IntKind.u8 (↑i : Int))), (1, 0, .vec 1 5 L.length (nU L)), (2, 0, .vec 1 30 (List.length (acc ++ [S])) (nB (acc ++ [S])))], 163, 49⟩) ?_ ?_
      ·rw [e2]
       (simp only [All]; (repeat' apply And.intro) <;> (try intro _) <;> (try intro _) <;> (repeat' apply And.intro) <;> (try intro _) <;> (try intro _) <;> first | trivial | assumption | exact .inr trivial | exact .inr rfl | omega | rfl | exact ⟨_, rfl, rfl⟩ | exact ⟨rfl, rfl⟩ | exact ⟨fun _ => rfl, fun _ => rfl⟩ | (unfold maxLen; omega) | (unfold i64R; first | omega | decide) | decide)
      rw [e2]
      simp only [Int.toNat_natCast]
      refine block_normal ?_
      refine then_normal ?_
      refine evC_goL0K (s' := ⟨[(0, 2, .cell AV.nils), (0, 3, zI 0), (0, 4, zV 2), (0, 5, .cell (AV.sub 1 1 (p + (2 + z)) (R.length - (2 + z)))), (0, 14, .cell (AV.int IntKind.u8 (↑c : Int))), (0, 15, .cell (AV.int IntKind.u8 (IntKind.wrap IntKind.u8 ((↑i : Int) + 1)))), (1, 0, .vec 1 5 L.length (nU L)), (2, 0, .vec 1 30 (List.length (acc ++ [S])) (nB (acc ++ [S])))], 227, 49⟩) ?_
      refine round_normal (⟨(i + 1, p + (2 + z), acc ++ [S]), ⟨hlt, by show p + (2 + z) ≤ L.length; omega⟩, by rw [← hcut, ← List.drop_drop, ← hR0]; show cutA (c - (i + 1)) _ _ = _; rw [show c - (i + 1) = d by omega], by rw [List.length_append]; show acc.length + 1 ≤ i + 1; omega⟩) (wk_go [2] rfl (by decide) rfl rfl ⟨⟨_, rfl, rfl⟩, ⟨_, rfl, rfl⟩, ⟨_, rfl, rfl⟩, ⟨_, rfl, ?_⟩, ⟨_, rfl, rfl⟩, ⟨_, rfl, ?_⟩, ⟨_, rfl, ⟨rfl, rfl, rfl, fun _ _ => rfl⟩⟩, ⟨_, rfl, ⟨rfl, rfl, rfl, fun _ _ => rfl⟩⟩, trivial⟩) ?_
      ·show AV.sub 1 1 (p + (2 + z)) (R.length - (2 + z)) = AV.sub 1 1 (p + (2 + z)) (L.length - (p + (2 + z)))
       rw [show R.length - (2 + z) = L.length - (p + (2 + z)) by omega]
      ·show AV.int .u8 _ = AV.int .u8 _
       rw [IntKind.wrap_u8]
       refine congrArg (AV.int .u8) ?_
       show ((i : Int) + 1) % 256 = ((i + 1 : Nat) : Int)
       omega
      ·show c - (i + 1) < c - i
       omega
  ·have : i = c := by have := of_decide_eq_false hc; omega
   subst this
   clear hc
   rw [Nat.sub_self] at hcut
   simp only [cutA] at hcut
   refine evC_exit ?_
   refine then_exit ?_
   refine round_exit ?_
   refine block_exit ?_
   refine then_normal ?_
   refine evC_seq ?_
   refine evC_go0K (s' := ⟨[(0, 2, .cell AV.nils), (0, 3, zI 0), (0, 4, zV 2), (0, 47, zB (decide ((↑(L.length - p) : Int) > 0))), (1, 0, .vec 1 5 L.length (nU L)), (2, 0, .vec 1 30 acc.length (nB acc))], 131, 49⟩) ?_
   rw [← hRl0]
   refine evC_if (q := decide ((↑(List.length R) : Int) > 0)) (by kernel_rfl) (fun hc => ?_) (fun hc => ?_)
   ·have h0 : 0 < R.length := by have := of_decide_eq_true hc; omega
    rw [nblt_yes h0] at hcut
    simp only [cond_true] at hcut
    subst hcut
    refine evC_go0K (s' := ⟨[(0, 2, .cell AV.nils), (0, 3, zI 7), (0, 4, zV 2), (1, 0, .vec 1 5 L.length (nU L)), (2, 0, .vec 1 30 acc.length (nB acc))], 195, 49⟩) ?_
    refine evC_wk _ (.nil 0 2 1 30 (fun _ => .nils) (Nat.le_of_ble_eq_true rfl) rfl) ?_
    refine evC_ret ?_
    refine then_ret ?_
    refine post_ret ?_
    refine ends_go [195] (AV.tup [AV.vs 2, AV.int IntKind.i64 7]) [(1, 0, .vec 1 5 L.length (nU L)), (2, 0, .vec 1 30 0 fun x => AV.nils)] rfl (by decide) rfl rfl (has_of _ rfl) rfl ⟨⟨_, rfl, ⟨rfl, rfl, rfl, fun _ _ => rfl⟩⟩, ⟨_, rfl, ⟨rfl, rfl, rfl, fun _ _ => rfl⟩⟩, trivial⟩ ⟨fun _ => ⟨2, _, rfl, rfl, rfl, ⟨rfl, rfl, rfl, fun _ hi => absurd hi (Nat.not_lt_zero _)⟩⟩, trivial⟩ ?_
    exact k4 _ _ rfl
   ·have h0 : ¬ 0 < R.length := by have := of_decide_eq_false hc; omega
    rw [nblt_no h0] at hcut
    simp only [cond_false] at hcut
    subst hcut
    refine evC_skip ?_
    refine then_normal ?_
    refine evC_go0K (s' := ⟨[(0, 2, zV 2), (0, 3, zI 0), (1, 0, .vec 1 5 L.length (nU L)), (2, 0, .vec 1 30 acc.length (nB acc))], 227, 49⟩) ?_
    refine evC_ret ?_
    refine post_ret ?_
    refine ends_go [2] (AV.tup [AV.vs 2, AV.int IntKind.i64 0]) [(1, 0, .vec 1 5 L.length (nU L)), (2, 0, .vec 1 30 acc.length (nB acc))] rfl (by decide) rfl rfl (has_of _ rfl) rfl ⟨⟨_, rfl, ⟨rfl, rfl, rfl, fun _ _ => rfl⟩⟩, ⟨_, rfl, ⟨rfl, rfl, rfl, fun _ _ => rfl⟩⟩, trivial⟩ ⟨?_, trivial⟩ ?_
    ·exact fun _ => ⟨2, _, rfl, rfl, rfl, rfl, rfl, rfl, fun i hi => ⟨bs_has _, rfl⟩⟩
    ·exact k4 _ _ rfl
theorem cut_walkN {nb : Nat} : evC T [(34, sNum)] (([] : List Nat).length + 1) (Try.f33.body.getD .skip) (Post T Try.f33 [] nb ⟨[], .tup [.vs nb, .int .i64 2], [], [(nb, 0, .vec 1 30 0 (nB []))]⟩ true) ⟨slots0 0 [.nils], ([] : List Nat).length + 1, Try.f33.ntmps⟩ := by
 refine evC_go0K (s' := ⟨[(0, 0, .cell AV.nils), (0, 2, .cell AV.nils), (0, 3, zI 0)], 65, 49⟩) ?_
 refine evC_seq ?_
 refine evC_go0K (s' := ⟨[(0, 0, .cell AV.nils), (0, 2, .cell AV.nils), (0, 3, zI 0), (0, 9, zB true)], 161, 49⟩) ?_
 refine evC_if (q := true) (by kernel_rfl) (fun hc => ?_) (fun hc => ?_)
 ·refine evC_go0K (s' := ⟨[(0, 0, .cell AV.nils), (0, 2, .cell AV.nils), (0, 3, zI 2)], 225, 49⟩) ?_
  refine evC_wk _ (.nil 0 2 1 30 (fun _ => .nils) (Nat.le_of_ble_eq_true rfl) rfl) ?_
  refine evC_ret ?_
  refine then_ret ?_
  refine post_ret ?_
  refine ends_go [225] (AV.tup [AV.vs 1, AV.int IntKind.i64 2]) [(1, 0, .vec 1 30 0 fun x => AV.nils)] rfl (by decide) rfl rfl (has_of _ rfl) rfl ⟨⟨_, rfl, ⟨rfl, rfl, rfl, fun _ _ => rfl⟩⟩, trivial⟩ ⟨fun _ => ⟨1, _, rfl, rfl, rfl, ⟨rfl, rfl, rfl, fun _ hi => absurd hi (Nat.not_lt_zero _)⟩⟩, trivial⟩ (kept_nil _)
 ·cases hc
theorem cutV_ok : SpecOK Try.prog 33 sCutV := by
 refine spec_at (by kernel_rfl) T_ok (sget_cons num_ok sget_nil) Try.func33 rfl rfl fun args hr nb out e => ?_
 unfold sCutV at e
 split at e
 ·rename_i j
  split at e
  ·rename_i m f hj
   injection e with e; subst e
   have hrd' : ∀ x ∈ [(j, 0, Cont.vec 1 5 m f)], hr x.1 x.2.1 = some x.2.2 := by
    intro x hx
    rw [List.mem_singleton.1 hx]; exact hj
   by_cases hB : IsB m f
   rotate_left
   ·exact ⟨hrd', true, [], [], [], rfl, fun hs => absurd (hs _ (List.mem_cons_of_mem _ List.mem_cons_self)) hB⟩
   obtain ⟨L, rfl, hL, eL, hf⟩ := hB.list
   refine ⟨hrd', true, [j], [.vs 1], [(1, 0, .vec 1 5 L.length (nU L))], rfl, fun hs => ?_⟩
   have j0 := hs _ List.mem_cons_self
   have hm := hs _ (List.mem_cons_of_mem _ (List.mem_cons_of_mem _ List.mem_cons_self))
   refine ⟨by simp, fun y hy => ?_, .cons _ _ _ _ (.name _ _ _ rfl) .nil, fun x hx => ?_, ?_⟩
   ·rw [List.mem_singleton.1 hy]
    exact ⟨j0, .vec 1 5 L.length f List.mem_cons_self⟩
   ·rw [List.mem_singleton.1 hx]
    exact ⟨0, j, _, rfl, rfl, List.mem_cons_self, rfl, rfl, rfl, fun i hi => hf i hi⟩
   rw [eL]
   exact cut_walkV hL hm fun fin up h => ⟨fun _ => .inr ⟨0, _, rfl, h, rfl, rfl, rfl, fun i hi => ⟨(nU_flat _ i).has, by rw [hf i hi]; rfl⟩⟩, trivial⟩
  ·cases e
 ·injection e with e; subst e
  refine ⟨(fun _ h => nomatch h), true, [], [.nils], [], rfl, fun hs => ⟨List.nodup_nil, fun n hn => by simp at hn, .cons _ _ _ _ (.same _ _ .nils) .nil, fun x hx => by simp at hx, ?_⟩⟩
  exact cut_walkN
 ·cases e
end Go.Eng.S25
/- Seat 25: taking a message in that lies in a row of the caller's own, walked. -/
set_option linter.unusedSimpArgs false
set_option linter.unusedVariables false
set_option maxHeartbeats 2000000
namespace Go.Eng.S25
open Go.Proofs Go.IntWalk
set_option maxRecDepth 10000
theorem blt_dec (n : Nat) : Nat.blt 0 n = decide ((n : Int) > 0) := by
 by_cases h : 0 < n
 ·rw [nblt_yes h, decide_eq_true (by omega)]
 ·rw [nblt_no h, decide_eq_false (by omega)]
def sReceiveV : Spec := fun args hr _ => match args with
 | [v, .vs j] => match hr j 0 with
   | some (.vec 1 5 m f) => withPeer hr v fun n b c P s rd => some ⟨[s, okT P, OkP P, IsB m f, m ≤ 100000000, 0 < j ∧ n ≠ j ∧ b ≠ j ∧ c ≠ j], .int .i64 (recE P (bytesL m f)), rd ++ [(j, 0, .vec 1 5 m f)], pcon n b c (recP P (bytesL m f))⟩
   | _ => none
 | [v, .nils] => withPeer hr v fun n b c P s rd => some ⟨[s], .int .i64 2, rd, pcon n b c P⟩
 | _ => none
theorem receive_walkV {n b c j nb : Nat} {P : Peer} {L : List Int} {sd : List Prop} {rd : List (Nat × Nat × Cont)} (hT1 : 0 ≤ P.turn ∧ P.turn ≤ 1000000) (hT2 : 0 ≤ P.iss ∧ P.iss ≤ 1000000) (hok : OkP P) (hL : IsU L) (hm : L.length ≤ 100000000)
 (k4 : ∀ fin P', hget fin 1 14 = some .top → hget fin 4 0 = some (.vec 1 5 L.length (nU L)) → KeptH [n, b, c, j] nb true fin (pcon n b c P') rd) :
 evC T [(33, sCutV), (34, sNum), (35, sKnown)] ([n, b, c, j].length + 1) (Try.f12.body.getD .skip) (Post T Try.f12 [n, b, c, j] nb ⟨sd, .int .i64 (recE P L), rd, pcon n b c (recP P L)⟩ true) ⟨slots0 0 [.ptr 1 0, .vs 4] ++ (pcon 1 2 3 P ++ [(4, 0, .vec 1 5 L.length (nU L))]), [n, b, c, j].length + 1, Try.f12.ntmps⟩ := by
 obtain ⟨hn1, hn2⟩ := hok.n
 obtain ⟨hme1, hme2⟩ := hok.me
 obtain ⟨c1, c2⟩ := cutF_ok hL
 have eE : recE P L = bif (cutF L).2 != 0 then (cutF L).2 else bif decide (mFrom L ≥ P.n) || (mFrom L == P.me) then 4 else bif mTo L != P.me then 11 else
  bif Nat.blt 0 (cutF L).1.length && decide (mFirst L + (cutF L).1.length - 1 ≥ P.turn + 16) then 10 else 0 := rfl
 have hP0 : recE P L ≠ 0 → recP P L = P := fun h => by
  unfold recP
  have : (recE P L == 0) = false := by simpa using h
  rw [this]; rfl
 unfold pcon
 refine evC_go0K (s' := ⟨[(0, 0, zP 1), (0, 1, zV 4), (0, 4, zI 0), (1, 0, zI P.me), (1, 1, zI P.n), (1, 2, zI P.turn), (1, 3, zI P.iss), (1, 4, .arr 8 (nI P.hd)), (1, 12, zM 2), (1, 13, zM 3), (1, 14, .top), (2, 0, .map 2 (smap P.sets)), (3, 0, .map 2 (wmap P.words)), (4, 0, .vec 1 5 L.length (nU L))], 37, 152⟩) ?_
 refine evC_goK (ps := [0 < 4, IsB L.length (nU L), L.length ≤ (100000000 : Nat)]) (s' := ⟨[(0, 0, zP 1), (0, 1, zV 4), (0, 4, zI 0), (0, 5, zV 69), (0, 6, zI (Prod.snd (cutF (bytesL L.length (nU L))))), (1, 0, zI P.me), (1, 1, zI P.n), (1, 2, zI P.turn), (1, 3, zI P.iss), (1, 4, .arr 8 (nI P.hd)), (1, 12, zM 2), (1, 13, zM 3), (1, 14, .top), (2, 0, .map 2 (smap P.sets)), (3, 0, .map 2 (wmap P.words)), (4, 0, .vec 1 5 L.length (nU L)), (69, 0, .vec 1 30 (List.length (Prod.fst (cutF (bytesL L.length (nU L))))) (nB (Prod.fst (cutF (bytesL L.length (nU L))))))], 261, 152⟩) ?_ ?_
 ·exact ⟨by decide, isB hL, hm⟩
 rw [bytesL_nU]
 refine evC_seq ?_
 refine evC_go0K (s' := ⟨[(0, 0, zP 1), (0, 1, zV 4), (0, 4, zI 0), (0, 5, zV 69), (0, 6, zI (Prod.snd (cutF L))), (0, 24, zB (Prod.snd (cutF L) != 0)), (1, 0, zI P.me), (1, 1, zI P.n), (1, 2, zI P.turn), (1, 3, zI P.iss), (1, 4, .arr 8 (nI P.hd)), (1, 12, zM 2), (1, 13, zM 3), (1, 14, .top), (2, 0, .map 2 (smap P.sets)), (3, 0, .map 2 (wmap P.words)), (4, 0, .vec 1 5 L.length (nU L)), (69, 0, .vec 1 30 (List.length (Prod.fst (cutF L))) (nB (Prod.fst (cutF L))))], 325, 152⟩) ?_
 refine evC_if (q := Prod.snd (cutF L) != 0) (by kernel_rfl) (fun hc => ?_) (fun hc => ?_)
 ·have hE : recE P L = (cutF L).2 := by rw [eE, hc]; rfl
  have hE0 : (cutF L).2 ≠ 0 := by simpa using hc
  rw [hP0 (by rw [hE]; exact hE0), hE]
  refine evC_go0K (s' := ⟨[(0, 0, zP 1), (0, 1, zV 4), (0, 4, zI (Prod.snd (cutF L))), (0, 5, zV 69), (1, 0, zI P.me), (1, 1, zI P.n), (1, 2, zI P.turn), (1, 3, zI P.iss), (1, 4, .arr 8 (nI P.hd)), (1, 12, zM 2), (1, 13, zM 3), (1, 14, .top), (2, 0, .map 2 (smap P.sets)), (3, 0, .map 2 (wmap P.words)), (4, 0, .vec 1 5 L.length (nU L)), (69, 0, .vec 1 30 (List.length (Prod.fst (cutF L))) (nB (Prod.fst (cutF L))))], 389, 152⟩) ?_
  refine evC_ret ?_
  refine then_ret ?_
  refine post_ret ?_
  refine ends_go [] (AV.int IntKind.i64 (Prod.snd (cutF L))) [(1, 0, zI P.me), (1, 1, zI P.n), (1, 2, zI P.turn), (1, 3, zI P.iss), (1, 4, .arr 8 (nI P.hd)), (1, 12, zM 2), (1, 13, zM 3), (1, 14, .top), (2, 0, .map 2 (smap P.sets)), (3, 0, .map 2 (wmap P.words)), (4, 0, .vec 1 5 L.length (nU L))] rfl (by decide) rfl rfl (has_of _ rfl) rfl ⟨⟨_, rfl, rfl⟩, ⟨_, rfl, rfl⟩, ⟨_, rfl, rfl⟩, ⟨_, rfl, rfl⟩, ⟨_, rfl, ⟨rfl, fun _ _ => rfl⟩⟩, ⟨_, rfl, rfl⟩, ⟨_, rfl, rfl⟩, ⟨_, rfl, trivial⟩, ⟨_, rfl, Go.Eng.S25.cw_smap _⟩, ⟨_, rfl, cw_map (Go.Eng.S25.flat_wmap _)⟩, ⟨_, rfl, ⟨rfl, rfl, rfl, fun _ _ => rfl⟩⟩, trivial⟩ ⟨fun _ => ⟨1, _, rfl, rfl, rfl, ⟨has_of _ rfl, rfl⟩⟩, fun _ => ⟨1, _, rfl, rfl, rfl, ⟨has_of _ rfl, rfl⟩⟩, fun _ => ⟨1, _, rfl, rfl, rfl, ⟨has_of _ rfl, rfl⟩⟩, fun _ => ⟨1, _, rfl, rfl, rfl, ⟨has_of _ rfl, rfl⟩⟩, fun _ => ⟨1, _, rfl, rfl, rfl, ⟨rfl, fun _ _ => ⟨has_of _ rfl, rfl⟩⟩⟩, fun _ => ⟨1, _, rfl, rfl, rfl, ⟨has_of _ rfl, rfl⟩⟩, fun _ => ⟨1, _, rfl, rfl, rfl, ⟨has_of _ rfl, rfl⟩⟩, fun _ => ⟨1, _, rfl, rfl, rfl, trivial⟩, fun _ => ⟨2, _, rfl, rfl, rfl, Go.Eng.S25.cf_smap _⟩, fun _ => ⟨3, _, rfl, rfl, rfl, cf_map (Go.Eng.S25.flat_wmap _)⟩, trivial⟩ ?_
  exact k4 _ _ rfl rfl
 ·have h0 : (cutF L).2 = 0 := by simpa using hc
  have h19 := cutF_len h0
  rw [hc] at eE
  clear hc
  simp only [cond_false] at eE
  have t0 : 0 ≤ mFrom L ∧ mFrom L ≤ 255 := ((isB hL).get 0 (by omega)).2
  have t1 : 0 ≤ mTo L ∧ mTo L ≤ 255 := ((isB hL).get 1 (by omega)).2
  have t2 := mNum_rng hL 2 4
  have t3 := mNum_rng hL 6 8
  have t4 := mNum_rng hL 14 4
  have b2 : bytesL (Int.toNat 6 - Int.toNat 2) (fun i => nU L (Int.toNat 2 + i)) = (L.drop 2).take 4 := bytes_cut L 2 6 (by omega)
  have b3 : bytesL (Int.toNat 14 - Int.toNat 6) (fun i => nU L (Int.toNat 6 + i)) = (L.drop 6).take 8 := bytes_cut L 6 14 (by omega)
  have b4 : bytesL (Int.toNat 18 - Int.toNat 14) (fun i => nU L (Int.toNat 14 + i)) = (L.drop 14).take 4 := bytes_cut L 14 18 (by omega)
  refine evC_skip ?_
  refine then_normal ?_
  refine evC_goK (ps := [(0 : Int) ≤ 0, (0 : Int) < (↑L.length : Int), 1 = 1, (0 : Int) ≤ 0, (0 : Int) < (↑L.length : Int), 1 = 1, (0 : Int) ≤ 2, (2 : Int) ≤ 6, (6 : Int) ≤ (↑L.length : Int), 1 = 1, IsB (Int.toNat (6 : Int) - Int.toNat (2 : Int)) fun i => nU L (Int.toNat (2 : Int) + i), Int.toNat (6 : Int) - Int.toNat (2 : Int) ≤ (8 : Nat), (0 : Int) ≤ 6, (6 : Int) ≤ 14, (14 : Int) ≤ (↑L.length : Int), 1 = 1, IsB (Int.toNat (14 : Int) - Int.toNat (6 : Int)) fun i => nU L (Int.toNat (6 : Int) + i), Int.toNat (14 : Int) - Int.toNat (6 : Int) ≤ (8 : Nat), (0 : Int) ≤ 14, (14 : Int) ≤ 18, (18 : Int) ≤ (↑L.length : Int), 1 = 1, IsB (Int.toNat (18 : Int) - Int.toNat (14 : Int)) fun i => nU L (Int.toNat (14 : Int) + i), Int.toNat (18 : Int) - Int.toNat (14 : Int) ≤ (8 : Nat)]) (s' := ⟨[(0, 0, zP 1), (0, 1, zV 4), (0, 4, zI 0), (0, 5, zV 69), (0, 7, zI (IntKind.i64.wrap (List.getD L (Int.toNat 0) 0))), (0, 8, zI (IntKind.i64.wrap (numL (bytesL (Int.toNat 6 - Int.toNat 2) fun i => nU L (Int.toNat 2 + i))))), (0, 9, zU (numL (bytesL (Int.toNat 14 - Int.toNat 6) fun i => nU L (Int.toNat 6 + i)))), (0, 10, zI (IntKind.i64.wrap (numL (bytesL (Int.toNat 18 - Int.toNat 14) fun i => nU L (Int.toNat 14 + i))))), (1, 0, zI P.me), (1, 1, zI P.n), (1, 2, zI P.turn), (1, 3, zI P.iss), (1, 4, .arr 8 (nI P.hd)), (1, 12, zM 2), (1, 13, zM 3), (1, 14, .top), (2, 0, .map 2 (smap P.sets)), (3, 0, .map 2 (wmap P.words)), (4, 0, .vec 1 5 L.length (nU L)), (69, 0, .vec 1 30 (List.length (Prod.fst (cutF L))) (nB (Prod.fst (cutF L))))], 933, 152⟩) ?_ ?_
  ·exact ⟨by omega, by omega, rfl, by omega, by omega, rfl, by omega, by omega, by omega, rfl, isB_cut hL (by omega), (by show 6 - 2 ≤ 8; omega), by omega, by omega, by omega, rfl, isB_cut hL (by omega), (by show 14 - 6 ≤ 8; omega), by omega, by omega, by omega, rfl, isB_cut hL (by omega), (by show 18 - 14 ≤ 8; omega)⟩
  rw [b2, b3, b4]
  clear b2 b3 b4
  have w0 : IntKind.i64.wrap (L.getD (Int.toNat 0) 0) = mFrom L := i64_in (mFrom L) (by omega)
  have w1 : IntKind.i64.wrap (L.getD (Int.toNat 1) 0) = mTo L := i64_in (mTo L) (by omega)
  have w2 : IntKind.i64.wrap (numL ((L.drop 2).take 4)) = mTurn L := i64_in _ (by omega)
  have w4 : IntKind.i64.wrap (numL ((L.drop 14).take 4)) = mFirst L := i64_in _ (by omega)
  rw [w0, w2, w4, show numL ((L.drop 6).take 8) = mWord L from rfl]
  have t2' : 0 ≤ mTurn L ∧ mTurn L < 4294967296 := t2
  have t4' : 0 ≤ mFirst L ∧ mFirst L < 4294967296 := t4
  clear t2 t4
  refine evC_seq ?_
  refine evC_block ?_
  refine evC_go0K (s' := ⟨[(0, 0, zP 1), (0, 1, zV 4), (0, 4, zI 0), (0, 5, zV 69), (0, 7, zI (mFrom L)), (0, 8, zI (mTurn L)), (0, 9, zU (mWord L)), (0, 10, zI (mFirst L)), (0, 41, zB (bif decide (mFrom L ≥ P.n) then true else mFrom L == P.me)), (1, 0, zI P.me), (1, 1, zI P.n), (1, 2, zI P.turn), (1, 3, zI P.iss), (1, 4, .arr 8 (nI P.hd)), (1, 12, zM 2), (1, 13, zM 3), (1, 14, .top), (2, 0, .map 2 (smap P.sets)), (3, 0, .map 2 (wmap P.words)), (4, 0, .vec 1 5 L.length (nU L)), (69, 0, .vec 1 30 (List.length (Prod.fst (cutF L))) (nB (Prod.fst (cutF L))))], 1413, 152⟩) ?_
  rw [cond_or]
  refine evC_if (q := decide (mFrom L ≥ P.n) || mFrom L == P.me) (by kernel_rfl) (fun hc => ?_) (fun hc => ?_)
  ·have hE : recE P L = 4 := by rw [eE, hc]; rfl
   rw [hP0 (by rw [hE]; omega), hE]
   refine evC_go0K (s' := ⟨[(0, 0, zP 1), (0, 4, zI 4), (0, 5, zV 69), (0, 7, zI (mFrom L)), (0, 8, zI (mTurn L)), (0, 9, zU (mWord L)), (0, 10, zI (mFirst L)), (1, 0, zI P.me), (1, 1, zI P.n), (1, 2, zI P.turn), (1, 3, zI P.iss), (1, 4, .arr 8 (nI P.hd)), (1, 12, zM 2), (1, 13, zM 3), (1, 14, .top), (2, 0, .map 2 (smap P.sets)), (3, 0, .map 2 (wmap P.words)), (4, 0, .vec 1 5 L.length (nU L)), (69, 0, .vec 1 30 (List.length (Prod.fst (cutF L))) (nB (Prod.fst (cutF L))))], 1445, 152⟩) ?_
   refine evC_ret ?_
   refine block_ret ?_
   refine then_ret ?_
   refine post_ret ?_
   refine ends_go [] (AV.int IntKind.i64 4) [(1, 0, zI P.me), (1, 1, zI P.n), (1, 2, zI P.turn), (1, 3, zI P.iss), (1, 4, .arr 8 (nI P.hd)), (1, 12, zM 2), (1, 13, zM 3), (1, 14, .top), (2, 0, .map 2 (smap P.sets)), (3, 0, .map 2 (wmap P.words)), (4, 0, .vec 1 5 L.length (nU L))] rfl (by decide) rfl rfl (has_of _ rfl) rfl ⟨⟨_, rfl, rfl⟩, ⟨_, rfl, rfl⟩, ⟨_, rfl, rfl⟩, ⟨_, rfl, rfl⟩, ⟨_, rfl, ⟨rfl, fun _ _ => rfl⟩⟩, ⟨_, rfl, rfl⟩, ⟨_, rfl, rfl⟩, ⟨_, rfl, trivial⟩, ⟨_, rfl, Go.Eng.S25.cw_smap _⟩, ⟨_, rfl, cw_map (Go.Eng.S25.flat_wmap _)⟩, ⟨_, rfl, ⟨rfl, rfl, rfl, fun _ _ => rfl⟩⟩, trivial⟩ ⟨fun _ => ⟨1, _, rfl, rfl, rfl, ⟨has_of _ rfl, rfl⟩⟩, fun _ => ⟨1, _, rfl, rfl, rfl, ⟨has_of _ rfl, rfl⟩⟩, fun _ => ⟨1, _, rfl, rfl, rfl, ⟨has_of _ rfl, rfl⟩⟩, fun _ => ⟨1, _, rfl, rfl, rfl, ⟨has_of _ rfl, rfl⟩⟩, fun _ => ⟨1, _, rfl, rfl, rfl, ⟨rfl, fun _ _ => ⟨has_of _ rfl, rfl⟩⟩⟩, fun _ => ⟨1, _, rfl, rfl, rfl, ⟨has_of _ rfl, rfl⟩⟩, fun _ => ⟨1, _, rfl, rfl, rfl, ⟨has_of _ rfl, rfl⟩⟩, fun _ => ⟨1, _, rfl, rfl, rfl, trivial⟩, fun _ => ⟨2, _, rfl, rfl, rfl, Go.Eng.S25.cf_smap _⟩, fun _ => ⟨3, _, rfl, rfl, rfl, cf_map (Go.Eng.S25.flat_wmap _)⟩, trivial⟩ ?_
   exact k4 _ _ rfl rfl
  ·rw [hc] at eE
   simp only [Bool.or_eq_false_iff, decide_eq_false_iff_not] at hc
   obtain ⟨q1, q2⟩ := hc
   simp only [cond_false] at eE
   refine evC_goK (ps := [(0 : Int) ≤ 1, (1 : Int) < (↑L.length : Int), 1 = 1, (0 : Int) ≤ 1, (1 : Int) < (↑L.length : Int), 1 = 1]) (s' := ⟨[(0, 0, zP 1), (0, 4, zI 0), (0, 5, zV 69), (0, 7, zI (mFrom L)), (0, 8, zI (mTurn L)), (0, 9, zU (mWord L)), (0, 10, zI (mFirst L)), (0, 56, zB (IntKind.i64.wrap (List.getD L (Int.toNat 1) 0) != P.me)), (1, 0, zI P.me), (1, 1, zI P.n), (1, 2, zI P.turn), (1, 3, zI P.iss), (1, 4, .arr 8 (nI P.hd)), (1, 12, zM 2), (1, 13, zM 3), (1, 14, .top), (2, 0, .map 2 (smap P.sets)), (3, 0, .map 2 (wmap P.words)), (4, 0, .vec 1 5 L.length (nU L)), (69, 0, .vec 1 30 (List.length (Prod.fst (cutF L))) (nB (Prod.fst (cutF L))))], 1733, 152⟩) ?_ ?_
   ·(simp only [All]; (repeat' apply And.intro) <;> (try intro _) <;> (try intro _) <;> (repeat' apply And.intro) <;> (try intro _) <;> (try intro _) <;> first | trivial | assumption | exact .inr trivial | exact .inr rfl | omega | rfl | exact ⟨_, rfl, rfl⟩ | exact ⟨rfl, rfl⟩ | exact ⟨fun _ => rfl, fun _ => rfl⟩ | (unfold maxLen; omega) | (unfold i64R; first | omega | decide) | decide)
   rw [w1]
   refine evC_if (q := mTo L != P.me) (by kernel_rfl) (fun hc => ?_) (fun hc => ?_)
   ·have hE : recE P L = 11 := by rw [eE, hc]; rfl
    rw [hP0 (by rw [hE]; omega), hE]
    refine evC_go0K (s' := ⟨[(0, 0, zP 1), (0, 4, zI 11), (0, 5, zV 69), (0, 7, zI (mFrom L)), (0, 8, zI (mTurn L)), (0, 9, zU (mWord L)), (0, 10, zI (mFirst L)), (1, 0, zI P.me), (1, 1, zI P.n), (1, 2, zI P.turn), (1, 3, zI P.iss), (1, 4, .arr 8 (nI P.hd)), (1, 12, zM 2), (1, 13, zM 3), (1, 14, .top), (2, 0, .map 2 (smap P.sets)), (3, 0, .map 2 (wmap P.words)), (4, 0, .vec 1 5 L.length (nU L)), (69, 0, .vec 1 30 (List.length (Prod.fst (cutF L))) (nB (Prod.fst (cutF L))))], 1765, 152⟩) ?_
    refine evC_ret ?_
    refine block_ret ?_
    refine then_ret ?_
    refine post_ret ?_
    refine ends_go [] (AV.int IntKind.i64 11) [(1, 0, zI P.me), (1, 1, zI P.n), (1, 2, zI P.turn), (1, 3, zI P.iss), (1, 4, .arr 8 (nI P.hd)), (1, 12, zM 2), (1, 13, zM 3), (1, 14, .top), (2, 0, .map 2 (smap P.sets)), (3, 0, .map 2 (wmap P.words)), (4, 0, .vec 1 5 L.length (nU L))] rfl (by decide) rfl rfl (has_of _ rfl) rfl ⟨⟨_, rfl, rfl⟩, ⟨_, rfl, rfl⟩, ⟨_, rfl, rfl⟩, ⟨_, rfl, rfl⟩, ⟨_, rfl, ⟨rfl, fun _ _ => rfl⟩⟩, ⟨_, rfl, rfl⟩, ⟨_, rfl, rfl⟩, ⟨_, rfl, trivial⟩, ⟨_, rfl, Go.Eng.S25.cw_smap _⟩, ⟨_, rfl, cw_map (Go.Eng.S25.flat_wmap _)⟩, ⟨_, rfl, ⟨rfl, rfl, rfl, fun _ _ => rfl⟩⟩, trivial⟩ ⟨fun _ => ⟨1, _, rfl, rfl, rfl, ⟨has_of _ rfl, rfl⟩⟩, fun _ => ⟨1, _, rfl, rfl, rfl, ⟨has_of _ rfl, rfl⟩⟩, fun _ => ⟨1, _, rfl, rfl, rfl, ⟨has_of _ rfl, rfl⟩⟩, fun _ => ⟨1, _, rfl, rfl, rfl, ⟨has_of _ rfl, rfl⟩⟩, fun _ => ⟨1, _, rfl, rfl, rfl, ⟨rfl, fun _ _ => ⟨has_of _ rfl, rfl⟩⟩⟩, fun _ => ⟨1, _, rfl, rfl, rfl, ⟨has_of _ rfl, rfl⟩⟩, fun _ => ⟨1, _, rfl, rfl, rfl, ⟨has_of _ rfl, rfl⟩⟩, fun _ => ⟨1, _, rfl, rfl, rfl, trivial⟩, fun _ => ⟨2, _, rfl, rfl, rfl, Go.Eng.S25.cf_smap _⟩, fun _ => ⟨3, _, rfl, rfl, rfl, cf_map (Go.Eng.S25.flat_wmap _)⟩, trivial⟩ ?_
    exact k4 _ _ rfl rfl
   ·rw [hc] at eE
    clear hc
    simp only [cond_false] at eE
    refine evC_go0K (s' := ⟨[(0, 0, zP 1), (0, 4, zI 0), (0, 5, zV 69), (0, 7, zI (mFrom L)), (0, 8, zI (mTurn L)), (0, 9, zU (mWord L)), (0, 10, zI (mFirst L)), (0, 66, zB (bif decide ((↑(List.length (Prod.fst (cutF L))) : Int) > 0) then decide (IntKind.i64.wrap (IntKind.i64.wrap (mFirst L + (↑(List.length (Prod.fst (cutF L))) : Int)) - 1) ≥ IntKind.i64.wrap (P.turn + 16)) else false)), (1, 0, zI P.me), (1, 1, zI P.n), (1, 2, zI P.turn), (1, 3, zI P.iss), (1, 4, .arr 8 (nI P.hd)), (1, 12, zM 2), (1, 13, zM 3), (1, 14, .top), (2, 0, .map 2 (smap P.sets)), (3, 0, .map 2 (wmap P.words)), (4, 0, .vec 1 5 L.length (nU L)), (69, 0, .vec 1 30 (List.length (Prod.fst (cutF L))) (nB (Prod.fst (cutF L))))], 2277, 152⟩) ?_
    rw [i64_in (mFirst L + ((cutF L).1.length : Int)) (by omega), i64_in (mFirst L + ((cutF L).1.length : Int) - 1) (by omega), i64_in (P.turn + 16) (by omega), cond_and]
    rw [blt_dec] at eE
    refine evC_if (q := decide ((↑(List.length (Prod.fst (cutF L))) : Int) > 0) && decide (mFirst L + (↑(List.length (Prod.fst (cutF L))) : Int) - 1 ≥ P.turn + 16)) (by kernel_rfl) (fun hc => ?_) (fun hc => ?_)
    ·have hE : recE P L = 10 := by rw [eE, hc]; rfl
     rw [hP0 (by rw [hE]; omega), hE]
     refine evC_go0K (s' := ⟨[(0, 0, zP 1), (0, 4, zI 10), (0, 5, zV 69), (0, 7, zI (mFrom L)), (0, 8, zI (mTurn L)), (0, 9, zU (mWord L)), (0, 10, zI (mFirst L)), (1, 0, zI P.me), (1, 1, zI P.n), (1, 2, zI P.turn), (1, 3, zI P.iss), (1, 4, .arr 8 (nI P.hd)), (1, 12, zM 2), (1, 13, zM 3), (1, 14, .top), (2, 0, .map 2 (smap P.sets)), (3, 0, .map 2 (wmap P.words)), (4, 0, .vec 1 5 L.length (nU L)), (69, 0, .vec 1 30 (List.length (Prod.fst (cutF L))) (nB (Prod.fst (cutF L))))], 2309, 152⟩) ?_
     refine evC_ret ?_
     refine block_ret ?_
     refine then_ret ?_
     refine post_ret ?_
     refine ends_go [] (AV.int IntKind.i64 10) [(1, 0, zI P.me), (1, 1, zI P.n), (1, 2, zI P.turn), (1, 3, zI P.iss), (1, 4, .arr 8 (nI P.hd)), (1, 12, zM 2), (1, 13, zM 3), (1, 14, .top), (2, 0, .map 2 (smap P.sets)), (3, 0, .map 2 (wmap P.words)), (4, 0, .vec 1 5 L.length (nU L))] rfl (by decide) rfl rfl (has_of _ rfl) rfl ⟨⟨_, rfl, rfl⟩, ⟨_, rfl, rfl⟩, ⟨_, rfl, rfl⟩, ⟨_, rfl, rfl⟩, ⟨_, rfl, ⟨rfl, fun _ _ => rfl⟩⟩, ⟨_, rfl, rfl⟩, ⟨_, rfl, rfl⟩, ⟨_, rfl, trivial⟩, ⟨_, rfl, Go.Eng.S25.cw_smap _⟩, ⟨_, rfl, cw_map (Go.Eng.S25.flat_wmap _)⟩, ⟨_, rfl, ⟨rfl, rfl, rfl, fun _ _ => rfl⟩⟩, trivial⟩ ⟨fun _ => ⟨1, _, rfl, rfl, rfl, ⟨has_of _ rfl, rfl⟩⟩, fun _ => ⟨1, _, rfl, rfl, rfl, ⟨has_of _ rfl, rfl⟩⟩, fun _ => ⟨1, _, rfl, rfl, rfl, ⟨has_of _ rfl, rfl⟩⟩, fun _ => ⟨1, _, rfl, rfl, rfl, ⟨has_of _ rfl, rfl⟩⟩, fun _ => ⟨1, _, rfl, rfl, rfl, ⟨rfl, fun _ _ => ⟨has_of _ rfl, rfl⟩⟩⟩, fun _ => ⟨1, _, rfl, rfl, rfl, ⟨has_of _ rfl, rfl⟩⟩, fun _ => ⟨1, _, rfl, rfl, rfl, ⟨has_of _ rfl, rfl⟩⟩, fun _ => ⟨1, _, rfl, rfl, rfl, trivial⟩, fun _ => ⟨2, _, rfl, rfl, rfl, Go.Eng.S25.cf_smap _⟩, fun _ => ⟨3, _, rfl, rfl, rfl, cf_map (Go.Eng.S25.flat_wmap _)⟩, trivial⟩ ?_
     exact k4 _ _ rfl rfl
    ·have hE : recE P L = 0 := by rw [eE, hc]; rfl
     have hP : recP P L = ⟨P.me, P.n, P.turn, P.iss, recH P L, recS (mFrom L) (mFirst L) (cutF L).1 P.sets (cutF L).1.length, recW P L⟩ := by unfold recP; rw [hE]; rfl
     rw [hE, hP]
     clear hc eE hE hP hP0
     refine evC_skip ?_
     refine block_normal ?_
     refine then_normal ?_
     refine evC_goK (ps := [(0 : Int) ≤ mFrom L, mFrom L < (↑(8 : Nat) : Int), (0 : Int) ≤ mFrom L, mFrom L < (↑(8 : Nat) : Int), (0 : Int) ≤ mFrom L, mFrom L < (↑(8 : Nat) : Int), (0 : Int) ≤ mFrom L, mFrom L < (↑(8 : Nat) : Int)]) (s' := ⟨[(0, 0, zP 1), (0, 4, zI 0), (0, 5, zV 69), (0, 7, zI (mFrom L)), (0, 8, zI (mTurn L)), (0, 9, zU (mWord L)), (0, 10, zI (mFirst L)), (1, 0, zI P.me), (1, 1, zI P.n), (1, 2, zI P.turn), (1, 3, zI P.iss), (1, 4, .arr 8 fun j => bif j == Int.toNat (mFrom L) then AV.int IntKind.i64 (mx2 (P.hd (Int.toNat (mFrom L))) (mTurn L)) else nI P.hd j), (1, 12, zM 2), (1, 13, zM 3), (1, 14, .top), (2, 0, .map 2 (smap P.sets)), (3, 0, .map 2 (wmap P.words)), (4, 0, .vec 1 5 L.length (nU L)), (69, 0, .vec 1 30 (List.length (Prod.fst (cutF L))) (nB (Prod.fst (cutF L))))], 2725, 152⟩) ?_ ?_
     ·refine ⟨by omega, ?_, by omega, ?_, by omega, ?_, by omega, ?_⟩ <;> (show mFrom L < (8 : Int); omega)
     refine evC_wk (s' := ⟨[(0, 0, zP 1), (0, 4, zI 0), (0, 5, zV 5), (0, 7, zI (mFrom L)), (0, 8, zI (mTurn L)), (0, 9, zU (mWord L)), (0, 10, zI (mFirst L)), (1, 0, zI P.me), (1, 1, zI P.n), (1, 2, zI P.turn), (1, 3, zI P.iss), (1, 4, .arr 8 (nI (recH P L))), (1, 12, zM 2), (1, 13, zM 3), (1, 14, Cont.top), (2, 0, Cont.map 2 (smap P.sets)), (3, 0, Cont.map 2 (wmap P.words)), (4, 0, Cont.vec 1 5 L.length (nU L)), (5, 0, Cont.vec 1 30 (List.length (Prod.fst (cutF L))) (nB (Prod.fst (cutF L))))], 6, 152⟩) _ (wk_go [69] rfl (by decide) rfl rfl ⟨⟨_, rfl, rfl⟩, ⟨_, rfl, rfl⟩, ⟨_, rfl, rfl⟩, ⟨_, rfl, rfl⟩, ⟨_, rfl, rfl⟩, ⟨_, rfl, rfl⟩, ⟨_, rfl, rfl⟩, ⟨_, rfl, rfl⟩, ⟨_, rfl, rfl⟩, ⟨_, rfl, rfl⟩, ⟨_, rfl, rfl⟩, ⟨_, rfl, ?_⟩, ⟨_, rfl, rfl⟩, ⟨_, rfl, rfl⟩, ⟨_, rfl, trivial⟩, ⟨_, rfl, Go.Eng.S25.cw_smap _⟩, ⟨_, rfl, cw_map (Go.Eng.S25.flat_wmap _)⟩, ⟨_, rfl, rfl, rfl, rfl, fun _ _ => rfl⟩, ⟨_, rfl, rfl, rfl, rfl, fun _ _ => rfl⟩, trivial⟩) ?_
     ·refine ⟨rfl, fun i hi => ?_⟩
      show (bif i == (mFrom L).toNat then AV.int .i64 (mx2 (P.hd (mFrom L).toNat) (mTurn L)) else nI P.hd i) = AV.int .i64 (bif i == (mFrom L).toNat then mx2 (P.hd i) (mTurn L) else P.hd i)
      cases hb : i == (mFrom L).toNat with
      | true =>
        have : i = (mFrom L).toNat := by simpa using hb
        rw [this]; rfl
      | false => rfl
     have hlw := look_w P.words (mTurn L) (mFrom L)
     refine evC_seq ?_
     refine evC_goK (ps := [Option.getD (mget (wmap P.words) [mTurn L, mFrom L]) (AV.int IntKind.u64 (0 : Int)) = AV.int IntKind.u64 (iv (Option.getD (mget (wmap P.words) [mTurn L, mFrom L]) (AV.int IntKind.u64 (0 : Int))))]) (s' := ⟨[(0, 0, zP 1), (0, 4, zI 0), (0, 5, zV 5), (0, 7, zI (mFrom L)), (0, 8, zI (mTurn L)), (0, 9, zU (mWord L)), (0, 10, zI (mFirst L)), (0, 12, zB (Option.isSome (mget (wmap P.words) [mTurn L, mFrom L]))), (1, 0, zI P.me), (1, 1, zI P.n), (1, 2, zI P.turn), (1, 3, zI P.iss), (1, 4, .arr 8 (nI (recH P L))), (1, 12, zM 2), (1, 13, zM 3), (1, 14, .top), (2, 0, .map 2 (smap P.sets)), (3, 0, .map 2 (wmap P.words)), (4, 0, .vec 1 5 L.length (nU L)), (5, 0, .vec 1 30 (List.length (Prod.fst (cutF L))) (nB (Prod.fst (cutF L))))], 422, 152⟩) ?_ ?_
     ·rw [hlw]; rfl
     rw [look_wsome]
     refine evC_go0K (s' := ⟨[(0, 0, zP 1), (0, 4, zI 0), (0, 5, zV 5), (0, 7, zI (mFrom L)), (0, 8, zI (mTurn L)), (0, 9, zU (mWord L)), (0, 10, zI (mFirst L)), (0, 116, zB (bif bif !Option.isSome (kget P.words (mTurn L) (mFrom L)) then decide (mTurn L > 0) else false then mWord L != 0 else false)), (1, 0, zI P.me), (1, 1, zI P.n), (1, 2, zI P.turn), (1, 3, zI P.iss), (1, 4, .arr 8 (nI (recH P L))), (1, 12, zM 2), (1, 13, zM 3), (1, 14, .top), (2, 0, .map 2 (smap P.sets)), (3, 0, .map 2 (wmap P.words)), (4, 0, .vec 1 5 L.length (nU L)), (5, 0, .vec 1 30 (List.length (Prod.fst (cutF L))) (nB (Prod.fst (cutF L))))], 742, 152⟩) ?_
     rw [cond_and, cond_and]
     refine evC_cutThen (ι := Unit) (fun _ => ⟨[(0, 0, zP 1), (0, 4, zI 0), (0, 5, zV 5), (0, 7, zI (mFrom L)), (0, 8, zI (mTurn L)), (0, 9, zU (mWord L)), (0, 10, zI (mFirst L)), (0, 116, zB (!Option.isSome (kget P.words (mTurn L) (mFrom L)) && decide (mTurn L > 0) && mWord L != 0)), (1, 0, zI P.me), (1, 1, zI P.n), (1, 2, zI P.turn), (1, 3, zI P.iss), (1, 4, .arr 8 (nI (recH P L))), (1, 12, zM 2), (1, 13, zM 3), (1, 14, .top), (2, 0, .map 2 (smap P.sets)), (3, 0, .map 2 (wmap (recW P L))), (4, 0, .vec 1 5 L.length (nU L)), (5, 0, .vec 1 30 (List.length (Prod.fst (cutF L))) (nB (Prod.fst (cutF L))))], 6, 152⟩) ?_ ?_
     ·refine evC_if (q := !Option.isSome (kget P.words (mTurn L) (mFrom L)) && decide (mTurn L > 0) && mWord L != 0) (by kernel_rfl) (fun hc => ?_) (fun hc => ?_)
      ·have hW : recW P L = kput P.words (mTurn L) (mFrom L) (mWord L) := by unfold recW; rw [hc]; rfl
       refine evC_goL0K (s' := ⟨[(0, 0, zP 1), (0, 4, zI 0), (0, 5, zV 5), (0, 7, zI (mFrom L)), (0, 8, zI (mTurn L)), (0, 9, zU (mWord L)), (0, 10, zI (mFirst L)), (0, 116, zB (!Option.isSome (kget P.words (mTurn L) (mFrom L)) && decide (mTurn L > 0) && mWord L != 0)), (1, 0, zI P.me), (1, 1, zI P.n), (1, 2, zI P.turn), (1, 3, zI P.iss), (1, 4, .arr 8 (nI (recH P L))), (1, 12, zM 2), (1, 13, zM 3), (1, 14, .top), (2, 0, .map 2 (smap P.sets)), (3, 0, .map 2 (mput (wmap P.words) [mTurn L, mFrom L] (AV.int IntKind.u64 (mWord L)))), (4, 0, .vec 1 5 L.length (nU L)), (5, 0, .vec 1 30 (List.length (Prod.fst (cutF L))) (nB (Prod.fst (cutF L))))], 1030, 152⟩) ?_
       skip
       refine cut_normal (()) (wk_go [5] rfl (by decide) rfl rfl ⟨⟨_, rfl, rfl⟩, ⟨_, rfl, rfl⟩, ⟨_, rfl, rfl⟩, ⟨_, rfl, rfl⟩, ⟨_, rfl, rfl⟩, ⟨_, rfl, rfl⟩, ⟨_, rfl, rfl⟩, ⟨_, rfl, rfl⟩, ⟨_, rfl, rfl⟩, ⟨_, rfl, rfl⟩, ⟨_, rfl, rfl⟩, ⟨_, rfl, rfl⟩, ⟨_, rfl, ⟨rfl, fun _ _ => rfl⟩⟩, ⟨_, rfl, rfl⟩, ⟨_, rfl, rfl⟩, ⟨_, rfl, trivial⟩, ⟨_, rfl, Go.Eng.S25.cw_smap _⟩, ⟨_, rfl, ?_⟩, ⟨_, rfl, ⟨rfl, rfl, rfl, fun _ _ => rfl⟩⟩, ⟨_, rfl, ⟨rfl, rfl, rfl, fun _ _ => rfl⟩⟩, trivial⟩)
       rw [hW]
       exact cw_wput _ _ _ _ _ _
      ·have hW : recW P L = P.words := by unfold recW; rw [hc]; rfl
       refine evC_skip ?_
       refine cut_normal (()) (wk_go [5] rfl (by decide) rfl rfl ⟨⟨_, rfl, rfl⟩, ⟨_, rfl, rfl⟩, ⟨_, rfl, rfl⟩, ⟨_, rfl, rfl⟩, ⟨_, rfl, rfl⟩, ⟨_, rfl, rfl⟩, ⟨_, rfl, rfl⟩, ⟨_, rfl, rfl⟩, ⟨_, rfl, rfl⟩, ⟨_, rfl, rfl⟩, ⟨_, rfl, rfl⟩, ⟨_, rfl, rfl⟩, ⟨_, rfl, ⟨rfl, fun _ _ => rfl⟩⟩, ⟨_, rfl, rfl⟩, ⟨_, rfl, rfl⟩, ⟨_, rfl, trivial⟩, ⟨_, rfl, Go.Eng.S25.cw_smap _⟩, ⟨_, rfl, ?_⟩, ⟨_, rfl, ⟨rfl, rfl, rfl, fun _ _ => rfl⟩⟩, ⟨_, rfl, ⟨rfl, rfl, rfl, fun _ _ => rfl⟩⟩, trivial⟩)
       rw [hW]
       exact cw_map (flat_wmap _)
     intro _
     generalize recW P L = W
     generalize recH P L = hd
     generalize hLs : (cutF L).1 = Ls at c1 c2 ⊢
     generalize mFrom L = q at *
     generalize mFirst L = first at *
     obtain ⟨R, hR⟩ : ∃ R, R = recS q first Ls P.sets Ls.length := ⟨_, rfl⟩
     rw [← hR]
     refine evC_seq ?_
     refine evC_go0K (s' := ⟨[(0, 0, zP 1), (0, 4, zI 0), (0, 7, zI q), (0, 10, zI first), (0, 125, zV 5), (0, 126, zI Ls.length), (0, 127, zI 0), (1, 0, zI P.me), (1, 1, zI P.n), (1, 2, zI P.turn), (1, 3, zI P.iss), (1, 4, .arr 8 (nI hd)), (1, 12, zM 2), (1, 13, zM 3), (1, 14, .top), (2, 0, .map 2 (smap P.sets)), (3, 0, .map 2 (wmap W)), (4, 0, .vec 1 5 L.length (nU L)), (5, 0, .vec 1 30 Ls.length (nB Ls))], 102, 152⟩) ?_
     refine evC_block ?_
     refine evC_loop (ι := { k : Nat // k ≤ Ls.length }) (fun k => ⟨[(0, 0, zP 1), (0, 4, zI 0), (0, 7, zI q), (0, 10, zI first), (0, 125, zV 5), (0, 126, zI Ls.length), (0, 127, zI (k.1 : Nat)), (1, 0, zI P.me), (1, 1, zI P.n), (1, 2, zI P.turn), (1, 3, zI P.iss), (1, 4, Cont.arr 8 (nI hd)), (1, 12, zM 2), (1, 13, zM 3), (1, 14, Cont.top), (2, 0, .map 2 (smap (recS q first Ls P.sets k.1))), (3, 0, Cont.map 2 (wmap W)), (4, 0, Cont.vec 1 5 L.length (nU L)), (5, 0, Cont.vec 1 30 Ls.length (nB Ls))], 6, 152⟩) (fun k => Ls.length - k.1) ⟨0, Nat.zero_le _⟩ (wk_go [5] rfl (by decide) rfl rfl ⟨⟨_, rfl, rfl⟩, ⟨_, rfl, rfl⟩, ⟨_, rfl, rfl⟩, ⟨_, rfl, rfl⟩, ⟨_, rfl, rfl⟩, ⟨_, rfl, rfl⟩, ⟨_, rfl, rfl⟩, ⟨_, rfl, rfl⟩, ⟨_, rfl, rfl⟩, ⟨_, rfl, rfl⟩, ⟨_, rfl, rfl⟩, ⟨_, rfl, rfl, fun _ _ => rfl⟩, ⟨_, rfl, rfl⟩, ⟨_, rfl, rfl⟩, ⟨_, rfl, trivial⟩, ⟨_, rfl, Go.Eng.S25.cw_smap _⟩, ⟨_, rfl, cw_map (Go.Eng.S25.flat_wmap _)⟩, ⟨_, rfl, rfl, rfl, rfl, fun _ _ => rfl⟩, ⟨_, rfl, rfl, rfl, rfl, fun _ _ => rfl⟩, trivial⟩) ?_
     rintro ⟨k, hk⟩
     refine evC_go0K (s' := ⟨[(0, 0, zP 1), (0, 4, zI 0), (0, 7, zI q), (0, 10, zI first), (0, 125, zV 5), (0, 126, zI Ls.length), (0, 127, zI k), (0, 128, zB (decide ((↑k : Int) < ↑Ls.length))), (1, 0, zI P.me), (1, 1, zI P.n), (1, 2, zI P.turn), (1, 3, zI P.iss), (1, 4, .arr 8 (nI hd)), (1, 12, zM 2), (1, 13, zM 3), (1, 14, .top), (2, 0, .map 2 (smap (recS q first Ls P.sets k))), (3, 0, .map 2 (wmap W)), (4, 0, .vec 1 5 L.length (nU L)), (5, 0, .vec 1 30 Ls.length (nB Ls))], 38, 152⟩) ?_
     refine evC_seq ?_
     refine evC_if (q := decide ((↑k : Int) < (↑(List.length Ls) : Int))) (by kernel_rfl) (fun hc => ?_) (fun hc => ?_)
     ·have hlt : k < Ls.length := by have := of_decide_eq_true hc; omega
      clear hc
      have hrs : recS q first Ls P.sets (k + 1) = bif kn (recS q first Ls P.sets k) (first + (k : Nat)) q then recS q first Ls P.sets k else kput (recS q first Ls P.sets k) (first + (k : Nat)) q (Ls.getD k []) := rfl
      generalize recS q first Ls P.sets k = S at hrs ⊢
      have hkn : ∀ a b c d e w, knownB ⟨a, b, c, d, e, sOf (smap S), w⟩ (first + (k : Int)) q = kn S (first + (k : Int)) q := fun a b c d e w => by unfold knownB kn; rw [sOf_smap]
      refine evC_skip ?_
      refine then_normal ?_
      refine evC_seq ?_
      refine evC_block ?_
      refine evC_goK (ps := [(0 : Int) ≤ ↑k, (↑k : Int) < ↑Ls.length, 1 = 1, (0 : Int) ≤ ↑k, (↑k : Int) < ↑Ls.length, 1 = 1]) (s' := ⟨[(0, 0, zP 1), (0, 4, zI 0), (0, 7, zI q), (0, 10, zI first), (0, 13, zI k), (0, 14, .cell (AV.rs 1 (List.length (List.getD Ls k [])) false (nU (List.getD Ls k [])))), (0, 125, zV 5), (0, 126, zI Ls.length), (0, 127, zI k), (1, 0, zI P.me), (1, 1, zI P.n), (1, 2, zI P.turn), (1, 3, zI P.iss), (1, 4, .arr 8 (nI hd)), (1, 12, zM 2), (1, 13, zM 3), (1, 14, .top), (2, 0, .map 2 (smap S)), (3, 0, .map 2 (wmap W)), (4, 0, .vec 1 5 L.length (nU L)), (5, 0, .vec 1 30 Ls.length (nB Ls))], 198, 152⟩) ?_ ?_
      ·(simp only [All]; (repeat' apply And.intro) <;> (try intro _) <;> (try intro _) <;> (repeat' apply And.intro) <;> (try intro _) <;> (try intro _) <;> first | trivial | assumption | exact .inr trivial | exact .inr rfl | omega | rfl | exact ⟨_, rfl, rfl⟩ | exact ⟨rfl, rfl⟩ | exact ⟨fun _ => rfl, fun _ => rfl⟩ | (unfold maxLen; omega) | (unfold i64R; first | omega | decide) | decide)
      refine evC_go0K (s' := ⟨[(0, 0, zP 1), (0, 4, zI 0), (0, 7, zI q), (0, 10, zI first), (0, 14, .cell (AV.rs 1 (List.length (List.getD Ls k [])) false (nU (List.getD Ls k [])))), (0, 15, zP 358), (0, 125, zV 5), (0, 126, zI Ls.length), (0, 127, zI k), (1, 0, zI P.me), (1, 1, zI P.n), (1, 2, zI P.turn), (1, 3, zI P.iss), (1, 4, .arr 8 (nI hd)), (1, 12, zM 2), (1, 13, zM 3), (1, 14, .top), (2, 0, .map 2 (smap S)), (3, 0, .map 2 (wmap W)), (4, 0, .vec 1 5 L.length (nU L)), (5, 0, .vec 1 30 Ls.length (nB Ls)), (358, 0, zI (IntKind.i64.wrap (first + (↑k : Int)))), (358, 1, zI q), (358, 2, .top)], 422, 152⟩) ?_
      rw [i64_in (first + (k : Int)) (by omega)]
      refine evC_goK (ps := [(0 < 1 ∧ 0 < 2 ∧ 0 < 3 ∧ 1 ≠ 2 ∧ 1 ≠ 3 ∧ 2 ≠ 3) ∧ smap S = smap (sOf (smap S)) ∧ wmap W = wmap (wOf (wmap W)) ∧ ∀ (i : Nat), i < (8 : Nat) → nI hd i = nI (If (nI hd)) i]) (s' := ⟨[(0, 0, zP 1), (0, 4, zI 0), (0, 7, zI q), (0, 10, zI first), (0, 14, .cell (AV.rs 1 (List.length (List.getD Ls k [])) false (nU (List.getD Ls k [])))), (0, 15, zP 358), (0, 17, zB (knownB { me := P.me, n := P.n, turn := P.turn, iss := P.iss, hd := If (nI hd), sets := sOf (smap S), words := wOf (wmap W) } (first + (↑k : Int)) q)), (0, 125, zV 5), (0, 126, zI Ls.length), (0, 127, zI k), (1, 0, zI P.me), (1, 1, zI P.n), (1, 2, zI P.turn), (1, 3, zI P.iss), (1, 4, .arr 8 (nI hd)), (1, 12, zM 2), (1, 13, zM 3), (1, 14, .top), (2, 0, .map 2 (smap S)), (3, 0, .map 2 (wmap W)), (4, 0, .vec 1 5 L.length (nU L)), (5, 0, .vec 1 30 Ls.length (nB Ls)), (358, 0, zI (first + (↑k : Int))), (358, 1, zI q), (358, 2, .top)], 678, 152⟩) ?_ ?_
      ·exact peer_side (⟨P.me, P.n, P.turn, P.iss, hd, S, W⟩ : Peer) (by decide)
      rw [hkn]
      refine evC_go0K (s' := ⟨[(0, 0, zP 1), (0, 4, zI 0), (0, 7, zI q), (0, 10, zI first), (0, 14, .cell (AV.rs 1 (List.length (List.getD Ls k [])) false (nU (List.getD Ls k [])))), (0, 15, zP 358), (0, 125, zV 5), (0, 126, zI Ls.length), (0, 127, zI k), (0, 144, zB (!kn S (first + (↑k : Int)) q)), (1, 0, zI P.me), (1, 1, zI P.n), (1, 2, zI P.turn), (1, 3, zI P.iss), (1, 4, .arr 8 (nI hd)), (1, 12, zM 2), (1, 13, zM 3), (1, 14, .top), (2, 0, .map 2 (smap S)), (3, 0, .map 2 (wmap W)), (4, 0, .vec 1 5 L.length (nU L)), (5, 0, .vec 1 30 Ls.length (nB Ls)), (358, 0, zI (first + (↑k : Int))), (358, 1, zI q), (358, 2, .top)], 742, 152⟩) ?_
      generalize Ls.getD k [] = M at hrs ⊢
      refine evC_if (q := !kn S (first + (↑k : Int)) q) (by kernel_rfl) (fun hc => ?_) (fun hc => ?_)
      ·have hb : kn S (first + (k : Int)) q = false := by simpa using hc
       rw [hb] at hrs
       clear hc hb
       refine evC_goL0K (s' := ⟨[(0, 0, zP 1), (0, 4, zI 0), (0, 7, zI q), (0, 10, zI first), (0, 125, zV 5), (0, 126, zI Ls.length), (0, 127, zI k), (1, 0, zI P.me), (1, 1, zI P.n), (1, 2, zI P.turn), (1, 3, zI P.iss), (1, 4, .arr 8 (nI hd)), (1, 12, zM 2), (1, 13, zM 3), (1, 14, .top), (2, 0, .map 2 (mput (smap S) [first + (↑k : Int), q] (AV.rs 1 M.length false (nU M)))), (3, 0, .map 2 (wmap W)), (4, 0, .vec 1 5 L.length (nU L)), (5, 0, .vec 1 30 Ls.length (nB Ls))], 966, 152⟩) ?_
       refine block_normal ?_
       refine then_normal ?_
       refine evC_wk (s' := ⟨[(0, 0, zP 1), (0, 4, zI 0), (0, 7, zI q), (0, 10, zI first), (0, 125, zV 5), (0, 126, zI Ls.length), (0, 127, zI k), (1, 0, zI P.me), (1, 1, zI P.n), (1, 2, zI P.turn), (1, 3, zI P.iss), (1, 4, Cont.arr 8 (nI hd)), (1, 12, zM 2), (1, 13, zM 3), (1, 14, Cont.top), (2, 0, .map 2 (smap (kput S (first + (k : Int)) q M))), (3, 0, Cont.map 2 (wmap W)), (4, 0, Cont.vec 1 5 L.length (nU L)), (5, 0, Cont.vec 1 30 Ls.length (nB Ls))], 6, 152⟩) _ (wk_go [5] rfl (by decide) rfl rfl ⟨⟨_, rfl, rfl⟩, ⟨_, rfl, rfl⟩, ⟨_, rfl, rfl⟩, ⟨_, rfl, rfl⟩, ⟨_, rfl, rfl⟩, ⟨_, rfl, rfl⟩, ⟨_, rfl, rfl⟩, ⟨_, rfl, rfl⟩, ⟨_, rfl, rfl⟩, ⟨_, rfl, rfl⟩, ⟨_, rfl, rfl⟩, ⟨_, rfl, rfl, fun _ _ => rfl⟩, ⟨_, rfl, rfl⟩, ⟨_, rfl, rfl⟩, ⟨_, rfl, trivial⟩, ⟨_, rfl, ?_⟩, ⟨_, rfl, cw_map (Go.Eng.S25.flat_wmap _)⟩, ⟨_, rfl, rfl, rfl, rfl, fun _ _ => rfl⟩, ⟨_, rfl, rfl, rfl, rfl, fun _ _ => rfl⟩, trivial⟩) ?_
       ·exact cw_put2 _ _ _ _ _ _
       refine evC_goL0K (s' := ⟨[(0, 0, zP 1), (0, 4, zI 0), (0, 7, zI q), (0, 10, zI first), (0, 125, zV 5), (0, 126, zI Ls.length), (0, 127, zI (IntKind.i64.wrap ((↑k : Int) + 1))), (1, 0, zI P.me), (1, 1, zI P.n), (1, 2, zI P.turn), (1, 3, zI P.iss), (1, 4, .arr 8 (nI hd)), (1, 12, zM 2), (1, 13, zM 3), (1, 14, .top), (2, 0, .map 2 (smap (kput S (first + (↑k : Int)) q M))), (3, 0, .map 2 (wmap W)), (4, 0, .vec 1 5 L.length (nU L)), (5, 0, .vec 1 30 Ls.length (nB Ls))], 70, 152⟩) ?_
       refine round_normal (⟨k + 1, hlt⟩) (wk_go [5] rfl (by decide) rfl rfl ⟨⟨_, rfl, rfl⟩, ⟨_, rfl, rfl⟩, ⟨_, rfl, rfl⟩, ⟨_, rfl, rfl⟩, ⟨_, rfl, rfl⟩, ⟨_, rfl, rfl⟩, ⟨_, rfl, ?_⟩, ⟨_, rfl, rfl⟩, ⟨_, rfl, rfl⟩, ⟨_, rfl, rfl⟩, ⟨_, rfl, rfl⟩, ⟨_, rfl, ⟨rfl, fun _ _ => rfl⟩⟩, ⟨_, rfl, rfl⟩, ⟨_, rfl, rfl⟩, ⟨_, rfl, trivial⟩, ⟨_, rfl, ?_⟩, ⟨_, rfl, cw_map (Go.Eng.S25.flat_wmap _)⟩, ⟨_, rfl, ⟨rfl, rfl, rfl, fun _ _ => rfl⟩⟩, ⟨_, rfl, ⟨rfl, rfl, rfl, fun _ _ => rfl⟩⟩, trivial⟩) ?_
       ·show AV.int .i64 _ = AV.int .i64 _
        rw [i64_in ((k : Int) + 1) (by omega)]
        rfl
       ·show CW _ (.map 2 (smap (recS q first Ls P.sets (k + 1)))) (.map 2 (smap (kput S (first + (k : Int)) q M)))
        rw [hrs]
        exact cw_smap _
       ·show Ls.length - (k + 1) < Ls.length - k
        omega
      ·have hb : kn S (first + (k : Int)) q = true := by simpa using hc
       rw [hb] at hrs
       clear hc hb
       refine evC_skip ?_
       refine block_normal ?_
       refine then_normal ?_
       refine evC_goL0K (s' := ⟨[(0, 0, zP 1), (0, 4, zI 0), (0, 7, zI q), (0, 10, zI first), (0, 125, zV 5), (0, 126, zI Ls.length), (0, 127, zI (IntKind.i64.wrap ((↑k : Int) + 1))), (1, 0, zI P.me), (1, 1, zI P.n), (1, 2, zI P.turn), (1, 3, zI P.iss), (1, 4, .arr 8 (nI hd)), (1, 12, zM 2), (1, 13, zM 3), (1, 14, .top), (2, 0, .map 2 (smap S)), (3, 0, .map 2 (wmap W)), (4, 0, .vec 1 5 L.length (nU L)), (5, 0, .vec 1 30 Ls.length (nB Ls))], 806, 152⟩) ?_
       refine round_normal (⟨k + 1, hlt⟩) (wk_go [5] rfl (by decide) rfl rfl ⟨⟨_, rfl, rfl⟩, ⟨_, rfl, rfl⟩, ⟨_, rfl, rfl⟩, ⟨_, rfl, rfl⟩, ⟨_, rfl, rfl⟩, ⟨_, rfl, rfl⟩, ⟨_, rfl, ?_⟩, ⟨_, rfl, rfl⟩, ⟨_, rfl, rfl⟩, ⟨_, rfl, rfl⟩, ⟨_, rfl, rfl⟩, ⟨_, rfl, ⟨rfl, fun _ _ => rfl⟩⟩, ⟨_, rfl, rfl⟩, ⟨_, rfl, rfl⟩, ⟨_, rfl, trivial⟩, ⟨_, rfl, ?_⟩, ⟨_, rfl, cw_map (Go.Eng.S25.flat_wmap _)⟩, ⟨_, rfl, ⟨rfl, rfl, rfl, fun _ _ => rfl⟩⟩, ⟨_, rfl, ⟨rfl, rfl, rfl, fun _ _ => rfl⟩⟩, trivial⟩) ?_
       ·show AV.int .i64 _ = AV.int .i64 _
        rw [i64_in ((k : Int) + 1) (by omega)]
        rfl
       ·show CW _ (.map 2 (smap (recS q first Ls P.sets (k + 1)))) (.map 2 (smap S))
        rw [hrs]
        exact cw_smap _
       ·show Ls.length - (k + 1) < Ls.length - k
        omega
     ·have hkN : k = Ls.length := by have := of_decide_eq_false hc; omega
      have hkR : R = recS q first Ls P.sets k := by rw [hR, hkN]
      clear hR
      subst hkR
      refine evC_exit ?_
      refine then_exit ?_
      refine round_exit ?_
      refine block_exit ?_
      refine then_normal ?_
      refine evC_go0K (s' := ⟨[(0, 4, zI 0), (1, 0, zI P.me), (1, 1, zI P.n), (1, 2, zI P.turn), (1, 3, zI P.iss), (1, 4, .arr 8 (nI hd)), (1, 12, zM 2), (1, 13, zM 3), (1, 14, .top), (2, 0, .map 2 (smap (recS q first Ls P.sets k))), (3, 0, .map 2 (wmap W)), (4, 0, .vec 1 5 L.length (nU L))], 70, 152⟩) ?_
      refine evC_ret ?_
      refine post_ret ?_
      refine ends_go [] (AV.int IntKind.i64 0) [(1, 0, zI P.me), (1, 1, zI P.n), (1, 2, zI P.turn), (1, 3, zI P.iss), (1, 4, .arr 8 (nI hd)), (1, 12, zM 2), (1, 13, zM 3), (1, 14, .top), (2, 0, .map 2 (smap (recS q first Ls P.sets k))), (3, 0, .map 2 (wmap W)), (4, 0, .vec 1 5 L.length (nU L))] rfl (by decide) rfl rfl (has_of _ rfl) rfl ⟨⟨_, rfl, rfl⟩, ⟨_, rfl, rfl⟩, ⟨_, rfl, rfl⟩, ⟨_, rfl, rfl⟩, ⟨_, rfl, ⟨rfl, fun _ _ => rfl⟩⟩, ⟨_, rfl, rfl⟩, ⟨_, rfl, rfl⟩, ⟨_, rfl, trivial⟩, ⟨_, rfl, Go.Eng.S25.cw_smap _⟩, ⟨_, rfl, cw_map (Go.Eng.S25.flat_wmap _)⟩, ⟨_, rfl, ⟨rfl, rfl, rfl, fun _ _ => rfl⟩⟩, trivial⟩ ⟨fun _ => ⟨1, _, rfl, rfl, rfl, ⟨has_of _ rfl, rfl⟩⟩, fun _ => ⟨1, _, rfl, rfl, rfl, ⟨has_of _ rfl, rfl⟩⟩, fun _ => ⟨1, _, rfl, rfl, rfl, ⟨has_of _ rfl, rfl⟩⟩, fun _ => ⟨1, _, rfl, rfl, rfl, ⟨has_of _ rfl, rfl⟩⟩, fun _ => ⟨1, _, rfl, rfl, rfl, ⟨rfl, fun _ _ => ⟨has_of _ rfl, rfl⟩⟩⟩, fun _ => ⟨1, _, rfl, rfl, rfl, ⟨has_of _ rfl, rfl⟩⟩, fun _ => ⟨1, _, rfl, rfl, rfl, ⟨has_of _ rfl, rfl⟩⟩, fun _ => ⟨1, _, rfl, rfl, rfl, trivial⟩, fun _ => ⟨2, _, rfl, rfl, rfl, Go.Eng.S25.cf_smap _⟩, fun _ => ⟨3, _, rfl, rfl, rfl, cf_map (Go.Eng.S25.flat_wmap _)⟩, trivial⟩ ?_
      exact k4 _ _ rfl rfl
theorem receive_walkN {n b c nb : Nat} {P : Peer} {sd : List Prop} {rd : List (Nat × Nat × Cont)}
 (k4 : ∀ fin P', hget fin 1 14 = some .top → KeptH [n, b, c] nb true fin (pcon n b c P') rd) :
 evC T [(33, sCutV), (34, sNum), (35, sKnown)] ([n, b, c].length + 1) (Try.f12.body.getD .skip) (Post T Try.f12 [n, b, c] nb ⟨sd, .int .i64 2, rd, pcon n b c P⟩ true) ⟨slots0 0 [.ptr 1 0, .nils] ++ pcon 1 2 3 P, [n, b, c].length + 1, Try.f12.ntmps⟩ := by
 unfold pcon
 refine evC_go0K (s' := ⟨[(0, 0, zP 1), (0, 1, .cell AV.nils), (0, 4, zI 0), (1, 0, zI P.me), (1, 1, zI P.n), (1, 2, zI P.turn), (1, 3, zI P.iss), (1, 4, .arr 8 (nI P.hd)), (1, 12, zM 2), (1, 13, zM 3), (1, 14, .top), (2, 0, .map 2 (smap P.sets)), (3, 0, .map 2 (wmap P.words))], 36, 152⟩) ?_
 refine evC_go0K (s' := ⟨[(0, 0, zP 1), (0, 1, .cell AV.nils), (0, 4, zI 0), (0, 5, zV 68), (0, 6, zI 2), (1, 0, zI P.me), (1, 1, zI P.n), (1, 2, zI P.turn), (1, 3, zI P.iss), (1, 4, .arr 8 (nI P.hd)), (1, 12, zM 2), (1, 13, zM 3), (1, 14, .top), (2, 0, .map 2 (smap P.sets)), (3, 0, .map 2 (wmap P.words)), (68, 0, .vec 1 30 0 (nB []))], 260, 152⟩) ?_
 refine evC_seq ?_
 refine evC_go0K (s' := ⟨[(0, 0, zP 1), (0, 1, .cell AV.nils), (0, 4, zI 0), (0, 5, zV 68), (0, 6, zI 2), (0, 24, zB true), (1, 0, zI P.me), (1, 1, zI P.n), (1, 2, zI P.turn), (1, 3, zI P.iss), (1, 4, .arr 8 (nI P.hd)), (1, 12, zM 2), (1, 13, zM 3), (1, 14, .top), (2, 0, .map 2 (smap P.sets)), (3, 0, .map 2 (wmap P.words)), (68, 0, .vec 1 30 0 (nB []))], 324, 152⟩) ?_
 refine evC_if (q := true) (by kernel_rfl) (fun hc => ?_) (fun hc => ?_)
 ·refine evC_go0K (s' := ⟨[(0, 0, zP 1), (0, 1, .cell AV.nils), (0, 4, zI 2), (0, 5, zV 68), (1, 0, zI P.me), (1, 1, zI P.n), (1, 2, zI P.turn), (1, 3, zI P.iss), (1, 4, .arr 8 (nI P.hd)), (1, 12, zM 2), (1, 13, zM 3), (1, 14, .top), (2, 0, .map 2 (smap P.sets)), (3, 0, .map 2 (wmap P.words)), (68, 0, .vec 1 30 0 (nB []))], 388, 152⟩) ?_
  refine evC_ret ?_
  refine then_ret ?_
  refine post_ret ?_
  refine ends_go [] (AV.int IntKind.i64 2) [(1, 0, zI P.me), (1, 1, zI P.n), (1, 2, zI P.turn), (1, 3, zI P.iss), (1, 4, .arr 8 (nI P.hd)), (1, 12, zM 2), (1, 13, zM 3), (1, 14, .top), (2, 0, .map 2 (smap P.sets)), (3, 0, .map 2 (wmap P.words))] rfl (by decide) rfl rfl (has_of _ rfl) rfl ⟨⟨_, rfl, rfl⟩, ⟨_, rfl, rfl⟩, ⟨_, rfl, rfl⟩, ⟨_, rfl, rfl⟩, ⟨_, rfl, ⟨rfl, fun _ _ => rfl⟩⟩, ⟨_, rfl, rfl⟩, ⟨_, rfl, rfl⟩, ⟨_, rfl, trivial⟩, ⟨_, rfl, Go.Eng.S25.cw_smap _⟩, ⟨_, rfl, cw_map (Go.Eng.S25.flat_wmap _)⟩, trivial⟩ ⟨fun _ => ⟨1, _, rfl, rfl, rfl, ⟨has_of _ rfl, rfl⟩⟩, fun _ => ⟨1, _, rfl, rfl, rfl, ⟨has_of _ rfl, rfl⟩⟩, fun _ => ⟨1, _, rfl, rfl, rfl, ⟨has_of _ rfl, rfl⟩⟩, fun _ => ⟨1, _, rfl, rfl, rfl, ⟨has_of _ rfl, rfl⟩⟩, fun _ => ⟨1, _, rfl, rfl, rfl, ⟨rfl, fun _ _ => ⟨has_of _ rfl, rfl⟩⟩⟩, fun _ => ⟨1, _, rfl, rfl, rfl, ⟨has_of _ rfl, rfl⟩⟩, fun _ => ⟨1, _, rfl, rfl, rfl, ⟨has_of _ rfl, rfl⟩⟩, fun _ => ⟨1, _, rfl, rfl, rfl, trivial⟩, fun _ => ⟨2, _, rfl, rfl, rfl, Go.Eng.S25.cf_smap _⟩, fun _ => ⟨3, _, rfl, rfl, rfl, cf_map (Go.Eng.S25.flat_wmap _)⟩, trivial⟩ ?_
  exact k4 _ _ rfl
 ·cases hc
theorem receiveV_ok : SpecOK Try.prog 12 sReceiveV := by
 refine spec_at (by kernel_rfl) T_ok (sget_cons cutV_ok (sget_cons num_ok (sget_cons known_ok sget_nil))) Try.func12 rfl rfl fun args hr nb out e => ?_
 unfold sReceiveV at e
 split at e
 ·rename_i v j
  split at e
  ·rename_i m f hj
   obtain ⟨n, b, c, P, s, rd, rfl, e, hrd, hs0, hs1, hs2⟩ := peer_open e
   injection e with e; subst e
   have hrd' : ∀ x ∈ rd ++ [(j, 0, Cont.vec 1 5 m f)], hr x.1 x.2.1 = some x.2.2 := by
    intro x hx
    rcases List.mem_append.1 hx with hx | hx
    ·exact hrd x hx
    ·rw [List.mem_singleton.1 hx]; exact hj
   by_cases hB : IsB m f
   rotate_left
   ·exact ⟨hrd', true, [], [], [], rfl, fun hs => absurd (hs _ (List.mem_cons_of_mem _ (List.mem_cons_of_mem _ (List.mem_cons_of_mem _ List.mem_cons_self)))) hB⟩
   obtain ⟨L, rfl, hL, eL, hf⟩ := hB.list
   refine ⟨hrd', true, [n, b, c, j], [.ptr 1 0, .vs 4], pcon 1 2 3 P ++ [(4, 0, .vec 1 5 L.length (nU L))], rfl, fun hs => ?_⟩
   obtain ⟨k1, k2, k3⟩ := hs0 (hs _ List.mem_cons_self)
   have k4 := fun fin P' => hs2 (hs _ List.mem_cons_self) [j] nb fin P' []
   obtain ⟨hT1, hT2⟩ := hs _ (List.mem_cons_of_mem _ List.mem_cons_self)
   have hok := hs _ (List.mem_cons_of_mem _ (List.mem_cons_of_mem _ List.mem_cons_self))
   have hm := hs _ (List.mem_cons_of_mem _ (List.mem_cons_of_mem _ (List.mem_cons_of_mem _ (List.mem_cons_of_mem _ List.mem_cons_self))))
   obtain ⟨j0, j1, j2, j3⟩ := hs _ (List.mem_cons_of_mem _ (List.mem_cons_of_mem _ (List.mem_cons_of_mem _ (List.mem_cons_of_mem _ (List.mem_cons_of_mem _ List.mem_cons_self)))))
   refine ⟨by simp at k1 ⊢; exact ⟨⟨k1.1.1, k1.1.2, j1⟩, ⟨k1.2, j2⟩, j3⟩, fun z hz => ?_, .cons _ _ _ _ (.name _ _ _ rfl) (.cons _ _ _ _ (.name _ _ _ rfl) .nil), fun x hx => ?_, ?_⟩
   ·by_cases hz' : z ∈ [n, b, c]
    ·exact ⟨(k2 z hz').1, (k2 z hz').2 _ fun x hx => List.mem_append_left _ hx⟩
    ·have : z = j := by simp at hz hz'; omega
     subst this
     exact ⟨j0, .vec 1 5 L.length f (List.mem_append_right _ List.mem_cons_self)⟩
   ·rcases List.mem_append.1 hx with hx | hx
    ·obtain ⟨i, m, c', h1, h2, h3, h4⟩ := k3 [j] nb x hx
     exact ⟨i, m, c', h1, h2, List.mem_append_left _ h3, h4⟩
    ·rw [List.mem_singleton.1 hx]
     exact ⟨3, j, _, rfl, rfl, List.mem_append_right _ List.mem_cons_self, rfl, rfl, rfl, fun i hi => hf i hi⟩
   rw [eL]
   refine receive_walkV hT1 hT2 hok hL hm fun fin P' h1 h2 => ?_
   exact kept_app (k4 fin P' h1) ⟨fun _ => .inr ⟨3, _, rfl, h2, rfl, rfl, rfl, fun i hi => ⟨.int _ _, hf i hi⟩⟩, trivial⟩
  ·cases e
 ·rename_i v
  obtain ⟨n, b, c, P, s, rd, rfl, e, hrd, hs0, hs1, hs2⟩ := peer_open e
  injection e with e; subst e
  refine ⟨hrd, true, [n, b, c], [.ptr 1 0, .nils], pcon 1 2 3 P, rfl, fun hs => ?_⟩
  obtain ⟨k1, k2, k3⟩ := hs0 (hs _ List.mem_cons_self)
  have k4 := fun fin P' => hs2 (hs _ List.mem_cons_self) [] nb fin P' []
  refine ⟨k1, fun z hz => ⟨(k2 z hz).1, (k2 z hz).2 _ fun x hx => hx⟩, .cons _ _ _ _ (.name _ _ _ rfl) (.cons _ _ _ _ (.same _ _ .nils) .nil), k3 _ _, ?_⟩
  exact receive_walkN k4
 ·cases e
end Go.Eng.S25