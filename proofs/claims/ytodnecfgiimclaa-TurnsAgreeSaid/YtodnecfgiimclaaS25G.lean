/- Seat 25: a message's sets, walked. -/
import Derived.Test.YtodnecfgiimclaaEngX
import Derived.Test.YtodnecfgiimclaaS25F
set_option linter.unusedSimpArgs false
set_option linter.unusedVariables false
namespace Go.Eng.S25
open Go.Proofs Go.IntWalk
set_option maxRecDepth 10000

theorem nblt_yes {a b : Nat} (h : a < b) : Nat.blt a b = true := by simpa [Nat.blt_eq] using h
theorem nblt_no {a b : Nat} (h : ¬ a < b) : Nat.blt a b = false := by
  cases e : Nat.blt a b with
  | false => rfl
  | true => exact absurd (by simpa [Nat.blt_eq] using e) h
def nB (Ls : List (List Int)) : Nat → AV := fun i => bs (Ls.getD i [])
theorem nU_drop (L : List Int) (k : Nat) : (fun i => nU L (k + i)) = nU (L.drop k) := by
  funext i
  show AV.int .u8 (L.getD (k + i) 0) = AV.int .u8 ((L.drop k).getD i 0)
  rw [List.getD_eq_getElem?_getD, List.getD_eq_getElem?_getD, List.getElem?_drop]
theorem nU_take (L : List Int) (k : Nat) : ∀ i, i < k → nU L i = nU (L.take k) i := by
  intro i hi
  show AV.int .u8 (L.getD i 0) = AV.int .u8 ((L.take k).getD i 0)
  rw [List.getD_eq_getElem?_getD, List.getD_eq_getElem?_getD, List.getElem?_take, if_pos hi]
theorem bytes_cut (R : List Int) (a b : Nat) (h : b ≤ R.length) : bytesL (b - a) (fun i => nU R (a + i)) = (R.drop a).take (b - a) := by
  rw [nU_drop]
  refine List.ext_getElem (by rw [bytesL_len, List.length_take, List.length_drop]; omega) fun i h1 h2 => ?_
  have hi : i < b - a := by rw [bytesL_len] at h1; exact h1
  have := bytesL_get (b - a) (nU (R.drop a)) hi
  rw [List.getD_eq_getElem?_getD, List.getElem?_eq_getElem h1] at this
  have h3 : i < (R.drop a).length := by rw [List.length_drop]; omega
  have e : iv (nU (R.drop a) i) = (R.drop a)[i] := by
    show (R.drop a).getD i 0 = _
    rw [List.getD_eq_getElem?_getD, List.getElem?_eq_getElem h3]; rfl
  rw [e] at this
  rw [List.getElem_take]
  exact this
theorem isB_cut {R : List Int} (hR : IsU R) {a b : Nat} (h : b ≤ R.length) : IsB (b - a) fun i => nU R (a + i) :=
  ⟨fun i hi => ⟨rfl, ((isB hR).get (a + i) (by omega)).2⟩⟩
theorem cw_cat_vs (acc : List (List Int)) (m n k e : Nat) (π : Nat → Nat) (h : π m = n) : CW π (.vec 1 e k (catF acc.length (nB acc) (pget [(0, .vs m)]))) (.vec 1 e k (catF acc.length (nB acc) (pget [(0, .vs n)]))) := by
  refine ⟨rfl, rfl, rfl, fun i hi => ?_⟩
  unfold catF
  cases Nat.blt i acc.length with
  | true => rfl
  | false =>
    show pget [(0, .vs n)] (i - acc.length) = (pget [(0, .vs m)] (i - acc.length)).ren π
    subst h
    rcases i - acc.length with _ | j
    · rfl
    · rfl
theorem cw_cat_frz (acc : List (List Int)) (S : List Int) (n k e : Nat) (π : Nat → Nat) : CW π (.vec 1 e k (catF acc.length (nB acc) (pget [(0, .rs 1 S.length false (nU S))]))) (.vec 1 e k fun i => (catF acc.length (nB acc) (pget [(0, .vs n)]) i).frz n 1 S.length (nU S)) := by
  refine ⟨rfl, rfl, rfl, fun i hi => ?_⟩
  show (catF acc.length (nB acc) (pget [(0, .vs n)]) i).frz n 1 S.length (nU S) = (catF acc.length (nB acc) (pget [(0, .rs 1 S.length false (nU S))]) i).ren π
  unfold catF
  cases Nat.blt i acc.length with
  | true => rfl
  | false =>
    show (pget [(0, .vs n)] (i - acc.length)).frz n 1 S.length (nU S) = (pget [(0, .rs 1 S.length false (nU S))] (i - acc.length)).ren π
    rcases i - acc.length with _ | j
    · show (AV.vs n).frz n 1 S.length (nU S) = _
      simp [AV.frz, pget, AV.ren]
      rfl
    · rfl
theorem cat_nB (acc : List (List Int)) (S : List Int) (i : Nat) (hi : i < acc.length + 1) : catF acc.length (nB acc) (pget [(0, .rs 1 S.length false (nU S))]) i = nB (acc ++ [S]) i := by
  unfold catF
  cases h : Nat.blt i acc.length with
  | true =>
    have h : i < acc.length := by simpa [Nat.blt_eq] using h
    show bs (acc.getD i []) = bs ((acc ++ [S]).getD i [])
    rw [List.getD_eq_getElem?_getD, List.getD_eq_getElem?_getD, List.getElem?_append_left h]
  | false =>
    have h : ¬ i < acc.length := fun hh => by rw [nblt_yes hh] at h; cases h
    have : i = acc.length := by omega
    subst this
    show pget [(0, .rs 1 S.length false (nU S))] (acc.length - acc.length) = bs ((acc ++ [S]).getD acc.length [])
    rw [Nat.sub_self, List.getD_eq_getElem?_getD, List.getElem?_append_right (by omega), Nat.sub_self]
    rfl
/-- The sets of so many, in what is left. -/
def cutA : Nat → List Int → List (List Int) → List (List Int) × Int
  | 0, rest, acc => bif Nat.blt 0 rest.length then ([], 7) else (acc, 0)
  | k + 1, rest, acc => bif Nat.blt rest.length 2 then ([], 2) else bif decide (numL (rest.take 2) > 704) then ([], 3) else bif decide ((rest.length : Int) < 2 + numL (rest.take 2)) then ([], 2) else
      cutA k (rest.drop (2 + (numL (rest.take 2)).toNat)) (acc ++ [(rest.drop 2).take (numL (rest.take 2)).toNat])
def cutF (L : List Int) : List (List Int) × Int := bif Nat.blt L.length 19 then ([], 2) else cutA (L.getD 18 0).toNat (L.drop 19) []
def cutOut (nb : Nat) (L : List Int) (sd : List Prop) : Out := ⟨sd, .tup [.vs nb, .int .i64 (cutF L).2], [], [(nb, 0, .vec 1 30 (cutF L).1.length (nB (cutF L).1))]⟩
def sCut : Spec := fun args _ nb => match args with
  | [.rs 1 m _ f] => some (cutOut nb (bytesL m f) [IsB m f, m ≤ 100000000])
  | [.nils] => some (cutOut nb [] [])
  | _ => none
theorem isU_drop {L : List Int} (h : IsU L) (k : Nat) : IsU (L.drop k) := fun x hx => h x (List.mem_of_mem_drop hx)
theorem isU_take {L : List Int} (h : IsU L) (k : Nat) : IsU (L.take k) := fun x hx => h x (List.mem_of_mem_take hx)
theorem cut_walk {nb : Nat} {L : List Int} {sd : List Prop} (hL : IsU L) (hm : L.length ≤ 100000000) :
    evC T [(34, sNum)] (([] : List Nat).length + 1) (Try.f33.body.getD .skip) (Post T Try.f33 [] nb (cutOut nb L sd) true) ⟨slots0 0 [bs L], ([] : List Nat).length + 1, Try.f33.ntmps⟩ := by
  unfold cutOut
  unfold bs
  refine evC_go0 (dec := []) (ks := [(0, 0), (0, 2), (0, 3)]) (s' := ⟨[(0, 0, Cont.cell (AV.rs 1 (List.length L) false (nU L))), (0, 2, Cont.cell AV.nils), (0, 3, Cont.cell (AV.int IntKind.i64 0))], 65, 49⟩) (by kernel_rfl) (by kernel_rfl) ?_
  refine evC_seq ?_
  refine evC_go0 (dec := []) (ks := [(0, 0), (0, 2), (0, 3), (0, 9)]) (s' := ⟨[(0, 0, Cont.cell (AV.rs 1 (List.length L) false (nU L))), (0, 2, Cont.cell AV.nils), (0, 3, Cont.cell (AV.int IntKind.i64 0)), (0, 9, Cont.cell (AV.bool (decide ((↑(List.length L) : Int) < 19))))], 161, 49⟩) (by kernel_rfl) (by kernel_rfl) ?_
  refine evC_if (q := decide ((↑(List.length L) : Int) < 19)) (by kernel_rfl) (fun hc => ?_) (fun hc => ?_)
  · have hc1 : L.length < 19 := by have := of_decide_eq_true hc; omega
    have hF : cutF L = ([], 2) := by
      unfold cutF
      have : Nat.blt L.length 19 = true := by simpa [Nat.blt_eq] using hc1
      rw [this]; rfl
    rw [hF]
    refine evC_go0 (dec := []) (ks := [(0, 0), (0, 2), (0, 3)]) (s' := ⟨[(0, 0, Cont.cell (AV.rs 1 (List.length L) false (nU L))), (0, 2, Cont.cell AV.nils), (0, 3, Cont.cell (AV.int IntKind.i64 2))], 225, 49⟩) (by kernel_rfl) (by kernel_rfl) ?_
    refine evC_wk _ (.nil 0 2 1 30 (fun _ => .nils) (Nat.le_of_ble_eq_true rfl) rfl) ?_
    refine evC_ret ?_
    refine then_ret ?_
    refine post_ret ?_
    refine ends_go [225] (AV.tup [AV.vs 1, AV.int IntKind.i64 2]) [(1, 0, Cont.vec 1 30 0 fun x => AV.nils)] rfl (by decide) rfl rfl (has_of _ rfl) rfl ⟨⟨_, rfl, ⟨rfl, rfl, rfl, fun _ _ => rfl⟩⟩, trivial⟩ ⟨fun _ => ⟨1, _, rfl, rfl, rfl, ⟨rfl, rfl, rfl, fun _ hi => absurd hi (Nat.not_lt_zero _)⟩⟩, trivial⟩ (kept_nil _)
  · have hc1 : ¬ L.length < 19 := by have := of_decide_eq_false hc; omega
    have hF : cutF L = cutA (L.getD 18 0).toNat (L.drop 19) [] := by
      unfold cutF
      have : Nat.blt L.length 19 = false := by
        cases e : Nat.blt L.length 19 with
        | false => rfl
        | true => exact absurd (by simpa [Nat.blt_eq] using e) hc1
      rw [this]; rfl
    clear hc
    generalize cutF L = res at hF ⊢
    have h18 : 0 ≤ L.getD 18 0 ∧ L.getD 18 0 ≤ 255 := ((isB hL).get 18 (by omega)).2
    obtain ⟨c, hcc⟩ := Int.eq_ofNat_of_zero_le h18.1
    rw [hcc, Int.toNat_natCast] at hF
    refine evC_skip ?_
    refine then_normal ?_
    refine evC_go0 (dec := []) (ks := [(0, 0), (0, 2), (0, 3), (0, 4)]) (s' := ⟨[(0, 0, Cont.cell (AV.rs 1 (List.length L) false (nU L))), (0, 2, Cont.cell AV.nils), (0, 3, Cont.cell (AV.int IntKind.i64 0)), (0, 4, Cont.cell AV.nils)], 193, 49⟩) (by kernel_rfl) (by kernel_rfl) ?_
    refine evC_wk _ (.nil 0 4 1 30 (fun _ => .nils) (Nat.le_of_ble_eq_true rfl) rfl) ?_
    refine evC_go (dec := []) (ks := [(0, 0), (0, 2), (0, 3), (0, 4), (0, 5), (193, 0)]) (ps := [(0 : Int) ≤ (19 : Int), (19 : Int) ≤ (↑(List.length L) : Int), (↑(List.length L) : Int) ≤ (↑(List.length L) : Int), (↑(List.length L) : Int) = (↑(List.length L) : Int), (1 : Nat) = (1 : Nat), false = true → false = true]) (s' := ⟨[(0, 0, Cont.cell (AV.rs 1 (List.length L) false (nU L))), (0, 2, Cont.cell AV.nils), (0, 3, Cont.cell (AV.int IntKind.i64 0)), (0, 4, Cont.cell (AV.vs 193)), (0, 5, Cont.cell (AV.rs 1 (List.length L - Int.toNat 19) false fun i => nU L (Int.toNat 19 + i))), (193, 0, Cont.vec 1 30 0 fun x => AV.nils)], 290, 49⟩) (by kernel_rfl) (by kernel_rfl) ?_ ?_
    · (simp only [All]; (repeat' apply And.intro) <;> (try intro _) <;> (try intro _) <;> (repeat' apply And.intro) <;> (try intro _) <;> (try intro _) <;> first | trivial | assumption | exact .inr trivial | exact .inr rfl | omega | rfl | exact ⟨_, rfl, rfl⟩ | exact ⟨rfl, rfl⟩ | exact ⟨fun _ => rfl, fun _ => rfl⟩ | (unfold maxLen; omega) | (unfold i64R; first | omega | decide) | decide)
    rw [show Int.toNat 19 = 19 from rfl, nU_drop]
    refine evC_seq ?_
    refine evC_go (dec := []) (ks := [(0, 2), (0, 3), (0, 4), (0, 5), (0, 14), (0, 15), (193, 0)]) (ps := [(0 : Int) ≤ (18 : Int), (18 : Int) < (↑(List.length L) : Int), (1 : Nat) = (1 : Nat)]) (s' := ⟨[(0, 2, Cont.cell AV.nils), (0, 3, Cont.cell (AV.int IntKind.i64 0)), (0, 4, Cont.cell (AV.vs 193)), (0, 5, Cont.cell (AV.rs 1 (List.length L - 19) false (nU (List.drop 19 L)))), (0, 14, Cont.cell (AV.int IntKind.u8 (List.getD L (Int.toNat 18) 0))), (0, 15, Cont.cell (AV.int IntKind.u8 0)), (193, 0, Cont.vec 1 30 0 fun x => AV.nils)], 418, 49⟩) (by kernel_rfl) (by kernel_rfl) ?_ ?_
    · (simp only [All]; (repeat' apply And.intro) <;> (try intro _) <;> (try intro _) <;> (repeat' apply And.intro) <;> (try intro _) <;> (try intro _) <;> first | trivial | assumption | exact .inr trivial | exact .inr rfl | omega | rfl | exact ⟨_, rfl, rfl⟩ | exact ⟨rfl, rfl⟩ | exact ⟨fun _ => rfl, fun _ => rfl⟩ | (unfold maxLen; omega) | (unfold i64R; first | omega | decide) | decide)
    rw [show L.getD (Int.toNat 18) 0 = (c : Int) from hcc]
    refine evC_block ?_
    refine evC_loop (ι := { x : Nat × List Int × List (List Int) // (x.1 ≤ c ∧ IsU x.2.1 ∧ x.2.1.length ≤ 100000000) ∧ cutA (c - x.1) x.2.1 x.2.2 = res ∧ x.2.2.length ≤ x.1 }) (fun x => ⟨[(0, 2, Cont.cell AV.nils), (0, 3, Cont.cell (AV.int IntKind.i64 0)), (0, 4, Cont.cell (AV.vs 1)), (0, 5, .cell (.rs 1 x.1.2.1.length false (nU x.1.2.1))), (0, 14, Cont.cell (AV.int IntKind.u8 (↑c : Int))), (0, 15, .cell (.int .u8 (x.1.1 : Nat))), (1, 0, .vec 1 30 x.1.2.2.length (nB x.1.2.2))], 2, 49⟩) (fun x => c - x.1.1) ⟨(0, L.drop 19, []), ⟨⟨Nat.zero_le _, isU_drop hL 19, by rw [List.length_drop]; omega⟩, hF.symm, Nat.le_refl _⟩⟩ (wk_go [193] rfl (by decide) rfl rfl ⟨⟨_, rfl, rfl⟩, ⟨_, rfl, rfl⟩, ⟨_, rfl, rfl⟩, ⟨_, rfl, ?_⟩, ⟨_, rfl, rfl⟩, ⟨_, rfl, rfl⟩, ⟨_, rfl, ⟨rfl, rfl, rfl, fun _ hi => absurd hi (Nat.not_lt_zero _)⟩⟩, trivial⟩) ?_
    · show AV.rs 1 (L.length - 19) false (nU (List.drop 19 L)) = AV.rs 1 (List.drop 19 L).length false (nU (List.drop 19 L))
      rw [List.length_drop]
    rintro ⟨⟨i, R, acc⟩, ⟨hi, hR, hRl⟩, hcut, hacc⟩
    simp only at hi hR hRl hcut hacc
    refine evC_go0 (dec := []) (ks := [(0, 2), (0, 3), (0, 4), (0, 5), (0, 14), (0, 15), (0, 16), (1, 0)]) (s' := ⟨[(0, 2, Cont.cell AV.nils), (0, 3, Cont.cell (AV.int IntKind.i64 0)), (0, 4, Cont.cell (AV.vs 1)), (0, 5, Cont.cell (AV.rs 1 (List.length R) false (nU R))), (0, 14, Cont.cell (AV.int IntKind.u8 (↑c : Int))), (0, 15, Cont.cell (AV.int IntKind.u8 (↑i : Int))), (0, 16, Cont.cell (AV.bool (decide ((↑i : Int) < (↑c : Int))))), (1, 0, Cont.vec 1 30 (List.length acc) (nB acc))], 34, 49⟩) (by kernel_rfl) (by kernel_rfl) ?_
    refine evC_seq ?_
    refine evC_if (q := decide ((↑i : Int) < (↑c : Int))) (by kernel_rfl) (fun hc => ?_) (fun hc => ?_)
    · have hlt : i < c := by have := of_decide_eq_true hc; omega
      clear hc
      obtain ⟨d, hd⟩ : ∃ d, c - i = d + 1 := ⟨c - i - 1, by omega⟩
      rw [hd] at hcut
      simp only [cutA] at hcut
      refine evC_skip ?_
      refine then_normal ?_
      refine evC_seq ?_
      refine evC_block ?_
      refine evC_seq ?_
      refine evC_go0 (dec := []) (ks := [(0, 2), (0, 3), (0, 4), (0, 5), (0, 14), (0, 15), (0, 19), (1, 0)]) (s' := ⟨[(0, 2, Cont.cell AV.nils), (0, 3, Cont.cell (AV.int IntKind.i64 0)), (0, 4, Cont.cell (AV.vs 1)), (0, 5, Cont.cell (AV.rs 1 (List.length R) false (nU R))), (0, 14, Cont.cell (AV.int IntKind.u8 (↑c : Int))), (0, 15, Cont.cell (AV.int IntKind.u8 (↑i : Int))), (0, 19, Cont.cell (AV.bool (decide ((↑(List.length R) : Int) < 2)))), (1, 0, Cont.vec 1 30 (List.length acc) (nB acc))], 130, 49⟩) (by kernel_rfl) (by kernel_rfl) ?_
      refine evC_if (q := decide ((↑(List.length R) : Int) < 2)) (by kernel_rfl) (fun hc => ?_) (fun hc => ?_)
      · have h2 : R.length < 2 := by have := of_decide_eq_true hc; omega
        rw [nblt_yes h2] at hcut
        simp only [cond_true] at hcut
        subst hcut
        refine evC_go0 (dec := []) (ks := [(0, 2), (0, 3), (0, 4), (0, 5), (0, 14), (0, 15), (1, 0)]) (s' := ⟨[(0, 2, Cont.cell AV.nils), (0, 3, Cont.cell (AV.int IntKind.i64 2)), (0, 4, Cont.cell (AV.vs 1)), (0, 5, Cont.cell (AV.rs 1 (List.length R) false (nU R))), (0, 14, Cont.cell (AV.int IntKind.u8 (↑c : Int))), (0, 15, Cont.cell (AV.int IntKind.u8 (↑i : Int))), (1, 0, Cont.vec 1 30 (List.length acc) (nB acc))], 194, 49⟩) (by kernel_rfl) (by kernel_rfl) ?_
        refine evC_wk _ (.nil 0 2 1 30 (fun _ => .nils) (Nat.le_of_ble_eq_true rfl) rfl) ?_
        refine evC_ret ?_
        refine then_ret ?_
        refine block_ret ?_
        refine then_ret ?_
        refine round_ret ?_
        refine block_ret ?_
        refine then_ret ?_
        refine post_ret ?_
        refine ends_go [194] (AV.tup [AV.vs 1, AV.int IntKind.i64 2]) [(1, 0, Cont.vec 1 30 0 fun x => AV.nils)] rfl (by decide) rfl rfl (has_of _ rfl) rfl ⟨⟨_, rfl, ⟨rfl, rfl, rfl, fun _ _ => rfl⟩⟩, trivial⟩ ⟨fun _ => ⟨1, _, rfl, rfl, rfl, ⟨rfl, rfl, rfl, fun _ hi => absurd hi (Nat.not_lt_zero _)⟩⟩, trivial⟩ (kept_nil _)
      · have h2 : ¬ R.length < 2 := by have := of_decide_eq_false hc; omega
        rw [nblt_no h2] at hcut
        simp only [cond_false] at hcut
        clear hc
        have hb2 : bytesL (Int.toNat 2 - Int.toNat 0) (fun i => nU R (Int.toNat 0 + i)) = R.take 2 := bytes_cut R 0 2 (by omega)
        have hR2 : IsU (R.take 2) := isU_take hR 2
        have hl2 : (R.take 2).length = 2 := by rw [List.length_take]; omega
        have hn := numL_rng hR2
        rw [hl2] at hn
        refine evC_skip ?_
        refine then_normal ?_
        refine evC_go (dec := []) (ks := [(0, 2), (0, 3), (0, 4), (0, 5), (0, 6), (0, 14), (0, 15), (1, 0)]) (ps := [(0 : Int) ≤ (0 : Int), (0 : Int) ≤ (2 : Int), (2 : Int) ≤ (↑(List.length R) : Int), (2 : Int) = (2 : Int), (1 : Nat) = (1 : Nat), false = true → true = true, IsB (Int.toNat (2 : Int) - Int.toNat (0 : Int)) fun i => nU R (Int.toNat (0 : Int) + i), Int.toNat (2 : Int) - Int.toNat (0 : Int) ≤ (8 : Nat)]) (s' := ⟨[(0, 2, Cont.cell AV.nils), (0, 3, Cont.cell (AV.int IntKind.i64 0)), (0, 4, Cont.cell (AV.vs 1)), (0, 5, Cont.cell (AV.rs 1 (List.length R) false (nU R))), (0, 6, Cont.cell (AV.int IntKind.i64 (IntKind.i64.wrap (numL (bytesL (Int.toNat 2 - Int.toNat 0) fun i => nU R (Int.toNat 0 + i)))))), (0, 14, Cont.cell (AV.int IntKind.u8 (↑c : Int))), (0, 15, Cont.cell (AV.int IntKind.u8 (↑i : Int))), (1, 0, Cont.vec 1 30 (List.length acc) (nB acc))], 290, 49⟩) (by kernel_rfl) (by kernel_rfl) ?_ ?_
        · refine ⟨by omega, by omega, by omega, rfl, rfl, (fun h => by cases h), isB_cut hR (by omega), (by show 2 - 0 ≤ 8; omega)⟩
        rw [hb2]
        generalize numL (R.take 2) = z at hcut hn ⊢
        obtain ⟨z, rfl⟩ := Int.eq_ofNat_of_zero_le hn.1
        have hz : z < 65536 := by have := hn.2; omega
        rw [i64_in (z : Int) (by omega)]
        simp only [Int.toNat_natCast] at hcut
        refine evC_seq ?_
        refine evC_go0 (dec := []) (ks := [(0, 2), (0, 3), (0, 4), (0, 5), (0, 6), (0, 14), (0, 15), (0, 25), (1, 0)]) (s' := ⟨[(0, 2, Cont.cell AV.nils), (0, 3, Cont.cell (AV.int IntKind.i64 0)), (0, 4, Cont.cell (AV.vs 1)), (0, 5, Cont.cell (AV.rs 1 (List.length R) false (nU R))), (0, 6, Cont.cell (AV.int IntKind.i64 (↑z : Int))), (0, 14, Cont.cell (AV.int IntKind.u8 (↑c : Int))), (0, 15, Cont.cell (AV.int IntKind.u8 (↑i : Int))), (0, 25, Cont.cell (AV.bool (decide ((↑z : Int) > 704)))), (1, 0, Cont.vec 1 30 (List.length acc) (nB acc))], 354, 49⟩) (by kernel_rfl) (by kernel_rfl) ?_
        refine evC_if (q := decide ((↑z : Int) > 704)) (by kernel_rfl) (fun hc => ?_) (fun hc => ?_)
        · rw [hc] at hcut
          simp only [cond_true] at hcut
          subst hcut
          refine evC_go0 (dec := []) (ks := [(0, 2), (0, 3), (0, 4), (0, 5), (0, 6), (0, 14), (0, 15), (1, 0)]) (s' := ⟨[(0, 2, Cont.cell AV.nils), (0, 3, Cont.cell (AV.int IntKind.i64 3)), (0, 4, Cont.cell (AV.vs 1)), (0, 5, Cont.cell (AV.rs 1 (List.length R) false (nU R))), (0, 6, Cont.cell (AV.int IntKind.i64 (↑z : Int))), (0, 14, Cont.cell (AV.int IntKind.u8 (↑c : Int))), (0, 15, Cont.cell (AV.int IntKind.u8 (↑i : Int))), (1, 0, Cont.vec 1 30 (List.length acc) (nB acc))], 418, 49⟩) (by kernel_rfl) (by kernel_rfl) ?_
          refine evC_wk _ (.nil 0 2 1 30 (fun _ => .nils) (Nat.le_of_ble_eq_true rfl) rfl) ?_
          refine evC_ret ?_
          refine then_ret ?_
          refine block_ret ?_
          refine then_ret ?_
          refine round_ret ?_
          refine block_ret ?_
          refine then_ret ?_
          refine post_ret ?_
          refine ends_go [418] (AV.tup [AV.vs 1, AV.int IntKind.i64 3]) [(1, 0, Cont.vec 1 30 0 fun x => AV.nils)] rfl (by decide) rfl rfl (has_of _ rfl) rfl ⟨⟨_, rfl, ⟨rfl, rfl, rfl, fun _ _ => rfl⟩⟩, trivial⟩ ⟨fun _ => ⟨1, _, rfl, rfl, rfl, ⟨rfl, rfl, rfl, fun _ hi => absurd hi (Nat.not_lt_zero _)⟩⟩, trivial⟩ (kept_nil _)
        · rw [hc] at hcut
          have h7 := of_decide_eq_false hc
          clear hc
          simp only [cond_false] at hcut
          refine evC_skip ?_
          refine then_normal ?_
          refine evC_seq ?_
          refine evC_go0 (dec := []) (ks := [(0, 2), (0, 3), (0, 4), (0, 5), (0, 6), (0, 14), (0, 15), (0, 30), (1, 0)]) (s' := ⟨[(0, 2, Cont.cell AV.nils), (0, 3, Cont.cell (AV.int IntKind.i64 0)), (0, 4, Cont.cell (AV.vs 1)), (0, 5, Cont.cell (AV.rs 1 (List.length R) false (nU R))), (0, 6, Cont.cell (AV.int IntKind.i64 (↑z : Int))), (0, 14, Cont.cell (AV.int IntKind.u8 (↑c : Int))), (0, 15, Cont.cell (AV.int IntKind.u8 (↑i : Int))), (0, 30, Cont.cell (AV.bool (decide ((↑(List.length R) : Int) < IntKind.i64.wrap (2 + (↑z : Int)))))), (1, 0, Cont.vec 1 30 (List.length acc) (nB acc))], 514, 49⟩) (by kernel_rfl) (by kernel_rfl) ?_
          rw [i64_in (2 + (z : Int)) (by omega)]
          refine evC_if (q := decide ((↑(List.length R) : Int) < 2 + (↑z : Int))) (by kernel_rfl) (fun hc => ?_) (fun hc => ?_)
          · rw [hc] at hcut
            simp only [cond_true] at hcut
            subst hcut
            refine evC_go0 (dec := []) (ks := [(0, 2), (0, 3), (0, 4), (0, 5), (0, 6), (0, 14), (0, 15), (1, 0)]) (s' := ⟨[(0, 2, Cont.cell AV.nils), (0, 3, Cont.cell (AV.int IntKind.i64 2)), (0, 4, Cont.cell (AV.vs 1)), (0, 5, Cont.cell (AV.rs 1 (List.length R) false (nU R))), (0, 6, Cont.cell (AV.int IntKind.i64 (↑z : Int))), (0, 14, Cont.cell (AV.int IntKind.u8 (↑c : Int))), (0, 15, Cont.cell (AV.int IntKind.u8 (↑i : Int))), (1, 0, Cont.vec 1 30 (List.length acc) (nB acc))], 578, 49⟩) (by kernel_rfl) (by kernel_rfl) ?_
            refine evC_wk _ (.nil 0 2 1 30 (fun _ => .nils) (Nat.le_of_ble_eq_true rfl) rfl) ?_
            refine evC_ret ?_
            refine then_ret ?_
            refine block_ret ?_
            refine then_ret ?_
            refine round_ret ?_
            refine block_ret ?_
            refine then_ret ?_
            refine post_ret ?_
            refine ends_go [578] (AV.tup [AV.vs 1, AV.int IntKind.i64 2]) [(1, 0, Cont.vec 1 30 0 fun x => AV.nils)] rfl (by decide) rfl rfl (has_of _ rfl) rfl ⟨⟨_, rfl, ⟨rfl, rfl, rfl, fun _ _ => rfl⟩⟩, trivial⟩ ⟨fun _ => ⟨1, _, rfl, rfl, rfl, ⟨rfl, rfl, rfl, fun _ hi => absurd hi (Nat.not_lt_zero _)⟩⟩, trivial⟩ (kept_nil _)
          · rw [hc] at hcut
            have h8 := of_decide_eq_false hc
            clear hc
            simp only [cond_false] at hcut
            have e2 : IntKind.i64.wrap (2 + (z : Int)) = ((2 + z : Nat) : Int) := by rw [i64_in (2 + (z : Int)) (by omega)]; rfl
            refine evC_skip ?_
            refine then_normal ?_
            refine evC_go (dec := []) (ks := [(0, 2), (0, 3), (0, 4), (0, 5), (0, 6), (0, 14), (0, 15), (706, 0), (770, 0)]) (ps := [(0 : Int) ≤ (2 : Int), (2 : Int) ≤ IntKind.i64.wrap ((2 : Int) + (↑z : Int)), IntKind.i64.wrap ((2 : Int) + (↑z : Int)) ≤ (↑(List.length R) : Int), IntKind.i64.wrap ((2 : Int) + (↑z : Int)) = IntKind.i64.wrap ((2 : Int) + (↑z : Int)), (1 : Nat) = (1 : Nat), false = true → true = true, ((0 : Nat) + (Int.toNat (IntKind.i64.wrap ((2 : Int) + (↑z : Int))) - Int.toNat (2 : Int))) * (1 : Nat) ≤ (140737488355328 : Nat), (0 : Nat) + (Int.toNat (IntKind.i64.wrap ((2 : Int) + (↑z : Int))) - Int.toNat (2 : Int)) ≤ maxLen, Int.toNat (IntKind.i64.wrap ((2 : Int) + (↑z : Int))) - Int.toNat (2 : Int) = (0 : Nat) ∨ (1 : Nat) = (1 : Nat), (1 : Nat) = (1 : Nat), (5 : Nat) = (5 : Nat), (List.length acc + (1 : Nat)) * (24 : Nat) ≤ (140737488355328 : Nat), List.length acc + (1 : Nat) ≤ maxLen, (1 : Nat) = (0 : Nat) ∨ (1 : Nat) = (1 : Nat), (1 : Nat) = (1 : Nat), (30 : Nat) = (30 : Nat)]) (s' := ⟨[(0, 2, Cont.cell AV.nils), (0, 3, Cont.cell (AV.int IntKind.i64 0)), (0, 4, Cont.cell (AV.vs 770)), (0, 5, Cont.cell (AV.rs 1 (List.length R) false (nU R))), (0, 6, Cont.cell (AV.int IntKind.i64 (↑z : Int))), (0, 14, Cont.cell (AV.int IntKind.u8 (↑c : Int))), (0, 15, Cont.cell (AV.int IntKind.u8 (↑i : Int))), (706, 0, Cont.vec 1 5 (0 + (Int.toNat (IntKind.i64.wrap (2 + (↑z : Int))) - Int.toNat 2)) (catF 0 (pget []) fun i => nU R (Int.toNat 2 + i))), (770, 0, Cont.vec 1 30 (List.length acc + 1) (catF (List.length acc) (nB acc) (pget [(0, AV.vs 706)])))], 834, 49⟩) (by kernel_rfl) (by kernel_rfl) ?_ ?_
            · rw [e2]
              simp only [Int.toNat_natCast]
              (simp only [All]; (repeat' apply And.intro) <;> (try intro _) <;> (try intro _) <;> (repeat' apply And.intro) <;> (try intro _) <;> (try intro _) <;> first | trivial | assumption | exact .inr trivial | exact .inr rfl | omega | rfl | exact ⟨_, rfl, rfl⟩ | exact ⟨rfl, rfl⟩ | exact ⟨fun _ => rfl, fun _ => rfl⟩ | (unfold maxLen; omega) | (unfold i64R; first | omega | decide) | decide)
            obtain ⟨S, hS⟩ : ∃ S, S = (R.drop 2).take z := ⟨_, rfl⟩
            rw [← hS] at hcut
            have hSl : S.length = z := by rw [hS, List.length_take, List.length_drop]; omega
            rw [e2]
            refine evC_wk (s' := ⟨[(0, 2, Cont.cell AV.nils), (0, 3, Cont.cell (AV.int IntKind.i64 0)), (0, 4, Cont.cell (AV.vs 1)), (0, 5, Cont.cell (AV.rs 1 (List.length R) false (nU R))), (0, 6, Cont.cell (AV.int IntKind.i64 (↑z : Int))), (0, 14, Cont.cell (AV.int IntKind.u8 (↑c : Int))), (0, 15, Cont.cell (AV.int IntKind.u8 (↑i : Int))), (1, 0, Cont.vec 1 30 (List.length acc + 1) (catF (List.length acc) (nB acc) (pget [(0, AV.vs 2)]))), (2, 0, .vec 1 5 S.length (nU S))], 3, 49⟩) _ (wk_go [770, 706] rfl (by decide) rfl rfl ⟨⟨_, rfl, rfl⟩, ⟨_, rfl, rfl⟩, ⟨_, rfl, rfl⟩, ⟨_, rfl, rfl⟩, ⟨_, rfl, rfl⟩, ⟨_, rfl, rfl⟩, ⟨_, rfl, rfl⟩, ⟨_, rfl, ?_⟩, ⟨_, rfl, ?_⟩, trivial⟩) ?_
            · exact cw_cat_vs _ _ _ _ _ _ rfl
            · refine ⟨rfl, rfl, by simp only [Int.toNat_natCast]; omega, fun i hi => ?_⟩
              have hi : i < z := by rw [← hSl]; exact hi
              show nU R (2 + i) = nU S i
              rw [hS, ← nU_take (R.drop 2) z i hi]
              exact congrFun (nU_drop R 2) i
            refine evC_wk (s' := ⟨[(0, 2, Cont.cell AV.nils), (0, 3, Cont.cell (AV.int IntKind.i64 0)), (0, 4, Cont.cell (AV.vs 1)), (0, 5, Cont.cell (AV.rs 1 (List.length R) false (nU R))), (0, 6, Cont.cell (AV.int IntKind.i64 (↑z : Int))), (0, 14, Cont.cell (AV.int IntKind.u8 (↑c : Int))), (0, 15, Cont.cell (AV.int IntKind.u8 (↑i : Int))), (1, 0, Cont.vec 1 30 (List.length acc + 1) (catF (List.length acc) (nB acc) (pget [(0, AV.rs 1 (List.length S) false (nU S))])))], 2, 49⟩) _ (.trans (.frz 2 1 5 (List.length S) (nU S) (Nat.le_of_ble_eq_true rfl) rfl) (wk_go [1] rfl (by decide) rfl rfl ⟨⟨_, rfl, rfl⟩, ⟨_, rfl, rfl⟩, ⟨_, rfl, rfl⟩, ⟨_, rfl, rfl⟩, ⟨_, rfl, rfl⟩, ⟨_, rfl, rfl⟩, ⟨_, rfl, rfl⟩, ⟨_, rfl, ?_⟩, trivial⟩)) ?_
            · exact cw_cat_frz _ _ _ _ _ _
            refine evC_wk (s' := ⟨[(0, 2, Cont.cell AV.nils), (0, 3, Cont.cell (AV.int IntKind.i64 0)), (0, 4, Cont.cell (AV.vs 1)), (0, 5, Cont.cell (AV.rs 1 (List.length R) false (nU R))), (0, 6, Cont.cell (AV.int IntKind.i64 (↑z : Int))), (0, 14, Cont.cell (AV.int IntKind.u8 (↑c : Int))), (0, 15, Cont.cell (AV.int IntKind.u8 (↑i : Int))), (1, 0, .vec 1 30 (acc ++ [S]).length (nB (acc ++ [S])))], 2, 49⟩) _ (wk_go [1] rfl (by decide) rfl rfl ⟨⟨_, rfl, rfl⟩, ⟨_, rfl, rfl⟩, ⟨_, rfl, rfl⟩, ⟨_, rfl, rfl⟩, ⟨_, rfl, rfl⟩, ⟨_, rfl, rfl⟩, ⟨_, rfl, rfl⟩, ⟨_, rfl, ?_⟩, trivial⟩) ?_
            · exact ⟨rfl, rfl, by rw [List.length_append]; rfl, fun i hi => cat_nB acc S i (by rw [List.length_append] at hi; exact hi)⟩
            refine evC_goL (dec := []) (ks := [(0, 2), (0, 3), (0, 4), (0, 5), (0, 14), (0, 15), (1, 0)]) (ps := [(0 : Int) ≤ IntKind.i64.wrap ((2 : Int) + (↑z : Int)), IntKind.i64.wrap ((2 : Int) + (↑z : Int)) ≤ (↑(List.length R) : Int), (↑(List.length R) : Int) ≤ (↑(List.length R) : Int), (↑(List.length R) : Int) = (↑(List.length R) : Int), (1 : Nat) = (1 : Nat), false = true → false = true]) (s' := ⟨[(0, 2, Cont.cell AV.nils), (0, 3, Cont.cell (AV.int IntKind.i64 0)), (0, 4, Cont.cell (AV.vs 1)), (0, 5, Cont.cell (AV.rs 1 (List.length R - Int.toNat (IntKind.i64.wrap (2 + (↑z : Int)))) false fun i => nU R (Int.toNat (IntKind.i64.wrap (2 + (↑z : Int))) + i))), (0, 14, Cont.cell (AV.int IntKind.u8 (↑c : Int))), (0, 15, Cont.cell (AV.int IntKind.u8 (↑i : Int))), (1, 0, Cont.vec 1 30 (List.length (acc ++ [S])) (nB (acc ++ [S])))], 162, 49⟩) (by kernel_rfl) (by kernel_rfl) ?_ ?_
            · rw [e2]
              (simp only [All]; (repeat' apply And.intro) <;> (try intro _) <;> (try intro _) <;> (repeat' apply And.intro) <;> (try intro _) <;> (try intro _) <;> first | trivial | assumption | exact .inr trivial | exact .inr rfl | omega | rfl | exact ⟨_, rfl, rfl⟩ | exact ⟨rfl, rfl⟩ | exact ⟨fun _ => rfl, fun _ => rfl⟩ | (unfold maxLen; omega) | (unfold i64R; first | omega | decide) | decide)
            rw [e2]
            simp only [Int.toNat_natCast]
            rw [nU_drop]
            refine block_normal ?_
            refine then_normal ?_
            refine evC_goL0 (dec := []) (ks := [(0, 2), (0, 3), (0, 4), (0, 5), (0, 14), (0, 15), (1, 0)]) (s' := ⟨[(0, 2, Cont.cell AV.nils), (0, 3, Cont.cell (AV.int IntKind.i64 0)), (0, 4, Cont.cell (AV.vs 1)), (0, 5, Cont.cell (AV.rs 1 (List.length R - (2 + z)) false (nU (List.drop (2 + z) R)))), (0, 14, Cont.cell (AV.int IntKind.u8 (↑c : Int))), (0, 15, Cont.cell (AV.int IntKind.u8 (IntKind.wrap IntKind.u8 ((↑i : Int) + 1)))), (1, 0, Cont.vec 1 30 (List.length (acc ++ [S])) (nB (acc ++ [S])))], 226, 49⟩) (by kernel_rfl) (by kernel_rfl) ?_
            refine round_normal (⟨(i + 1, R.drop (2 + z), acc ++ [S]), ⟨⟨hlt, isU_drop hR _, by rw [List.length_drop]; omega⟩, by rw [← hcut]; show cutA (c - (i + 1)) _ _ = _; rw [show c - (i + 1) = d by omega], by rw [List.length_append]; show acc.length + 1 ≤ i + 1; omega⟩⟩) (wk_go [1] rfl (by decide) rfl rfl ⟨⟨_, rfl, rfl⟩, ⟨_, rfl, rfl⟩, ⟨_, rfl, rfl⟩, ⟨_, rfl, ?_⟩, ⟨_, rfl, rfl⟩, ⟨_, rfl, ?_⟩, ⟨_, rfl, ⟨rfl, rfl, rfl, fun _ _ => rfl⟩⟩, trivial⟩) ?_
            · show AV.rs 1 (R.length - (2 + z)) false (nU (R.drop (2 + z))) = AV.rs 1 (R.drop (2 + z)).length false (nU (R.drop (2 + z)))
              rw [List.length_drop]
            · show AV.int .u8 _ = AV.int .u8 _
              rw [IntKind.wrap_u8]
              refine congrArg (AV.int .u8) ?_
              show ((i : Int) + 1) % 256 = ((i + 1 : Nat) : Int)
              omega
            · show c - (i + 1) < c - i
              omega
    · have : i = c := by have := of_decide_eq_false hc; omega
      subst this
      clear hc
      rw [Nat.sub_self] at hcut
      simp only [cutA] at hcut
      refine evC_exit ?_
      refine then_exit ?_
      refine round_exit ?_
      refine block_exit ?_
      refine then_normal ?_
      refine evC_seq ?_
      refine evC_go0 (dec := []) (ks := [(0, 2), (0, 3), (0, 4), (0, 47), (1, 0)]) (s' := ⟨[(0, 2, Cont.cell AV.nils), (0, 3, Cont.cell (AV.int IntKind.i64 0)), (0, 4, Cont.cell (AV.vs 1)), (0, 47, Cont.cell (AV.bool (decide ((↑(List.length R) : Int) > 0)))), (1, 0, Cont.vec 1 30 (List.length acc) (nB acc))], 130, 49⟩) (by kernel_rfl) (by kernel_rfl) ?_
      refine evC_if (q := decide ((↑(List.length R) : Int) > 0)) (by kernel_rfl) (fun hc => ?_) (fun hc => ?_)
      · have h0 : 0 < R.length := by have := of_decide_eq_true hc; omega
        rw [nblt_yes h0] at hcut
        simp only [cond_true] at hcut
        subst hcut
        refine evC_go0 (dec := []) (ks := [(0, 2), (0, 3), (0, 4), (1, 0)]) (s' := ⟨[(0, 2, Cont.cell AV.nils), (0, 3, Cont.cell (AV.int IntKind.i64 7)), (0, 4, Cont.cell (AV.vs 1)), (1, 0, Cont.vec 1 30 (List.length acc) (nB acc))], 194, 49⟩) (by kernel_rfl) (by kernel_rfl) ?_
        refine evC_wk _ (.nil 0 2 1 30 (fun _ => .nils) (Nat.le_of_ble_eq_true rfl) rfl) ?_
        refine evC_ret ?_
        refine then_ret ?_
        refine post_ret ?_
        refine ends_go [194] (AV.tup [AV.vs 1, AV.int IntKind.i64 7]) [(1, 0, Cont.vec 1 30 0 fun x => AV.nils)] rfl (by decide) rfl rfl (has_of _ rfl) rfl ⟨⟨_, rfl, ⟨rfl, rfl, rfl, fun _ _ => rfl⟩⟩, trivial⟩ ⟨fun _ => ⟨1, _, rfl, rfl, rfl, ⟨rfl, rfl, rfl, fun _ hi => absurd hi (Nat.not_lt_zero _)⟩⟩, trivial⟩ (kept_nil _)
      · have h0 : ¬ 0 < R.length := by have := of_decide_eq_false hc; omega
        rw [nblt_no h0] at hcut
        simp only [cond_false] at hcut
        subst hcut
        refine evC_skip ?_
        refine then_normal ?_
        refine evC_go0 (dec := []) (ks := [(0, 2), (0, 3), (1, 0)]) (s' := ⟨[(0, 2, Cont.cell (AV.vs 1)), (0, 3, Cont.cell (AV.int IntKind.i64 0)), (1, 0, Cont.vec 1 30 (List.length acc) (nB acc))], 226, 49⟩) (by kernel_rfl) (by kernel_rfl) ?_
        refine evC_ret ?_
        refine post_ret ?_
        refine ends_go [1] (AV.tup [AV.vs 1, AV.int IntKind.i64 0]) [(1, 0, Cont.vec 1 30 (List.length acc) (nB acc))] rfl (by decide) rfl rfl (has_of _ rfl) rfl ⟨⟨_, rfl, ⟨rfl, rfl, rfl, fun _ _ => rfl⟩⟩, trivial⟩ ⟨?_, trivial⟩ (kept_nil _)
        exact fun _ => ⟨1, _, rfl, rfl, rfl, rfl, rfl, rfl, fun i hi => ⟨bs_has _, rfl⟩⟩
theorem cut_ok : SpecOK Try.prog 33 sCut := by
  refine spec_own (by kernel_rfl) T_ok (sget_cons num_ok sget_nil) Try.func33 rfl rfl fun args hr nb out e => ?_
  unfold sCut at e
  split at e
  · rename_i m fl f
    injection e with e; subst e
    by_cases hB : IsB m f
    rotate_left
    · exact ⟨(fun _ h => nomatch h), true, [], rfl, fun hs => absurd (hs _ List.mem_cons_self) hB⟩
    obtain ⟨L, rfl, hL, eL, hf⟩ := hB.list
    refine ⟨(fun _ h => nomatch h), true, [bs L], rfl, fun hs => ⟨.cons _ _ _ _ (.rs _ _ _ _ _ _ fun i hi => ⟨hf i hi, (nU_flat _ i).has⟩) .nil, ?_⟩⟩
    rw [eL]
    exact cut_walk hL (hs _ (List.mem_cons_of_mem _ List.mem_cons_self))
  · injection e with e; subst e
    refine ⟨(fun _ h => nomatch h), true, [bs []], rfl, fun hs => ⟨.cons _ _ _ _ (.nil _ _ _) .nil, ?_⟩⟩
    exact cut_walk (L := []) (fun x hx => by cases hx) (by simp)
  · cases e
end Go.Eng.S25
