/- Seat 25: acts; at most so many bytes; a peer issues, and what it issued is written down; walked. -/
import Derived.Test.YtodnecfgiimclaaEngX
import Derived.Test.YtodnecfgiimclaaS25BB
set_option linter.unusedSimpArgs false
set_option linter.unusedVariables false
namespace Go.Eng.S25
open Go.Proofs Go.IntWalk
set_option maxRecDepth 10000

def fewN (m : Nat) : Nat := bif Nat.ble m 800 then m else 800
theorem fewN_le (m : Nat) : fewN m ≤ m ∧ fewN m ≤ 800 := by
  unfold fewN
  cases h : Nat.ble m 800 with
  | true => exact ⟨Nat.le_refl _, Nat.le_of_ble_eq_true h⟩
  | false =>
    have : ¬ m ≤ 800 := fun hh => by rw [Nat.ble_eq_true_of_le hh] at h; cases h
    exact ⟨by rw [cond_false]; omega, by rw [cond_false]; exact Nat.le_refl _⟩
def sFew : Spec := fun args _ _ => match args with
  | [.rs 1 m _ f] => some ⟨[IsB m f, m ≤ maxLen], .rs 1 (fewN m) false (nU (bytesL m f)), [], []⟩
  | _ => none
theorem few_ok : SpecOK Try.prog 16 sFew := by
  refine spec_own (by kernel_rfl) T_ok sget_nil Try.func16 rfl rfl fun args hr nb out e => ?_
  unfold sFew at e
  split at e
  · rename_i m fl f
    injection e with e; subst e
    by_cases hB : IsB m f
    rotate_left
    · exact ⟨(fun _ h => nomatch h), true, [], rfl, fun hs => absurd (hs _ List.mem_cons_self) hB⟩
    obtain ⟨L, rfl, hL, eL, hf⟩ := hB.list
    refine ⟨(fun _ h => nomatch h), true, [bs L], rfl, fun hs => ⟨.cons _ _ _ _ (.rs _ _ _ _ _ _ fun i hi => ⟨hf i hi, (nU_flat _ i).has⟩) .nil, ?_⟩⟩
    have hm : L.length ≤ maxLen := hs _ (List.mem_cons_of_mem _ List.mem_cons_self)
    rw [eL]
    clear eL hf hs hB
    unfold bs
    refine evC_go0 (dec := []) (ks := [(0, 0), (0, 2)]) (s' := ⟨[(0, 0, Cont.cell (AV.rs 1 (List.length L) false (nU L))), (0, 2, Cont.cell AV.nils)], 33, 9⟩) (by kernel_rfl) (by kernel_rfl) ?_
    refine evC_seq ?_
    refine evC_go0 (dec := []) (ks := [(0, 0), (0, 2), (0, 5)]) (s' := ⟨[(0, 0, Cont.cell (AV.rs 1 (List.length L) false (nU L))), (0, 2, Cont.cell AV.nils), (0, 5, Cont.cell (AV.bool (decide ((↑(List.length L) : Int) > 800))))], 129, 9⟩) (by kernel_rfl) (by kernel_rfl) ?_
    refine evC_if (q := decide ((↑(List.length L) : Int) > 800)) (by kernel_rfl) (fun hc => ?_) (fun hc => ?_)
    · have h8 : 800 < L.length := by have := of_decide_eq_true hc; omega
      have e8 : fewN L.length = 800 := by unfold fewN; rw [show Nat.ble L.length 800 = false by cases h : Nat.ble L.length 800 with | false => rfl | true => exact absurd (Nat.le_of_ble_eq_true h) (by omega)]; rfl
      rw [e8]
      refine evC_go (dec := []) (ks := [(0, 0), (0, 2)]) (ps := [(0 : Int) ≤ (0 : Int), (0 : Int) ≤ (800 : Int), (800 : Int) ≤ (↑(List.length L) : Int), (800 : Int) = (800 : Int), (1 : Nat) = (1 : Nat), false = true → true = true]) (s' := ⟨[(0, 0, Cont.cell (AV.rs 1 (List.length L) false (nU L))), (0, 2, Cont.cell (AV.rs 1 800 false fun i => nU L (Int.toNat 0 + i)))], 225, 9⟩) (by kernel_rfl) (by kernel_rfl) ?_ ?_
      · exact ⟨by decide, by decide, by omega, rfl, rfl, fun _ => rfl⟩
      rw [show (fun i => nU L (Int.toNat 0 + i)) = nU L from funext fun i => by rw [show Int.toNat 0 = 0 from rfl, Nat.zero_add]]
      refine evC_ret ?_
      refine then_ret ?_
      refine post_ret ?_
      refine ends_go [] (AV.rs 1 800 false (nU L)) [] rfl (by decide) rfl rfl (?_) rfl trivial trivial (kept_nil _)
      exact .rs _ _ _ _ rfl fun i hi => (nU_flat _ i).has
    · have h8 : ¬ 800 < L.length := by have := of_decide_eq_false hc; omega
      have e8 : fewN L.length = L.length := by unfold fewN; rw [Nat.ble_eq_true_of_le (by omega)]; rfl
      rw [e8]
      refine evC_skip ?_
      refine then_normal ?_
      refine evC_go0 (dec := []) (ks := [(0, 2)]) (s' := ⟨[(0, 2, Cont.cell (AV.rs 1 (List.length L) false (nU L)))], 193, 9⟩) (by kernel_rfl) (by kernel_rfl) ?_
      refine evC_ret ?_
      refine post_ret ?_
      refine ends_go [] (AV.rs 1 (List.length L) false (nU L)) [] rfl (by decide) rfl rfl (?_) rfl trivial trivial (kept_nil _)
      exact .rs _ _ _ _ rfl fun i hi => (nU_flat _ i).has
  · cases e
end Go.Eng.S25

/- Seat 25: acts; a peer issues, and what it issued is written down; walked. -/
set_option linter.unusedSimpArgs false
set_option linter.unusedVariables false
namespace Go.Eng.S25
open Go.Proofs Go.IntWalk
set_option maxRecDepth 10000

structure Act where
  Do : Int
  P : Int
  Q : Int
  K : Int
  W : Int
  B : List Int
def actV (a : Act) : AV := .agg [.int .i64 a.Do, .int .i64 a.P, .int .i64 a.Q, .int .i64 a.K, .int .u64 a.W, .rs 1 a.B.length false (nU a.B)]
def tsF (Ts : Nat → Int) (j : Nat) : AV := .int .i64 (Ts j)
/-- What holds after so many acts. -/
structure AGI (n i : Nat) (Ps : Nat → Peer) (Is : Iss) (Ts : Nat → Int) (Ms : List (List Int)) : Prop where
  ag : AG n Ps Is Ts
  km : ∀ M ∈ Ms, KM n Is M
  len : Ms.length ≤ i
  ts : ∀ p, p < n → Ts p ≤ i
theorem AGI.lenI {n i : Nat} {Ps : Nat → Peer} {Is : Iss} {Ts : Nat → Int} {Ms : List (List Int)} (A : AGI n i Ps Is Ts Ms) {p : Nat} (hp : p < n) : (Is p).length ≤ i + 8 := by
  have := A.ag.win p hp
  have := A.ts p hp
  omega
theorem few_isU {B : List Int} (h : IsU B) : IsB (fewN B.length) (nU B) := ⟨fun j hj => (isB h).1 j (Nat.lt_of_lt_of_le hj (fewN_le _).1)⟩
theorem IsB.eq {k : Nat} {f : Nat → AV} (h : IsB k f) : ∀ j, j < k → f j = .int .u8 (iv (f j)) := fun j hj => (h.1 j hj).1
theorem mkStr_congr {k : Nat} {f g : Nat → AV} (h : ∀ j, j < k → f j = g j) : mkStr k f = mkStr k g := by
  unfold mkStr
  congr 1
  exact List.map_congr_left fun j hj => by rw [h j (List.mem_range.1 hj)]
theorem addI_upd (Is : Iss) (p : Nat) (L : List Int) : updF Is p (Is p ++ [L]) = addI Is p L := by
  funext q
  unfold updF addI
  cases h : q == p with
  | true => rw [(by simpa using h : q = p)]
  | false => rfl
theorem cat_nS (Ls : List (List Int)) {L : List Int} {k : Nat} {f : Nat → AV} (hk : k = L.length) (hf : ∀ j, j < k → f j = nU L j) (i : Nat) (hi : i < (Ls ++ [L]).length) : catF Ls.length (nS Ls) (pget [(0, .str (mkStr k f))]) i = nS (Ls ++ [L]) i := by
  subst hk
  rw [List.length_append] at hi
  have hi : i < Ls.length + 1 := hi
  unfold catF
  cases h : Nat.blt i Ls.length with
  | true =>
    have h : i < Ls.length := by simpa [Nat.blt_eq] using h
    have e : (Ls ++ [L]).getD i [] = Ls.getD i [] := by rw [List.getD_eq_getElem?_getD, List.getD_eq_getElem?_getD, List.getElem?_append_left h]
    show nS Ls i = nS (Ls ++ [L]) i
    unfold nS
    rw [e]
  | false =>
    have h : ¬ i < Ls.length := fun hh => by rw [nblt_yes hh] at h; cases h
    have hi : i = Ls.length := by omega
    subst hi
    have e : (Ls ++ [L]).getD Ls.length [] = L := by rw [List.getD_eq_getElem?_getD, List.getElem?_append_right (Nat.le_refl _), Nat.sub_self]; rfl
    show pget [(0, .str (mkStr L.length f))] (Ls.length - Ls.length) = nS (Ls ++ [L]) Ls.length
    unfold nS
    rw [e, Nat.sub_self, mkStr_congr hf]
    rfl
/-- Where the row lies that grew. -/
theorem cwI_new {n p X : Nat} (hn : n ≤ 8) (hp : p < n) (hX : 37 ≤ X) : CW (swp 1 (28 + p) X) (.vec 1 40 n vsF) (.vec 1 40 n fun j => bif j == p then .vs X else vsS p j) := by
  refine ⟨rfl, rfl, rfl, fun i hi => ?_⟩
  by_cases h : i = p
  · subst h
    show (bif i == i then AV.vs X else vsS i i) = _
    rw [beq_self_eq_true, cond_true]
    show AV.vs X = AV.vs (swp 1 (28 + i) X (28 + i))
    have := swp_b (k := 1) (b := 28 + i) (a := X) (i := 0) (by decide)
    rw [Nat.add_zero, Nat.add_zero] at this
    rw [this]
  · have hb : (i == p) = false := by simpa using h
    show (bif i == p then AV.vs X else vsS p i) = _
    rw [hb, cond_false]
    show AV.vs (swp 1 (28 + p) 36 (28 + i)) = AV.vs (swp 1 (28 + p) X (28 + i))
    rw [swp_ne (by omega) (by omega), swp_ne (by omega) (by omega)]
theorem cwI_ptX {n p X : Nat} (hn : n ≤ 8) (hX : 37 ≤ X) : CW (swp 1 (28 + p) X) (.vec 1 28 n ptF) (.vec 1 28 n ptF) := by
  refine ⟨rfl, rfl, rfl, fun i hi => ?_⟩
  show AV.ptr _ 0 = AV.ptr (swp 1 (28 + p) X (1 + 3 * i)) 0
  rw [swp_ne (by omega) (by omega)]
theorem cwI_vsX {m p X : Nat} (hm : 37 ≤ m) (hX : m < X) (hp : p < 8) : CW (swp 1 (28 + p) X) (.cell (.vs m)) (.cell (.vs m)) := by
  show AV.vs m = AV.vs (swp 1 (28 + p) X m)
  rw [swp_ne (by omega) (by omega)]
theorem ag_row {n m i p : Nat} {acts : Nat → Act} {a : Act} {Ls : List (List Int)} {Ts : Nat → Int} {Ms : List (List Int)} {Q : Exit → St → Prop} (hn : 2 ≤ n ∧ n ≤ 8) (hp : p < n) (hB : IsU a.B) (hBl : a.B.length ≤ maxLen) (hl : Ls.length ≤ 300)
    (hQ : Q .normal ⟨[(0, 0, .cell (.int .i64 (n : Nat))), (0, 1, .cell (.rs 6 m false fun j => actV (acts j))), (0, 5, .cell (.vs 37)), (0, 7, .cell (.vs 38)), (0, 9, .cell (.vs 39)), (0, 10, .cell (.vs 40)), (0, 11, .cell (.int .i64 (i : Nat))), (37, 0, .vec 1 28 n ptF), (38, 0, .vec 1 40 n fun j => bif j == p then .vs 5416 else vsS p j), (39, 0, .vec 1 30 Ms.length (nB Ms)), (40, 0, .vec 1 3 n (tsF Ts)), (5416, 0, .vec 1 9 (Ls.length + 1) (catF Ls.length (nS Ls) (pget [(0, .str (mkStr (fewN a.B.length) (nU a.B)))])))], 5512, 229⟩) :
    Sem Try.prog 37 (cpath (Try.f4.body.getD .skip) [1, 1, 1, 1, 1, 1, 1, 1, 0, 1, 2, 2, 1, 0, 2, 1, 1, 1, 1, 2, 1, 3, 1, 3]) (SKeep [0, 1, 5, 7, 9, 10, 11] Q) ⟨[(0, 0, .cell (.int .i64 (n : Nat))), (0, 1, .cell (.rs 6 m false fun j => actV (acts j))), (0, 5, .cell (.vs 37)), (0, 7, .cell (.vs 38)), (0, 9, .cell (.vs 39)), (0, 10, .cell (.vs 40)), (0, 11, .cell (.int .i64 (i : Nat))), (0, 12, .cell (.ptr 41 0))] ++ (rowL 36 Ls ++ [(37, 0, .vec 1 28 n ptF), (38, 0, .vec 1 40 n (vsS p)), (39, 0, .vec 1 30 Ms.length (nB Ms)), (40, 0, .vec 1 3 n (tsF Ts)), (41, 0, .cell (.int .i64 a.Do)), (41, 1, .cell (.int .i64 (p : Nat))), (41, 2, .cell (.int .i64 a.Q)), (41, 3, .cell (.int .i64 a.K)), (41, 4, .cell (.int .u64 a.W)), (41, 5, .cell (.rs 1 a.B.length false (nU a.B)))]), 5000, 229⟩ := by
  have hm : Try.prog.follows .mixedOrders = true := by kernel_rfl
  have hΓ : SpecsOK Try.prog [(16, sFew)] := sget_cons few_ok sget_nil
  obtain ⟨hn2, hn8⟩ := hn
  refine Sem.of_evC hm T_ok hΓ rfl ?_
  rcases (by omega : p = 0 ∨ p = 1 ∨ p = 2 ∨ p = 3 ∨ p = 4 ∨ p = 5 ∨ p = 6 ∨ p = 7) with rfl | rfl | rfl | rfl | rfl | rfl | rfl | rfl
  · refine evC_goL (dec := []) (ks := [(0, 0), (0, 1), (0, 5), (0, 7), (0, 9), (0, 10), (0, 11), (37, 0), (38, 0), (39, 0), (40, 0), (5416, 0)]) (ps := [(0 : Int) ≤ (↑(0 : Nat) : Int), (↑(0 : Nat) : Int) < (↑n : Int), (1 : Nat) = (1 : Nat), (0 : Int) ≤ (↑(0 : Nat) : Int), (↑(0 : Nat) : Int) < (↑n : Int), (1 : Nat) = (1 : Nat), IsB (List.length (Act.B a)) (nU (Act.B a)), List.length (Act.B a) ≤ maxLen, fewN (List.length (Act.B a)) = (0 : Nat) ∨ (1 : Nat) = (1 : Nat), ∀ (i : Nat), i < fewN (List.length (Act.B a)) → nU (bytesL (List.length (Act.B a)) (nU (Act.B a))) i = AV.int IntKind.u8 (iv (nU (bytesL (List.length (Act.B a)) (nU (Act.B a))) i)), (List.length Ls + (1 : Nat)) * (16 : Nat) ≤ (140737488355328 : Nat), List.length Ls + (1 : Nat) ≤ maxLen, (1 : Nat) = (0 : Nat) ∨ (1 : Nat) = (1 : Nat), (1 : Nat) = (1 : Nat), (9 : Nat) = (9 : Nat), (0 : Int) ≤ (↑(0 : Nat) : Int), (↑(0 : Nat) : Int) < (↑n : Int), (1 : Nat) = (1 : Nat), (0 : Int) ≤ (↑(0 : Nat) : Int), (↑(0 : Nat) : Int) < (↑n : Int), (1 : Nat) = (1 : Nat), widthC (AV.cells (AV.vs (5416 : Nat))) = (1 : Nat)]) (s' := ⟨[(0, 0, Cont.cell (AV.int IntKind.i64 (↑n : Int))), (0, 1, Cont.cell (AV.rs 6 m false fun j => actV (acts j))), (0, 5, Cont.cell (AV.vs 37)), (0, 7, Cont.cell (AV.vs 38)), (0, 9, Cont.cell (AV.vs 39)), (0, 10, Cont.cell (AV.vs 40)), (0, 11, Cont.cell (AV.int IntKind.i64 (↑i : Int))), (37, 0, Cont.vec 1 28 n ptF), (38, 0, Cont.vec 1 40 n fun j => bif j == 0 then AV.vs 5416 else vsS 0 j), (39, 0, Cont.vec 1 30 (List.length Ms) (nB Ms)), (40, 0, Cont.vec 1 3 n (tsF Ts)), (5416, 0, Cont.vec 1 9 (List.length Ls + 1) (catF (List.length Ls) (nS Ls) (pget [(0, AV.str (mkStr (fewN (List.length (Act.B a))) (nU (bytesL (List.length (Act.B a)) (nU (Act.B a))))))])))], 5512, 229⟩) (by kernel_rfl) (by kernel_rfl) ?_ ?_
    · rw [bytesL_nU]
      exact ⟨by omega, by omega, rfl, by omega, by omega, rfl, isB hB, hBl, .inr rfl, (few_isU hB).eq, by omega, by unfold maxLen; omega, .inr rfl, rfl, rfl, by omega, by omega, rfl, by omega, by omega, rfl, rfl⟩
    rw [bytesL_nU]
    exact hQ
  · refine evC_goL (dec := []) (ks := [(0, 0), (0, 1), (0, 5), (0, 7), (0, 9), (0, 10), (0, 11), (37, 0), (38, 0), (39, 0), (40, 0), (5416, 0)]) (ps := [(0 : Int) ≤ (↑(1 : Nat) : Int), (↑(1 : Nat) : Int) < (↑n : Int), (1 : Nat) = (1 : Nat), (0 : Int) ≤ (↑(1 : Nat) : Int), (↑(1 : Nat) : Int) < (↑n : Int), (1 : Nat) = (1 : Nat), IsB (List.length (Act.B a)) (nU (Act.B a)), List.length (Act.B a) ≤ maxLen, fewN (List.length (Act.B a)) = (0 : Nat) ∨ (1 : Nat) = (1 : Nat), ∀ (i : Nat), i < fewN (List.length (Act.B a)) → nU (bytesL (List.length (Act.B a)) (nU (Act.B a))) i = AV.int IntKind.u8 (iv (nU (bytesL (List.length (Act.B a)) (nU (Act.B a))) i)), (List.length Ls + (1 : Nat)) * (16 : Nat) ≤ (140737488355328 : Nat), List.length Ls + (1 : Nat) ≤ maxLen, (1 : Nat) = (0 : Nat) ∨ (1 : Nat) = (1 : Nat), (1 : Nat) = (1 : Nat), (9 : Nat) = (9 : Nat), (0 : Int) ≤ (↑(1 : Nat) : Int), (↑(1 : Nat) : Int) < (↑n : Int), (1 : Nat) = (1 : Nat), (0 : Int) ≤ (↑(1 : Nat) : Int), (↑(1 : Nat) : Int) < (↑n : Int), (1 : Nat) = (1 : Nat), widthC (AV.cells (AV.vs (5416 : Nat))) = (1 : Nat)]) (s' := ⟨[(0, 0, Cont.cell (AV.int IntKind.i64 (↑n : Int))), (0, 1, Cont.cell (AV.rs 6 m false fun j => actV (acts j))), (0, 5, Cont.cell (AV.vs 37)), (0, 7, Cont.cell (AV.vs 38)), (0, 9, Cont.cell (AV.vs 39)), (0, 10, Cont.cell (AV.vs 40)), (0, 11, Cont.cell (AV.int IntKind.i64 (↑i : Int))), (37, 0, Cont.vec 1 28 n ptF), (38, 0, Cont.vec 1 40 n fun j => bif j == 1 then AV.vs 5416 else vsS 1 j), (39, 0, Cont.vec 1 30 (List.length Ms) (nB Ms)), (40, 0, Cont.vec 1 3 n (tsF Ts)), (5416, 0, Cont.vec 1 9 (List.length Ls + 1) (catF (List.length Ls) (nS Ls) (pget [(0, AV.str (mkStr (fewN (List.length (Act.B a))) (nU (bytesL (List.length (Act.B a)) (nU (Act.B a))))))])))], 5512, 229⟩) (by kernel_rfl) (by kernel_rfl) ?_ ?_
    · rw [bytesL_nU]
      exact ⟨by omega, by omega, rfl, by omega, by omega, rfl, isB hB, hBl, .inr rfl, (few_isU hB).eq, by omega, by unfold maxLen; omega, .inr rfl, rfl, rfl, by omega, by omega, rfl, by omega, by omega, rfl, rfl⟩
    rw [bytesL_nU]
    exact hQ
  · refine evC_goL (dec := []) (ks := [(0, 0), (0, 1), (0, 5), (0, 7), (0, 9), (0, 10), (0, 11), (37, 0), (38, 0), (39, 0), (40, 0), (5416, 0)]) (ps := [(0 : Int) ≤ (↑(2 : Nat) : Int), (↑(2 : Nat) : Int) < (↑n : Int), (1 : Nat) = (1 : Nat), (0 : Int) ≤ (↑(2 : Nat) : Int), (↑(2 : Nat) : Int) < (↑n : Int), (1 : Nat) = (1 : Nat), IsB (List.length (Act.B a)) (nU (Act.B a)), List.length (Act.B a) ≤ maxLen, fewN (List.length (Act.B a)) = (0 : Nat) ∨ (1 : Nat) = (1 : Nat), ∀ (i : Nat), i < fewN (List.length (Act.B a)) → nU (bytesL (List.length (Act.B a)) (nU (Act.B a))) i = AV.int IntKind.u8 (iv (nU (bytesL (List.length (Act.B a)) (nU (Act.B a))) i)), (List.length Ls + (1 : Nat)) * (16 : Nat) ≤ (140737488355328 : Nat), List.length Ls + (1 : Nat) ≤ maxLen, (1 : Nat) = (0 : Nat) ∨ (1 : Nat) = (1 : Nat), (1 : Nat) = (1 : Nat), (9 : Nat) = (9 : Nat), (0 : Int) ≤ (↑(2 : Nat) : Int), (↑(2 : Nat) : Int) < (↑n : Int), (1 : Nat) = (1 : Nat), (0 : Int) ≤ (↑(2 : Nat) : Int), (↑(2 : Nat) : Int) < (↑n : Int), (1 : Nat) = (1 : Nat), widthC (AV.cells (AV.vs (5416 : Nat))) = (1 : Nat)]) (s' := ⟨[(0, 0, Cont.cell (AV.int IntKind.i64 (↑n : Int))), (0, 1, Cont.cell (AV.rs 6 m false fun j => actV (acts j))), (0, 5, Cont.cell (AV.vs 37)), (0, 7, Cont.cell (AV.vs 38)), (0, 9, Cont.cell (AV.vs 39)), (0, 10, Cont.cell (AV.vs 40)), (0, 11, Cont.cell (AV.int IntKind.i64 (↑i : Int))), (37, 0, Cont.vec 1 28 n ptF), (38, 0, Cont.vec 1 40 n fun j => bif j == 2 then AV.vs 5416 else vsS 2 j), (39, 0, Cont.vec 1 30 (List.length Ms) (nB Ms)), (40, 0, Cont.vec 1 3 n (tsF Ts)), (5416, 0, Cont.vec 1 9 (List.length Ls + 1) (catF (List.length Ls) (nS Ls) (pget [(0, AV.str (mkStr (fewN (List.length (Act.B a))) (nU (bytesL (List.length (Act.B a)) (nU (Act.B a))))))])))], 5512, 229⟩) (by kernel_rfl) (by kernel_rfl) ?_ ?_
    · rw [bytesL_nU]
      exact ⟨by omega, by omega, rfl, by omega, by omega, rfl, isB hB, hBl, .inr rfl, (few_isU hB).eq, by omega, by unfold maxLen; omega, .inr rfl, rfl, rfl, by omega, by omega, rfl, by omega, by omega, rfl, rfl⟩
    rw [bytesL_nU]
    exact hQ
  · refine evC_goL (dec := []) (ks := [(0, 0), (0, 1), (0, 5), (0, 7), (0, 9), (0, 10), (0, 11), (37, 0), (38, 0), (39, 0), (40, 0), (5416, 0)]) (ps := [(0 : Int) ≤ (↑(3 : Nat) : Int), (↑(3 : Nat) : Int) < (↑n : Int), (1 : Nat) = (1 : Nat), (0 : Int) ≤ (↑(3 : Nat) : Int), (↑(3 : Nat) : Int) < (↑n : Int), (1 : Nat) = (1 : Nat), IsB (List.length (Act.B a)) (nU (Act.B a)), List.length (Act.B a) ≤ maxLen, fewN (List.length (Act.B a)) = (0 : Nat) ∨ (1 : Nat) = (1 : Nat), ∀ (i : Nat), i < fewN (List.length (Act.B a)) → nU (bytesL (List.length (Act.B a)) (nU (Act.B a))) i = AV.int IntKind.u8 (iv (nU (bytesL (List.length (Act.B a)) (nU (Act.B a))) i)), (List.length Ls + (1 : Nat)) * (16 : Nat) ≤ (140737488355328 : Nat), List.length Ls + (1 : Nat) ≤ maxLen, (1 : Nat) = (0 : Nat) ∨ (1 : Nat) = (1 : Nat), (1 : Nat) = (1 : Nat), (9 : Nat) = (9 : Nat), (0 : Int) ≤ (↑(3 : Nat) : Int), (↑(3 : Nat) : Int) < (↑n : Int), (1 : Nat) = (1 : Nat), (0 : Int) ≤ (↑(3 : Nat) : Int), (↑(3 : Nat) : Int) < (↑n : Int), (1 : Nat) = (1 : Nat), widthC (AV.cells (AV.vs (5416 : Nat))) = (1 : Nat)]) (s' := ⟨[(0, 0, Cont.cell (AV.int IntKind.i64 (↑n : Int))), (0, 1, Cont.cell (AV.rs 6 m false fun j => actV (acts j))), (0, 5, Cont.cell (AV.vs 37)), (0, 7, Cont.cell (AV.vs 38)), (0, 9, Cont.cell (AV.vs 39)), (0, 10, Cont.cell (AV.vs 40)), (0, 11, Cont.cell (AV.int IntKind.i64 (↑i : Int))), (37, 0, Cont.vec 1 28 n ptF), (38, 0, Cont.vec 1 40 n fun j => bif j == 3 then AV.vs 5416 else vsS 3 j), (39, 0, Cont.vec 1 30 (List.length Ms) (nB Ms)), (40, 0, Cont.vec 1 3 n (tsF Ts)), (5416, 0, Cont.vec 1 9 (List.length Ls + 1) (catF (List.length Ls) (nS Ls) (pget [(0, AV.str (mkStr (fewN (List.length (Act.B a))) (nU (bytesL (List.length (Act.B a)) (nU (Act.B a))))))])))], 5512, 229⟩) (by kernel_rfl) (by kernel_rfl) ?_ ?_
    · rw [bytesL_nU]
      exact ⟨by omega, by omega, rfl, by omega, by omega, rfl, isB hB, hBl, .inr rfl, (few_isU hB).eq, by omega, by unfold maxLen; omega, .inr rfl, rfl, rfl, by omega, by omega, rfl, by omega, by omega, rfl, rfl⟩
    rw [bytesL_nU]
    exact hQ
  · refine evC_goL (dec := []) (ks := [(0, 0), (0, 1), (0, 5), (0, 7), (0, 9), (0, 10), (0, 11), (37, 0), (38, 0), (39, 0), (40, 0), (5416, 0)]) (ps := [(0 : Int) ≤ (↑(4 : Nat) : Int), (↑(4 : Nat) : Int) < (↑n : Int), (1 : Nat) = (1 : Nat), (0 : Int) ≤ (↑(4 : Nat) : Int), (↑(4 : Nat) : Int) < (↑n : Int), (1 : Nat) = (1 : Nat), IsB (List.length (Act.B a)) (nU (Act.B a)), List.length (Act.B a) ≤ maxLen, fewN (List.length (Act.B a)) = (0 : Nat) ∨ (1 : Nat) = (1 : Nat), ∀ (i : Nat), i < fewN (List.length (Act.B a)) → nU (bytesL (List.length (Act.B a)) (nU (Act.B a))) i = AV.int IntKind.u8 (iv (nU (bytesL (List.length (Act.B a)) (nU (Act.B a))) i)), (List.length Ls + (1 : Nat)) * (16 : Nat) ≤ (140737488355328 : Nat), List.length Ls + (1 : Nat) ≤ maxLen, (1 : Nat) = (0 : Nat) ∨ (1 : Nat) = (1 : Nat), (1 : Nat) = (1 : Nat), (9 : Nat) = (9 : Nat), (0 : Int) ≤ (↑(4 : Nat) : Int), (↑(4 : Nat) : Int) < (↑n : Int), (1 : Nat) = (1 : Nat), (0 : Int) ≤ (↑(4 : Nat) : Int), (↑(4 : Nat) : Int) < (↑n : Int), (1 : Nat) = (1 : Nat), widthC (AV.cells (AV.vs (5416 : Nat))) = (1 : Nat)]) (s' := ⟨[(0, 0, Cont.cell (AV.int IntKind.i64 (↑n : Int))), (0, 1, Cont.cell (AV.rs 6 m false fun j => actV (acts j))), (0, 5, Cont.cell (AV.vs 37)), (0, 7, Cont.cell (AV.vs 38)), (0, 9, Cont.cell (AV.vs 39)), (0, 10, Cont.cell (AV.vs 40)), (0, 11, Cont.cell (AV.int IntKind.i64 (↑i : Int))), (37, 0, Cont.vec 1 28 n ptF), (38, 0, Cont.vec 1 40 n fun j => bif j == 4 then AV.vs 5416 else vsS 4 j), (39, 0, Cont.vec 1 30 (List.length Ms) (nB Ms)), (40, 0, Cont.vec 1 3 n (tsF Ts)), (5416, 0, Cont.vec 1 9 (List.length Ls + 1) (catF (List.length Ls) (nS Ls) (pget [(0, AV.str (mkStr (fewN (List.length (Act.B a))) (nU (bytesL (List.length (Act.B a)) (nU (Act.B a))))))])))], 5512, 229⟩) (by kernel_rfl) (by kernel_rfl) ?_ ?_
    · rw [bytesL_nU]
      exact ⟨by omega, by omega, rfl, by omega, by omega, rfl, isB hB, hBl, .inr rfl, (few_isU hB).eq, by omega, by unfold maxLen; omega, .inr rfl, rfl, rfl, by omega, by omega, rfl, by omega, by omega, rfl, rfl⟩
    rw [bytesL_nU]
    exact hQ
  · refine evC_goL (dec := []) (ks := [(0, 0), (0, 1), (0, 5), (0, 7), (0, 9), (0, 10), (0, 11), (37, 0), (38, 0), (39, 0), (40, 0), (5416, 0)]) (ps := [(0 : Int) ≤ (↑(5 : Nat) : Int), (↑(5 : Nat) : Int) < (↑n : Int), (1 : Nat) = (1 : Nat), (0 : Int) ≤ (↑(5 : Nat) : Int), (↑(5 : Nat) : Int) < (↑n : Int), (1 : Nat) = (1 : Nat), IsB (List.length (Act.B a)) (nU (Act.B a)), List.length (Act.B a) ≤ maxLen, fewN (List.length (Act.B a)) = (0 : Nat) ∨ (1 : Nat) = (1 : Nat), ∀ (i : Nat), i < fewN (List.length (Act.B a)) → nU (bytesL (List.length (Act.B a)) (nU (Act.B a))) i = AV.int IntKind.u8 (iv (nU (bytesL (List.length (Act.B a)) (nU (Act.B a))) i)), (List.length Ls + (1 : Nat)) * (16 : Nat) ≤ (140737488355328 : Nat), List.length Ls + (1 : Nat) ≤ maxLen, (1 : Nat) = (0 : Nat) ∨ (1 : Nat) = (1 : Nat), (1 : Nat) = (1 : Nat), (9 : Nat) = (9 : Nat), (0 : Int) ≤ (↑(5 : Nat) : Int), (↑(5 : Nat) : Int) < (↑n : Int), (1 : Nat) = (1 : Nat), (0 : Int) ≤ (↑(5 : Nat) : Int), (↑(5 : Nat) : Int) < (↑n : Int), (1 : Nat) = (1 : Nat), widthC (AV.cells (AV.vs (5416 : Nat))) = (1 : Nat)]) (s' := ⟨[(0, 0, Cont.cell (AV.int IntKind.i64 (↑n : Int))), (0, 1, Cont.cell (AV.rs 6 m false fun j => actV (acts j))), (0, 5, Cont.cell (AV.vs 37)), (0, 7, Cont.cell (AV.vs 38)), (0, 9, Cont.cell (AV.vs 39)), (0, 10, Cont.cell (AV.vs 40)), (0, 11, Cont.cell (AV.int IntKind.i64 (↑i : Int))), (37, 0, Cont.vec 1 28 n ptF), (38, 0, Cont.vec 1 40 n fun j => bif j == 5 then AV.vs 5416 else vsS 5 j), (39, 0, Cont.vec 1 30 (List.length Ms) (nB Ms)), (40, 0, Cont.vec 1 3 n (tsF Ts)), (5416, 0, Cont.vec 1 9 (List.length Ls + 1) (catF (List.length Ls) (nS Ls) (pget [(0, AV.str (mkStr (fewN (List.length (Act.B a))) (nU (bytesL (List.length (Act.B a)) (nU (Act.B a))))))])))], 5512, 229⟩) (by kernel_rfl) (by kernel_rfl) ?_ ?_
    · rw [bytesL_nU]
      exact ⟨by omega, by omega, rfl, by omega, by omega, rfl, isB hB, hBl, .inr rfl, (few_isU hB).eq, by omega, by unfold maxLen; omega, .inr rfl, rfl, rfl, by omega, by omega, rfl, by omega, by omega, rfl, rfl⟩
    rw [bytesL_nU]
    exact hQ
  · refine evC_goL (dec := []) (ks := [(0, 0), (0, 1), (0, 5), (0, 7), (0, 9), (0, 10), (0, 11), (37, 0), (38, 0), (39, 0), (40, 0), (5416, 0)]) (ps := [(0 : Int) ≤ (↑(6 : Nat) : Int), (↑(6 : Nat) : Int) < (↑n : Int), (1 : Nat) = (1 : Nat), (0 : Int) ≤ (↑(6 : Nat) : Int), (↑(6 : Nat) : Int) < (↑n : Int), (1 : Nat) = (1 : Nat), IsB (List.length (Act.B a)) (nU (Act.B a)), List.length (Act.B a) ≤ maxLen, fewN (List.length (Act.B a)) = (0 : Nat) ∨ (1 : Nat) = (1 : Nat), ∀ (i : Nat), i < fewN (List.length (Act.B a)) → nU (bytesL (List.length (Act.B a)) (nU (Act.B a))) i = AV.int IntKind.u8 (iv (nU (bytesL (List.length (Act.B a)) (nU (Act.B a))) i)), (List.length Ls + (1 : Nat)) * (16 : Nat) ≤ (140737488355328 : Nat), List.length Ls + (1 : Nat) ≤ maxLen, (1 : Nat) = (0 : Nat) ∨ (1 : Nat) = (1 : Nat), (1 : Nat) = (1 : Nat), (9 : Nat) = (9 : Nat), (0 : Int) ≤ (↑(6 : Nat) : Int), (↑(6 : Nat) : Int) < (↑n : Int), (1 : Nat) = (1 : Nat), (0 : Int) ≤ (↑(6 : Nat) : Int), (↑(6 : Nat) : Int) < (↑n : Int), (1 : Nat) = (1 : Nat), widthC (AV.cells (AV.vs (5416 : Nat))) = (1 : Nat)]) (s' := ⟨[(0, 0, Cont.cell (AV.int IntKind.i64 (↑n : Int))), (0, 1, Cont.cell (AV.rs 6 m false fun j => actV (acts j))), (0, 5, Cont.cell (AV.vs 37)), (0, 7, Cont.cell (AV.vs 38)), (0, 9, Cont.cell (AV.vs 39)), (0, 10, Cont.cell (AV.vs 40)), (0, 11, Cont.cell (AV.int IntKind.i64 (↑i : Int))), (37, 0, Cont.vec 1 28 n ptF), (38, 0, Cont.vec 1 40 n fun j => bif j == 6 then AV.vs 5416 else vsS 6 j), (39, 0, Cont.vec 1 30 (List.length Ms) (nB Ms)), (40, 0, Cont.vec 1 3 n (tsF Ts)), (5416, 0, Cont.vec 1 9 (List.length Ls + 1) (catF (List.length Ls) (nS Ls) (pget [(0, AV.str (mkStr (fewN (List.length (Act.B a))) (nU (bytesL (List.length (Act.B a)) (nU (Act.B a))))))])))], 5512, 229⟩) (by kernel_rfl) (by kernel_rfl) ?_ ?_
    · rw [bytesL_nU]
      exact ⟨by omega, by omega, rfl, by omega, by omega, rfl, isB hB, hBl, .inr rfl, (few_isU hB).eq, by omega, by unfold maxLen; omega, .inr rfl, rfl, rfl, by omega, by omega, rfl, by omega, by omega, rfl, rfl⟩
    rw [bytesL_nU]
    exact hQ
  · refine evC_goL (dec := []) (ks := [(0, 0), (0, 1), (0, 5), (0, 7), (0, 9), (0, 10), (0, 11), (37, 0), (38, 0), (39, 0), (40, 0), (5416, 0)]) (ps := [(0 : Int) ≤ (↑(7 : Nat) : Int), (↑(7 : Nat) : Int) < (↑n : Int), (1 : Nat) = (1 : Nat), (0 : Int) ≤ (↑(7 : Nat) : Int), (↑(7 : Nat) : Int) < (↑n : Int), (1 : Nat) = (1 : Nat), IsB (List.length (Act.B a)) (nU (Act.B a)), List.length (Act.B a) ≤ maxLen, fewN (List.length (Act.B a)) = (0 : Nat) ∨ (1 : Nat) = (1 : Nat), ∀ (i : Nat), i < fewN (List.length (Act.B a)) → nU (bytesL (List.length (Act.B a)) (nU (Act.B a))) i = AV.int IntKind.u8 (iv (nU (bytesL (List.length (Act.B a)) (nU (Act.B a))) i)), (List.length Ls + (1 : Nat)) * (16 : Nat) ≤ (140737488355328 : Nat), List.length Ls + (1 : Nat) ≤ maxLen, (1 : Nat) = (0 : Nat) ∨ (1 : Nat) = (1 : Nat), (1 : Nat) = (1 : Nat), (9 : Nat) = (9 : Nat), (0 : Int) ≤ (↑(7 : Nat) : Int), (↑(7 : Nat) : Int) < (↑n : Int), (1 : Nat) = (1 : Nat), (0 : Int) ≤ (↑(7 : Nat) : Int), (↑(7 : Nat) : Int) < (↑n : Int), (1 : Nat) = (1 : Nat), widthC (AV.cells (AV.vs (5416 : Nat))) = (1 : Nat)]) (s' := ⟨[(0, 0, Cont.cell (AV.int IntKind.i64 (↑n : Int))), (0, 1, Cont.cell (AV.rs 6 m false fun j => actV (acts j))), (0, 5, Cont.cell (AV.vs 37)), (0, 7, Cont.cell (AV.vs 38)), (0, 9, Cont.cell (AV.vs 39)), (0, 10, Cont.cell (AV.vs 40)), (0, 11, Cont.cell (AV.int IntKind.i64 (↑i : Int))), (37, 0, Cont.vec 1 28 n ptF), (38, 0, Cont.vec 1 40 n fun j => bif j == 7 then AV.vs 5416 else vsS 7 j), (39, 0, Cont.vec 1 30 (List.length Ms) (nB Ms)), (40, 0, Cont.vec 1 3 n (tsF Ts)), (5416, 0, Cont.vec 1 9 (List.length Ls + 1) (catF (List.length Ls) (nS Ls) (pget [(0, AV.str (mkStr (fewN (List.length (Act.B a))) (nU (bytesL (List.length (Act.B a)) (nU (Act.B a))))))])))], 5512, 229⟩) (by kernel_rfl) (by kernel_rfl) ?_ ?_
    · rw [bytesL_nU]
      exact ⟨by omega, by omega, rfl, by omega, by omega, rfl, isB hB, hBl, .inr rfl, (few_isU hB).eq, by omega, by unfold maxLen; omega, .inr rfl, rfl, rfl, by omega, by omega, rfl, by omega, by omega, rfl, rfl⟩
    rw [bytesL_nU]
    exact hQ
theorem ag_b0 {n m i p : Nat} {acts : Nat → Act} {a : Act} {Ps : Nat → Peer} {Is : Iss} {Ts : Nat → Int} {Ms : List (List Int)} {Q : Exit → St → Prop} (hn : 2 ≤ n ∧ n ≤ 8) (hp : p < n) (hi : i ≤ 150) (hB : IsU a.B) (hBl : a.B.length ≤ maxLen) (A : AGI n i Ps Is Ts Ms)
    (hQ : ∀ s' Ps' Is', AGI n i Ps' Is' Ts Ms → Imp 1 s' ((St.app ⟨[(0, 0, .cell (.int .i64 (n : Nat))), (0, 1, .cell (.rs 6 m false fun j => actV (acts j))), (0, 5, .cell (.vs 37)), (0, 7, .cell (.vs 38)), (0, 9, .cell (.vs 39)), (0, 10, .cell (.vs 40)), (0, 11, .cell (.int .i64 (i : Nat))), (37, 0, .vec 1 28 n ptF), (38, 0, .vec 1 40 n vsF), (39, 0, .vec 1 30 Ms.length (nB Ms)), (40, 0, .vec 1 3 n (tsF Ts))], 9000, 229⟩ (famI Is' n)).app (famP Ps' n)) → Q .normal s') :
    Sem Try.prog 1 (cpath (Try.f4.body.getD .skip) [1, 1, 1, 1, 1, 1, 1, 1, 0, 1, 2, 2, 1, 0, 2, 1, 1, 1, 1, 2, 1, 3]) (SKeep [0, 1, 5, 7, 9, 10, 11] Q) ((St.app ⟨[(0, 0, .cell (.int .i64 (n : Nat))), (0, 1, .cell (.rs 6 m false fun j => actV (acts j))), (0, 5, .cell (.vs 37)), (0, 7, .cell (.vs 38)), (0, 9, .cell (.vs 39)), (0, 10, .cell (.vs 40)), (0, 11, .cell (.int .i64 (i : Nat))), (0, 12, .cell (.ptr 41 0)), (0, 13, .cell (ptF p)), (37, 0, .vec 1 28 n ptF), (38, 0, .vec 1 40 n vsF), (39, 0, .vec 1 30 Ms.length (nB Ms)), (40, 0, .vec 1 3 n (tsF Ts)), (41, 0, .cell (.int .i64 a.Do)), (41, 1, .cell (.int .i64 (p : Nat))), (41, 2, .cell (.int .i64 a.Q)), (41, 3, .cell (.int .i64 a.K)), (41, 4, .cell (.int .u64 a.W)), (41, 5, .cell (.rs 1 a.B.length false (nU a.B)))], 4000, 229⟩ (famI Is n)).app (famP Ps n)) := by
  have hm : Try.prog.follows .mixedOrders = true := by kernel_rfl
  have hΓ : SpecsOK Try.prog [(10, sIssue), (16, sFew)] := sget_cons issue_ok (sget_cons few_ok sget_nil)
  obtain ⟨hn2, hn8⟩ := hn
  refine Sem.seq ?_
  refine foc2 (A := [(0, 0, .cell (.int .i64 (n : Nat))), (0, 1, .cell (.rs 6 m false fun j => actV (acts j))), (0, 5, .cell (.vs 37)), (0, 7, .cell (.vs 38)), (0, 9, .cell (.vs 39)), (0, 10, .cell (.vs 40)), (0, 11, .cell (.int .i64 (i : Nat))), (0, 12, .cell (.ptr 41 0)), (0, 13, .cell (ptF p))]) (A' := [(0, 0, .cell (.int .i64 (n : Nat))), (0, 1, .cell (.rs 6 m false fun j => actV (acts j))), (0, 5, .cell (.vs 37)), (0, 7, .cell (.vs 38)), (0, 9, .cell (.vs 39)), (0, 10, .cell (.vs 40)), (0, 11, .cell (.int .i64 (i : Nat))), (0, 12, .cell (.ptr 41 0)), (0, 13, .cell (.ptr 25 0))]) (C := [(37, 0, .vec 1 28 n ptF), (38, 0, .vec 1 40 n vsF), (39, 0, .vec 1 30 Ms.length (nB Ms)), (40, 0, .vec 1 3 n (tsF Ts)), (41, 0, .cell (.int .i64 a.Do)), (41, 1, .cell (.int .i64 (p : Nat))), (41, 2, .cell (.int .i64 a.Q)), (41, 3, .cell (.int .i64 a.K)), (41, 4, .cell (.int .u64 a.W)), (41, 5, .cell (.rs 1 a.B.length false (nU a.B)))]) (C' := [(37, 0, .vec 1 28 n (ptS p)), (38, 0, .vec 1 40 n vsF), (39, 0, .vec 1 30 Ms.length (nB Ms)), (40, 0, .vec 1 3 n (tsF Ts)), (41, 0, .cell (.int .i64 a.Do)), (41, 1, .cell (.int .i64 (p : Nat))), (41, 2, .cell (.int .i64 a.Q)), (41, 3, .cell (.int .i64 a.K)), (41, 4, .cell (.int .u64 a.W)), (41, 5, .cell (.rs 1 a.B.length false (nU a.B)))]) hn8 hp (Nat.le_of_ble_eq_true rfl) rfl rfl rfl rfl ⟨⟨rfl, rfl, rfl⟩, ⟨rfl, rfl, rfl⟩, ⟨rfl, rfl, cw_vsS (by omega) (by decide)⟩, ⟨rfl, rfl, cw_vsS (by omega) (by decide)⟩, ⟨rfl, rfl, cw_vsS (by omega) (by decide)⟩, ⟨rfl, rfl, cw_vsS (by omega) (by decide)⟩, ⟨rfl, rfl, rfl⟩, ⟨rfl, rfl, cwP_ptr (by decide) (by omega)⟩, ⟨rfl, rfl, cwP_to (by omega)⟩, trivial⟩ ⟨⟨rfl, rfl, cw_rowS hn8 hp⟩, ⟨rfl, rfl, cwP_vs hn8 (by omega)⟩, ⟨rfl, rfl, cw_kept⟩, ⟨rfl, rfl, ⟨rfl, rfl, rfl, fun _ _ => rfl⟩⟩, ⟨rfl, rfl, rfl⟩, ⟨rfl, rfl, rfl⟩, ⟨rfl, rfl, rfl⟩, ⟨rfl, rfl, rfl⟩, ⟨rfl, rfl, rfl⟩, ⟨rfl, rfl, rfl⟩, trivial⟩ ?_
  refine Sem.of_evC hm T_ok hΓ rfl ?_
  obtain ⟨L, hL1, hL2, hL3, hL4⟩ := (few_isU hB).list
  refine evC_goL (dec := []) (ks := [(0, 0), (0, 1), (0, 5), (0, 7), (0, 9), (0, 10), (0, 11), (0, 12), (0, 132), (25, 0), (25, 1), (25, 2), (25, 3), (25, 4), (25, 12), (25, 13), (25, 14), (26, 0), (27, 0), (37, 0), (38, 0), (39, 0), (40, 0), (41, 0), (41, 1), (41, 2), (41, 3), (41, 4), (41, 5)]) (ps := [IsB (List.length (Act.B a)) (nU (Act.B a)), List.length (Act.B a) ≤ maxLen, ((0 : Nat) < (25 : Nat) ∧ (0 : Nat) < (25 : Nat) + (1 : Nat) ∧ (0 : Nat) < (25 : Nat) + (2 : Nat) ∧ (25 : Nat) ≠ (25 : Nat) + (1 : Nat) ∧ (25 : Nat) ≠ (25 : Nat) + (2 : Nat) ∧ (25 : Nat) + (1 : Nat) ≠ (25 : Nat) + (2 : Nat)) ∧ smap (Peer.sets (Ps p)) = smap (sOf (smap (Peer.sets (Ps p)))) ∧ wmap (Peer.words (Ps p)) = wmap (wOf (wmap (Peer.words (Ps p)))) ∧ ∀ (i : Nat), i < (8 : Nat) → nI (Peer.hd (Ps p)) i = nI (If (nI (Peer.hd (Ps p)))) i, okT { me := Peer.me (Ps p), n := Peer.n (Ps p), turn := Peer.turn (Ps p), iss := Peer.iss (Ps p), hd := If (nI (Peer.hd (Ps p))), sets := sOf (smap (Peer.sets (Ps p))), words := wOf (wmap (Peer.words (Ps p))) }, IsB (fewN (List.length (Act.B a))) (nU (bytesL (List.length (Act.B a)) (nU (Act.B a))))]) (s' := ⟨[(0, 0, Cont.cell (AV.int IntKind.i64 (↑n : Int))), (0, 1, Cont.cell (AV.rs 6 m false fun j => actV (acts j))), (0, 5, Cont.cell (AV.vs 37)), (0, 7, Cont.cell (AV.vs 38)), (0, 9, Cont.cell (AV.vs 39)), (0, 10, Cont.cell (AV.vs 40)), (0, 11, Cont.cell (AV.int IntKind.i64 (↑i : Int))), (0, 12, Cont.cell (AV.ptr 41 0)), (0, 132, Cont.cell (AV.bool (issE { me := Peer.me (Ps p), n := Peer.n (Ps p), turn := Peer.turn (Ps p), iss := Peer.iss (Ps p), hd := If (nI (Peer.hd (Ps p))), sets := sOf (smap (Peer.sets (Ps p))), words := wOf (wmap (Peer.words (Ps p))) } (fewN (List.length (Act.B a))) == 0))), (25, 0, Cont.cell (AV.int IntKind.i64 (Peer.me (issP { me := Peer.me (Ps p), n := Peer.n (Ps p), turn := Peer.turn (Ps p), iss := Peer.iss (Ps p), hd := If (nI (Peer.hd (Ps p))), sets := sOf (smap (Peer.sets (Ps p))), words := wOf (wmap (Peer.words (Ps p))) } (bytesL (fewN (List.length (Act.B a))) (nU (bytesL (List.length (Act.B a)) (nU (Act.B a))))))))), (25, 1, Cont.cell (AV.int IntKind.i64 (Peer.n (issP { me := Peer.me (Ps p), n := Peer.n (Ps p), turn := Peer.turn (Ps p), iss := Peer.iss (Ps p), hd := If (nI (Peer.hd (Ps p))), sets := sOf (smap (Peer.sets (Ps p))), words := wOf (wmap (Peer.words (Ps p))) } (bytesL (fewN (List.length (Act.B a))) (nU (bytesL (List.length (Act.B a)) (nU (Act.B a))))))))), (25, 2, Cont.cell (AV.int IntKind.i64 (Peer.turn (issP { me := Peer.me (Ps p), n := Peer.n (Ps p), turn := Peer.turn (Ps p), iss := Peer.iss (Ps p), hd := If (nI (Peer.hd (Ps p))), sets := sOf (smap (Peer.sets (Ps p))), words := wOf (wmap (Peer.words (Ps p))) } (bytesL (fewN (List.length (Act.B a))) (nU (bytesL (List.length (Act.B a)) (nU (Act.B a))))))))), (25, 3, Cont.cell (AV.int IntKind.i64 (Peer.iss (issP { me := Peer.me (Ps p), n := Peer.n (Ps p), turn := Peer.turn (Ps p), iss := Peer.iss (Ps p), hd := If (nI (Peer.hd (Ps p))), sets := sOf (smap (Peer.sets (Ps p))), words := wOf (wmap (Peer.words (Ps p))) } (bytesL (fewN (List.length (Act.B a))) (nU (bytesL (List.length (Act.B a)) (nU (Act.B a))))))))), (25, 4, Cont.arr 8 (nI (Peer.hd (issP { me := Peer.me (Ps p), n := Peer.n (Ps p), turn := Peer.turn (Ps p), iss := Peer.iss (Ps p), hd := If (nI (Peer.hd (Ps p))), sets := sOf (smap (Peer.sets (Ps p))), words := wOf (wmap (Peer.words (Ps p))) } (bytesL (fewN (List.length (Act.B a))) (nU (bytesL (List.length (Act.B a)) (nU (Act.B a))))))))), (25, 12, Cont.cell (AV.mp 26)), (25, 13, Cont.cell (AV.mp 27)), (25, 14, Cont.top), (26, 0, Cont.map 2 (smap (Peer.sets (issP { me := Peer.me (Ps p), n := Peer.n (Ps p), turn := Peer.turn (Ps p), iss := Peer.iss (Ps p), hd := If (nI (Peer.hd (Ps p))), sets := sOf (smap (Peer.sets (Ps p))), words := wOf (wmap (Peer.words (Ps p))) } (bytesL (fewN (List.length (Act.B a))) (nU (bytesL (List.length (Act.B a)) (nU (Act.B a))))))))), (27, 0, Cont.map 2 (wmap (Peer.words (issP { me := Peer.me (Ps p), n := Peer.n (Ps p), turn := Peer.turn (Ps p), iss := Peer.iss (Ps p), hd := If (nI (Peer.hd (Ps p))), sets := sOf (smap (Peer.sets (Ps p))), words := wOf (wmap (Peer.words (Ps p))) } (bytesL (fewN (List.length (Act.B a))) (nU (bytesL (List.length (Act.B a)) (nU (Act.B a))))))))), (37, 0, Cont.vec 1 28 n (ptS p)), (38, 0, Cont.vec 1 40 n vsF), (39, 0, Cont.vec 1 30 (List.length Ms) (nB Ms)), (40, 0, Cont.vec 1 3 n (tsF Ts)), (41, 0, Cont.cell (AV.int IntKind.i64 (Act.Do a))), (41, 1, Cont.cell (AV.int IntKind.i64 (↑p : Int))), (41, 2, Cont.cell (AV.int IntKind.i64 (Act.Q a))), (41, 3, Cont.cell (AV.int IntKind.i64 (Act.K a))), (41, 4, Cont.cell (AV.int IntKind.u64 (Act.W a))), (41, 5, Cont.cell (AV.rs 1 (List.length (Act.B a)) false (nU (Act.B a))))], 4192, 229⟩) (by kernel_rfl) (by kernel_rfl) ?_ ?_
  · rw [bytesL_nU, peer_eta]
    exact ⟨isB hB, hBl, peer_side (Ps p) (by decide), A.ag.okT hp (by have := A.ts p hp; omega), few_isU hB⟩
  rw [bytesL_nU, peer_eta, hL3, hL1]
  refine sframe_at (sframe_at (sthen_normal ?_))
  refine Sem.wk (unfoc2 (y := issP (Ps p) L) (A := [(0, 0, .cell (.int .i64 (n : Nat))), (0, 1, .cell (.rs 6 m false fun j => actV (acts j))), (0, 5, .cell (.vs 37)), (0, 7, .cell (.vs 38)), (0, 9, .cell (.vs 39)), (0, 10, .cell (.vs 40)), (0, 11, .cell (.int .i64 (i : Nat))), (0, 12, .cell (.ptr 41 0)), (0, 132, .cell (.bool (issE (Ps p) L.length == 0)))]) (A' := [(0, 0, .cell (.int .i64 (n : Nat))), (0, 1, .cell (.rs 6 m false fun j => actV (acts j))), (0, 5, .cell (.vs 37)), (0, 7, .cell (.vs 38)), (0, 9, .cell (.vs 39)), (0, 10, .cell (.vs 40)), (0, 11, .cell (.int .i64 (i : Nat))), (0, 12, .cell (.ptr 41 0)), (0, 132, .cell (.bool (issE (Ps p) L.length == 0)))]) (C' := [(37, 0, .vec 1 28 n (ptS p)), (38, 0, .vec 1 40 n vsF), (39, 0, .vec 1 30 Ms.length (nB Ms)), (40, 0, .vec 1 3 n (tsF Ts)), (41, 0, .cell (.int .i64 a.Do)), (41, 1, .cell (.int .i64 (p : Nat))), (41, 2, .cell (.int .i64 a.Q)), (41, 3, .cell (.int .i64 a.K)), (41, 4, .cell (.int .u64 a.W)), (41, 5, .cell (.rs 1 a.B.length false (nU a.B)))]) (C := [(37, 0, .vec 1 28 n ptF), (38, 0, .vec 1 40 n vsF), (39, 0, .vec 1 30 Ms.length (nB Ms)), (40, 0, .vec 1 3 n (tsF Ts)), (41, 0, .cell (.int .i64 a.Do)), (41, 1, .cell (.int .i64 (p : Nat))), (41, 2, .cell (.int .i64 a.Q)), (41, 3, .cell (.int .i64 a.K)), (41, 4, .cell (.int .u64 a.W)), (41, 5, .cell (.rs 1 a.B.length false (nU a.B)))]) (nx' := 4192) hn8 hp (Nat.le_of_ble_eq_true rfl) (Nat.le_refl _) rfl rfl rfl rfl ⟨⟨rfl, rfl, rfl⟩, ⟨rfl, rfl, rfl⟩, ⟨rfl, rfl, cw_vsS (by omega) (by decide)⟩, ⟨rfl, rfl, cw_vsS (by omega) (by decide)⟩, ⟨rfl, rfl, cw_vsS (by omega) (by decide)⟩, ⟨rfl, rfl, cw_vsS (by omega) (by decide)⟩, ⟨rfl, rfl, rfl⟩, ⟨rfl, rfl, cwP_ptr (by decide) (by omega)⟩, ⟨rfl, rfl, rfl⟩, trivial⟩ ⟨⟨rfl, rfl, cw_rowF⟩, ⟨rfl, rfl, cwP_vs hn8 (by omega)⟩, ⟨rfl, rfl, cw_kept⟩, ⟨rfl, rfl, ⟨rfl, rfl, rfl, fun _ _ => rfl⟩⟩, ⟨rfl, rfl, rfl⟩, ⟨rfl, rfl, rfl⟩, ⟨rfl, rfl, rfl⟩, ⟨rfl, rfl, rfl⟩, ⟨rfl, rfl, rfl⟩, ⟨rfl, rfl, rfl⟩, trivial⟩) ?_
  rcases A.ag.iss hp hL2 with ⟨e, A1⟩ | ⟨e, e2⟩
  · rw [e]
    refine sem_if (q := true) (by kernel_rfl) (fun hc => ?_) (fun hc => ?_)
    · clear hc
      have hl := A.lenI hp
      refine Sem.wk (home_keep [(0, 0), (0, 1), (0, 5), (0, 7), (0, 9), (0, 10), (0, 11), (0, 12), (37, 0), (38, 0), (39, 0), (40, 0), (41, 0), (41, 1), (41, 2), (41, 3), (41, 4), (41, 5)] hn8 rfl rfl (nx' := 5000) (Nat.le_of_ble_eq_true rfl)) ?_
      refine focI (A := [(0, 0, .cell (.int .i64 (n : Nat))), (0, 1, .cell (.rs 6 m false fun j => actV (acts j))), (0, 5, .cell (.vs 37)), (0, 7, .cell (.vs 38)), (0, 9, .cell (.vs 39)), (0, 10, .cell (.vs 40)), (0, 11, .cell (.int .i64 (i : Nat))), (0, 12, .cell (.ptr 41 0))]) (A' := [(0, 0, .cell (.int .i64 (n : Nat))), (0, 1, .cell (.rs 6 m false fun j => actV (acts j))), (0, 5, .cell (.vs 37)), (0, 7, .cell (.vs 38)), (0, 9, .cell (.vs 39)), (0, 10, .cell (.vs 40)), (0, 11, .cell (.int .i64 (i : Nat))), (0, 12, .cell (.ptr 41 0))]) (C := [(37, 0, .vec 1 28 n ptF), (38, 0, .vec 1 40 n vsF), (39, 0, .vec 1 30 Ms.length (nB Ms)), (40, 0, .vec 1 3 n (tsF Ts)), (41, 0, .cell (.int .i64 a.Do)), (41, 1, .cell (.int .i64 (p : Nat))), (41, 2, .cell (.int .i64 a.Q)), (41, 3, .cell (.int .i64 a.K)), (41, 4, .cell (.int .u64 a.W)), (41, 5, .cell (.rs 1 a.B.length false (nU a.B)))]) (C' := [(37, 0, .vec 1 28 n ptF), (38, 0, .vec 1 40 n (vsS p)), (39, 0, .vec 1 30 Ms.length (nB Ms)), (40, 0, .vec 1 3 n (tsF Ts)), (41, 0, .cell (.int .i64 a.Do)), (41, 1, .cell (.int .i64 (p : Nat))), (41, 2, .cell (.int .i64 a.Q)), (41, 3, .cell (.int .i64 a.K)), (41, 4, .cell (.int .u64 a.W)), (41, 5, .cell (.rs 1 a.B.length false (nU a.B)))]) hn8 hp (Nat.le_of_ble_eq_true rfl) rfl rfl rfl rfl ⟨⟨rfl, rfl, rfl⟩, ⟨rfl, rfl, rfl⟩, ⟨rfl, rfl, cwI_vs (by decide) (by omega)⟩, ⟨rfl, rfl, cwI_vs (by decide) (by omega)⟩, ⟨rfl, rfl, cwI_vs (by decide) (by omega)⟩, ⟨rfl, rfl, cwI_vs (by decide) (by omega)⟩, ⟨rfl, rfl, rfl⟩, ⟨rfl, rfl, cwI_ptr (.inl (by decide)) (by omega)⟩, trivial⟩ ⟨⟨rfl, rfl, cwI_pt hn8⟩, ⟨rfl, rfl, cwI_fs hn8 hp⟩, ⟨rfl, rfl, cw_kept⟩, ⟨rfl, rfl, ⟨rfl, rfl, rfl, fun _ _ => rfl⟩⟩, ⟨rfl, rfl, rfl⟩, ⟨rfl, rfl, rfl⟩, ⟨rfl, rfl, rfl⟩, ⟨rfl, rfl, rfl⟩, ⟨rfl, rfl, rfl⟩, ⟨rfl, rfl, rfl⟩, trivial⟩ ?_
      refine ag_row ⟨hn2, hn8⟩ hp hB hBl (by omega) ?_
      refine sframe_at (sframe_at ?_)
      refine hQ _ (updF Ps p (issP (Ps p) L)) (updF Is p (Is p ++ [L])) ⟨by rw [addI_upd]; exact A1, fun M hM => by rw [addI_upd]; exact (A.km M hM).more p L, A.len, A.ts⟩ ?_
      refine .trans (conv3 (nx' := 5512) (h' := [(0, 0, .cell (.int .i64 (n : Nat))), (0, 1, .cell (.rs 6 m false fun j => actV (acts j))), (0, 5, .cell (.vs 37)), (0, 7, .cell (.vs 38)), (0, 9, .cell (.vs 39)), (0, 10, .cell (.vs 40)), (0, 11, .cell (.int .i64 (i : Nat))), (5416, 0, .vec 1 9 (Is p ++ [L]).length (nS (Is p ++ [L]))), (37, 0, .vec 1 28 n ptF), (38, 0, .vec 1 40 n fun j => bif j == p then .vs 5416 else vsS p j), (39, 0, .vec 1 30 Ms.length (nB Ms)), (40, 0, .vec 1 3 n (tsF Ts))]) ⟨⟨_, rfl, cw_id _⟩, ⟨_, rfl, cw_id _⟩, ⟨_, rfl, cw_id _⟩, ⟨_, rfl, cw_id _⟩, ⟨_, rfl, cw_id _⟩, ⟨_, rfl, cw_id _⟩, ⟨_, rfl, cw_id _⟩, ⟨_, rfl, ⟨rfl, rfl, ?_, fun j hj => ?_⟩⟩, ⟨_, rfl, cw_id _⟩, ⟨_, rfl, cw_id _⟩, ⟨_, rfl, cw_id _⟩, ⟨_, rfl, cw_id _⟩, trivial⟩ rfl (famP_at hn8 _) (famIX_at hn8 _) (by decide) (Nat.le_refl _)) ?_
      · rw [List.length_append]; rfl
      · exact cat_nS (Is p) hL1 hL4 j hj
      · exact unfocI 5416 (by decide) (A := [(0, 0, .cell (.int .i64 (n : Nat))), (0, 1, .cell (.rs 6 m false fun j => actV (acts j))), (0, 5, .cell (.vs 37)), (0, 7, .cell (.vs 38)), (0, 9, .cell (.vs 39)), (0, 10, .cell (.vs 40)), (0, 11, .cell (.int .i64 (i : Nat)))]) (A' := [(0, 0, .cell (.int .i64 (n : Nat))), (0, 1, .cell (.rs 6 m false fun j => actV (acts j))), (0, 5, .cell (.vs 37)), (0, 7, .cell (.vs 38)), (0, 9, .cell (.vs 39)), (0, 10, .cell (.vs 40)), (0, 11, .cell (.int .i64 (i : Nat)))]) (C := [(37, 0, .vec 1 28 n ptF), (38, 0, .vec 1 40 n vsF), (39, 0, .vec 1 30 Ms.length (nB Ms)), (40, 0, .vec 1 3 n (tsF Ts))]) hn8 hp (Nat.le_of_ble_eq_true rfl) (Nat.le_of_ble_eq_true rfl) rfl rfl rfl rfl ⟨⟨rfl, rfl, rfl⟩, ⟨rfl, rfl, rfl⟩, ⟨rfl, rfl, cwI_vsX (by decide) (Nat.le_of_ble_eq_true rfl) (by omega)⟩, ⟨rfl, rfl, cwI_vsX (by decide) (Nat.le_of_ble_eq_true rfl) (by omega)⟩, ⟨rfl, rfl, cwI_vsX (by decide) (Nat.le_of_ble_eq_true rfl) (by omega)⟩, ⟨rfl, rfl, cwI_vsX (by decide) (Nat.le_of_ble_eq_true rfl) (by omega)⟩, ⟨rfl, rfl, rfl⟩, trivial⟩ ⟨⟨rfl, rfl, cwI_ptX hn8 (Nat.le_of_ble_eq_true rfl)⟩, ⟨rfl, rfl, cwI_new hn8 hp (Nat.le_of_ble_eq_true rfl)⟩, ⟨rfl, rfl, cw_kept⟩, ⟨rfl, rfl, ⟨rfl, rfl, rfl, fun _ _ => rfl⟩⟩, trivial⟩
    · cases hc
  · rw [e2, updF_self]
    have hb : (issE (Ps p) L.length == 0) = false := by rw [beq_eq_false_iff_ne]; exact e
    rw [hb]
    refine sem_if (q := false) (by kernel_rfl) (fun hc => ?_) (fun hc => ?_)
    · cases hc
    clear hc
    refine Sem.skip (skeep_at ?_)
    exact hQ _ Ps Is A (home_keep [(0, 0), (0, 1), (0, 5), (0, 7), (0, 9), (0, 10), (0, 11), (37, 0), (38, 0), (39, 0), (40, 0)] hn8 rfl rfl (Nat.le_of_ble_eq_true rfl))
end Go.Eng.S25
