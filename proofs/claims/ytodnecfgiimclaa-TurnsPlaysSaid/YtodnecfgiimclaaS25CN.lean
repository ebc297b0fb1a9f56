/- Seat 25: the chapter's examples, walked. -/
import Derived.Test.YtodnecfgiimclaaEngX
import Derived.Test.YtodnecfgiimclaaS25CB
set_option linter.unusedSimpArgs false
set_option linter.unusedVariables false
set_option maxHeartbeats 2000000
namespace Go.Eng.S25
open Go.Proofs Go.IntWalk
set_option maxRecDepth 10000
def PA : Nat → Peer
 | 0 => newP 0 2
 | i + 1 => issP (PA i) [(i : Nat)]
def QA : Nat → Peer
 | 0 => newP 1 2
 | i + 1 => issP (QA i) []
theorem PA_ok : ∀ i, i ≤ 6 → okT (PA i) ∧ okT (QA i) ∧ (i < 6 → issE (PA i) 1 = 0 ∧ issE (QA i) 0 = 0) := by
 intro i hi
 rcases (by omega : i = 0 ∨ i = 1 ∨ i = 2 ∨ i = 3 ∨ i = 4 ∨ i = 5 ∨ i = 6) with rfl | rfl | rfl | rfl | rfl | rfl | rfl <;>
  exact ⟨⟨⟨by decide, by decide⟩, by decide, by decide⟩, ⟨⟨by decide, by decide⟩, by decide, by decide⟩, fun h => by first | exact ⟨by decide, by decide⟩ | exact absurd h (by decide)⟩
theorem PA_P : OkP (PA 6) ∧ OkP (QA 6) := by
 refine ⟨⟨⟨by decide, by decide⟩, ⟨by decide, by decide⟩, fun i hi => ⟨by show (0 : Int) ≤ 0; omega, by show (0 : Int) ≤ _; omega⟩, ?_, ?_⟩, ⟨⟨by decide, by decide⟩, ⟨by decide, by decide⟩, fun i hi => ⟨by show (0 : Int) ≤ 0; omega, by show (0 : Int) ≤ _; omega⟩, ?_, ?_⟩⟩
 ·show ∀ x ∈ [((2, 0), [0]), ((3, 0), [1]), ((4, 0), [2]), ((5, 0), [3]), ((6, 0), [4]), ((7, 0), [5])], (x : (Int × Int) × List Int).2.length ≤ 704 ∧ ∀ y ∈ x.2, 0 ≤ y ∧ y ≤ 255
  decide
 ·intro x hx; cases hx
 ·show ∀ x ∈ [((2, 1), []), ((3, 1), []), ((4, 1), []), ((5, 1), []), ((6, 1), []), ((7, 1), [])], (x : (Int × Int) × List Int).2.length ≤ 704 ∧ ∀ y ∈ x.2, 0 ≤ y ∧ y ≤ 255
  decide
 ·intro x hx; cases hx
def msgA : List Int := [0, 1] ++ leB 4 0 ++ leB 8 0 ++ leB 4 0 ++ [8] ++ (leB 2 0 ++ leB 2 0 ++ (leB 2 1 ++ [0]) ++ (leB 2 1 ++ [1]) ++ (leB 2 1 ++ [2]) ++ (leB 2 1 ++ [3]) ++ (leB 2 1 ++ [4]) ++ (leB 2 1 ++ [5]))
def msgB : List Int := [1, 0] ++ leB 4 0 ++ leB 8 0 ++ leB 4 0 ++ [8] ++ leB 16 0
theorem PA_send : sendE (PA 6) 1 = 0 ∧ sendB (PA 6) 1 = msgA ∧ sendE (QA 6) 0 = 0 ∧ sendB (QA 6) 0 = msgB := by decide
theorem msg_isU : IsU msgA ∧ IsU msgB := by
 have : (∀ x ∈ msgA, 0 ≤ x ∧ x ≤ 255) ∧ ∀ x ∈ msgB, 0 ≤ x ∧ x ≤ 255 := by decide
 exact this
theorem PA_rec : recE (QA 6) msgA = 0 ∧ recE (PA 6) msgB = 0 ∧ issE (recP (PA 6) msgB) 0 = 5 ∧ recE (recP (PA 6) msgB) [] = 2 := by decide
theorem PA_okT : okT (recP (PA 6) msgB) ∧ okT (recP (QA 6) msgA) := ⟨⟨⟨by decide, by decide⟩, by decide, by decide⟩, ⟨⟨by decide, by decide⟩, by decide, by decide⟩⟩
def itA (P : Peer) : Nat → Peer
 | 0 => P
 | i + 1 => advP (itA P i)
def PB (i : Nat) : Peer := itA (recP (PA 6) msgB) i
def QB (i : Nat) : Peer := itA (recP (QA 6) msgA) i
theorem PB_ok : ∀ i, i ≤ 8 → okT (PB i) ∧ okT (QB i) ∧ OkP (PB i) ∧ OkP (QB i) := by
 have adv : ∀ P, OkP P → OkP (advP P) := fun P h => by
  unfold advP
  cases advK P P.n.toNat with
  | true => exact ⟨h.n, h.me, h.hd, h.sets, h.words⟩
  | false => exact h
 have all : ∀ i, OkP (PB i) ∧ OkP (QB i) := fun i => by
  induction i with
  | zero => exact ⟨recP_ok PA_P.1 msg_isU.2, recP_ok PA_P.2 msg_isU.1⟩
  | succ i ih => exact ⟨adv _ ih.1, adv _ ih.2⟩
 intro i hi
 refine ⟨?_, ?_, (all i).1, (all i).2⟩
 ·rcases (by omega : i = 0 ∨ i = 1 ∨ i = 2 ∨ i = 3 ∨ i = 4 ∨ i = 5 ∨ i = 6 ∨ i = 7 ∨ i = 8) with rfl | rfl | rfl | rfl | rfl | rfl | rfl | rfl | rfl <;>
   exact ⟨⟨by decide, by decide⟩, by decide, by decide⟩
 ·rcases (by omega : i = 0 ∨ i = 1 ∨ i = 2 ∨ i = 3 ∨ i = 4 ∨ i = 5 ∨ i = 6 ∨ i = 7 ∨ i = 8) with rfl | rfl | rfl | rfl | rfl | rfl | rfl | rfl | rfl <;>
   exact ⟨⟨by decide, by decide⟩, by decide, by decide⟩
def PBx (i : Nat) : List (List Int) := bif Nat.blt i 2 then [[], []] else [[(i : Int) - 2], []]
theorem PB_adv : ∀ i, i < 8 → (advE (PB i) = 0 ∧ advE (QB i) = 0) ∧ advS (PB i) = PBx i ∧ advS (QB i) = PBx i := by decide
theorem PB_end : advE (PB 8) = 6 ∧ (PB 8).turn = 8 := by decide
theorem pget_one (v : Int) : ∀ j, j < 1 → pget [(0, AV.int .u8 v)] j = .int .u8 (iv (pget [(0, AV.int .u8 v)] j)) := fun j hj => by
 obtain rfl : j = 0 := by omega
 rfl
def sAwake : Spec := fun args _ _ => match args with
 | [] => some ⟨[], .bool true, [], []⟩
 | _ => none
theorem awake_ok : SpecOK Try.prog 15 sAwake := by
 refine spec_own (by kernel_rfl) T_ok (sget_cons newG_ok (sget_cons issue_ok (sget_cons send_ok (sget_cons receiveV_ok (sget_cons advance_ok (sget_cons turn_ok sget_nil)))))) Try.func15 rfl rfl fun args hr nb out e => ?_
 unfold sAwake at e
 split at e
 ·injection e with e; subst e
  refine ⟨(fun _ h => nomatch h), true, [], rfl, fun hs => ⟨.nil, ?_⟩⟩
  clear hs
  refine evC_go0K (s' := ⟨[(0, 0, zB false)], 33, 169⟩) ?_
  refine evC_goK (ps := [mayP (0 : Int) (2 : Int) = true]) (s' := ⟨[(0, 0, zB false), (0, 1, zP 33), (0, 2, zI 0), (33, 0, zI ((newP 0 2).me)), (33, 1, zI ((newP 0 2).n)), (33, 2, zI ((newP 0 2).turn)), (33, 3, zI ((newP 0 2).iss)), (33, 4, .arr 8 (nI ((newP 0 2).hd))), (33, 12, zM 34), (33, 13, zM 35), (33, 14, .top), (34, 0, .map 2 []), (35, 0, .map 2 [])], 225, 169⟩) ?_ ?_
  ·rfl
  refine evC_goK (ps := [mayP (1 : Int) (2 : Int) = true]) (s' := ⟨[(0, 0, zB false), (0, 1, zP 33), (0, 2, zI 0), (0, 3, zP 225), (0, 4, zI 0), (33, 0, zI ((newP 0 2).me)), (33, 1, zI ((newP 0 2).n)), (33, 2, zI ((newP 0 2).turn)), (33, 3, zI ((newP 0 2).iss)), (33, 4, .arr 8 (nI ((newP 0 2).hd))), (33, 12, zM 34), (33, 13, zM 35), (33, 14, .top), (34, 0, .map 2 []), (35, 0, .map 2 []), (225, 0, zI ((newP 1 2).me)), (225, 1, zI ((newP 1 2).n)), (225, 2, zI ((newP 1 2).turn)), (225, 3, zI ((newP 1 2).iss)), (225, 4, .arr 8 (nI ((newP 1 2).hd))), (225, 12, zM 226), (225, 13, zM 227), (225, 14, .top), (226, 0, .map 2 []), (227, 0, .map 2 [])], 417, 169⟩) ?_ ?_
  ·rfl
  refine evC_seq ?_
  refine evC_go0K (s' := ⟨[(0, 0, zB false), (0, 1, zP 33), (0, 3, zP 225), (0, 38, zB false), (33, 0, zI ((newP 0 2).me)), (33, 1, zI ((newP 0 2).n)), (33, 2, zI ((newP 0 2).turn)), (33, 3, zI ((newP 0 2).iss)), (33, 4, .arr 8 (nI ((newP 0 2).hd))), (33, 12, zM 34), (33, 13, zM 35), (33, 14, .top), (34, 0, .map 2 []), (35, 0, .map 2 []), (225, 0, zI ((newP 1 2).me)), (225, 1, zI ((newP 1 2).n)), (225, 2, zI ((newP 1 2).turn)), (225, 3, zI ((newP 1 2).iss)), (225, 4, .arr 8 (nI ((newP 1 2).hd))), (225, 12, zM 226), (225, 13, zM 227), (225, 14, .top), (226, 0, .map 2 []), (227, 0, .map 2 [])], 865, 169⟩) ?_
  refine evC_if (q := false) (by kernel_rfl) (fun hc => ?_) (fun hc => ?_)
  ·cases hc
  clear hc
  refine evC_skip ?_
  refine then_normal ?_
  refine evC_seq ?_
  refine evC_go0K (s' := ⟨[(0, 0, zB false), (0, 1, zP 33), (0, 3, zP 225), (0, 5, zI 0), (33, 0, zI ((newP 0 2).me)), (33, 1, zI ((newP 0 2).n)), (33, 2, zI ((newP 0 2).turn)), (33, 3, zI ((newP 0 2).iss)), (33, 4, .arr 8 (nI ((newP 0 2).hd))), (33, 12, zM 34), (33, 13, zM 35), (33, 14, .top), (34, 0, .map 2 []), (35, 0, .map 2 []), (225, 0, zI ((newP 1 2).me)), (225, 1, zI ((newP 1 2).n)), (225, 2, zI ((newP 1 2).turn)), (225, 3, zI ((newP 1 2).iss)), (225, 4, .arr 8 (nI ((newP 1 2).hd))), (225, 12, zM 226), (225, 13, zM 227), (225, 14, .top), (226, 0, .map 2 []), (227, 0, .map 2 [])], 897, 169⟩) ?_
  refine evC_block ?_
  refine evC_loop (ι := { i : Nat // i ≤ 6 }) (fun i => ⟨[(0, 0, zB false), (0, 1, zP 1), (0, 3, zP 2), (0, 5, zI (i.1 : Nat)), (1, 0, zI ((PA i.1).me)), (1, 1, zI ((PA i.1).n)), (1, 2, zI ((PA i.1).turn)), (1, 3, zI ((PA i.1).iss)), (1, 4, .arr 8 (nI (PA i.1).hd)), (1, 12, zM 3), (1, 13, zM 4), (1, 14, Cont.top), (2, 0, zI ((QA i.1).me)), (2, 1, zI ((QA i.1).n)), (2, 2, zI ((QA i.1).turn)), (2, 3, zI ((QA i.1).iss)), (2, 4, .arr 8 (nI (QA i.1).hd)), (2, 12, zM 5), (2, 13, zM 6), (2, 14, Cont.top), (3, 0, .map 2 (smap (PA i.1).sets)), (4, 0, .map 2 (wmap (PA i.1).words)), (5, 0, .map 2 (smap (QA i.1).sets)), (6, 0, .map 2 (wmap (QA i.1).words))], 7, 169⟩) (fun i => 6 - i.1) ⟨0, Nat.zero_le _⟩ (wk_go [33, 225, 34, 35, 226, 227] rfl (by decide) rfl rfl ⟨⟨_, rfl, rfl⟩, ⟨_, rfl, rfl⟩, ⟨_, rfl, rfl⟩, ⟨_, rfl, rfl⟩, ⟨_, rfl, rfl⟩, ⟨_, rfl, rfl⟩, ⟨_, rfl, rfl⟩, ⟨_, rfl, rfl⟩, ⟨_, rfl, ⟨rfl, fun _ _ => rfl⟩⟩, ⟨_, rfl, rfl⟩, ⟨_, rfl, rfl⟩, ⟨_, rfl, trivial⟩, ⟨_, rfl, rfl⟩, ⟨_, rfl, rfl⟩, ⟨_, rfl, rfl⟩, ⟨_, rfl, rfl⟩, ⟨_, rfl, ⟨rfl, fun _ _ => rfl⟩⟩, ⟨_, rfl, rfl⟩, ⟨_, rfl, rfl⟩, ⟨_, rfl, trivial⟩, ⟨_, rfl, cw_map .nil⟩, ⟨_, rfl, cw_map .nil⟩, ⟨_, rfl, cw_map .nil⟩, ⟨_, rfl, cw_map .nil⟩, trivial⟩) ?_
  rintro ⟨i, hi⟩
  refine evC_seq ?_
  refine evC_go0K (s' := ⟨[(0, 0, zB false), (0, 1, zP 1), (0, 3, zP 2), (0, 5, zI i), (0, 40, zB (decide ((↑i : Int) < 6))), (1, 0, zI ((PA i).me)), (1, 1, zI ((PA i).n)), (1, 2, zI ((PA i).turn)), (1, 3, zI ((PA i).iss)), (1, 4, .arr 8 (nI ((PA i).hd))), (1, 12, zM 3), (1, 13, zM 4), (1, 14, .top), (2, 0, zI ((QA i).me)), (2, 1, zI ((QA i).n)), (2, 2, zI ((QA i).turn)), (2, 3, zI ((QA i).iss)), (2, 4, .arr 8 (nI ((QA i).hd))), (2, 12, zM 5), (2, 13, zM 6), (2, 14, .top), (3, 0, .map 2 (smap ((PA i).sets))), (4, 0, .map 2 (wmap ((PA i).words))), (5, 0, .map 2 (smap ((QA i).sets))), (6, 0, .map 2 (wmap ((QA i).words)))], 71, 169⟩) ?_
  refine evC_if (q := decide ((↑i : Int) < 6)) (by kernel_rfl) (fun hc => ?_) (fun hc => ?_)
  ·have hlt : i < 6 := by have := of_decide_eq_true hc; omega
   clear hc
   obtain ⟨a1, a2, a34⟩ := PA_ok i hi
   obtain ⟨a3, a4⟩ := a34 hlt
   have w : IntKind.u8.wrap (i : Int) = (i : Int) := by rw [IntKind.wrap_u8]; omega
   refine evC_skip ?_
   refine then_normal ?_
   refine evC_seq ?_
   refine evC_block ?_
   refine evC_go (dec := [(7, true), (8, true), (9, true)]) (ks := [(0, 0), (0, 1), (0, 3), (0, 5), (0, 53), (1, 0), (1, 1), (1, 2), (1, 3), (1, 4), (1, 12), (1, 13), (1, 14), (2, 0), (2, 1), (2, 2), (2, 3), (2, 4), (2, 12), (2, 13), (2, 14), (3, 0), (4, 0), (5, 0), (6, 0)]) (ps := [(0 < 1 ∧ 0 < 3 ∧ 0 < 4 ∧ 1 ≠ 3 ∧ 1 ≠ 4 ∧ 3 ≠ 4) ∧ smap ((PA i).sets) = smap (sOf (smap ((PA i).sets))) ∧ wmap ((PA i).words) = wmap (wOf (wmap ((PA i).words))) ∧ ∀ (i_1 : Nat), i_1 < (8 : Nat) → nI ((PA i).hd) i_1 = nI (If (nI ((PA i).hd))) i_1, okT (etP (PA i)), IsB (1 : Nat) (pget [((0 : Nat), AV.int IntKind.u8 (IntKind.wrap IntKind.u8 (↑i : Int)))]), 0 < 71 + (32 : Nat) * ((0 : Nat) + (1 : Nat) + (1 : Nat) + (1 : Nat)) ∧ 1 ≠ 71 + (32 : Nat) * ((0 : Nat) + (1 : Nat) + (1 : Nat) + (1 : Nat)) ∧ 3 ≠ 71 + (32 : Nat) * ((0 : Nat) + (1 : Nat) + (1 : Nat) + (1 : Nat)) ∧ 4 ≠ 71 + (32 : Nat) * ((0 : Nat) + (1 : Nat) + (1 : Nat) + (1 : Nat)), List.all [!issE (etP (PA i)) (1 : Nat) != (0 : Int)] id = true, List.all [!issE (etP (PA i)) (1 : Nat) != (0 : Int)] id = true, (0 < 2 ∧ 0 < 5 ∧ 0 < 6 ∧ 2 ≠ 5 ∧ 2 ≠ 6 ∧ 5 ≠ 6) ∧ smap ((QA i).sets) = smap (sOf (smap ((QA i).sets))) ∧ wmap ((QA i).words) = wmap (wOf (wmap ((QA i).words))) ∧ ∀ (i_1 : Nat), i_1 < (8 : Nat) → nI ((QA i).hd) i_1 = nI (If (nI ((QA i).hd))) i_1, okT (etP (QA i)), List.all [!issE (etP (PA i)) (1 : Nat) != (0 : Int)] id = true]) (s' := ⟨[(0, 0, zB false), (0, 1, zP 1), (0, 3, zP 2), (0, 5, zI i), (0, 53, zB (bif issE (etP (PA i)) 1 != 0 then true else issE (etP (QA i)) 0 != 0)), (1, 0, zI ((issP (etP (PA i)) (bytesL 1 (pget [(0, AV.int IntKind.u8 (IntKind.wrap IntKind.u8 (↑i : Int)))]))).me)), (1, 1, zI ((issP (etP (PA i)) (bytesL 1 (pget [(0, AV.int IntKind.u8 (IntKind.wrap IntKind.u8 (↑i : Int)))]))).n)), (1, 2, zI ((issP (etP (PA i)) (bytesL 1 (pget [(0, AV.int IntKind.u8 (IntKind.wrap IntKind.u8 (↑i : Int)))]))).turn)), (1, 3, zI ((issP (etP (PA i)) (bytesL 1 (pget [(0, AV.int IntKind.u8 (IntKind.wrap IntKind.u8 (↑i : Int)))]))).iss)), (1, 4, .arr 8 (nI ((issP (etP (PA i)) (bytesL 1 (pget [(0, AV.int IntKind.u8 (IntKind.wrap IntKind.u8 (↑i : Int)))]))).hd))), (1, 12, zM 3), (1, 13, zM 4), (1, 14, .top), (2, 0, zI ((issP (etP (QA i)) []).me)), (2, 1, zI ((issP (etP (QA i)) []).n)), (2, 2, zI ((issP (etP (QA i)) []).turn)), (2, 3, zI ((issP (etP (QA i)) []).iss)), (2, 4, .arr 8 (nI ((issP (etP (QA i)) []).hd))), (2, 12, zM 5), (2, 13, zM 6), (2, 14, .top), (3, 0, .map 2 (smap ((issP (etP (PA i)) (bytesL 1 (pget [(0, AV.int IntKind.u8 (IntKind.wrap IntKind.u8 (↑i : Int)))]))).sets))), (4, 0, .map 2 (wmap ((issP (etP (PA i)) (bytesL 1 (pget [(0, AV.int IntKind.u8 (IntKind.wrap IntKind.u8 (↑i : Int)))]))).words))), (5, 0, .map 2 (smap ((issP (etP (QA i)) []).sets))), (6, 0, .map 2 (wmap ((issP (etP (QA i)) []).words)))], 423, 169⟩) (by kernel_rfl) (by kernel_rfl) ?_ ?_
   ·rw [peer_eta, peer_eta, a3]
    exact ⟨peer_side (PA i) (by decide), a1, ⟨fun j hj => by
     have : j = 0 := by omega
     subst this
     exact ⟨rfl, by show 0 ≤ IntKind.u8.wrap (i : Int) ∧ IntKind.u8.wrap (i : Int) ≤ 255; rw [w]; omega⟩⟩, by decide, rfl, rfl, peer_side (QA i) (by decide), a2, rfl⟩
   rw [peer_eta, peer_eta, a3, a4, w]
   rw [show bytesL 1 (pget [(0, AV.int .u8 (i : Int))]) = [(i : Int)] from rfl]
   refine evC_if (q := false) (by kernel_rfl) (fun hc => ?_) (fun hc => ?_)
   ·cases hc
   clear hc
   refine evC_skip ?_
   refine block_normal ?_
   refine then_normal ?_
   refine evC_goL0K (s' := ⟨[(0, 0, zB false), (0, 1, zP 1), (0, 3, zP 2), (0, 5, zI (IntKind.i64.wrap ((↑i : Int) + 1))), (1, 0, zI ((issP (PA i) [(↑i : Int)]).me)), (1, 1, zI ((issP (PA i) [(↑i : Int)]).n)), (1, 2, zI ((issP (PA i) [(↑i : Int)]).turn)), (1, 3, zI ((issP (PA i) [(↑i : Int)]).iss)), (1, 4, .arr 8 (nI ((issP (PA i) [(↑i : Int)]).hd))), (1, 12, zM 3), (1, 13, zM 4), (1, 14, .top), (2, 0, zI ((issP (QA i) []).me)), (2, 1, zI ((issP (QA i) []).n)), (2, 2, zI ((issP (QA i) []).turn)), (2, 3, zI ((issP (QA i) []).iss)), (2, 4, .arr 8 (nI ((issP (QA i) []).hd))), (2, 12, zM 5), (2, 13, zM 6), (2, 14, .top), (3, 0, .map 2 (smap ((issP (PA i) [(↑i : Int)]).sets))), (4, 0, .map 2 (wmap ((issP (PA i) [(↑i : Int)]).words))), (5, 0, .map 2 (smap ((issP (QA i) []).sets))), (6, 0, .map 2 (wmap ((issP (QA i) []).words)))], 519, 169⟩) ?_
   refine round_normal (⟨i + 1, hlt⟩) (wk_go [1, 2, 3, 4, 5, 6] rfl (by decide) rfl rfl ⟨⟨_, rfl, rfl⟩, ⟨_, rfl, rfl⟩, ⟨_, rfl, rfl⟩, ⟨_, rfl, ?_⟩, ⟨_, rfl, rfl⟩, ⟨_, rfl, rfl⟩, ⟨_, rfl, rfl⟩, ⟨_, rfl, rfl⟩, ⟨_, rfl, ⟨rfl, fun _ _ => rfl⟩⟩, ⟨_, rfl, rfl⟩, ⟨_, rfl, rfl⟩, ⟨_, rfl, trivial⟩, ⟨_, rfl, rfl⟩, ⟨_, rfl, rfl⟩, ⟨_, rfl, rfl⟩, ⟨_, rfl, rfl⟩, ⟨_, rfl, ⟨rfl, fun _ _ => rfl⟩⟩, ⟨_, rfl, rfl⟩, ⟨_, rfl, rfl⟩, ⟨_, rfl, trivial⟩, ⟨_, rfl, Go.Eng.S25.cw_smap _⟩, ⟨_, rfl, cw_map (Go.Eng.S25.flat_wmap _)⟩, ⟨_, rfl, Go.Eng.S25.cw_smap _⟩, ⟨_, rfl, cw_map (Go.Eng.S25.flat_wmap _)⟩, trivial⟩) ?_
   ·show AV.int .i64 _ = AV.int .i64 _
    rw [i64_in ((i : Int) + 1) (by omega)]
    rfl
   ·show 6 - (i + 1) < 6 - i
    omega
  ·have hi6 : i = 6 := by have := of_decide_eq_false hc; omega
   subst hi6
   clear hc
   obtain ⟨p1, p2, _⟩ := PA_ok 6 (by omega)
   obtain ⟨p3, p4⟩ := PA_P
   obtain ⟨s1, s2, s3, s4⟩ := PA_send
   obtain ⟨P, hP⟩ : ∃ P, P = PA 6 := ⟨_, rfl⟩
   obtain ⟨Q, hQ⟩ : ∃ Q, Q = QA 6 := ⟨_, rfl⟩
   rw [← hP] at p1 p3 s1 s2
   rw [← hQ] at p2 p4 s3 s4
   rw [← hP, ← hQ]
   refine evC_exit ?_
   refine then_exit ?_
   refine round_exit ?_
   refine block_exit ?_
   refine then_normal ?_
   refine evC_goK (ps := [(0 < 1 ∧ 0 < 3 ∧ 0 < 4 ∧ 1 ≠ 3 ∧ 1 ≠ 4 ∧ 3 ≠ 4) ∧ smap P.sets = smap (sOf (smap P.sets)) ∧ wmap P.words = wmap (wOf (wmap P.words)) ∧ ∀ (i : Nat), i < (8 : Nat) → nI P.hd i = nI (If (nI P.hd)) i, okT (etP P), OkP (etP P)]) (s' := ⟨[(0, 0, zB false), (0, 1, zP 1), (0, 3, zP 2), (0, 6, zV 103), (0, 7, zI (sendE (etP P) 1)), (1, 0, zI P.me), (1, 1, zI P.n), (1, 2, zI P.turn), (1, 3, zI P.iss), (1, 4, .arr 8 (nI P.hd)), (1, 12, zM 3), (1, 13, zM 4), (1, 14, .top), (2, 0, zI Q.me), (2, 1, zI Q.n), (2, 2, zI Q.turn), (2, 3, zI Q.iss), (2, 4, .arr 8 (nI Q.hd)), (2, 12, zM 5), (2, 13, zM 6), (2, 14, .top), (3, 0, .map 2 (smap P.sets)), (4, 0, .map 2 (wmap P.words)), (5, 0, .map 2 (smap Q.sets)), (6, 0, .map 2 (wmap Q.words)), (103, 0, .vec 1 5 (List.length (sendB (etP P) 1)) (nU (sendB (etP P) 1)))], 295, 169⟩) ?_ ?_
   ·rw [peer_eta]
    exact ⟨peer_side P (by decide), p1, p3⟩
   rw [peer_eta, s1, s2]
   refine evC_goK (ps := [(0 < 2 ∧ 0 < 5 ∧ 0 < 6 ∧ 2 ≠ 5 ∧ 2 ≠ 6 ∧ 5 ≠ 6) ∧ smap Q.sets = smap (sOf (smap Q.sets)) ∧ wmap Q.words = wmap (wOf (wmap Q.words)) ∧ ∀ (i : Nat), i < (8 : Nat) → nI Q.hd i = nI (If (nI Q.hd)) i, okT (etP Q), OkP (etP Q)]) (s' := ⟨[(0, 0, zB false), (0, 1, zP 1), (0, 3, zP 2), (0, 6, zV 103), (0, 7, zI 0), (0, 8, zV 327), (0, 9, zI (sendE (etP Q) 0)), (1, 0, zI P.me), (1, 1, zI P.n), (1, 2, zI P.turn), (1, 3, zI P.iss), (1, 4, .arr 8 (nI P.hd)), (1, 12, zM 3), (1, 13, zM 4), (1, 14, .top), (2, 0, zI Q.me), (2, 1, zI Q.n), (2, 2, zI Q.turn), (2, 3, zI Q.iss), (2, 4, .arr 8 (nI Q.hd)), (2, 12, zM 5), (2, 13, zM 6), (2, 14, .top), (3, 0, .map 2 (smap P.sets)), (4, 0, .map 2 (wmap P.words)), (5, 0, .map 2 (smap Q.sets)), (6, 0, .map 2 (wmap Q.words)), (103, 0, .vec 1 5 41 (nU msgA)), (327, 0, .vec 1 5 (List.length (sendB (etP Q) 0)) (nU (sendB (etP Q) 0)))], 519, 169⟩) ?_ ?_
   ·rw [peer_eta]
    exact ⟨peer_side Q (by decide), p2, p4⟩
   rw [peer_eta, s3, s4]
   have b1 : bytesL 41 (nU msgA) = msgA := bytesL_nU msgA
   have b2 : bytesL 35 (nU msgB) = msgB := bytesL_nU msgB
   obtain ⟨r1, r2, r3, r4⟩ := PA_rec
   obtain ⟨o1, o2⟩ := PA_okT
   obtain ⟨m1, m2⟩ := msg_isU
   rw [← hP] at r2 r3 r4 o1
   rw [← hQ] at r1 o2
   have r5 : issP (recP P msgB) [] = recP P msgB := by unfold issP; rw [show issE (recP P msgB) ([] : List Int).length = 5 from r3]; rfl
   have r6 : recP (recP P msgB) [] = recP P msgB := by
    show (bif recE (recP P msgB) [] == 0 then _ else recP P msgB) = recP P msgB
    rw [r4]; rfl
   refine evC_seq ?_
   refine evC_go (dec := [(7, true), (8, true), (9, true), (10, true), (13, true), (14, true), (15, true), (16, true), (19, true), (20, true), (21, true), (24, true), (25, true), (26, true)]) (ks := [(0, 0), (0, 1), (0, 3), (0, 91), (1, 0), (1, 1), (1, 2), (1, 3), (1, 4), (1, 12), (1, 13), (1, 14), (2, 0), (2, 1), (2, 2), (2, 3), (2, 4), (2, 12), (2, 13), (2, 14), (3, 0), (4, 0), (5, 0), (6, 0)]) (ps := (let pe0 : Peer := (etP Q); let pe1 : Peer := (etP P); let pe2 : Peer := recP pe1 (bytesL msgB.length (nU msgB)); let pe3 : Peer := (etP pe2); let pe4 : Peer := issP pe3 []; [List.all [!bif (0 : Int) != (0 : Int) then true else (0 : Int) != (0 : Int)] id = true, List.all [!bif (0 : Int) != (0 : Int) then true else (0 : Int) != (0 : Int)] id = true, List.all [!bif (0 : Int) != (0 : Int) then true else (0 : Int) != (0 : Int)] id = true, (0 < 2 ∧ 0 < 5 ∧ 0 < 6 ∧ 2 ≠ 5 ∧ 2 ≠ 6 ∧ 5 ≠ 6) ∧ smap Q.sets = smap (sOf (smap Q.sets)) ∧ wmap Q.words = wmap (wOf (wmap Q.words)) ∧ ∀ (i : Nat), i < (8 : Nat) → nI Q.hd i = nI (If (nI Q.hd)) i, okT pe0, OkP pe0, IsB (41 : Nat) (nU msgA), 41 ≤ 100000000, 0 < 103 ∧ 2 ≠ 103 ∧ 5 ≠ 103 ∧ 6 ≠ 103, List.all [!bif (0 : Int) != (0 : Int) then true else (0 : Int) != (0 : Int)] id = true, List.all [!bif bif (0 : Int) != (0 : Int) then true else (0 : Int) != (0 : Int) then true else recE pe0 (bytesL (41 : Nat) (nU msgA)) != (0 : Int)] id = true, List.all [!bif bif (0 : Int) != (0 : Int) then true else (0 : Int) != (0 : Int) then true else recE pe0 (bytesL (41 : Nat) (nU msgA)) != (0 : Int)] id = true, List.all [!bif bif (0 : Int) != (0 : Int) then true else (0 : Int) != (0 : Int) then true else recE pe0 (bytesL (41 : Nat) (nU msgA)) != (0 : Int)] id = true, (0 < 1 ∧ 0 < 3 ∧ 0 < 4 ∧ 1 ≠ 3 ∧ 1 ≠ 4 ∧ 3 ≠ 4) ∧ smap P.sets = smap (sOf (smap P.sets)) ∧ wmap P.words = wmap (wOf (wmap P.words)) ∧ ∀ (i : Nat), i < (8 : Nat) → nI P.hd i = nI (If (nI P.hd)) i, okT pe1, OkP pe1, IsB msgB.length (nU msgB), msgB.length ≤ (100000000 : Nat), 0 < 327 ∧ 1 ≠ 327 ∧ 3 ≠ 327 ∧ 4 ≠ 327, List.all [!bif bif (0 : Int) != (0 : Int) then true else (0 : Int) != (0 : Int) then true else recE pe0 (bytesL (41 : Nat) (nU msgA)) != (0 : Int)] id = true, List.all [!bif bif bif (0 : Int) != (0 : Int) then true else (0 : Int) != (0 : Int) then true else recE pe0 (bytesL (41 : Nat) (nU msgA)) != (0 : Int) then true else recE pe1 (bytesL msgB.length (nU msgB)) != (0 : Int)] id = true, List.all [!bif bif bif (0 : Int) != (0 : Int) then true else (0 : Int) != (0 : Int) then true else recE pe0 (bytesL (41 : Nat) (nU msgA)) != (0 : Int) then true else recE pe1 (bytesL msgB.length (nU msgB)) != (0 : Int)] id = true, (0 < 1 ∧ 0 < 3 ∧ 0 < 4 ∧ 1 ≠ 3 ∧ 1 ≠ 4 ∧ 3 ≠ 4) ∧ smap pe2.sets = smap (sOf (smap pe2.sets)) ∧ wmap pe2.words = wmap (wOf (wmap pe2.words)) ∧ ∀ (i : Nat), i < (8 : Nat) → nI pe2.hd i = nI (If (nI pe2.hd)) i, okT pe3, List.all [!bif bif bif (0 : Int) != (0 : Int) then true else (0 : Int) != (0 : Int) then true else recE pe0 (bytesL (41 : Nat) (nU msgA)) != (0 : Int) then true else recE pe1 (bytesL msgB.length (nU msgB)) != (0 : Int)] id = true, List.all [!bif bif bif bif (0 : Int) != (0 : Int) then true else (0 : Int) != (0 : Int) then true else recE pe0 (bytesL (41 : Nat) (nU msgA)) != (0 : Int) then true else recE pe1 (bytesL msgB.length (nU msgB)) != (0 : Int) then true else issE pe3 (0 : Nat) != (5 : Int)] id = true, List.all [!bif bif bif bif (0 : Int) != (0 : Int) then true else (0 : Int) != (0 : Int) then true else recE pe0 (bytesL (41 : Nat) (nU msgA)) != (0 : Int) then true else recE pe1 (bytesL msgB.length (nU msgB)) != (0 : Int) then true else issE pe3 (0 : Nat) != (5 : Int)] id = true, (0 < 1 ∧ 0 < 3 ∧ 0 < 4 ∧ 1 ≠ 3 ∧ 1 ≠ 4 ∧ 3 ≠ 4) ∧ smap pe4.sets = smap (sOf (smap pe4.sets)) ∧ wmap pe4.words = wmap (wOf (wmap pe4.words)) ∧ ∀ (i : Nat), i < (8 : Nat) → nI pe4.hd i = nI (If (nI pe4.hd)) i, List.all [!bif bif bif bif (0 : Int) != (0 : Int) then true else (0 : Int) != (0 : Int) then true else recE pe0 (bytesL (41 : Nat) (nU msgA)) != (0 : Int) then true else recE pe1 (bytesL msgB.length (nU msgB)) != (0 : Int) then true else issE pe3 (0 : Nat) != (5 : Int)] id = true])) (s' := ⟨[(0, 0, zB false), (0, 1, zP 1), (0, 3, zP 2), (0, 91, zB (bif bif bif bif bif 0 != 0 then true else 0 != 0 then true else recE (etP Q) (bytesL 41 (nU msgA)) != 0 then true else recE (etP P) (bytesL msgB.length (nU msgB)) != 0 then true else issE (etP (recP (etP P) (bytesL msgB.length (nU msgB)))) 0 != 5 then true else 2 != 2)), (1, 0, zI ((issP (etP (recP (etP P) (bytesL msgB.length (nU msgB)))) []).me)), (1, 1, zI ((issP (etP (recP (etP P) (bytesL msgB.length (nU msgB)))) []).n)), (1, 2, zI ((issP (etP (recP (etP P) (bytesL msgB.length (nU msgB)))) []).turn)), (1, 3, zI ((issP (etP (recP (etP P) (bytesL msgB.length (nU msgB)))) []).iss)), (1, 4, .arr 8 (nI (If (nI ((issP (etP (recP (etP P) (bytesL msgB.length (nU msgB)))) []).hd))))), (1, 12, zM 3), (1, 13, zM 4), (1, 14, .top), (2, 0, zI ((recP (etP Q) (bytesL 41 (nU msgA))).me)), (2, 1, zI ((recP (etP Q) (bytesL 41 (nU msgA))).n)), (2, 2, zI ((recP (etP Q) (bytesL 41 (nU msgA))).turn)), (2, 3, zI ((recP (etP Q) (bytesL 41 (nU msgA))).iss)), (2, 4, .arr 8 (nI ((recP (etP Q) (bytesL 41 (nU msgA))).hd))), (2, 12, zM 5), (2, 13, zM 6), (2, 14, .top), (3, 0, .map 2 (smap (sOf (smap ((issP (etP (recP (etP P) (bytesL msgB.length (nU msgB)))) []).sets))))), (4, 0, .map 2 (wmap (wOf (wmap ((issP (etP (recP (etP P) (bytesL msgB.length (nU msgB)))) []).words))))), (5, 0, .map 2 (smap ((recP (etP Q) (bytesL 41 (nU msgA))).sets))), (6, 0, .map 2 (wmap ((recP (etP Q) (bytesL 41 (nU msgA))).words)))], 1415, 169⟩) (by kernel_rfl) (by kernel_rfl) ?_ ?_
   ·simp only [peer_eta, bytesL_nU, b1, b2, r1, r2, r5, r6, r3, r4]
    exact ⟨rfl, rfl, rfl, peer_side Q (by decide), p2, p4, isB m1, by omega, ⟨by decide, by decide, by decide, by decide⟩, rfl, rfl, rfl, rfl, peer_side P (by decide), p1, p3, isB m2, by decide, ⟨by decide, by decide, by decide, by decide⟩, rfl, rfl, rfl, peer_side (recP P msgB) (by decide), o1, rfl, rfl, rfl, peer_side (recP P msgB) (by decide), rfl⟩
   simp only [peer_eta, bytesL_nU, b1, b2, r1, r2, r5, r6, r3, r4, sOf_smap, wOf_wmap, If_nI]
   refine evC_if (q := false) (by kernel_rfl) (fun hc => ?_) (fun hc => ?_)
   ·cases hc
   clear hc
   obtain ⟨P1, hP1⟩ : ∃ R, R = recP P msgB := ⟨_, rfl⟩
   obtain ⟨Q1, hQ1⟩ : ∃ R, R = recP Q msgA := ⟨_, rfl⟩
   rw [← hP1, ← hQ1]
   have ok8 : ∀ i, i ≤ 8 → okT (itA P1 i) ∧ okT (itA Q1 i) ∧ OkP (itA P1 i) ∧ OkP (itA Q1 i) := by rw [hP1, hQ1, hP, hQ]; exact PB_ok
   have adv8 : ∀ i, i < 8 → (advE (itA P1 i) = 0 ∧ advE (itA Q1 i) = 0) ∧ advS (itA P1 i) = PBx i ∧ advS (itA Q1 i) = PBx i := by rw [hP1, hQ1, hP, hQ]; exact PB_adv
   have end8 : advE (itA P1 8) = 6 ∧ (itA P1 8).turn = 8 := by rw [hP1, hP]; exact PB_end
   clear hP1 hQ1
   clear b1 b2 r1 r2 r3 r4 r5 r6 o1 o2 m1 m2 p1 p2 p3 p4 s1 s2 s3 s4 hP hQ
   clear P Q
   refine evC_skip ?_
   refine then_normal ?_
   refine evC_seq ?_
   refine evC_go0K (s' := ⟨[(0, 0, zB false), (0, 1, zP 1), (0, 3, zP 2), (0, 10, zI 0), (1, 0, zI P1.me), (1, 1, zI P1.n), (1, 2, zI P1.turn), (1, 3, zI P1.iss), (1, 4, .arr 8 (nI P1.hd)), (1, 12, zM 3), (1, 13, zM 4), (1, 14, .top), (2, 0, zI Q1.me), (2, 1, zI Q1.n), (2, 2, zI Q1.turn), (2, 3, zI Q1.iss), (2, 4, .arr 8 (nI Q1.hd)), (2, 12, zM 5), (2, 13, zM 6), (2, 14, .top), (3, 0, .map 2 (smap P1.sets)), (4, 0, .map 2 (wmap P1.words)), (5, 0, .map 2 (smap Q1.sets)), (6, 0, .map 2 (wmap Q1.words))], 1447, 169⟩) ?_
   refine evC_block ?_
   refine evC_loop (ι := { i : Nat // i ≤ 8 }) (fun i => ⟨[(0, 0, zB false), (0, 1, zP 1), (0, 3, zP 2), (0, 10, zI (i.1 : Nat)), (1, 0, zI ((itA P1 i.1).me)), (1, 1, zI ((itA P1 i.1).n)), (1, 2, zI ((itA P1 i.1).turn)), (1, 3, zI ((itA P1 i.1).iss)), (1, 4, .arr 8 (nI (itA P1 i.1).hd)), (1, 12, zM 3), (1, 13, zM 4), (1, 14, Cont.top), (2, 0, zI ((itA Q1 i.1).me)), (2, 1, zI ((itA Q1 i.1).n)), (2, 2, zI ((itA Q1 i.1).turn)), (2, 3, zI ((itA Q1 i.1).iss)), (2, 4, .arr 8 (nI (itA Q1 i.1).hd)), (2, 12, zM 5), (2, 13, zM 6), (2, 14, Cont.top), (3, 0, .map 2 (smap (itA P1 i.1).sets)), (4, 0, .map 2 (wmap (itA P1 i.1).words)), (5, 0, .map 2 (smap (itA Q1 i.1).sets)), (6, 0, .map 2 (wmap (itA Q1 i.1).words))], 7, 169⟩) (fun i => 8 - i.1) ⟨0, Nat.zero_le _⟩ (wk_go [1, 2, 3, 4, 5, 6] rfl (by decide) rfl rfl ⟨⟨_, rfl, rfl⟩, ⟨_, rfl, rfl⟩, ⟨_, rfl, rfl⟩, ⟨_, rfl, rfl⟩, ⟨_, rfl, rfl⟩, ⟨_, rfl, rfl⟩, ⟨_, rfl, rfl⟩, ⟨_, rfl, rfl⟩, ⟨_, rfl, ⟨rfl, fun _ _ => rfl⟩⟩, ⟨_, rfl, rfl⟩, ⟨_, rfl, rfl⟩, ⟨_, rfl, trivial⟩, ⟨_, rfl, rfl⟩, ⟨_, rfl, rfl⟩, ⟨_, rfl, rfl⟩, ⟨_, rfl, rfl⟩, ⟨_, rfl, ⟨rfl, fun _ _ => rfl⟩⟩, ⟨_, rfl, rfl⟩, ⟨_, rfl, rfl⟩, ⟨_, rfl, trivial⟩, ⟨_, rfl, Go.Eng.S25.cw_smap _⟩, ⟨_, rfl, cw_map (Go.Eng.S25.flat_wmap _)⟩, ⟨_, rfl, Go.Eng.S25.cw_smap _⟩, ⟨_, rfl, cw_map (Go.Eng.S25.flat_wmap _)⟩, trivial⟩) ?_
   rintro ⟨i, hi⟩
   obtain ⟨o1, o2, o3, o4⟩ := ok8 i hi
   refine evC_seq ?_
   refine evC_go0K (s' := ⟨[(0, 0, zB false), (0, 1, zP 1), (0, 3, zP 2), (0, 10, zI i), (0, 93, zB (decide ((↑i : Int) < 8))), (1, 0, zI ((itA P1 i).me)), (1, 1, zI ((itA P1 i).n)), (1, 2, zI ((itA P1 i).turn)), (1, 3, zI ((itA P1 i).iss)), (1, 4, .arr 8 (nI ((itA P1 i).hd))), (1, 12, zM 3), (1, 13, zM 4), (1, 14, .top), (2, 0, zI ((itA Q1 i).me)), (2, 1, zI ((itA Q1 i).n)), (2, 2, zI ((itA Q1 i).turn)), (2, 3, zI ((itA Q1 i).iss)), (2, 4, .arr 8 (nI ((itA Q1 i).hd))), (2, 12, zM 5), (2, 13, zM 6), (2, 14, .top), (3, 0, .map 2 (smap ((itA P1 i).sets))), (4, 0, .map 2 (wmap ((itA P1 i).words))), (5, 0, .map 2 (smap ((itA Q1 i).sets))), (6, 0, .map 2 (wmap ((itA Q1 i).words)))], 71, 169⟩) ?_
   refine evC_if (q := decide ((↑i : Int) < 8)) (by kernel_rfl) (fun hc => ?_) (fun hc => ?_)
   ·have hlt : i < 8 := by have := of_decide_eq_true hc; omega
    clear hc
    obtain ⟨⟨e1, e2⟩, e3, e4⟩ := adv8 i hlt
    refine evC_skip ?_
    refine then_normal ?_
    refine evC_seq ?_
    refine evC_block ?_
    refine evC_goK (ps := [(0 < 1 ∧ 0 < 3 ∧ 0 < 4 ∧ 1 ≠ 3 ∧ 1 ≠ 4 ∧ 3 ≠ 4) ∧ smap ((itA P1 i).sets) = smap (sOf (smap ((itA P1 i).sets))) ∧ wmap ((itA P1 i).words) = wmap (wOf (wmap ((itA P1 i).words))) ∧ ∀ (i_1 : Nat), i_1 < (8 : Nat) → nI ((itA P1 i).hd) i_1 = nI (If (nI ((itA P1 i).hd))) i_1, okT (etP (itA P1 i)), OkP (etP (itA P1 i))]) (s' := ⟨[(0, 0, zB false), (0, 1, zP 1), (0, 3, zP 2), (0, 10, zI i), (0, 11, zV 103), (0, 12, zI (advE (etP (itA P1 i)))), (1, 0, zI ((advP (etP (itA P1 i))).me)), (1, 1, zI ((advP (etP (itA P1 i))).n)), (1, 2, zI ((advP (etP (itA P1 i))).turn)), (1, 3, zI ((advP (etP (itA P1 i))).iss)), (1, 4, .arr 8 (nI ((advP (etP (itA P1 i))).hd))), (1, 12, zM 3), (1, 13, zM 4), (1, 14, .top), (2, 0, zI ((itA Q1 i).me)), (2, 1, zI ((itA Q1 i).n)), (2, 2, zI ((itA Q1 i).turn)), (2, 3, zI ((itA Q1 i).iss)), (2, 4, .arr 8 (nI ((itA Q1 i).hd))), (2, 12, zM 5), (2, 13, zM 6), (2, 14, .top), (3, 0, .map 2 (smap ((advP (etP (itA P1 i))).sets))), (4, 0, .map 2 (wmap ((advP (etP (itA P1 i))).words))), (5, 0, .map 2 (smap ((itA Q1 i).sets))), (6, 0, .map 2 (wmap ((itA Q1 i).words))), (103, 0, .vec 1 30 (List.length (advS (etP (itA P1 i)))) (nB (advS (etP (itA P1 i)))))], 295, 169⟩) ?_ ?_
    ·rw [peer_eta]
     exact ⟨peer_side _ (by decide), o1, o3⟩
    rw [peer_eta, e1, e3]
    refine evC_goK (ps := [(0 < 2 ∧ 0 < 5 ∧ 0 < 6 ∧ 2 ≠ 5 ∧ 2 ≠ 6 ∧ 5 ≠ 6) ∧ smap ((itA Q1 i).sets) = smap (sOf (smap ((itA Q1 i).sets))) ∧ wmap ((itA Q1 i).words) = wmap (wOf (wmap ((itA Q1 i).words))) ∧ ∀ (i_1 : Nat), i_1 < (8 : Nat) → nI ((itA Q1 i).hd) i_1 = nI (If (nI ((itA Q1 i).hd))) i_1, okT (etP (itA Q1 i)), OkP (etP (itA Q1 i))]) (s' := ⟨[(0, 0, zB false), (0, 1, zP 1), (0, 3, zP 2), (0, 10, zI i), (0, 11, zV 103), (0, 12, zI 0), (0, 13, zV 327), (0, 14, zI (advE (etP (itA Q1 i)))), (1, 0, zI ((advP (itA P1 i)).me)), (1, 1, zI ((advP (itA P1 i)).n)), (1, 2, zI ((advP (itA P1 i)).turn)), (1, 3, zI ((advP (itA P1 i)).iss)), (1, 4, .arr 8 (nI ((advP (itA P1 i)).hd))), (1, 12, zM 3), (1, 13, zM 4), (1, 14, .top), (2, 0, zI ((advP (etP (itA Q1 i))).me)), (2, 1, zI ((advP (etP (itA Q1 i))).n)), (2, 2, zI ((advP (etP (itA Q1 i))).turn)), (2, 3, zI ((advP (etP (itA Q1 i))).iss)), (2, 4, .arr 8 (nI ((advP (etP (itA Q1 i))).hd))), (2, 12, zM 5), (2, 13, zM 6), (2, 14, .top), (3, 0, .map 2 (smap ((advP (itA P1 i)).sets))), (4, 0, .map 2 (wmap ((advP (itA P1 i)).words))), (5, 0, .map 2 (smap ((advP (etP (itA Q1 i))).sets))), (6, 0, .map 2 (wmap ((advP (etP (itA Q1 i))).words))), (103, 0, .vec 1 30 (List.length (PBx i)) (nB (PBx i))), (327, 0, .vec 1 30 (List.length (advS (etP (itA Q1 i)))) (nB (advS (etP (itA Q1 i)))))], 519, 169⟩) ?_ ?_
    ·rw [peer_eta]
     exact ⟨peer_side _ (by decide), o2, o4⟩
    rw [peer_eta, e2, e4]
    by_cases h2 : i < 2
    ·have hx : PBx i = [[], []] := by unfold PBx; rw [nblt_yes h2]; rfl
     have hd : decide ((i : Int) ≥ 2) = false := decide_eq_false (by omega)
     refine evC_go (dec := [(3, true), (4, true), (7, true), (8, true), (9, true), (12, true), (13, true), (14, true), (17, true), (18, true), (19, true), (20, true), (21, true), (22, true), (23, true), (24, true), (25, true), (28, true), (29, true), (30, true), (31, false), (32, false), (33, false), (34, false), (35, false), (36, false), (37, false), (38, false), (39, false), (40, false), (41, true)]) (ks := [(0, 0), (0, 1), (0, 3), (0, 10), (0, 148), (1, 0), (1, 1), (1, 2), (1, 3), (1, 4), (1, 12), (1, 13), (1, 14), (2, 0), (2, 1), (2, 2), (2, 3), (2, 4), (2, 12), (2, 13), (2, 14), (3, 0), (4, 0), (5, 0), (6, 0)]) (ps := [List.all [!(0 : Int) != (0 : Int)] id = true, List.all [!(0 : Int) != (0 : Int)] id = true, List.all [!bif (0 : Int) != (0 : Int) then true else (0 : Int) != (0 : Int)] id = true, List.all [!bif (0 : Int) != (0 : Int) then true else (0 : Int) != (0 : Int)] id = true, List.all [!bif (0 : Int) != (0 : Int) then true else (0 : Int) != (0 : Int)] id = true, List.all [!bif bif (0 : Int) != (0 : Int) then true else (0 : Int) != (0 : Int) then true else (↑(List.length (PBx i)) : Int) != (2 : Int)] id = true, List.all [!bif bif (0 : Int) != (0 : Int) then true else (0 : Int) != (0 : Int) then true else (↑(List.length (PBx i)) : Int) != (2 : Int)] id = true, List.all [!bif bif (0 : Int) != (0 : Int) then true else (0 : Int) != (0 : Int) then true else (↑(List.length (PBx i)) : Int) != (2 : Int)] id = true, List.all [!bif bif bif (0 : Int) != (0 : Int) then true else (0 : Int) != (0 : Int) then true else (↑(List.length (PBx i)) : Int) != (2 : Int) then true else (↑(List.length (PBx i)) : Int) != (2 : Int)] id = true, List.all [!bif bif bif (0 : Int) != (0 : Int) then true else (0 : Int) != (0 : Int) then true else (↑(List.length (PBx i)) : Int) != (2 : Int) then true else (↑(List.length (PBx i)) : Int) != (2 : Int)] id = true, (0 : Int) ≤ 0, (0 : Int) < (↑(List.length (PBx i)) : Int), 1 = 1, List.all [!bif bif bif (0 : Int) != (0 : Int) then true else (0 : Int) != (0 : Int) then true else (↑(List.length (PBx i)) : Int) != (2 : Int) then true else (↑(List.length (PBx i)) : Int) != (2 : Int)] id = true, (0 : Int) ≤ 0, (0 : Int) < (↑(List.length (PBx i)) : Int), 1 = 1, List.all [!bif bif bif (0 : Int) != (0 : Int) then true else (0 : Int) != (0 : Int) then true else (↑(List.length (PBx i)) : Int) != (2 : Int) then true else (↑(List.length (PBx i)) : Int) != (2 : Int)] id = true, List.length (List.getD (PBx i) (Int.toNat (0 : Int)) []) = (0 : Nat) ∨ 1 = 1, ∀ (i_1 : Nat), i_1 < List.length (List.getD (PBx i) (Int.toNat (0 : Int)) []) → nU (List.getD (PBx i) (Int.toNat (0 : Int)) []) i_1 = AV.int IntKind.u8 (iv (nU (List.getD (PBx i) (Int.toNat (0 : Int)) []) i_1)), List.all [!bif bif bif (0 : Int) != (0 : Int) then true else (0 : Int) != (0 : Int) then true else (↑(List.length (PBx i)) : Int) != (2 : Int) then true else (↑(List.length (PBx i)) : Int) != (2 : Int)] id = true, List.all [!bif bif bif (0 : Int) != (0 : Int) then true else (0 : Int) != (0 : Int) then true else (↑(List.length (PBx i)) : Int) != (2 : Int) then true else (↑(List.length (PBx i)) : Int) != (2 : Int)] id = true, (0 : Int) ≤ 0, (0 : Int) < (↑(List.length (PBx i)) : Int), 1 = 1, List.all [!bif bif bif (0 : Int) != (0 : Int) then true else (0 : Int) != (0 : Int) then true else (↑(List.length (PBx i)) : Int) != (2 : Int) then true else (↑(List.length (PBx i)) : Int) != (2 : Int)] id = true, (0 : Int) ≤ 0, (0 : Int) < (↑(List.length (PBx i)) : Int), 1 = 1, List.all [!bif bif bif (0 : Int) != (0 : Int) then true else (0 : Int) != (0 : Int) then true else (↑(List.length (PBx i)) : Int) != (2 : Int) then true else (↑(List.length (PBx i)) : Int) != (2 : Int)] id = true, List.length (List.getD (PBx i) (Int.toNat (0 : Int)) []) = (0 : Nat) ∨ 1 = 1, ∀ (i_1 : Nat), i_1 < List.length (List.getD (PBx i) (Int.toNat (0 : Int)) []) → nU (List.getD (PBx i) (Int.toNat (0 : Int)) []) i_1 = AV.int IntKind.u8 (iv (nU (List.getD (PBx i) (Int.toNat (0 : Int)) []) i_1)), List.all [!bif bif bif (0 : Int) != (0 : Int) then true else (0 : Int) != (0 : Int) then true else (↑(List.length (PBx i)) : Int) != (2 : Int) then true else (↑(List.length (PBx i)) : Int) != (2 : Int)] id = true, List.all [!bif bif bif bif (0 : Int) != (0 : Int) then true else (0 : Int) != (0 : Int) then true else (↑(List.length (PBx i)) : Int) != (2 : Int) then true else (↑(List.length (PBx i)) : Int) != (2 : Int) then true else !ByteArray.toList (mkStr (List.length (List.getD (PBx i) (Int.toNat (0 : Int)) [])) (nU (List.getD (PBx i) (Int.toNat (0 : Int)) []))) == ByteArray.toList (mkStr (List.length (List.getD (PBx i) (Int.toNat (0 : Int)) [])) (nU (List.getD (PBx i) (Int.toNat (0 : Int)) [])))] id = true, List.all [!bif bif bif bif (0 : Int) != (0 : Int) then true else (0 : Int) != (0 : Int) then true else (↑(List.length (PBx i)) : Int) != (2 : Int) then true else (↑(List.length (PBx i)) : Int) != (2 : Int) then true else !ByteArray.toList (mkStr (List.length (List.getD (PBx i) (Int.toNat (0 : Int)) [])) (nU (List.getD (PBx i) (Int.toNat (0 : Int)) []))) == ByteArray.toList (mkStr (List.length (List.getD (PBx i) (Int.toNat (0 : Int)) [])) (nU (List.getD (PBx i) (Int.toNat (0 : Int)) [])))] id = true, List.all [!bif bif bif bif (0 : Int) != (0 : Int) then true else (0 : Int) != (0 : Int) then true else (↑(List.length (PBx i)) : Int) != (2 : Int) then true else (↑(List.length (PBx i)) : Int) != (2 : Int) then true else !ByteArray.toList (mkStr (List.length (List.getD (PBx i) (Int.toNat (0 : Int)) [])) (nU (List.getD (PBx i) (Int.toNat (0 : Int)) []))) == ByteArray.toList (mkStr (List.length (List.getD (PBx i) (Int.toNat (0 : Int)) [])) (nU (List.getD (PBx i) (Int.toNat (0 : Int)) [])))] id = true, List.all [decide ((↑i : Int) ≥ (2 : Int))] id = false, List.all [decide ((↑i : Int) ≥ (2 : Int))] id = false, List.all [decide ((↑i : Int) ≥ (2 : Int))] id = false, List.all [decide ((↑i : Int) ≥ (2 : Int))] id = false, List.all [decide ((↑i : Int) ≥ (2 : Int))] id = false, List.all [decide ((↑i : Int) ≥ (2 : Int))] id = false, List.all [decide ((↑i : Int) ≥ (2 : Int))] id = false, List.all [decide ((↑i : Int) ≥ (2 : Int))] id = false, List.all [decide ((↑i : Int) ≥ (2 : Int))] id = false, List.all [decide ((↑i : Int) ≥ (2 : Int))] id = false, List.all [!bif bif bif bif (0 : Int) != (0 : Int) then true else (0 : Int) != (0 : Int) then true else (↑(List.length (PBx i)) : Int) != (2 : Int) then true else (↑(List.length (PBx i)) : Int) != (2 : Int) then true else !ByteArray.toList (mkStr (List.length (List.getD (PBx i) (Int.toNat (0 : Int)) [])) (nU (List.getD (PBx i) (Int.toNat (0 : Int)) []))) == ByteArray.toList (mkStr (List.length (List.getD (PBx i) (Int.toNat (0 : Int)) [])) (nU (List.getD (PBx i) (Int.toNat (0 : Int)) [])))] id = true, decide ((↑i : Int) ≥ (2 : Int)) = false]) (s' := ⟨[(0, 0, zB false), (0, 1, zP 1), (0, 3, zP 2), (0, 10, zI i), (0, 148, zB (bif bif bif bif bif 0 != 0 then true else 0 != 0 then true else (↑(List.length (PBx i)) : Int) != 2 then true else (↑(List.length (PBx i)) : Int) != 2 then true else !ByteArray.toList (mkStr (List.length (List.getD (PBx i) (Int.toNat 0) [])) (nU (List.getD (PBx i) (Int.toNat 0) []))) == ByteArray.toList (mkStr (List.length (List.getD (PBx i) (Int.toNat 0) [])) (nU (List.getD (PBx i) (Int.toNat 0) []))) then true else false)), (1, 0, zI ((advP (itA P1 i)).me)), (1, 1, zI ((advP (itA P1 i)).n)), (1, 2, zI ((advP (itA P1 i)).turn)), (1, 3, zI ((advP (itA P1 i)).iss)), (1, 4, .arr 8 (nI ((advP (itA P1 i)).hd))), (1, 12, zM 3), (1, 13, zM 4), (1, 14, .top), (2, 0, zI ((advP (itA Q1 i)).me)), (2, 1, zI ((advP (itA Q1 i)).n)), (2, 2, zI ((advP (itA Q1 i)).turn)), (2, 3, zI ((advP (itA Q1 i)).iss)), (2, 4, .arr 8 (nI ((advP (itA Q1 i)).hd))), (2, 12, zM 5), (2, 13, zM 6), (2, 14, .top), (3, 0, .map 2 (smap ((advP (itA P1 i)).sets))), (4, 0, .map 2 (wmap ((advP (itA P1 i)).words))), (5, 0, .map 2 (smap ((advP (itA Q1 i)).sets))), (6, 0, .map 2 (wmap ((advP (itA Q1 i)).words)))], 1895, 169⟩) (by kernel_rfl) (by kernel_rfl) ?_ ?_
     ·rw [hx, hd]
      simp only [All]
      (repeat' apply And.intro) <;> first | trivial | rfl | exact .inr rfl | exact fun _ _ => rfl | exact pget_one _ | simp
     rw [hx]
     refine evC_if (q := false) (by kernel_rfl) (fun hc => ?_) (fun hc => ?_)
     ·exfalso
      simp at hc
     clear hc
     refine evC_skip ?_
     refine block_normal ?_
     refine then_normal ?_
     refine evC_goL0K (s' := ⟨[(0, 0, zB false), (0, 1, zP 1), (0, 3, zP 2), (0, 10, zI (IntKind.i64.wrap ((↑i : Int) + 1))), (1, 0, zI ((advP (itA P1 i)).me)), (1, 1, zI ((advP (itA P1 i)).n)), (1, 2, zI ((advP (itA P1 i)).turn)), (1, 3, zI ((advP (itA P1 i)).iss)), (1, 4, .arr 8 (nI ((advP (itA P1 i)).hd))), (1, 12, zM 3), (1, 13, zM 4), (1, 14, .top), (2, 0, zI ((advP (itA Q1 i)).me)), (2, 1, zI ((advP (itA Q1 i)).n)), (2, 2, zI ((advP (itA Q1 i)).turn)), (2, 3, zI ((advP (itA Q1 i)).iss)), (2, 4, .arr 8 (nI ((advP (itA Q1 i)).hd))), (2, 12, zM 5), (2, 13, zM 6), (2, 14, .top), (3, 0, .map 2 (smap ((advP (itA P1 i)).sets))), (4, 0, .map 2 (wmap ((advP (itA P1 i)).words))), (5, 0, .map 2 (smap ((advP (itA Q1 i)).sets))), (6, 0, .map 2 (wmap ((advP (itA Q1 i)).words)))], 1991, 169⟩) ?_
     refine round_normal (⟨i + 1, hlt⟩) (wk_go [1, 2, 3, 4, 5, 6] rfl (by decide) rfl rfl ⟨⟨_, rfl, rfl⟩, ⟨_, rfl, rfl⟩, ⟨_, rfl, rfl⟩, ⟨_, rfl, ?_⟩, ⟨_, rfl, rfl⟩, ⟨_, rfl, rfl⟩, ⟨_, rfl, rfl⟩, ⟨_, rfl, rfl⟩, ⟨_, rfl, ⟨rfl, fun _ _ => rfl⟩⟩, ⟨_, rfl, rfl⟩, ⟨_, rfl, rfl⟩, ⟨_, rfl, trivial⟩, ⟨_, rfl, rfl⟩, ⟨_, rfl, rfl⟩, ⟨_, rfl, rfl⟩, ⟨_, rfl, rfl⟩, ⟨_, rfl, ⟨rfl, fun _ _ => rfl⟩⟩, ⟨_, rfl, rfl⟩, ⟨_, rfl, rfl⟩, ⟨_, rfl, trivial⟩, ⟨_, rfl, Go.Eng.S25.cw_smap _⟩, ⟨_, rfl, cw_map (Go.Eng.S25.flat_wmap _)⟩, ⟨_, rfl, Go.Eng.S25.cw_smap _⟩, ⟨_, rfl, cw_map (Go.Eng.S25.flat_wmap _)⟩, trivial⟩) ?_
     ·show AV.int .i64 _ = AV.int .i64 _
      rw [i64_in ((i : Int) + 1) (by omega)]
      rfl
     ·show 8 - (i + 1) < 8 - i
      omega
    ·have hx : PBx i = [[(i : Int) - 2], []] := by unfold PBx; rw [nblt_no h2]; rfl
     have hd : decide ((i : Int) ≥ 2) = true := decide_eq_true (by omega)
     refine evC_go (dec := [(3, true), (4, true), (7, true), (8, true), (9, true), (12, true), (13, true), (14, true), (17, true), (18, true), (19, true), (20, true), (21, true), (22, true), (23, true), (24, true), (25, true), (28, true), (29, true), (30, true), (31, true), (32, true), (33, true), (34, true), (35, true), (36, true), (37, true), (38, true), (39, true), (40, true), (41, true)]) (ks := [(0, 0), (0, 1), (0, 3), (0, 10), (0, 148), (1, 0), (1, 1), (1, 2), (1, 3), (1, 4), (1, 12), (1, 13), (1, 14), (2, 0), (2, 1), (2, 2), (2, 3), (2, 4), (2, 12), (2, 13), (2, 14), (3, 0), (4, 0), (5, 0), (6, 0)]) (ps := [List.all [!(0 : Int) != (0 : Int)] id = true, List.all [!(0 : Int) != (0 : Int)] id = true, List.all [!bif (0 : Int) != (0 : Int) then true else (0 : Int) != (0 : Int)] id = true, List.all [!bif (0 : Int) != (0 : Int) then true else (0 : Int) != (0 : Int)] id = true, List.all [!bif (0 : Int) != (0 : Int) then true else (0 : Int) != (0 : Int)] id = true, List.all [!bif bif (0 : Int) != (0 : Int) then true else (0 : Int) != (0 : Int) then true else (↑(List.length (PBx i)) : Int) != (2 : Int)] id = true, List.all [!bif bif (0 : Int) != (0 : Int) then true else (0 : Int) != (0 : Int) then true else (↑(List.length (PBx i)) : Int) != (2 : Int)] id = true, List.all [!bif bif (0 : Int) != (0 : Int) then true else (0 : Int) != (0 : Int) then true else (↑(List.length (PBx i)) : Int) != (2 : Int)] id = true, List.all [!bif bif bif (0 : Int) != (0 : Int) then true else (0 : Int) != (0 : Int) then true else (↑(List.length (PBx i)) : Int) != (2 : Int) then true else (↑(List.length (PBx i)) : Int) != (2 : Int)] id = true, List.all [!bif bif bif (0 : Int) != (0 : Int) then true else (0 : Int) != (0 : Int) then true else (↑(List.length (PBx i)) : Int) != (2 : Int) then true else (↑(List.length (PBx i)) : Int) != (2 : Int)] id = true, (0 : Int) ≤ 0, (0 : Int) < (↑(List.length (PBx i)) : Int), 1 = 1, List.all [!bif bif bif (0 : Int) != (0 : Int) then true else (0 : Int) != (0 : Int) then true else (↑(List.length (PBx i)) : Int) != (2 : Int) then true else (↑(List.length (PBx i)) : Int) != (2 : Int)] id = true, (0 : Int) ≤ 0, (0 : Int) < (↑(List.length (PBx i)) : Int), 1 = 1, List.all [!bif bif bif (0 : Int) != (0 : Int) then true else (0 : Int) != (0 : Int) then true else (↑(List.length (PBx i)) : Int) != (2 : Int) then true else (↑(List.length (PBx i)) : Int) != (2 : Int)] id = true, List.length (List.getD (PBx i) (Int.toNat (0 : Int)) []) = (0 : Nat) ∨ 1 = 1, ∀ (i_1 : Nat), i_1 < List.length (List.getD (PBx i) (Int.toNat (0 : Int)) []) → nU (List.getD (PBx i) (Int.toNat (0 : Int)) []) i_1 = AV.int IntKind.u8 (iv (nU (List.getD (PBx i) (Int.toNat (0 : Int)) []) i_1)), List.all [!bif bif bif (0 : Int) != (0 : Int) then true else (0 : Int) != (0 : Int) then true else (↑(List.length (PBx i)) : Int) != (2 : Int) then true else (↑(List.length (PBx i)) : Int) != (2 : Int)] id = true, List.all [!bif bif bif (0 : Int) != (0 : Int) then true else (0 : Int) != (0 : Int) then true else (↑(List.length (PBx i)) : Int) != (2 : Int) then true else (↑(List.length (PBx i)) : Int) != (2 : Int)] id = true, (0 : Int) ≤ 0, (0 : Int) < (↑(List.length (PBx i)) : Int), 1 = 1, List.all [!bif bif bif (0 : Int) != (0 : Int) then true else (0 : Int) != (0 : Int) then true else (↑(List.length (PBx i)) : Int) != (2 : Int) then true else (↑(List.length (PBx i)) : Int) != (2 : Int)] id = true, (0 : Int) ≤ 0, (0 : Int) < (↑(List.length (PBx i)) : Int), 1 = 1, List.all [!bif bif bif (0 : Int) != (0 : Int) then true else (0 : Int) != (0 : Int) then true else (↑(List.length (PBx i)) : Int) != (2 : Int) then true else (↑(List.length (PBx i)) : Int) != (2 : Int)] id = true, List.length (List.getD (PBx i) (Int.toNat (0 : Int)) []) = (0 : Nat) ∨ 1 = 1, ∀ (i_1 : Nat), i_1 < List.length (List.getD (PBx i) (Int.toNat (0 : Int)) []) → nU (List.getD (PBx i) (Int.toNat (0 : Int)) []) i_1 = AV.int IntKind.u8 (iv (nU (List.getD (PBx i) (Int.toNat (0 : Int)) []) i_1)), List.all [!bif bif bif (0 : Int) != (0 : Int) then true else (0 : Int) != (0 : Int) then true else (↑(List.length (PBx i)) : Int) != (2 : Int) then true else (↑(List.length (PBx i)) : Int) != (2 : Int)] id = true, List.all [!bif bif bif bif (0 : Int) != (0 : Int) then true else (0 : Int) != (0 : Int) then true else (↑(List.length (PBx i)) : Int) != (2 : Int) then true else (↑(List.length (PBx i)) : Int) != (2 : Int) then true else !ByteArray.toList (mkStr (List.length (List.getD (PBx i) (Int.toNat (0 : Int)) [])) (nU (List.getD (PBx i) (Int.toNat (0 : Int)) []))) == ByteArray.toList (mkStr (List.length (List.getD (PBx i) (Int.toNat (0 : Int)) [])) (nU (List.getD (PBx i) (Int.toNat (0 : Int)) [])))] id = true, List.all [!bif bif bif bif (0 : Int) != (0 : Int) then true else (0 : Int) != (0 : Int) then true else (↑(List.length (PBx i)) : Int) != (2 : Int) then true else (↑(List.length (PBx i)) : Int) != (2 : Int) then true else !ByteArray.toList (mkStr (List.length (List.getD (PBx i) (Int.toNat (0 : Int)) [])) (nU (List.getD (PBx i) (Int.toNat (0 : Int)) []))) == ByteArray.toList (mkStr (List.length (List.getD (PBx i) (Int.toNat (0 : Int)) [])) (nU (List.getD (PBx i) (Int.toNat (0 : Int)) [])))] id = true, List.all [!bif bif bif bif (0 : Int) != (0 : Int) then true else (0 : Int) != (0 : Int) then true else (↑(List.length (PBx i)) : Int) != (2 : Int) then true else (↑(List.length (PBx i)) : Int) != (2 : Int) then true else !ByteArray.toList (mkStr (List.length (List.getD (PBx i) (Int.toNat (0 : Int)) [])) (nU (List.getD (PBx i) (Int.toNat (0 : Int)) []))) == ByteArray.toList (mkStr (List.length (List.getD (PBx i) (Int.toNat (0 : Int)) [])) (nU (List.getD (PBx i) (Int.toNat (0 : Int)) [])))] id = true, List.all [decide ((↑i : Int) ≥ (2 : Int))] id = true, List.all [decide ((↑i : Int) ≥ (2 : Int))] id = true, (0 : Int) ≤ 0, (0 : Int) < (↑(List.length (PBx i)) : Int), 1 = 1, List.all [decide ((↑i : Int) ≥ (2 : Int))] id = true, (0 : Int) ≤ 0, (0 : Int) < (↑(List.length (PBx i)) : Int), 1 = 1, List.all [decide ((↑i : Int) ≥ (2 : Int))] id = true, List.length (List.getD (PBx i) (Int.toNat (0 : Int)) []) = (0 : Nat) ∨ 1 = 1, ∀ (i_1 : Nat), i_1 < List.length (List.getD (PBx i) (Int.toNat (0 : Int)) []) → nU (List.getD (PBx i) (Int.toNat (0 : Int)) []) i_1 = AV.int IntKind.u8 (iv (nU (List.getD (PBx i) (Int.toNat (0 : Int)) []) i_1)), List.all [decide ((↑i : Int) ≥ (2 : Int))] id = true, List.all [decide ((↑i : Int) ≥ (2 : Int))] id = true, List.all [decide ((↑i : Int) ≥ (2 : Int))] id = true, List.all [decide ((↑i : Int) ≥ (2 : Int))] id = true, List.all [decide ((↑i : Int) ≥ (2 : Int))] id = true, 1 = 0 ∨ 1 = 1, ∀ (i_1 : Nat), i_1 < (1 : Nat) → pget [((0 : Nat), AV.int IntKind.u8 (IntKind.wrap IntKind.u8 (IntKind.i64.wrap ((↑i : Int) - (2 : Int)))))] i_1 = AV.int IntKind.u8 (iv (pget [((0 : Nat), AV.int IntKind.u8 (IntKind.wrap IntKind.u8 (IntKind.i64.wrap ((↑i : Int) - (2 : Int)))))] i_1)), List.all [decide ((↑i : Int) ≥ (2 : Int))] id = true, List.all [!bif bif bif bif (0 : Int) != (0 : Int) then true else (0 : Int) != (0 : Int) then true else (↑(List.length (PBx i)) : Int) != (2 : Int) then true else (↑(List.length (PBx i)) : Int) != (2 : Int) then true else !ByteArray.toList (mkStr (List.length (List.getD (PBx i) (Int.toNat (0 : Int)) [])) (nU (List.getD (PBx i) (Int.toNat (0 : Int)) []))) == ByteArray.toList (mkStr (List.length (List.getD (PBx i) (Int.toNat (0 : Int)) [])) (nU (List.getD (PBx i) (Int.toNat (0 : Int)) [])))] id = true]) (s' := ⟨[(0, 0, zB false), (0, 1, zP 1), (0, 3, zP 2), (0, 10, zI i), (0, 148, zB (bif bif bif bif bif 0 != 0 then true else 0 != 0 then true else (↑(List.length (PBx i)) : Int) != 2 then true else (↑(List.length (PBx i)) : Int) != 2 then true else !ByteArray.toList (mkStr (List.length (List.getD (PBx i) (Int.toNat 0) [])) (nU (List.getD (PBx i) (Int.toNat 0) []))) == ByteArray.toList (mkStr (List.length (List.getD (PBx i) (Int.toNat 0) [])) (nU (List.getD (PBx i) (Int.toNat 0) []))) then true else bif decide ((↑i : Int) ≥ 2) then !ByteArray.toList (mkStr (List.length (List.getD (PBx i) (Int.toNat 0) [])) (nU (List.getD (PBx i) (Int.toNat 0) []))) == ByteArray.toList (mkStr 1 (pget [(0, AV.int IntKind.u8 (IntKind.wrap IntKind.u8 (IntKind.i64.wrap ((↑i : Int) - 2))))])) else false)), (1, 0, zI ((advP (itA P1 i)).me)), (1, 1, zI ((advP (itA P1 i)).n)), (1, 2, zI ((advP (itA P1 i)).turn)), (1, 3, zI ((advP (itA P1 i)).iss)), (1, 4, .arr 8 (nI ((advP (itA P1 i)).hd))), (1, 12, zM 3), (1, 13, zM 4), (1, 14, .top), (2, 0, zI ((advP (itA Q1 i)).me)), (2, 1, zI ((advP (itA Q1 i)).n)), (2, 2, zI ((advP (itA Q1 i)).turn)), (2, 3, zI ((advP (itA Q1 i)).iss)), (2, 4, .arr 8 (nI ((advP (itA Q1 i)).hd))), (2, 12, zM 5), (2, 13, zM 6), (2, 14, .top), (3, 0, .map 2 (smap ((advP (itA P1 i)).sets))), (4, 0, .map 2 (wmap ((advP (itA P1 i)).words))), (5, 0, .map 2 (smap ((advP (itA Q1 i)).sets))), (6, 0, .map 2 (wmap ((advP (itA Q1 i)).words)))], 1895, 169⟩) (by kernel_rfl) (by kernel_rfl) ?_ ?_
     ·rw [hx, hd]
      simp only [All]
      (repeat' apply And.intro) <;> first | trivial | rfl | exact .inr rfl | exact fun _ _ => rfl | exact pget_one _ | simp
     have hw : IntKind.u8.wrap (IntKind.i64.wrap ((i : Int) - 2)) = (i : Int) - 2 := by
      rw [i64_in ((i : Int) - 2) (by omega), IntKind.wrap_u8]
      omega
     rw [hx, hw]
     refine evC_if (q := bif bif bif bif bif 0 != 0 then true else 0 != 0 then true else (↑(List.length [[(↑i : Int) - 2], []]) : Int) != 2 then true else (↑(List.length [[(↑i : Int) - 2], []]) : Int) != 2 then true else !ByteArray.toList (mkStr (List.length (List.getD [[(↑i : Int) - 2], []] (Int.toNat 0) [])) (nU (List.getD [[(↑i : Int) - 2], []] (Int.toNat 0) []))) == ByteArray.toList (mkStr (List.length (List.getD [[(↑i : Int) - 2], []] (Int.toNat 0) [])) (nU (List.getD [[(↑i : Int) - 2], []] (Int.toNat 0) []))) then true else bif decide ((↑i : Int) ≥ 2) then !ByteArray.toList (mkStr (List.length (List.getD [[(↑i : Int) - 2], []] (Int.toNat 0) [])) (nU (List.getD [[(↑i : Int) - 2], []] (Int.toNat 0) []))) == ByteArray.toList (mkStr 1 (pget [(0, AV.int IntKind.u8 ((↑i : Int) - 2))])) else false) (by kernel_rfl) (fun hc => ?_) (fun hc => ?_)
     ·exfalso
      have e1 : mkStr 1 (pget [(0, AV.int IntKind.u8 ((i : Int) - 2))]) = mkStr 1 (nU [(i : Int) - 2]) := rfl
      rw [e1] at hc
      simp at hc
     clear hc
     refine evC_skip ?_
     refine block_normal ?_
     refine then_normal ?_
     refine evC_goL0K (s' := ⟨[(0, 0, zB false), (0, 1, zP 1), (0, 3, zP 2), (0, 10, zI (IntKind.i64.wrap ((↑i : Int) + 1))), (1, 0, zI ((advP (itA P1 i)).me)), (1, 1, zI ((advP (itA P1 i)).n)), (1, 2, zI ((advP (itA P1 i)).turn)), (1, 3, zI ((advP (itA P1 i)).iss)), (1, 4, .arr 8 (nI ((advP (itA P1 i)).hd))), (1, 12, zM 3), (1, 13, zM 4), (1, 14, .top), (2, 0, zI ((advP (itA Q1 i)).me)), (2, 1, zI ((advP (itA Q1 i)).n)), (2, 2, zI ((advP (itA Q1 i)).turn)), (2, 3, zI ((advP (itA Q1 i)).iss)), (2, 4, .arr 8 (nI ((advP (itA Q1 i)).hd))), (2, 12, zM 5), (2, 13, zM 6), (2, 14, .top), (3, 0, .map 2 (smap ((advP (itA P1 i)).sets))), (4, 0, .map 2 (wmap ((advP (itA P1 i)).words))), (5, 0, .map 2 (smap ((advP (itA Q1 i)).sets))), (6, 0, .map 2 (wmap ((advP (itA Q1 i)).words)))], 1991, 169⟩) ?_
     refine round_normal (⟨i + 1, hlt⟩) (wk_go [1, 2, 3, 4, 5, 6] rfl (by decide) rfl rfl ⟨⟨_, rfl, rfl⟩, ⟨_, rfl, rfl⟩, ⟨_, rfl, rfl⟩, ⟨_, rfl, ?_⟩, ⟨_, rfl, rfl⟩, ⟨_, rfl, rfl⟩, ⟨_, rfl, rfl⟩, ⟨_, rfl, rfl⟩, ⟨_, rfl, ⟨rfl, fun _ _ => rfl⟩⟩, ⟨_, rfl, rfl⟩, ⟨_, rfl, rfl⟩, ⟨_, rfl, trivial⟩, ⟨_, rfl, rfl⟩, ⟨_, rfl, rfl⟩, ⟨_, rfl, rfl⟩, ⟨_, rfl, rfl⟩, ⟨_, rfl, ⟨rfl, fun _ _ => rfl⟩⟩, ⟨_, rfl, rfl⟩, ⟨_, rfl, rfl⟩, ⟨_, rfl, trivial⟩, ⟨_, rfl, Go.Eng.S25.cw_smap _⟩, ⟨_, rfl, cw_map (Go.Eng.S25.flat_wmap _)⟩, ⟨_, rfl, Go.Eng.S25.cw_smap _⟩, ⟨_, rfl, cw_map (Go.Eng.S25.flat_wmap _)⟩, trivial⟩) ?_
     ·show AV.int .i64 _ = AV.int .i64 _
      rw [i64_in ((i : Int) + 1) (by omega)]
      rfl
     ·show 8 - (i + 1) < 8 - i
      omega
   ·have hi8 : i = 8 := by have := of_decide_eq_false hc; omega
    subst hi8
    clear hc
    obtain ⟨e1, e2⟩ := end8
    refine evC_exit ?_
    refine then_exit ?_
    refine round_exit ?_
    refine block_exit ?_
    refine then_normal ?_
    refine evC_goK (ps := [(0 < 1 ∧ 0 < 3 ∧ 0 < 4 ∧ 1 ≠ 3 ∧ 1 ≠ 4 ∧ 3 ≠ 4) ∧ smap ((itA P1 (8 : Nat)).sets) = smap (sOf (smap ((itA P1 (8 : Nat)).sets))) ∧ wmap ((itA P1 (8 : Nat)).words) = wmap (wOf (wmap ((itA P1 (8 : Nat)).words))) ∧ ∀ (i : Nat), i < (8 : Nat) → nI ((itA P1 (8 : Nat)).hd) i = nI (If (nI ((itA P1 (8 : Nat)).hd))) i, okT (etP (itA P1 (8 : Nat))), OkP (etP (itA P1 (8 : Nat)))]) (s' := ⟨[(0, 0, zB false), (0, 1, zP 1), (0, 16, zI (advE (etP (itA P1 8)))), (1, 0, zI ((advP (etP (itA P1 8))).me)), (1, 1, zI ((advP (etP (itA P1 8))).n)), (1, 2, zI ((advP (etP (itA P1 8))).turn)), (1, 3, zI ((advP (etP (itA P1 8))).iss)), (1, 4, .arr 8 (nI ((advP (etP (itA P1 8))).hd))), (1, 12, zM 3), (1, 13, zM 4), (1, 14, .top), (3, 0, .map 2 (smap ((advP (etP (itA P1 8))).sets))), (4, 0, .map 2 (wmap ((advP (etP (itA P1 8))).words)))], 295, 169⟩) ?_ ?_
    ·rw [peer_eta]
     exact ⟨peer_side _ (by decide), o1, o3⟩
    rw [peer_eta, e1]
    have e3 : advP (itA P1 8) = itA P1 8 := by
     unfold advE at e1
     unfold advP
     cases hk : advK (itA P1 8) (itA P1 8).n.toNat with
     | true => rw [hk] at e1; cases e1
     | false => rfl
    rw [e3]
    generalize itA P1 8 = R at *
    refine evC_goK (ps := [List.all [(6 : Int) == (6 : Int)] id = true → (0 < 1 ∧ 0 < 3 ∧ 0 < 4 ∧ 1 ≠ 3 ∧ 1 ≠ 4 ∧ 3 ≠ 4) ∧ smap R.sets = smap (sOf (smap R.sets)) ∧ wmap R.words = wmap (wOf (wmap R.words)) ∧ ∀ (i : Nat), i < (8 : Nat) → nI R.hd i = nI (If (nI R.hd)) i]) (s' := ⟨[(0, 0, zB (bif bif bif bif bif 6 == 6 then R.turn == 8 else false then true else false then true else false then true else false then true else false))], 807, 169⟩) ?_ ?_
    ·exact fun _ => peer_side R (by decide)
    rw [e2]
    refine evC_ret ?_
    refine post_ret ?_
    refine ends_flat (vs := [AV.bool true]) (Nat.zero_lt_succ _) (by kernel_rfl) (flat_of _ (by kernel_rfl)) rfl ?_
    rfl
 ·cases e
end Go.Eng.S25