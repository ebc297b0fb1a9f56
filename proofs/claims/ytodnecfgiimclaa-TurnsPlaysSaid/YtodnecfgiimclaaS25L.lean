/- Seat 25: a turn's end, walked. -/
import Derived.Test.YtodnecfgiimclaaEngX
import Derived.Test.YtodnecfgiimclaaS25J
set_option linter.unusedSimpArgs false
set_option linter.unusedVariables false
set_option maxHeartbeats 2000000
namespace Go.Eng.S25
open Go.Proofs Go.IntWalk
set_option maxRecDepth 10000
def advL (P : Peer) : Nat → List (List Int)
 | 0 => []
 | k + 1 => advL P k ++ [knownL P P.turn (k : Nat)]
def advK (P : Peer) : Nat → Bool
 | 0 => true
 | k + 1 => advK P k && knownB P P.turn (k : Nat)
theorem advK_not {P : Peer} : ∀ {n k : Nat}, k < n → knownB P P.turn (k : Nat) = false → advK P n = false
 | 0, k, hk, _ => by omega
 | n + 1, k, hk, h => by
   simp only [advK]
   rcases Nat.lt_or_ge k n with hlt | hge
   ·rw [advK_not hlt h]; rfl
   ·have : k = n := by omega
    subst this; rw [h, Bool.and_false]
theorem advL_len (P : Peer) : ∀ k, (advL P k).length = k
 | 0 => rfl
 | k + 1 => by rw [advL, List.length_append, advL_len P k]; rfl
def advE (P : Peer) : Int := bif advK P P.n.toNat then 0 else 6
def advP (P : Peer) : Peer := bif advK P P.n.toNat then ⟨P.me, P.n, P.turn + 1, P.iss, P.hd, P.sets, P.words⟩ else P
def advS (P : Peer) : List (List Int) := bif advK P P.n.toNat then advL P P.n.toNat else []
theorem knownL_ok {P : Peer} (h : OkP P) (t q : Int) : (knownL P t q).length ≤ 704 ∧ IsU (knownL P t q) := by
 unfold knownL
 cases decide (t < 2) with
 | true => exact ⟨Nat.zero_le _, fun x hx => by cases hx⟩
 | false =>
   show ((kget P.sets t q).getD []).length ≤ 704 ∧ IsU ((kget P.sets t q).getD [])
   cases e : kget P.sets t q with
   | none => exact ⟨Nat.zero_le _, fun x hx => by cases hx⟩
   | some L => exact h.sets _ (kget_mem e)
def sAdvance : Spec := fun args hr nb => match args with
 | [v] => withPeer hr v fun n b c P s rd => some ⟨[s, okT P, OkP P], .tup [.vs nb, .int .i64 (advE P)], rd, pcon n b c (advP P) ++ [(nb, 0, .vec 1 30 (advS P).length (nB (advS P)))]⟩
 | _ => none
def etP (P : Peer) : Peer := ⟨P.me, P.n, P.turn, P.iss, If (nI P.hd), sOf (smap P.sets), wOf (wmap P.words)⟩
theorem peer_eta (P : Peer) : etP P = P := by
 unfold etP
 rw [sOf_smap, wOf_wmap]
 rfl
theorem peer_side {q : Prop} (P : Peer) (h : q) : q ∧ smap P.sets = smap (sOf (smap P.sets)) ∧ wmap P.words = wmap (wOf (wmap P.words)) ∧ ∀ i, i < 8 → nI P.hd i = nI (If (nI P.hd)) i :=
 ⟨h, by rw [sOf_smap], by rw [wOf_wmap], fun i _ => rfl⟩
theorem advance_ok : SpecOK Try.prog 13 sAdvance := by
 refine spec_at (by kernel_rfl) T_ok (sget_cons known_ok sget_nil) Try.func13 rfl rfl fun args hr nb out e => ?_
 unfold sAdvance at e
 split at e
 ·rename_i v
  obtain ⟨n, b, c, P, s, rd, rfl, e, hrd, hs0, hs1, hs2⟩ := peer_open e
  injection e with e; subst e
  refine ⟨hrd, true, [n, b, c], [.ptr 1 0], pcon 1 2 3 P, rfl, fun hs => ?_⟩
  obtain ⟨k1, k2, k3⟩ := hs0 (hs _ List.mem_cons_self)
  have k4 := fun fin P' U => hs2 (hs _ List.mem_cons_self) [] nb fin P' U
  obtain ⟨hT1, hT2⟩ := hs _ (List.mem_cons_of_mem _ List.mem_cons_self)
  have hok := hs _ (List.mem_cons_of_mem _ (List.mem_cons_of_mem _ List.mem_cons_self))
  refine ⟨k1, fun z hz => ⟨(k2 z hz).1, (k2 z hz).2 _ fun x hx => hx⟩, .cons _ _ _ _ (.name _ _ _ rfl) .nil, k3 _ _, ?_⟩
  clear hs hs0 hs1 hs2 k1 k2 k3 hrd
  obtain ⟨hn1, hn2⟩ := hok.n
  obtain ⟨N, hN⟩ := Int.eq_ofNat_of_zero_le (by omega : 0 ≤ P.n)
  have eE : advE P = bif advK P N then 0 else 6 := by unfold advE; rw [hN]; rfl
  have eP : advP P = bif advK P N then ⟨P.me, P.n, P.turn + 1, P.iss, P.hd, P.sets, P.words⟩ else P := by unfold advP; rw [hN]; rfl
  have eS : advS P = bif advK P N then advL P N else [] := by unfold advS; rw [hN]; rfl
  rw [eE, eP, eS]
  clear eE eP eS
  obtain ⟨A, hA⟩ : ∃ A, A = advK P N := ⟨_, rfl⟩
  rw [← hA]
  unfold pcon
  refine evC_go0K (s' := ⟨[(0, 0, zP 1), (0, 2, .cell AV.nils), (0, 3, zI 0), (1, 0, zI P.me), (1, 1, zI P.n), (1, 2, zI P.turn), (1, 3, zI P.iss), (1, 4, .arr 8 (nI P.hd)), (1, 12, zM 2), (1, 13, zM 3), (1, 14, .top), (2, 0, .map 2 (smap P.sets)), (3, 0, .map 2 (wmap P.words))], 68, 43⟩) ?_
  refine evC_go0K (s' := ⟨[(0, 0, zP 1), (0, 2, .cell AV.nils), (0, 3, zI 0), (0, 4, .cell AV.nils), (1, 0, zI P.me), (1, 1, zI P.n), (1, 2, zI P.turn), (1, 3, zI P.iss), (1, 4, .arr 8 (nI P.hd)), (1, 12, zM 2), (1, 13, zM 3), (1, 14, .top), (2, 0, .map 2 (smap P.sets)), (3, 0, .map 2 (wmap P.words))], 100, 43⟩) ?_
  refine evC_wk _ (.nil 0 4 1 30 (fun _ => .nils) (Nat.le_of_ble_eq_true rfl) rfl) ?_
  refine evC_seq ?_
  refine evC_go0K (s' := ⟨[(0, 0, zP 1), (0, 2, .cell AV.nils), (0, 3, zI 0), (0, 4, zV 100), (0, 11, zI P.n), (0, 12, zI 0), (1, 0, zI P.me), (1, 1, zI P.n), (1, 2, zI P.turn), (1, 3, zI P.iss), (1, 4, .arr 8 (nI P.hd)), (1, 12, zM 2), (1, 13, zM 3), (1, 14, .top), (2, 0, .map 2 (smap P.sets)), (3, 0, .map 2 (wmap P.words)), (100, 0, .vec 1 30 0 fun x => AV.nils)], 261, 43⟩) ?_
  refine evC_block ?_
  refine evC_loop (ι := { k : Nat // k ≤ N ∧ advK P k = true }) (fun k => ⟨[(0, 0, zP 1), (0, 2, Cont.cell AV.nils), (0, 3, zI 0), (0, 4, zV 4), (0, 11, zI P.n), (0, 12, zI (k.1 : Nat)), (1, 0, zI P.me), (1, 1, zI P.n), (1, 2, zI P.turn), (1, 3, zI P.iss), (1, 4, Cont.arr 8 (nI P.hd)), (1, 12, zM 2), (1, 13, zM 3), (1, 14, Cont.top), (2, 0, Cont.map 2 (smap P.sets)), (3, 0, Cont.map 2 (wmap P.words)), (4, 0, .vec 1 30 (advL P k.1).length (nB (advL P k.1)))], 5, 43⟩) (fun k => N - k.1) ⟨0, Nat.zero_le _, rfl⟩ (wk_go [100] rfl (by decide) rfl rfl ⟨⟨_, rfl, rfl⟩, ⟨_, rfl, rfl⟩, ⟨_, rfl, rfl⟩, ⟨_, rfl, rfl⟩, ⟨_, rfl, rfl⟩, ⟨_, rfl, rfl⟩, ⟨_, rfl, rfl⟩, ⟨_, rfl, rfl⟩, ⟨_, rfl, rfl⟩, ⟨_, rfl, rfl⟩, ⟨_, rfl, rfl, fun _ _ => rfl⟩, ⟨_, rfl, rfl⟩, ⟨_, rfl, rfl⟩, ⟨_, rfl, trivial⟩, ⟨_, rfl, Go.Eng.S25.cw_smap _⟩, ⟨_, rfl, cw_map (Go.Eng.S25.flat_wmap _)⟩, ⟨_, rfl, ⟨rfl, rfl, rfl, fun _ hi => absurd hi (Nat.not_lt_zero _)⟩⟩, trivial⟩) ?_
  rintro ⟨k, hk, hK⟩
  refine evC_go0K (s' := ⟨[(0, 0, zP 1), (0, 2, .cell AV.nils), (0, 3, zI 0), (0, 4, zV 4), (0, 11, zI P.n), (0, 12, zI k), (0, 13, zB (decide ((↑k : Int) < P.n))), (1, 0, zI P.me), (1, 1, zI P.n), (1, 2, zI P.turn), (1, 3, zI P.iss), (1, 4, .arr 8 (nI P.hd)), (1, 12, zM 2), (1, 13, zM 3), (1, 14, .top), (2, 0, .map 2 (smap P.sets)), (3, 0, .map 2 (wmap P.words)), (4, 0, .vec 1 30 (List.length (advL P k)) (nB (advL P k)))], 37, 43⟩) ?_
  refine evC_seq ?_
  refine evC_if (q := decide ((↑k : Int) < P.n)) (by kernel_rfl) (fun hc => ?_) (fun hc => ?_)
  ·have hlt : k < N := by have := of_decide_eq_true hc; omega
   clear hc
   have hkl := knownL_ok hok P.turn (k : Int)
   refine evC_skip ?_
   refine then_normal ?_
   refine evC_seq ?_
   refine evC_block ?_
   refine evC_go0K (s' := ⟨[(0, 0, zP 1), (0, 2, .cell AV.nils), (0, 3, zI 0), (0, 4, zV 4), (0, 5, zI k), (0, 11, zI P.n), (0, 12, zI k), (1, 0, zI P.me), (1, 1, zI P.n), (1, 2, zI P.turn), (1, 3, zI P.iss), (1, 4, .arr 8 (nI P.hd)), (1, 12, zM 2), (1, 13, zM 3), (1, 14, .top), (2, 0, .map 2 (smap P.sets)), (3, 0, .map 2 (wmap P.words)), (4, 0, .vec 1 30 (List.length (advL P k)) (nB (advL P k)))], 101, 43⟩) ?_
   refine evC_goK (ps := [(0 < 1 ∧ 0 < 2 ∧ 0 < 3 ∧ 1 ≠ 2 ∧ 1 ≠ 3 ∧ 2 ≠ 3) ∧ smap P.sets = smap (sOf (smap P.sets)) ∧ wmap P.words = wmap (wOf (wmap P.words)) ∧ ∀ (i : Nat), i < (8 : Nat) → nI P.hd i = nI (If (nI P.hd)) i]) (s' := ⟨[(0, 0, zP 1), (0, 2, .cell AV.nils), (0, 3, zI 0), (0, 4, zV 4), (0, 6, .cell (AV.rs 1 (List.length (knownL (etP P) P.turn (↑k : Int))) false (nU (knownL (etP P) P.turn (↑k : Int))))), (0, 7, zB (knownB (etP P) P.turn (↑k : Int))), (0, 11, zI P.n), (0, 12, zI k), (1, 0, zI P.me), (1, 1, zI P.n), (1, 2, zI P.turn), (1, 3, zI P.iss), (1, 4, .arr 8 (nI P.hd)), (1, 12, zM 2), (1, 13, zM 3), (1, 14, .top), (2, 0, .map 2 (smap P.sets)), (3, 0, .map 2 (wmap P.words)), (4, 0, .vec 1 30 (List.length (advL P k)) (nB (advL P k)))], 517, 43⟩) ?_ ?_
   ·exact peer_side P (by decide)
   rw [peer_eta]
   refine evC_seq ?_
   refine evC_go0K (s' := ⟨[(0, 0, zP 1), (0, 2, .cell AV.nils), (0, 3, zI 0), (0, 4, zV 4), (0, 6, .cell (AV.rs 1 (List.length (knownL P P.turn (↑k : Int))) false (nU (knownL P P.turn (↑k : Int))))), (0, 11, zI P.n), (0, 12, zI k), (0, 27, zB (!knownB P P.turn (↑k : Int))), (1, 0, zI P.me), (1, 1, zI P.n), (1, 2, zI P.turn), (1, 3, zI P.iss), (1, 4, .arr 8 (nI P.hd)), (1, 12, zM 2), (1, 13, zM 3), (1, 14, .top), (2, 0, .map 2 (smap P.sets)), (3, 0, .map 2 (wmap P.words)), (4, 0, .vec 1 30 (List.length (advL P k)) (nB (advL P k)))], 581, 43⟩) ?_
   refine evC_if (q := !knownB P P.turn (↑k : Int)) (by kernel_rfl) (fun hc => ?_) (fun hc => ?_)
   ·have hb : knownB P P.turn (k : Int) = false := by simpa using hc
    obtain rfl : A = false := by rw [hA, advK_not hlt hb]
    refine evC_go0K (s' := ⟨[(0, 0, zP 1), (0, 2, .cell AV.nils), (0, 3, zI 6), (0, 4, zV 4), (0, 6, .cell (AV.rs 1 (List.length (knownL P P.turn (↑k : Int))) false (nU (knownL P P.turn (↑k : Int))))), (0, 11, zI P.n), (0, 12, zI k), (1, 0, zI P.me), (1, 1, zI P.n), (1, 2, zI P.turn), (1, 3, zI P.iss), (1, 4, .arr 8 (nI P.hd)), (1, 12, zM 2), (1, 13, zM 3), (1, 14, .top), (2, 0, .map 2 (smap P.sets)), (3, 0, .map 2 (wmap P.words)), (4, 0, .vec 1 30 (List.length (advL P k)) (nB (advL P k)))], 645, 43⟩) ?_
    refine evC_wk _ (.nil 0 2 1 30 (fun _ => .nils) (Nat.le_of_ble_eq_true rfl) rfl) ?_
    refine evC_ret ?_
    refine then_ret ?_
    refine block_ret ?_
    refine then_ret ?_
    refine round_ret ?_
    refine block_ret ?_
    refine then_ret ?_
    refine post_ret ?_
    refine ends_go [645] (AV.tup [AV.vs 4, AV.int IntKind.i64 6]) [(1, 0, zI P.me), (1, 1, zI P.n), (1, 2, zI P.turn), (1, 3, zI P.iss), (1, 4, .arr 8 (nI P.hd)), (1, 12, zM 2), (1, 13, zM 3), (1, 14, .top), (2, 0, .map 2 (smap P.sets)), (3, 0, .map 2 (wmap P.words)), (4, 0, .vec 1 30 0 fun x => AV.nils)] rfl (by decide) rfl rfl (has_of _ rfl) rfl ⟨⟨_, rfl, rfl⟩, ⟨_, rfl, rfl⟩, ⟨_, rfl, rfl⟩, ⟨_, rfl, rfl⟩, ⟨_, rfl, ⟨rfl, fun _ _ => rfl⟩⟩, ⟨_, rfl, rfl⟩, ⟨_, rfl, rfl⟩, ⟨_, rfl, trivial⟩, ⟨_, rfl, Go.Eng.S25.cw_smap _⟩, ⟨_, rfl, cw_map (Go.Eng.S25.flat_wmap _)⟩, ⟨_, rfl, ⟨rfl, rfl, rfl, fun _ _ => rfl⟩⟩, trivial⟩ ⟨fun _ => ⟨1, _, rfl, rfl, rfl, ⟨has_of _ rfl, rfl⟩⟩, fun _ => ⟨1, _, rfl, rfl, rfl, ⟨has_of _ rfl, rfl⟩⟩, fun _ => ⟨1, _, rfl, rfl, rfl, ⟨has_of _ rfl, rfl⟩⟩, fun _ => ⟨1, _, rfl, rfl, rfl, ⟨has_of _ rfl, rfl⟩⟩, fun _ => ⟨1, _, rfl, rfl, rfl, ⟨rfl, fun _ _ => ⟨has_of _ rfl, rfl⟩⟩⟩, fun _ => ⟨1, _, rfl, rfl, rfl, ⟨has_of _ rfl, rfl⟩⟩, fun _ => ⟨1, _, rfl, rfl, rfl, ⟨has_of _ rfl, rfl⟩⟩, fun _ => ⟨1, _, rfl, rfl, rfl, trivial⟩, fun _ => ⟨2, _, rfl, rfl, rfl, Go.Eng.S25.cf_smap _⟩, fun _ => ⟨3, _, rfl, rfl, rfl, cf_map (Go.Eng.S25.flat_wmap _)⟩, fun _ => ⟨4, _, rfl, rfl, rfl, ⟨rfl, rfl, rfl, fun _ hi => absurd hi (Nat.not_lt_zero _)⟩⟩, trivial⟩ ?_
    ·exact k4 _ _ _ rfl
   ·have hb : knownB P P.turn (k : Int) = true := by simpa using hc
    clear hc
    have hadv : advL P (k + 1) = advL P k ++ [knownL P P.turn (k : Int)] := rfl
    have hll := advL_len P k
    generalize knownL P P.turn (k : Int) = S at hkl hadv ⊢
    generalize advL P k = acc at hadv hll ⊢
    refine evC_skip ?_
    refine then_normal ?_
    refine evC_goLK (ps := [((0 : Nat) + S.length) * 1 ≤ 140737488355328, (0 : Nat) + S.length ≤ maxLen, S.length = (0 : Nat) ∨ 1 = 1, 1 = 1, 5 = 5, (acc.length + (1 : Nat)) * 24 ≤ 140737488355328, acc.length + (1 : Nat) ≤ maxLen, 1 = 0 ∨ 1 = 1, 1 = 1, 30 = 30]) (s' := ⟨[(0, 0, zP 1), (0, 2, .cell AV.nils), (0, 3, zI 0), (0, 4, zV 741), (0, 11, zI P.n), (0, 12, zI k), (1, 0, zI P.me), (1, 1, zI P.n), (1, 2, zI P.turn), (1, 3, zI P.iss), (1, 4, .arr 8 (nI P.hd)), (1, 12, zM 2), (1, 13, zM 3), (1, 14, .top), (2, 0, .map 2 (smap P.sets)), (3, 0, .map 2 (wmap P.words)), (677, 0, .vec 1 5 (0 + S.length) (catF 0 (pget []) (nU S))), (741, 0, .vec 1 30 (acc.length + 1) (catF acc.length (nB acc) (pget [(0, AV.vs 677)])))], 805, 43⟩) ?_ ?_
    ·(simp only [All]; (repeat' apply And.intro) <;> (try intro _) <;> (try intro _) <;> (repeat' apply And.intro) <;> (try intro _) <;> (try intro _) <;> first | trivial | assumption | exact .inr trivial | exact .inr rfl | omega | rfl | exact ⟨_, rfl, rfl⟩ | exact ⟨rfl, rfl⟩ | exact ⟨fun _ => rfl, fun _ => rfl⟩ | (unfold maxLen; omega) | (unfold i64R; first | omega | decide) | decide)
    refine block_normal ?_
    refine then_normal ?_
    refine evC_wk (s' := ⟨[(0, 0, zP 1), (0, 2, Cont.cell AV.nils), (0, 3, zI 0), (0, 4, zV 4), (0, 11, zI P.n), (0, 12, zI k), (1, 0, zI P.me), (1, 1, zI P.n), (1, 2, zI P.turn), (1, 3, zI P.iss), (1, 4, Cont.arr 8 (nI P.hd)), (1, 12, zM 2), (1, 13, zM 3), (1, 14, Cont.top), (2, 0, Cont.map 2 (smap P.sets)), (3, 0, Cont.map 2 (wmap P.words)), (4, 0, Cont.vec 1 30 (acc.length + 1) (catF acc.length (nB acc) (pget [(0, AV.vs 5)]))), (5, 0, .vec 1 5 S.length (nU S))], 6, 43⟩) _ (wk_go [741, 677] rfl (by decide) rfl rfl ⟨⟨_, rfl, rfl⟩, ⟨_, rfl, rfl⟩, ⟨_, rfl, rfl⟩, ⟨_, rfl, rfl⟩, ⟨_, rfl, rfl⟩, ⟨_, rfl, rfl⟩, ⟨_, rfl, rfl⟩, ⟨_, rfl, rfl⟩, ⟨_, rfl, rfl⟩, ⟨_, rfl, rfl⟩, ⟨_, rfl, rfl, fun _ _ => rfl⟩, ⟨_, rfl, rfl⟩, ⟨_, rfl, rfl⟩, ⟨_, rfl, trivial⟩, ⟨_, rfl, Go.Eng.S25.cw_smap _⟩, ⟨_, rfl, cw_map (Go.Eng.S25.flat_wmap _)⟩, ⟨_, rfl, ?_⟩, ⟨_, rfl, ?_⟩, trivial⟩) ?_
    ·exact cw_cat_vs _ _ _ _ _ _ rfl
    ·exact ⟨rfl, rfl, Nat.zero_add _, fun i hi => rfl⟩
    refine evC_wk (s' := ⟨[(0, 0, zP 1), (0, 2, Cont.cell AV.nils), (0, 3, zI 0), (0, 4, zV 4), (0, 11, zI P.n), (0, 12, zI k), (1, 0, zI P.me), (1, 1, zI P.n), (1, 2, zI P.turn), (1, 3, zI P.iss), (1, 4, Cont.arr 8 (nI P.hd)), (1, 12, zM 2), (1, 13, zM 3), (1, 14, Cont.top), (2, 0, Cont.map 2 (smap P.sets)), (3, 0, Cont.map 2 (wmap P.words)), (4, 0, Cont.vec 1 30 (acc.length + 1) (catF acc.length (nB acc) (pget [(0, AV.rs 1 S.length false (nU S))])))], 5, 43⟩) _ (.trans (.frz 5 1 5 S.length (nU S) (Nat.le_of_ble_eq_true rfl) rfl) (wk_go [4] rfl (by decide) rfl rfl ⟨⟨_, rfl, rfl⟩, ⟨_, rfl, rfl⟩, ⟨_, rfl, rfl⟩, ⟨_, rfl, rfl⟩, ⟨_, rfl, rfl⟩, ⟨_, rfl, rfl⟩, ⟨_, rfl, rfl⟩, ⟨_, rfl, rfl⟩, ⟨_, rfl, rfl⟩, ⟨_, rfl, rfl⟩, ⟨_, rfl, rfl, fun _ _ => rfl⟩, ⟨_, rfl, rfl⟩, ⟨_, rfl, rfl⟩, ⟨_, rfl, trivial⟩, ⟨_, rfl, Go.Eng.S25.cw_sfrz _⟩, ⟨_, rfl, Go.Eng.S25.cw_wfrz _⟩, ⟨_, rfl, ?_⟩, trivial⟩)) ?_
    ·exact cw_cat_frz _ _ _ _ _ _
    refine evC_wk (s' := ⟨[(0, 0, zP 1), (0, 2, Cont.cell AV.nils), (0, 3, zI 0), (0, 4, zV 4), (0, 11, zI P.n), (0, 12, zI k), (1, 0, zI P.me), (1, 1, zI P.n), (1, 2, zI P.turn), (1, 3, zI P.iss), (1, 4, Cont.arr 8 (nI P.hd)), (1, 12, zM 2), (1, 13, zM 3), (1, 14, Cont.top), (2, 0, Cont.map 2 (smap P.sets)), (3, 0, Cont.map 2 (wmap P.words)), (4, 0, .vec 1 30 (acc ++ [S]).length (nB (acc ++ [S])))], 5, 43⟩) _ (wk_go [4] rfl (by decide) rfl rfl ⟨⟨_, rfl, rfl⟩, ⟨_, rfl, rfl⟩, ⟨_, rfl, rfl⟩, ⟨_, rfl, rfl⟩, ⟨_, rfl, rfl⟩, ⟨_, rfl, rfl⟩, ⟨_, rfl, rfl⟩, ⟨_, rfl, rfl⟩, ⟨_, rfl, rfl⟩, ⟨_, rfl, rfl⟩, ⟨_, rfl, rfl, fun _ _ => rfl⟩, ⟨_, rfl, rfl⟩, ⟨_, rfl, rfl⟩, ⟨_, rfl, trivial⟩, ⟨_, rfl, Go.Eng.S25.cw_smap _⟩, ⟨_, rfl, cw_map (Go.Eng.S25.flat_wmap _)⟩, ⟨_, rfl, ?_⟩, trivial⟩) ?_
    ·exact ⟨rfl, rfl, by rw [List.length_append]; rfl, fun i hi => cat_nB acc S i (by rw [List.length_append] at hi; exact hi)⟩
    refine evC_goL0K (s' := ⟨[(0, 0, zP 1), (0, 2, .cell AV.nils), (0, 3, zI 0), (0, 4, zV 4), (0, 11, zI P.n), (0, 12, zI (IntKind.i64.wrap ((↑k : Int) + 1))), (1, 0, zI P.me), (1, 1, zI P.n), (1, 2, zI P.turn), (1, 3, zI P.iss), (1, 4, .arr 8 (nI P.hd)), (1, 12, zM 2), (1, 13, zM 3), (1, 14, .top), (2, 0, .map 2 (smap P.sets)), (3, 0, .map 2 (wmap P.words)), (4, 0, .vec 1 30 (List.length (acc ++ [S])) (nB (acc ++ [S])))], 69, 43⟩) ?_
    refine round_normal (⟨k + 1, hlt, by show (advK P k && knownB P P.turn (k : Int)) = true; rw [hK, hb]; rfl⟩) (wk_go [4] rfl (by decide) rfl rfl ⟨⟨_, rfl, rfl⟩, ⟨_, rfl, rfl⟩, ⟨_, rfl, rfl⟩, ⟨_, rfl, rfl⟩, ⟨_, rfl, rfl⟩, ⟨_, rfl, ?_⟩, ⟨_, rfl, rfl⟩, ⟨_, rfl, rfl⟩, ⟨_, rfl, rfl⟩, ⟨_, rfl, rfl⟩, ⟨_, rfl, ⟨rfl, fun _ _ => rfl⟩⟩, ⟨_, rfl, rfl⟩, ⟨_, rfl, rfl⟩, ⟨_, rfl, trivial⟩, ⟨_, rfl, Go.Eng.S25.cw_smap _⟩, ⟨_, rfl, cw_map (Go.Eng.S25.flat_wmap _)⟩, ⟨_, rfl, ?_⟩, trivial⟩) ?_
    ·show AV.int .i64 _ = AV.int .i64 _
     rw [i64_in ((k : Int) + 1) (by omega)]
     rfl
    ·refine ⟨rfl, rfl, ?_, fun i hi => ?_⟩
     ·show (acc ++ [S]).length = (advL P (k + 1)).length
      rw [hadv]
     ·show nB (acc ++ [S]) i = nB (advL P (k + 1)) i
      rw [hadv]
    ·show N - (k + 1) < N - k
     omega
  ·have hkN : k = N := by have := of_decide_eq_false hc; omega
   obtain rfl : A = true := by rw [hA, ← hkN]; exact hK
   clear hc
   simp only [cond_true]
   refine evC_exit ?_
   refine then_exit ?_
   refine round_exit ?_
   refine block_exit ?_
   refine then_normal ?_
   refine evC_go0K (s' := ⟨[(0, 2, .cell AV.nils), (0, 3, zI 0), (0, 4, zV 4), (1, 0, zI P.me), (1, 1, zI P.n), (1, 2, zI (IntKind.i64.wrap (P.turn + 1))), (1, 3, zI P.iss), (1, 4, .arr 8 (nI P.hd)), (1, 12, zM 2), (1, 13, zM 3), (1, 14, .top), (2, 0, .map 2 (smap P.sets)), (3, 0, .map 2 (wmap P.words)), (4, 0, .vec 1 30 (List.length (advL P k)) (nB (advL P k)))], 293, 43⟩) ?_
   rw [i64_in (P.turn + 1) (by omega)]
   refine evC_go0K (s' := ⟨[(0, 2, zV 4), (0, 3, zI 0), (1, 0, zI P.me), (1, 1, zI P.n), (1, 2, zI (P.turn + 1)), (1, 3, zI P.iss), (1, 4, .arr 8 (nI P.hd)), (1, 12, zM 2), (1, 13, zM 3), (1, 14, .top), (2, 0, .map 2 (smap P.sets)), (3, 0, .map 2 (wmap P.words)), (4, 0, .vec 1 30 (List.length (advL P k)) (nB (advL P k)))], 389, 43⟩) ?_
   refine evC_ret ?_
   refine post_ret ?_
   refine ends_go [4] (AV.tup [AV.vs 4, AV.int IntKind.i64 0]) [(1, 0, zI P.me), (1, 1, zI P.n), (1, 2, zI (P.turn + 1)), (1, 3, zI P.iss), (1, 4, .arr 8 (nI P.hd)), (1, 12, zM 2), (1, 13, zM 3), (1, 14, .top), (2, 0, .map 2 (smap P.sets)), (3, 0, .map 2 (wmap P.words)), (4, 0, .vec 1 30 (List.length (advL P k)) (nB (advL P k)))] rfl (by decide) rfl rfl (has_of _ rfl) rfl ⟨⟨_, rfl, rfl⟩, ⟨_, rfl, rfl⟩, ⟨_, rfl, rfl⟩, ⟨_, rfl, rfl⟩, ⟨_, rfl, ⟨rfl, fun _ _ => rfl⟩⟩, ⟨_, rfl, rfl⟩, ⟨_, rfl, rfl⟩, ⟨_, rfl, trivial⟩, ⟨_, rfl, Go.Eng.S25.cw_smap _⟩, ⟨_, rfl, cw_map (Go.Eng.S25.flat_wmap _)⟩, ⟨_, rfl, ⟨rfl, rfl, rfl, fun _ _ => rfl⟩⟩, trivial⟩ ⟨fun _ => ⟨1, _, rfl, rfl, rfl, ⟨has_of _ rfl, rfl⟩⟩, fun _ => ⟨1, _, rfl, rfl, rfl, ⟨has_of _ rfl, rfl⟩⟩, fun _ => ⟨1, _, rfl, rfl, rfl, ⟨has_of _ rfl, rfl⟩⟩, fun _ => ⟨1, _, rfl, rfl, rfl, ⟨has_of _ rfl, rfl⟩⟩, fun _ => ⟨1, _, rfl, rfl, rfl, ⟨rfl, fun _ _ => ⟨has_of _ rfl, rfl⟩⟩⟩, fun _ => ⟨1, _, rfl, rfl, rfl, ⟨has_of _ rfl, rfl⟩⟩, fun _ => ⟨1, _, rfl, rfl, rfl, ⟨has_of _ rfl, rfl⟩⟩, fun _ => ⟨1, _, rfl, rfl, rfl, trivial⟩, fun _ => ⟨2, _, rfl, rfl, rfl, Go.Eng.S25.cf_smap _⟩, fun _ => ⟨3, _, rfl, rfl, rfl, cf_map (Go.Eng.S25.flat_wmap _)⟩, ?_, trivial⟩ ?_
   ·rw [← hkN]
    exact fun _ => ⟨4, _, rfl, rfl, rfl, rfl, rfl, rfl, fun i hi => ⟨bs_has _, rfl⟩⟩
   ·exact k4 _ ⟨P.me, P.n, P.turn + 1, P.iss, P.hd, P.sets, P.words⟩ _ rfl
 ·cases e
end Go.Eng.S25
/- Seat 25: what a message does to a peer. Plain Lean. -/
set_option linter.unusedSimpArgs false
set_option linter.unusedVariables false
set_option maxHeartbeats 2000000
namespace Go.Eng.S25
theorem no_sets : ∀ S ∈ ([] : List (List Int)), S.length ≤ 704 ∧ IsU S := fun S hS => by cases hS
theorem cutA_ok : ∀ (k : Nat) {R : List Int} {acc : List (List Int)}, IsU R → (∀ S ∈ acc, S.length ≤ 704 ∧ IsU S) → (∀ S ∈ (cutA k R acc).1, S.length ≤ 704 ∧ IsU S) ∧ (cutA k R acc).1.length ≤ acc.length + k
 | 0, R, acc, hR, ha => by
   simp only [cutA]
   cases Nat.blt 0 R.length with
   | true => exact ⟨no_sets, Nat.zero_le _⟩
   | false => exact ⟨ha, Nat.le_refl _⟩
 | k + 1, R, acc, hR, ha => by
   simp only [cutA]
   cases Nat.blt R.length 2 with
   | true => exact ⟨no_sets, Nat.zero_le _⟩
   | false =>
     cases h1 : decide (numL (R.take 2) > 704) with
     | true => exact ⟨no_sets, Nat.zero_le _⟩
     | false =>
       cases decide ((R.length : Int) < 2 + numL (R.take 2)) with
       | true => exact ⟨no_sets, Nat.zero_le _⟩
       | false =>
         have h1 := of_decide_eq_false h1
         have := cutA_ok k (R := R.drop (2 + (numL (R.take 2)).toNat)) (acc := acc ++ [(R.drop 2).take (numL (R.take 2)).toNat]) (isU_drop hR _) (fun S hS => by
          rcases List.mem_append.1 hS with hS | hS
          ·exact ha S hS
          ·rw [List.mem_singleton.1 hS]
           refine ⟨?_, isU_take (isU_drop hR _) _⟩
           rw [List.length_take]
           omega)
         rw [List.length_append, List.length_singleton] at this
         exact ⟨this.1, by have := this.2; simp only [cond_false]; omega⟩
theorem cutF_ok {L : List Int} (hL : IsU L) : (∀ S ∈ (cutF L).1, S.length ≤ 704 ∧ IsU S) ∧ (cutF L).1.length ≤ 255 := by
 unfold cutF
 cases h : Nat.blt L.length 19 with
 | true => exact ⟨no_sets, Nat.zero_le _⟩
 | false =>
   have h18 : ¬ L.length < 19 := fun hh => by rw [nblt_yes hh] at h; cases h
   have := ((isB hL).get 18 (by omega)).2
   have h0 : 0 ≤ L.getD 18 0 ∧ L.getD 18 0 ≤ 255 := this
   have := cutA_ok (L.getD 18 0).toNat (R := L.drop 19) (acc := []) (isU_drop hL _) (fun S hS => by cases hS)
   refine ⟨this.1, ?_⟩
   have := this.2
   rw [List.length_nil] at this
   simp only [cond_false]
   omega
theorem cutF_len {L : List Int} (h : (cutF L).2 = 0) : 19 ≤ L.length := by
 unfold cutF at h
 rcases Nat.lt_or_ge L.length 19 with hlt | hge
 ·rw [nblt_yes hlt] at h; cases h
 ·exact hge
def mFrom (L : List Int) : Int := L.getD 0 0
def mTo (L : List Int) : Int := L.getD 1 0
def mTurn (L : List Int) : Int := numL ((L.drop 2).take 4)
def mWord (L : List Int) : Int := numL ((L.drop 6).take 8)
def mFirst (L : List Int) : Int := numL ((L.drop 14).take 4)
def recE (P : Peer) (L : List Int) : Int := bif (cutF L).2 != 0 then (cutF L).2 else bif decide (mFrom L ≥ P.n) || (mFrom L == P.me) then 4 else bif mTo L != P.me then 11 else
 bif Nat.blt 0 (cutF L).1.length && decide (mFirst L + (cutF L).1.length - 1 ≥ P.turn + 16) then 10 else 0
def kn (S : List ((Int × Int) × List Int)) (t q : Int) : Bool := decide (t < 2) || (kget S t q).isSome
def recS (q first : Int) (Ls : List (List Int)) (S : List ((Int × Int) × List Int)) : Nat → List ((Int × Int) × List Int)
 | 0 => S
 | k + 1 => bif kn (recS q first Ls S k) (first + (k : Nat)) q then recS q first Ls S k else kput (recS q first Ls S k) (first + (k : Nat)) q (Ls.getD k [])
def recH (P : Peer) (L : List Int) : Nat → Int := fun i => bif i == (mFrom L).toNat then mx2 (P.hd i) (mTurn L) else P.hd i
def recW (P : Peer) (L : List Int) : List ((Int × Int) × Int) := bif !(kget P.words (mTurn L) (mFrom L)).isSome && decide (mTurn L > 0) && (mWord L != 0) then kput P.words (mTurn L) (mFrom L) (mWord L) else P.words
def recP (P : Peer) (L : List Int) : Peer := bif recE P L == 0 then ⟨P.me, P.n, P.turn, P.iss, recH P L, recS (mFrom L) (mFirst L) (cutF L).1 P.sets (cutF L).1.length, recW P L⟩ else P
theorem kput_mem {α : Type} : ∀ {S : List ((Int × Int) × α)} {t p : Int} {v : α} {x : (Int × Int) × α}, x ∈ kput S t p v → x ∈ S ∨ x.2 = v
 | [], _, _, _, x, h => by rw [List.mem_singleton.1 h]; exact .inr rfl
 | e :: S, t, p, v, x, h => by
   simp only [kput] at h
   cases hb : (t == e.1.1 && p == e.1.2) with
   | true =>
     rw [hb] at h
     rcases List.mem_cons.1 h with rfl | h
     ·exact .inr rfl
     ·exact .inl (List.mem_cons_of_mem _ h)
   | false =>
     rw [hb] at h
     rcases List.mem_cons.1 h with rfl | h
     ·exact .inl List.mem_cons_self
     ·exact (kput_mem h).imp (List.mem_cons_of_mem _) id
theorem mNum_rng {L : List Int} (hL : IsU L) (a k : Nat) : 0 ≤ numL ((L.drop a).take k) ∧ numL ((L.drop a).take k) < 256 ^ k := by
 have h := numL_rng (isU_take (isU_drop hL a) k)
 refine ⟨h.1, Int.lt_of_lt_of_le h.2 ?_⟩
 have h1 : ((L.drop a).take k).length ≤ k := by rw [List.length_take]; omega
 have h2 : (256 : Nat) ^ ((L.drop a).take k).length ≤ 256 ^ k := Nat.pow_le_pow_right (by omega) h1
 have := Int.ofNat_le.2 h2
 rwa [Int.natCast_pow, Int.natCast_pow] at this
theorem recS_ok {q first : Int} {Ls : List (List Int)} {S : List ((Int × Int) × List Int)} (hl : ∀ M ∈ Ls, M.length ≤ 704 ∧ IsU M) (h : ∀ x ∈ S, x.2.length ≤ 704 ∧ IsU x.2) : ∀ k, k ≤ Ls.length → ∀ x ∈ recS q first Ls S k, x.2.length ≤ 704 ∧ IsU x.2
 | 0, _ => h
 | k + 1, hk => by
   intro x hx
   simp only [recS] at hx
   cases hb : kn (recS q first Ls S k) (first + (k : Nat)) q with
   | true => rw [hb] at hx; exact recS_ok hl h k (by omega) x hx
   | false =>
     rw [hb] at hx
     rcases kput_mem hx with hx | hx
     ·exact recS_ok hl h k (by omega) x hx
     ·rw [hx, List.getD_eq_getElem?_getD, List.getElem?_eq_getElem (by omega : k < Ls.length)]
      exact hl _ (List.getElem_mem _)
theorem recP_ok {P : Peer} {L : List Int} (h : OkP P) (hL : IsU L) : OkP (recP P L) := by
 unfold recP
 cases recE P L == 0 with
 | false => exact h
 | true =>
   have t1 := mNum_rng hL 2 4
   have t2 := mNum_rng hL 6 8
   refine ⟨h.n, h.me, fun i hi => ?_, recS_ok (cutF_ok hL).1 h.sets _ (Nat.le_refl _), fun x hx => ?_⟩
   ·show 0 ≤ recH P L i ∧ recH P L i ≤ 4294967295
    unfold recH
    have := h.hd i hi
    have t3 : mTurn L = numL ((L.drop 2).take 4) := rfl
    cases i == (mFrom L).toNat with
    | true =>
      show 0 ≤ mx2 (P.hd i) (mTurn L) ∧ mx2 (P.hd i) (mTurn L) ≤ 4294967295
      unfold mx2
      split <;> omega
    | false => exact this
   ·have hx : x ∈ recW P L := hx
    unfold recW at hx
    cases hb : (!(kget P.words (mTurn L) (mFrom L)).isSome && decide (mTurn L > 0) && (mWord L != 0)) with
    | true =>
      rw [hb] at hx
      rcases kput_mem hx with hx | hx
      ·exact h.words x hx
      ·rw [hx]
       have t3 : mWord L = numL ((L.drop 6).take 8) := rfl
       omega
    | false => rw [hb] at hx; exact h.words x hx
end Go.Eng.S25