/- Seat 25: the document's Advance; whether sets are alike, walked. -/
import Derived.Test.YtodnecfgiimclaaEngX
import Derived.Test.YtodnecfgiimclaaS25DD
set_option linter.unusedSimpArgs false
set_option linter.unusedVariables false
set_option maxHeartbeats 2000000
namespace Go.Eng.S25
open Go.Proofs Go.IntWalk
set_option maxRecDepth 10000
def nSt (Ls : List (List Int)) (i : Nat) : AV := .str (strB (Ls.getD i []))
theorem cat_nSt (acc : List (List Int)) (S : List Int) {g : Nat → AV} (hg : g 0 = .str (strB S)) (i : Nat) (hi : i < acc.length + 1) : catF acc.length (nSt acc) g i = nSt (acc ++ [S]) i := by
 unfold catF
 rcases Nat.lt_or_ge i acc.length with h | h
 ·rw [nblt_yes h, cond_true]
  unfold nSt
  rw [List.getD_eq_getElem?_getD, List.getD_eq_getElem?_getD, List.getElem?_append_left h]
 ·have : i = acc.length := by omega
  subst this
  rw [nblt_no (by omega), cond_false, Nat.sub_self, hg]
  simp [nSt]
def sRAdvance : Spec := fun args hr nb => match args with
 | [v] => withRef hr v fun n b c P s rd => some ⟨[s, okT P, OkP P, OkR P], .tup [.vs nb, .int .i64 (advE P)], rd, rcon n b c (advP P) ++ [(nb, 0, .vec 1 9 (advS P).length (nSt (advS P)))]⟩
 | _ => none
theorem radvance_ok : SpecOK Try.prog 27 sRAdvance := by
 refine spec_at (by kernel_rfl) T_ok (sget_cons rknown_ok sget_nil) Try.func27 rfl rfl fun args hr nb out e => ?_
 unfold sRAdvance at e
 split at e
 ·rename_i v
  obtain ⟨n, b, c, P, s, rd, rfl, e, hrd, hs0, hs1, hs2, hs3⟩ := ref_open e
  injection e with e; subst e
  refine ⟨hrd, true, [n, b, c], [.ptr 1 0], rcon 1 2 3 P, rfl, fun hs => ?_⟩
  obtain ⟨k1, k2, k3⟩ := hs0 (hs _ List.mem_cons_self)
  have k4 := hs1 (hs _ List.mem_cons_self) [] nb
  obtain ⟨hT1, hT2⟩ := hs _ (List.mem_cons_of_mem _ List.mem_cons_self)
  have hok := hs _ (List.mem_cons_of_mem _ (List.mem_cons_of_mem _ List.mem_cons_self))
  have hR := hs _ (List.mem_cons_of_mem _ (List.mem_cons_of_mem _ (List.mem_cons_of_mem _ List.mem_cons_self)))
  have k5 := hs2 (hs _ List.mem_cons_self) [] nb
  refine ⟨k1, fun z hz => ⟨(k2 z hz).1, (k2 z hz).2 _ fun x hx => hx⟩, .cons _ _ _ _ (.name _ _ _ rfl) .nil, k3 _ _, ?_⟩
  clear hs hs0 hs1 hs2 hs3 k1 k2 k3 hrd
  obtain ⟨hn1, hn2⟩ := hok.n
  obtain ⟨N, hN⟩ := Int.eq_ofNat_of_zero_le (by omega : 0 ≤ P.n)
  have eE : advE P = bif advK P N then 0 else 6 := by unfold advE; rw [hN]; rfl
  have eP : advP P = bif advK P N then ⟨P.me, P.n, P.turn + 1, P.iss, P.hd, P.sets, P.words⟩ else P := by unfold advP; rw [hN]; rfl
  have eS : advS P = bif advK P N then advL P N else [] := by unfold advS; rw [hN]; rfl
  rw [eE, eP, eS]
  clear eE eP eS
  obtain ⟨A, hA⟩ : ∃ A, A = advK P N := ⟨_, rfl⟩
  rw [← hA]
  have hS := hR.2.1
  unfold rcon
  refine evC_go0K (s' := ⟨[(0, 0, zP 1), (0, 2, .cell AV.nils), (0, 3, zI 0), (1, 0, zI P.me), (1, 1, zI P.n), (1, 2, zI P.turn), (1, 3, zI P.iss), (1, 4, .arr 8 (nI P.hd)), (1, 12, zV 2), (1, 13, zV 3), (1, 14, .top), (2, 0, .vec 3 81 P.sets.length (rsF P.sets)), (3, 0, .vec 3 89 P.words.length (rwF P.words))], 68, 40⟩) ?_
  refine evC_go0K (s' := ⟨[(0, 0, zP 1), (0, 2, .cell AV.nils), (0, 3, zI 0), (0, 4, .cell AV.nils), (1, 0, zI P.me), (1, 1, zI P.n), (1, 2, zI P.turn), (1, 3, zI P.iss), (1, 4, .arr 8 (nI P.hd)), (1, 12, zV 2), (1, 13, zV 3), (1, 14, .top), (2, 0, .vec 3 81 P.sets.length (rsF P.sets)), (3, 0, .vec 3 89 P.words.length (rwF P.words))], 100, 40⟩) ?_
  refine evC_wk _ (.nil 0 4 1 9 (fun _ => .nils) (Nat.le_of_ble_eq_true rfl) rfl) ?_
  refine evC_seq ?_
  refine evC_go0K (s' := ⟨[(0, 0, zP 1), (0, 2, .cell AV.nils), (0, 3, zI 0), (0, 4, zV 100), (0, 5, zI 0), (1, 0, zI P.me), (1, 1, zI P.n), (1, 2, zI P.turn), (1, 3, zI P.iss), (1, 4, .arr 8 (nI P.hd)), (1, 12, zV 2), (1, 13, zV 3), (1, 14, .top), (2, 0, .vec 3 81 P.sets.length (rsF P.sets)), (3, 0, .vec 3 89 P.words.length (rwF P.words)), (100, 0, .vec 1 9 0 fun x => AV.nils)], 133, 40⟩) ?_
  refine evC_block ?_
  refine evC_loop (ι := { k : Nat // k ≤ N ∧ advK P k = true }) (fun k => ⟨[(0, 0, zP 1), (0, 2, Cont.cell AV.nils), (0, 3, zI 0), (0, 4, zV 4), (0, 5, zI (k.1 : Nat)), (1, 0, zI P.me), (1, 1, zI P.n), (1, 2, zI P.turn), (1, 3, zI P.iss), (1, 4, Cont.arr 8 (nI P.hd)), (1, 12, zV 2), (1, 13, zV 3), (1, 14, Cont.top), (2, 0, Cont.vec 3 81 P.sets.length (rsF P.sets)), (3, 0, Cont.vec 3 89 P.words.length (rwF P.words)), (4, 0, .vec 1 9 (advL P k.1).length (nSt (advL P k.1)))], 5, 40⟩) (fun k => N - k.1) ⟨0, Nat.zero_le _, rfl⟩ (wk_go [100] rfl (by decide) rfl rfl ⟨⟨_, rfl, rfl⟩, ⟨_, rfl, rfl⟩, ⟨_, rfl, rfl⟩, ⟨_, rfl, rfl⟩, ⟨_, rfl, rfl⟩, ⟨_, rfl, rfl⟩, ⟨_, rfl, rfl⟩, ⟨_, rfl, rfl⟩, ⟨_, rfl, rfl⟩, ⟨_, rfl, rfl, fun _ _ => rfl⟩, ⟨_, rfl, rfl⟩, ⟨_, rfl, rfl⟩, ⟨_, rfl, trivial⟩, ⟨_, rfl, rfl, rfl, rfl, fun _ _ => rfl⟩, ⟨_, rfl, rfl, rfl, rfl, fun _ _ => rfl⟩, ⟨_, rfl, ⟨rfl, rfl, rfl, fun _ hi => absurd hi (Nat.not_lt_zero _)⟩⟩, trivial⟩) ?_
  rintro ⟨k, hk, hK⟩
  refine evC_seq ?_
  refine evC_go0K (s' := ⟨[(0, 0, zP 1), (0, 2, .cell AV.nils), (0, 3, zI 0), (0, 4, zV 4), (0, 5, zI k), (0, 13, zB (decide ((↑k : Int) < P.n))), (1, 0, zI P.me), (1, 1, zI P.n), (1, 2, zI P.turn), (1, 3, zI P.iss), (1, 4, .arr 8 (nI P.hd)), (1, 12, zV 2), (1, 13, zV 3), (1, 14, .top), (2, 0, .vec 3 81 P.sets.length (rsF P.sets)), (3, 0, .vec 3 89 P.words.length (rwF P.words)), (4, 0, .vec 1 9 (List.length (advL P k)) (nSt (advL P k)))], 197, 40⟩) ?_
  refine evC_if (q := decide ((↑k : Int) < P.n)) (by kernel_rfl) (fun hc => ?_) (fun hc => ?_)
  ·have hlt : k < N := by have := of_decide_eq_true hc; omega
   clear hc
   refine evC_skip ?_
   refine then_normal ?_
   refine evC_seq ?_
   refine evC_block ?_
   refine evC_goK (ps := [(0 < 1 ∧ 0 < 2 ∧ 0 < 3 ∧ 1 ≠ 2 ∧ 1 ≠ 3 ∧ 2 ≠ 3) ∧ (∀ (i : Nat), i < P.sets.length → rsF P.sets i = rsF (rsL P.sets.length (rsF P.sets)) i) ∧ (∀ (i : Nat), i < P.words.length → rwF P.words i = rwF (rwL P.words.length (rwF P.words)) i) ∧ ∀ (i : Nat), i < (8 : Nat) → nI P.hd i = nI (If (nI P.hd)) i, List.length (rsL P.sets.length (rsF P.sets)) ≤ (1000000 : Nat)]) (s' := ⟨[(0, 0, zP 1), (0, 2, .cell AV.nils), (0, 3, zI 0), (0, 4, zV 4), (0, 5, zI k), (0, 6, zS (strB (knownL (etR P) P.turn (↑k : Int)))), (0, 7, zB (knownB (etR P) P.turn (↑k : Int))), (1, 0, zI P.me), (1, 1, zI P.n), (1, 2, zI P.turn), (1, 3, zI P.iss), (1, 4, .arr 8 (nI P.hd)), (1, 12, zV 2), (1, 13, zV 3), (1, 14, .top), (2, 0, .vec 3 81 P.sets.length (rsF P.sets)), (3, 0, .vec 3 89 P.words.length (rwF P.words)), (4, 0, .vec 1 9 (List.length (advL P k)) (nSt (advL P k)))], 581, 40⟩) ?_ ?_
   ·exact ⟨ref_side P ⟨by decide, by decide, by decide, by decide, by decide, by decide⟩, by rw [rsL_len]; exact hS⟩
   rw [ref_eta hR]
   refine evC_seq ?_
   refine evC_go0K (s' := ⟨[(0, 0, zP 1), (0, 2, .cell AV.nils), (0, 3, zI 0), (0, 4, zV 4), (0, 5, zI k), (0, 6, zS (strB (knownL P P.turn (↑k : Int)))), (0, 27, zB (!knownB P P.turn (↑k : Int))), (1, 0, zI P.me), (1, 1, zI P.n), (1, 2, zI P.turn), (1, 3, zI P.iss), (1, 4, .arr 8 (nI P.hd)), (1, 12, zV 2), (1, 13, zV 3), (1, 14, .top), (2, 0, .vec 3 81 P.sets.length (rsF P.sets)), (3, 0, .vec 3 89 P.words.length (rwF P.words)), (4, 0, .vec 1 9 (List.length (advL P k)) (nSt (advL P k)))], 645, 40⟩) ?_
   refine evC_if (q := !knownB P P.turn (↑k : Int)) (by kernel_rfl) (fun hc => ?_) (fun hc => ?_)
   ·have hb : knownB P P.turn (k : Int) = false := by simpa using hc
    obtain rfl : A = false := by rw [hA, advK_not hlt hb]
    refine evC_go0K (s' := ⟨[(0, 0, zP 1), (0, 2, .cell AV.nils), (0, 3, zI 6), (0, 4, zV 4), (0, 5, zI k), (0, 6, zS (strB (knownL P P.turn (↑k : Int)))), (1, 0, zI P.me), (1, 1, zI P.n), (1, 2, zI P.turn), (1, 3, zI P.iss), (1, 4, .arr 8 (nI P.hd)), (1, 12, zV 2), (1, 13, zV 3), (1, 14, .top), (2, 0, .vec 3 81 P.sets.length (rsF P.sets)), (3, 0, .vec 3 89 P.words.length (rwF P.words)), (4, 0, .vec 1 9 (List.length (advL P k)) (nSt (advL P k)))], 709, 40⟩) ?_
    refine evC_wk _ (.nil 0 2 1 9 (fun _ => .nils) (Nat.le_of_ble_eq_true rfl) rfl) ?_
    refine evC_ret ?_
    refine then_ret ?_
    refine block_ret ?_
    refine then_ret ?_
    refine round_ret ?_
    refine block_ret ?_
    refine then_ret ?_
    refine post_ret ?_
    refine ends_go [709] (AV.tup [AV.vs 4, AV.int IntKind.i64 6]) [(1, 0, zI P.me), (1, 1, zI P.n), (1, 2, zI P.turn), (1, 3, zI P.iss), (1, 4, .arr 8 (nI P.hd)), (1, 12, zV 2), (1, 13, zV 3), (1, 14, .top), (2, 0, .vec 3 81 P.sets.length (rsF P.sets)), (3, 0, .vec 3 89 P.words.length (rwF P.words)), (4, 0, .vec 1 9 0 fun x => AV.nils)] rfl (by decide) rfl rfl (has_of _ rfl) rfl ⟨⟨_, rfl, rfl⟩, ⟨_, rfl, rfl⟩, ⟨_, rfl, rfl⟩, ⟨_, rfl, rfl⟩, ⟨_, rfl, ⟨rfl, fun _ _ => rfl⟩⟩, ⟨_, rfl, rfl⟩, ⟨_, rfl, rfl⟩, ⟨_, rfl, trivial⟩, ⟨_, rfl, ⟨rfl, rfl, rfl, fun _ _ => rfl⟩⟩, ⟨_, rfl, ⟨rfl, rfl, rfl, fun _ _ => rfl⟩⟩, ⟨_, rfl, ⟨rfl, rfl, rfl, fun _ _ => rfl⟩⟩, trivial⟩ ⟨fun _ => ⟨1, _, rfl, rfl, rfl, ⟨has_of _ rfl, rfl⟩⟩, fun _ => ⟨1, _, rfl, rfl, rfl, ⟨has_of _ rfl, rfl⟩⟩, fun _ => ⟨1, _, rfl, rfl, rfl, ⟨has_of _ rfl, rfl⟩⟩, fun _ => ⟨1, _, rfl, rfl, rfl, ⟨has_of _ rfl, rfl⟩⟩, fun _ => ⟨1, _, rfl, rfl, rfl, ⟨rfl, fun _ _ => ⟨has_of _ rfl, rfl⟩⟩⟩, fun _ => ⟨1, _, rfl, rfl, rfl, ⟨has_of _ rfl, rfl⟩⟩, fun _ => ⟨1, _, rfl, rfl, rfl, ⟨has_of _ rfl, rfl⟩⟩, fun _ => ⟨1, _, rfl, rfl, rfl, trivial⟩, fun _ => ⟨2, _, rfl, rfl, rfl, ⟨rfl, rfl, rfl, fun _ _ => ⟨has_of _ rfl, rfl⟩⟩⟩, fun _ => ⟨3, _, rfl, rfl, rfl, ⟨rfl, rfl, rfl, fun _ _ => ⟨has_of _ rfl, rfl⟩⟩⟩, fun _ => ⟨4, _, rfl, rfl, rfl, ⟨rfl, rfl, rfl, fun _ hi => absurd hi (Nat.not_lt_zero _)⟩⟩, trivial⟩ ?_
    ·exact k5 _ _ _ rfl
   ·have hb : knownB P P.turn (k : Int) = true := by simpa using hc
    clear hc
    have hadv : advL P (k + 1) = advL P k ++ [knownL P P.turn (k : Int)] := rfl
    have hll := advL_len P k
    generalize knownL P P.turn (k : Int) = S at hadv ⊢
    generalize advL P k = acc at hadv hll ⊢
    refine evC_skip ?_
    refine then_normal ?_
    refine evC_goLK (ps := [(acc.length + (1 : Nat)) * 16 ≤ 140737488355328, acc.length + (1 : Nat) ≤ maxLen, 1 = 0 ∨ 1 = 1, 1 = 1, 9 = 9]) (s' := ⟨[(0, 0, zP 1), (0, 2, .cell AV.nils), (0, 3, zI 0), (0, 4, zV 741), (0, 5, zI k), (1, 0, zI P.me), (1, 1, zI P.n), (1, 2, zI P.turn), (1, 3, zI P.iss), (1, 4, .arr 8 (nI P.hd)), (1, 12, zV 2), (1, 13, zV 3), (1, 14, .top), (2, 0, .vec 3 81 P.sets.length (rsF P.sets)), (3, 0, .vec 3 89 P.words.length (rwF P.words)), (741, 0, .vec 1 9 (acc.length + 1) (catF acc.length (nSt acc) (pget [(0, AV.str (strB S))])))], 805, 40⟩) ?_ ?_
    ·(simp only [All]; (repeat' apply And.intro) <;> (try intro _) <;> (try intro _) <;> (repeat' apply And.intro) <;> (try intro _) <;> (try intro _) <;> first | trivial | assumption | exact .inr trivial | exact .inr rfl | omega | rfl | exact ⟨_, rfl, rfl⟩ | exact ⟨rfl, rfl⟩ | exact ⟨fun _ => rfl, fun _ => rfl⟩ | (unfold maxLen; omega) | (unfold i64R; first | omega | decide) | decide)
    refine block_normal ?_
    refine then_normal ?_
    refine evC_wk (s' := ⟨[(0, 0, zP 1), (0, 2, Cont.cell AV.nils), (0, 3, zI 0), (0, 4, zV 4), (0, 5, zI k), (1, 0, zI P.me), (1, 1, zI P.n), (1, 2, zI P.turn), (1, 3, zI P.iss), (1, 4, Cont.arr 8 (nI P.hd)), (1, 12, zV 2), (1, 13, zV 3), (1, 14, Cont.top), (2, 0, Cont.vec 3 81 P.sets.length (rsF P.sets)), (3, 0, Cont.vec 3 89 P.words.length (rwF P.words)), (4, 0, .vec 1 9 (acc ++ [S]).length (nSt (acc ++ [S])))], 5, 40⟩) _ (wk_go [741] rfl (by decide) rfl rfl ⟨⟨_, rfl, rfl⟩, ⟨_, rfl, rfl⟩, ⟨_, rfl, rfl⟩, ⟨_, rfl, rfl⟩, ⟨_, rfl, rfl⟩, ⟨_, rfl, rfl⟩, ⟨_, rfl, rfl⟩, ⟨_, rfl, rfl⟩, ⟨_, rfl, rfl⟩, ⟨_, rfl, rfl, fun _ _ => rfl⟩, ⟨_, rfl, rfl⟩, ⟨_, rfl, rfl⟩, ⟨_, rfl, trivial⟩, ⟨_, rfl, rfl, rfl, rfl, fun _ _ => rfl⟩, ⟨_, rfl, rfl, rfl, rfl, fun _ _ => rfl⟩, ⟨_, rfl, ?_⟩, trivial⟩) ?_
    ·exact ⟨rfl, rfl, by rw [List.length_append]; rfl, fun i hi => cat_nSt acc S rfl i (by rw [List.length_append] at hi; exact hi)⟩
    refine evC_goL0K (s' := ⟨[(0, 0, zP 1), (0, 2, .cell AV.nils), (0, 3, zI 0), (0, 4, zV 4), (0, 5, zI (IntKind.i64.wrap ((↑k : Int) + 1))), (1, 0, zI P.me), (1, 1, zI P.n), (1, 2, zI P.turn), (1, 3, zI P.iss), (1, 4, .arr 8 (nI P.hd)), (1, 12, zV 2), (1, 13, zV 3), (1, 14, .top), (2, 0, .vec 3 81 P.sets.length (rsF P.sets)), (3, 0, .vec 3 89 P.words.length (rwF P.words)), (4, 0, .vec 1 9 (List.length (acc ++ [S])) (nSt (acc ++ [S])))], 101, 40⟩) ?_
    rw [i64_in ((k : Int) + 1) (by omega)]
    refine round_normal (⟨k + 1, hlt, by show (advK P k && knownB P P.turn (k : Int)) = true; rw [hK, hb]; rfl⟩) (wk_go [4] rfl (by decide) rfl rfl ⟨⟨_, rfl, rfl⟩, ⟨_, rfl, rfl⟩, ⟨_, rfl, rfl⟩, ⟨_, rfl, rfl⟩, ⟨_, rfl, rfl⟩, ⟨_, rfl, rfl⟩, ⟨_, rfl, rfl⟩, ⟨_, rfl, rfl⟩, ⟨_, rfl, rfl⟩, ⟨_, rfl, ⟨rfl, fun _ _ => rfl⟩⟩, ⟨_, rfl, rfl⟩, ⟨_, rfl, rfl⟩, ⟨_, rfl, trivial⟩, ⟨_, rfl, ⟨rfl, rfl, rfl, fun _ _ => rfl⟩⟩, ⟨_, rfl, ⟨rfl, rfl, rfl, fun _ _ => rfl⟩⟩, ⟨_, rfl, ?_⟩, trivial⟩) ?_
    ·refine ⟨rfl, rfl, ?_, fun i hi => ?_⟩
     ·show (acc ++ [S]).length = (advL P (k + 1)).length
      rw [hadv]
     ·show nSt (acc ++ [S]) i = nSt (advL P (k + 1)) i
      rw [hadv]
    ·show N - (k + 1) < N - k
     omega
  ·have hkN : k = N := by have := of_decide_eq_false hc; omega
   obtain rfl : A = true := by rw [hA, ← hkN]; exact hK
   clear hc
   simp only [cond_true]
   refine evC_exit ?_
   refine then_exit ?_
   refine round_exit ?_
   refine block_exit ?_
   refine then_normal ?_
   refine evC_go0K (s' := ⟨[(0, 2, .cell AV.nils), (0, 3, zI 0), (0, 4, zV 4), (1, 0, zI P.me), (1, 1, zI P.n), (1, 2, zI (IntKind.i64.wrap (P.turn + 1))), (1, 3, zI P.iss), (1, 4, .arr 8 (nI P.hd)), (1, 12, zV 2), (1, 13, zV 3), (1, 14, .top), (2, 0, .vec 3 81 P.sets.length (rsF P.sets)), (3, 0, .vec 3 89 P.words.length (rwF P.words)), (4, 0, .vec 1 9 (List.length (advL P k)) (nSt (advL P k)))], 453, 40⟩) ?_
   rw [i64_in (P.turn + 1) (by omega)]
   refine evC_go0K (s' := ⟨[(0, 2, zV 4), (0, 3, zI 0), (1, 0, zI P.me), (1, 1, zI P.n), (1, 2, zI (P.turn + 1)), (1, 3, zI P.iss), (1, 4, .arr 8 (nI P.hd)), (1, 12, zV 2), (1, 13, zV 3), (1, 14, .top), (2, 0, .vec 3 81 P.sets.length (rsF P.sets)), (3, 0, .vec 3 89 P.words.length (rwF P.words)), (4, 0, .vec 1 9 (List.length (advL P k)) (nSt (advL P k)))], 549, 40⟩) ?_
   refine evC_ret ?_
   refine post_ret ?_
   refine ends_go [4] (AV.tup [AV.vs 4, AV.int IntKind.i64 0]) [(1, 0, zI P.me), (1, 1, zI P.n), (1, 2, zI (P.turn + 1)), (1, 3, zI P.iss), (1, 4, .arr 8 (nI P.hd)), (1, 12, zV 2), (1, 13, zV 3), (1, 14, .top), (2, 0, .vec 3 81 P.sets.length (rsF P.sets)), (3, 0, .vec 3 89 P.words.length (rwF P.words)), (4, 0, .vec 1 9 (List.length (advL P k)) (nSt (advL P k)))] rfl (by decide) rfl rfl (has_of _ rfl) rfl ⟨⟨_, rfl, rfl⟩, ⟨_, rfl, rfl⟩, ⟨_, rfl, rfl⟩, ⟨_, rfl, rfl⟩, ⟨_, rfl, ⟨rfl, fun _ _ => rfl⟩⟩, ⟨_, rfl, rfl⟩, ⟨_, rfl, rfl⟩, ⟨_, rfl, trivial⟩, ⟨_, rfl, ⟨rfl, rfl, rfl, fun _ _ => rfl⟩⟩, ⟨_, rfl, ⟨rfl, rfl, rfl, fun _ _ => rfl⟩⟩, ⟨_, rfl, ⟨rfl, rfl, rfl, fun _ _ => rfl⟩⟩, trivial⟩ ⟨fun _ => ⟨1, _, rfl, rfl, rfl, ⟨has_of _ rfl, rfl⟩⟩, fun _ => ⟨1, _, rfl, rfl, rfl, ⟨has_of _ rfl, rfl⟩⟩, fun _ => ⟨1, _, rfl, rfl, rfl, ⟨has_of _ rfl, rfl⟩⟩, fun _ => ⟨1, _, rfl, rfl, rfl, ⟨has_of _ rfl, rfl⟩⟩, fun _ => ⟨1, _, rfl, rfl, rfl, ⟨rfl, fun _ _ => ⟨has_of _ rfl, rfl⟩⟩⟩, fun _ => ⟨1, _, rfl, rfl, rfl, ⟨has_of _ rfl, rfl⟩⟩, fun _ => ⟨1, _, rfl, rfl, rfl, ⟨has_of _ rfl, rfl⟩⟩, fun _ => ⟨1, _, rfl, rfl, rfl, trivial⟩, fun _ => ⟨2, _, rfl, rfl, rfl, ⟨rfl, rfl, rfl, fun _ _ => ⟨has_of _ rfl, rfl⟩⟩⟩, fun _ => ⟨3, _, rfl, rfl, rfl, ⟨rfl, rfl, rfl, fun _ _ => ⟨has_of _ rfl, rfl⟩⟩⟩, ?_, trivial⟩ ?_
   ·rw [← hkN]
    exact fun _ => ⟨4, _, rfl, rfl, rfl, rfl, rfl, rfl, fun i hi => ⟨.str _, rfl⟩⟩
   ·exact k5 _ ⟨P.me, P.n, P.turn + 1, P.iss, P.hd, P.sets, P.words⟩ _ rfl
 ·cases e
def lsOf (n : Nat) (f : Nat → AV) : List (List Int) := (List.range n).map fun i => bytesL (rsn (f i)) (rsf (f i))
def sst : AV → ByteArray
 | .str s => s
 | _ => ByteArray.empty
def msOf (n : Nat) (f : Nat → AV) : List (List Int) := (List.range n).map fun i => blS (sst (f i))
theorem lsOf_nB (Ls : List (List Int)) : lsOf Ls.length (nB Ls) = Ls := by
 refine List.ext_getElem (by simp [lsOf]) fun i h1 h2 => ?_
 have : bytesL Ls[i].length (nU Ls[i]) = Ls[i] := bytesL_nU _
 simp [lsOf, nB, bs, rsn, rsf, h2, this]
theorem msOf_nSt {Ls : List (List Int)} (h : ∀ L ∈ Ls, IsU L) : msOf Ls.length (nSt Ls) = Ls := by
 refine List.ext_getElem (by simp [msOf]) fun i h1 h2 => ?_
 have : blS (strB Ls[i]) = Ls[i] := blS_strB (h _ (List.getElem_mem h2))
 simp [msOf, nSt, sst, h2, this]
def sRSame : Spec := fun args hr _ => match args with
 | [v, u] => match sl 1 hr v, sl 1 hr u with
   | some (n, f, r1), some (m, g, r2) => some ⟨[(∀ i, i < n → f i = nB (lsOf n f) i) ∧ (∀ L ∈ lsOf n f, IsU L), (∀ i, i < m → g i = nSt (msOf m g) i), n ≤ 1000000 ∧ m ≤ 1000000], .bool (lsOf n f == msOf m g), r1 ++ r2, []⟩
   | _, _ => none
 | _ => none
theorem rsame_ok : SpecOK Try.prog 28 sRSame := by
 refine spec_own (by kernel_rfl) T_ok sget_nil Try.func28 rfl rfl fun args hr nb out e => ?_
 unfold sRSame at e
 split at e
 ·rename_i v u
  split at e
  ·rename_i n f r1 m g r2 q1 q2
   injection e with e; subst e
   refine ⟨fun x hx => (List.mem_append.1 hx).elim (sl_rd q1 x) (sl_rd q2 x), false, [.rs 1 n false (nB (lsOf n f)), .rs 1 m false (nSt (msOf m g))], rfl, fun hs => ?_⟩
   obtain ⟨hf, hU⟩ := hs _ List.mem_cons_self
   have hg := hs _ (List.mem_cons_of_mem _ List.mem_cons_self)
   obtain ⟨hn, hm⟩ := hs _ (List.mem_cons_of_mem _ (List.mem_cons_of_mem _ List.mem_cons_self))
   refine ⟨.cons _ _ _ _ (.slice _ _ _ _ _ q1 (fun y hy => ⟨List.mem_append_left _ hy, by simp⟩) _ fun i hi => ⟨hf i hi, bs_has _⟩) (.cons _ _ _ _ (.slice _ _ _ _ _ q2 (fun y hy => ⟨List.mem_append_right _ hy, by simp⟩) _ fun i hi => ⟨hg i hi, .str _⟩) .nil), ?_⟩
   clear hs hf hg q1 q2
   have hl1 : (lsOf n f).length = n := by simp [lsOf]
   have hl2 : (msOf m g).length = m := by simp [msOf]
   have hV : ∀ X ∈ msOf m g, IsU X := fun X hX => by
    simp only [msOf, List.mem_map] at hX
    obtain ⟨i, _, rfl⟩ := hX
    exact blS_isU _
   generalize lsOf n f = L at *
   generalize msOf m g = M at *
   subst hl1; subst hl2
   refine evC_go0K (s' := ⟨[(0, 0, .cell (AV.rs 1 L.length false (nB L))), (0, 1, .cell (AV.rs 1 M.length false (nSt M))), (0, 4, zB false)], 33, 27⟩) ?_
   refine evC_seq ?_
   refine evC_go0K (s' := ⟨[(0, 0, .cell (AV.rs 1 L.length false (nB L))), (0, 1, .cell (AV.rs 1 M.length false (nSt M))), (0, 4, zB false), (0, 10, zB ((↑L.length : Int) != (↑M.length : Int)))], 193, 27⟩) ?_
   refine evC_if (q := (↑(List.length L) : Int) != (↑(List.length M) : Int)) (by kernel_rfl) (fun hc => ?_) (fun hc => ?_)
   ·have hne : (L == M) = false := by
     cases h : L == M with
     | false => rfl
     | true =>
       have h : L = M := by simpa using h
       rw [h] at hc
       simp at hc
    rw [hne]
    refine evC_go0K (s' := ⟨[(0, 0, .cell (AV.rs 1 L.length false (nB L))), (0, 1, .cell (AV.rs 1 M.length false (nSt M))), (0, 4, zB false)], 225, 27⟩) ?_
    refine evC_ret ?_
    refine then_ret ?_
    refine post_ret ?_
    refine ends_flat (vs := [AV.bool false]) (Nat.zero_lt_succ _) (by kernel_rfl) (flat_of _ (by kernel_rfl)) rfl ?_
    rfl
   ·have hlm : L.length = M.length := by
     have : ((L.length : Int) == (M.length : Int)) = true := by
      cases h : ((L.length : Int) == (M.length : Int)) with
      | true => rfl
      | false => rw [bne, h] at hc; cases hc
     have := beq_iff_eq.1 this
     omega
    clear hc
    refine evC_skip ?_
    refine then_normal ?_
    refine evC_seq ?_
    refine evC_go0K (s' := ⟨[(0, 0, .cell (AV.rs 1 L.length false (nB L))), (0, 1, .cell (AV.rs 1 M.length false (nSt M))), (0, 4, zB false), (0, 5, zI 0)], 225, 27⟩) ?_
    refine evC_block ?_
    refine evC_loop (ι := { i : Nat // i ≤ L.length ∧ ∀ j, j < i → L.getD j [] = M.getD j [] }) (fun i => ⟨[(0, 0, Cont.cell (AV.rs 1 L.length false (nB L))), (0, 1, Cont.cell (AV.rs 1 M.length false (nSt M))), (0, 4, zB false), (0, 5, zI (i.1 : Nat))], 1, 27⟩) (fun i => L.length - i.1) ⟨0, Nat.zero_le _, fun j hj => absurd hj (Nat.not_lt_zero _)⟩ (wk_go [] rfl (by decide) rfl rfl ⟨⟨_, rfl, rfl⟩, ⟨_, rfl, rfl⟩, ⟨_, rfl, rfl⟩, ⟨_, rfl, rfl⟩, trivial⟩) ?_
    rintro ⟨i, hi, hno⟩
    have hi : i ≤ L.length := hi
    refine evC_seq ?_
    refine evC_go0K (s' := ⟨[(0, 0, .cell (AV.rs 1 L.length false (nB L))), (0, 1, .cell (AV.rs 1 M.length false (nSt M))), (0, 4, zB false), (0, 5, zI i), (0, 14, zB (decide ((↑i : Int) < ↑L.length)))], 129, 27⟩) ?_
    refine evC_if (q := decide ((↑i : Int) < (↑(List.length L) : Int))) (by kernel_rfl) (fun hc => ?_) (fun hc => ?_)
    ·have hlt : i < L.length := by have := of_decide_eq_true hc; omega
     clear hc
     have hUi : IsU (L.getD i []) := by
      rw [List.getD_eq_getElem?_getD, List.getElem?_eq_getElem hlt]
      exact hU _ (List.getElem_mem hlt)
     have hVi : IsU (M.getD i []) := by
      rw [List.getD_eq_getElem?_getD, List.getElem?_eq_getElem (by omega : i < M.length)]
      exact hV _ (List.getElem_mem _)
     refine evC_skip ?_
     refine then_normal ?_
     refine evC_seq ?_
     refine evC_block ?_
     refine evC_goK (ps := [(0 : Int) ≤ ↑i, (↑i : Int) < ↑L.length, 1 = 1, List.length (List.getD L i []) = (0 : Nat) ∨ 1 = 1, ∀ (i_1 : Nat), i_1 < List.length (List.getD L i []) → nU (List.getD L i []) i_1 = AV.int IntKind.u8 (iv (nU (List.getD L i []) i_1)), (0 : Int) ≤ ↑i, (↑i : Int) < ↑M.length, 1 = 1]) (s' := ⟨[(0, 0, .cell (AV.rs 1 L.length false (nB L))), (0, 1, .cell (AV.rs 1 M.length false (nSt M))), (0, 4, zB false), (0, 5, zI i), (0, 26, zB (!ByteArray.toList (mkStr (List.length (List.getD L i [])) (nU (List.getD L i []))) == ByteArray.toList (strB (List.getD M i []))))], 449, 27⟩) ?_ ?_
     ·exact ⟨by omega, by omega, rfl, .inr rfl, fun _ _ => rfl, by omega, by omega, rfl⟩
     have hb : ((mkStr (L.getD i []).length (nU (L.getD i []))).toList == (strB (M.getD i [])).toList) = (L.getD i [] == M.getD i []) := by
      rw [str_eq, blS_strB hVi, show blS (mkStr (L.getD i []).length (nU (L.getD i []))) = L.getD i [] from blS_strB hUi]
     rw [hb]
     refine evC_if (q := !List.getD L i [] == List.getD M i []) (by kernel_rfl) (fun hc => ?_) (fun hc => ?_)
     ·have hd : L.getD i [] ≠ M.getD i [] := by simpa using hc
      have hne : (L == M) = false := by
       cases h : L == M with
       | false => rfl
       | true =>
         have h : L = M := by simpa using h
         exact absurd (by rw [h]) hd
      rw [hne]
      refine evC_go0K (s' := ⟨[(0, 0, .cell (AV.rs 1 L.length false (nB L))), (0, 1, .cell (AV.rs 1 M.length false (nSt M))), (0, 4, zB false), (0, 5, zI i)], 481, 27⟩) ?_
      refine evC_ret ?_
      refine block_ret ?_
      refine then_ret ?_
      refine round_ret ?_
      refine block_ret ?_
      refine then_ret ?_
      refine post_ret ?_
      refine ends_flat (vs := [AV.bool false]) (Nat.zero_lt_succ _) (by kernel_rfl) (flat_of _ (by kernel_rfl)) rfl ?_
      rfl
     ·have hd : L.getD i [] = M.getD i [] := by simpa using hc
      refine evC_skip ?_
      refine block_normal ?_
      refine then_normal ?_
      refine evC_goL0K (s' := ⟨[(0, 0, .cell (AV.rs 1 L.length false (nB L))), (0, 1, .cell (AV.rs 1 M.length false (nSt M))), (0, 4, zB false), (0, 5, zI (IntKind.i64.wrap ((↑i : Int) + 1)))], 545, 27⟩) ?_
      rw [wrap_add_one hlt (by omega)]
      refine round_normal (⟨i + 1, hlt, fun j hj => ?_⟩) (wk_go [] rfl (by decide) rfl rfl ⟨⟨_, rfl, rfl⟩, ⟨_, rfl, rfl⟩, ⟨_, rfl, rfl⟩, ⟨_, rfl, rfl⟩, trivial⟩) ?_
      ·rcases Nat.lt_or_ge j i with h | h
       ·exact hno j h
       ·have : j = i := by omega
        subst this; exact hd
      ·show L.length - (i + 1) < L.length - i; omega
    ·have hin : i = L.length := by have := of_decide_eq_false hc; omega
     subst hin
     have heq : (L == M) = true := by
      have : L = M := List.ext_getElem hlm fun j h1 h2 => by
       have := hno j h1
       simpa [h1, h2] using this
      simpa using this
     rw [heq]
     refine evC_exit ?_
     refine then_exit ?_
     refine round_exit ?_
     refine block_exit ?_
     refine then_normal ?_
     refine evC_go0K (s' := ⟨[(0, 4, zB true)], 161, 27⟩) ?_
     refine evC_ret ?_
     refine post_ret ?_
     refine ends_flat (vs := [AV.bool true]) (Nat.zero_lt_succ _) (by kernel_rfl) (flat_of _ (by kernel_rfl)) rfl ?_
     rfl
  ·cases e
 ·cases e
end Go.Eng.S25
/- Seat 25: the document's Send, walked. -/
set_option linter.unusedSimpArgs false
set_option linter.unusedVariables false
set_option maxHeartbeats 2000000
namespace Go.Eng.S25
open Go.Proofs Go.IntWalk
set_option maxRecDepth 10000
def OkK (P : Peer) : Prop := ∀ x ∈ P.sets, 2 ≤ x.1.1
theorem known_set {P : Peer} (h : OkK P) (t : Int) : knownL P t P.me = setOf P t := by
 unfold knownL setOf
 by_cases ht : t < 2
 ·rw [decide_eq_true ht, cond_true]
  cases hk : kget P.sets t P.me with
  | none => rfl
  | some L => have := h _ (kget_mem hk); simp at this; omega
 ·rw [decide_eq_false ht, cond_false]
theorem strB_app (L M : List Int) : strB L ++ strB M = strB (L ++ M) := by
 refine ba_ext ?_
 rw [ByteArray.data_append, Array.toList_append, strB_data, strB_data, strB_data, List.map_append]
def sRSend : Spec := fun args hr nb => match args with
 | [v, .int .i64 to] => withRef hr v fun n b c P s rd => some ⟨[s, okT P, OkP P, OkR P, OkK P], .tup [.str (strB (sendB P to)), .int .i64 (sendE P to)], rd, []⟩
 | _ => none
theorem rsend_ok : SpecOK Try.prog 25 sRSend := by
 refine spec_at (by kernel_rfl) T_ok (sget_cons rother_ok (sget_cons rknown_ok (sget_cons rput_ok (sget_cons rword_ok sget_nil)))) Try.func25 rfl rfl fun args hr nb out e => ?_
 unfold sRSend at e
 split at e
 ·rename_i v to
  obtain ⟨n, b, c, P, s, rd, rfl, e, hrd, hs0, hs1, hs2, hs3⟩ := ref_open e
  injection e with e; subst e
  refine ⟨hrd, true, [n, b, c], [.ptr 1 0, .int .i64 to], rcon 1 2 3 P, rfl, fun hs => ?_⟩
  obtain ⟨k1, k2, k3⟩ := hs0 (hs _ List.mem_cons_self)
  have k4 := hs1 (hs _ List.mem_cons_self) [] nb
  obtain ⟨hT1, hT2⟩ := hs _ (List.mem_cons_of_mem _ List.mem_cons_self)
  have hok := hs _ (List.mem_cons_of_mem _ (List.mem_cons_of_mem _ List.mem_cons_self))
  have hR := hs _ (List.mem_cons_of_mem _ (List.mem_cons_of_mem _ (List.mem_cons_of_mem _ List.mem_cons_self)))
  have hK := hs _ (List.mem_cons_of_mem _ (List.mem_cons_of_mem _ (List.mem_cons_of_mem _ (List.mem_cons_of_mem _ List.mem_cons_self))))
  refine ⟨k1, fun z hz => ⟨(k2 z hz).1, (k2 z hz).2 _ fun x hx => hx⟩, .cons _ _ _ _ (.name _ _ _ rfl) (.cons _ _ _ _ (.same _ _ (.int _ _)) .nil), k3 _ _, ?_⟩
  clear hs hs0 hs1 hs2 hs3 k1 k2 k3 hrd
  have eE : sendE P to = bif !otherB P to then 4 else bif decide (cntOf P to > 255) then 5 else 0 := rfl
  have hside := fun {p : Prop} (hp : p) => ref_side P hp
  have hn6 : 0 < 1 ∧ 0 < 2 ∧ 0 < 3 ∧ 1 ≠ 2 ∧ 1 ≠ 3 ∧ 2 ≠ 3 := by decide
  obtain ⟨hN1, hN2⟩ := hok.n
  obtain ⟨hM1, hM2⟩ := hok.me
  unfold rcon
  refine evC_go0K (s' := ⟨[(0, 0, zP 1), (0, 1, zI to), (0, 4, zS { data := #[] }), (0, 5, zI 0), (1, 0, zI P.me), (1, 1, zI P.n), (1, 2, zI P.turn), (1, 3, zI P.iss), (1, 4, .arr 8 (nI P.hd)), (1, 12, zV 2), (1, 13, zV 3), (1, 14, .top), (2, 0, .vec 3 81 P.sets.length (rsF P.sets)), (3, 0, .vec 3 89 P.words.length (rwF P.words))], 68, 97⟩) ?_
  refine evC_seq ?_
  refine evC_goK (ps := [(0 < 1 ∧ 0 < 2 ∧ 0 < 3 ∧ 1 ≠ 2 ∧ 1 ≠ 3 ∧ 2 ≠ 3) ∧ (∀ (i : Nat), i < P.sets.length → rsF P.sets i = rsF (rsL P.sets.length (rsF P.sets)) i) ∧ (∀ (i : Nat), i < P.words.length → rwF P.words i = rwF (rwL P.words.length (rwF P.words)) i) ∧ ∀ (i : Nat), i < (8 : Nat) → nI P.hd i = nI (If (nI P.hd)) i]) (s' := ⟨[(0, 0, zP 1), (0, 1, zI to), (0, 4, zS { data := #[] }), (0, 5, zI 0), (0, 15, zB (!otherB (etR P) to)), (1, 0, zI P.me), (1, 1, zI P.n), (1, 2, zI P.turn), (1, 3, zI P.iss), (1, 4, .arr 8 (nI P.hd)), (1, 12, zV 2), (1, 13, zV 3), (1, 14, .top), (2, 0, .vec 3 81 P.sets.length (rsF P.sets)), (3, 0, .vec 3 89 P.words.length (rwF P.words))], 196, 97⟩) ?_ ?_
  ·exact ref_side P hn6
  rw [ref_eta hR]
  refine evC_if (q := !otherB P to) (by kernel_rfl) (fun hc => ?_) (fun hc => ?_)
  ·have hE : sendE P to = 4 := by rw [eE, hc]; rfl
   have hB : sendB P to = [] := by unfold sendB; rw [hE]; rfl
   rw [hE, hB]
   refine evC_go0K (s' := ⟨[(0, 0, zP 1), (0, 1, zI to), (0, 4, zS { data := #[] }), (0, 5, zI 4), (1, 0, zI P.me), (1, 1, zI P.n), (1, 2, zI P.turn), (1, 3, zI P.iss), (1, 4, .arr 8 (nI P.hd)), (1, 12, zV 2), (1, 13, zV 3), (1, 14, .top), (2, 0, .vec 3 81 P.sets.length (rsF P.sets)), (3, 0, .vec 3 89 P.words.length (rwF P.words))], 260, 97⟩) ?_
   refine evC_ret ?_
   refine then_ret ?_
   refine post_ret ?_
   refine ends_go [] (AV.tup [AV.str { data := #[] }, AV.int IntKind.i64 4]) [(1, 0, zI P.me), (1, 1, zI P.n), (1, 2, zI P.turn), (1, 3, zI P.iss), (1, 4, .arr 8 (nI P.hd)), (1, 12, zV 2), (1, 13, zV 3), (1, 14, .top), (2, 0, .vec 3 81 P.sets.length (rsF P.sets)), (3, 0, .vec 3 89 P.words.length (rwF P.words))] rfl (by decide) rfl rfl (has_of _ rfl) rfl ⟨⟨_, rfl, rfl⟩, ⟨_, rfl, rfl⟩, ⟨_, rfl, rfl⟩, ⟨_, rfl, rfl⟩, ⟨_, rfl, ⟨rfl, fun _ _ => rfl⟩⟩, ⟨_, rfl, rfl⟩, ⟨_, rfl, rfl⟩, ⟨_, rfl, trivial⟩, ⟨_, rfl, ⟨rfl, rfl, rfl, fun _ _ => rfl⟩⟩, ⟨_, rfl, ⟨rfl, rfl, rfl, fun _ _ => rfl⟩⟩, trivial⟩ trivial ?_
   exact k4 _ _ (by simp [rcon, hget])
  ·have ho : otherB P to = true := by simpa using hc
   rw [hc] at eE
   clear hc
   simp only [cond_false] at eE
   have hto : 0 ≤ to ∧ to < P.n := by
    unfold otherB at ho
    simp only [Bool.and_eq_true, decide_eq_true_eq] at ho
    exact ho.1
   obtain ⟨q, rfl⟩ := Int.eq_ofNat_of_zero_le hto.1
   have hq8 : q < 8 := by omega
   have hd := hok.hd q hq8
   obtain ⟨hdq, hdE⟩ : ∃ d, d = P.hd q := ⟨_, rfl⟩
   obtain ⟨C, hC⟩ : ∃ C : Nat, cntOf P (q : Int) = (C : Nat) := Int.eq_ofNat_of_zero_le (by unfold cntOf mx2; split <;> omega)
   have hC' : (C : Int) = mx2 0 (P.iss - P.hd q) := by rw [← hC]; unfold cntOf; rw [Int.toNat_natCast]
   have hCb : C ≤ 1000000 := by unfold mx2 at hC'; split at hC' <;> omega
   refine evC_skip ?_
   refine then_normal ?_
   refine evC_go0K (s' := ⟨[(0, 0, zP 1), (0, 1, zI q), (0, 4, zS { data := #[] }), (0, 5, zI 0), (0, 6, zS { data := #[] }), (0, 7, zI 0), (1, 0, zI P.me), (1, 1, zI P.n), (1, 2, zI P.turn), (1, 3, zI P.iss), (1, 4, .arr 8 (nI P.hd)), (1, 12, zV 2), (1, 13, zV 3), (1, 14, .top), (2, 0, .vec 3 81 P.sets.length (rsF P.sets)), (3, 0, .vec 3 89 P.words.length (rwF P.words))], 260, 97⟩) ?_
   refine evC_seq ?_
   refine evC_goK (ps := [(0 : Int) ≤ ↑q, (↑q : Int) < (↑(8 : Nat) : Int), (0 : Int) ≤ ↑q, (↑q : Int) < (↑(8 : Nat) : Int)]) (s' := ⟨[(0, 0, zP 1), (0, 1, zI q), (0, 4, zS { data := #[] }), (0, 5, zI 0), (0, 6, zS { data := #[] }), (0, 7, zI 0), (0, 8, zI (P.hd q)), (1, 0, zI P.me), (1, 1, zI P.n), (1, 2, zI P.turn), (1, 3, zI P.iss), (1, 4, .arr 8 (nI P.hd)), (1, 12, zV 2), (1, 13, zV 3), (1, 14, .top), (2, 0, .vec 3 81 P.sets.length (rsF P.sets)), (3, 0, .vec 3 89 P.words.length (rwF P.words))], 484, 97⟩) ?_ ?_
   ·exact ⟨by omega, (by show (q : Int) < (8 : Int); omega), by omega, (by show (q : Int) < (8 : Int); omega)⟩
   refine evC_block ?_
   refine evC_loop (ι := { k : Nat // k ≤ C }) (fun k => ⟨[(0, 0, zP 1), (0, 1, zI q), (0, 4, zS { data := #[] }), (0, 5, zI 0), (0, 6, .cell (.str (strB (setsB P (P.hd q) k.1)))), (0, 7, zI (k.1 : Nat)), (0, 8, zI (P.hd q + (k.1 : Nat))), (1, 0, zI P.me), (1, 1, zI P.n), (1, 2, zI P.turn), (1, 3, zI P.iss), (1, 4, Cont.arr 8 (nI P.hd)), (1, 12, zV 2), (1, 13, zV 3), (1, 14, Cont.top), (2, 0, Cont.vec 3 81 P.sets.length (rsF P.sets)), (3, 0, Cont.vec 3 89 P.words.length (rwF P.words))], 4, 97⟩) (fun k => C - k.1) ⟨0, Nat.zero_le _⟩ (wk_go [] rfl (by decide) rfl rfl ⟨⟨_, rfl, rfl⟩, ⟨_, rfl, rfl⟩, ⟨_, rfl, rfl⟩, ⟨_, rfl, rfl⟩, ⟨_, rfl, rfl⟩, ⟨_, rfl, rfl⟩, ⟨_, rfl, ?_⟩, ⟨_, rfl, rfl⟩, ⟨_, rfl, rfl⟩, ⟨_, rfl, rfl⟩, ⟨_, rfl, rfl⟩, ⟨_, rfl, rfl, fun _ _ => rfl⟩, ⟨_, rfl, rfl⟩, ⟨_, rfl, rfl⟩, ⟨_, rfl, trivial⟩, ⟨_, rfl, rfl, rfl, rfl, fun _ _ => rfl⟩, ⟨_, rfl, rfl, rfl, rfl, fun _ _ => rfl⟩, trivial⟩) ?_
   ·show AV.int .i64 (P.hd q) = AV.int .i64 (P.hd q + ((0 : Nat) : Int))
    rw [show P.hd q + ((0 : Nat) : Int) = P.hd q by omega]
   rintro ⟨k, hk⟩
   have hk : k ≤ C := hk
   refine evC_seq ?_
   refine evC_go0K (s' := ⟨[(0, 0, zP 1), (0, 1, zI q), (0, 4, zS { data := #[] }), (0, 5, zI 0), (0, 6, zS (strB (setsB P (P.hd q) k))), (0, 7, zI k), (0, 8, zI (P.hd q + (↑k : Int))), (0, 27, zB (decide (P.hd q + (↑k : Int) < P.iss))), (1, 0, zI P.me), (1, 1, zI P.n), (1, 2, zI P.turn), (1, 3, zI P.iss), (1, 4, .arr 8 (nI P.hd)), (1, 12, zV 2), (1, 13, zV 3), (1, 14, .top), (2, 0, .vec 3 81 P.sets.length (rsF P.sets)), (3, 0, .vec 3 89 P.words.length (rwF P.words))], 196, 97⟩) ?_
   refine evC_if (q := decide (P.hd q + (↑k : Int) < P.iss)) (by kernel_rfl) (fun hc => ?_) (fun hc => ?_)
   ·have hlt : k < C := by
     have := of_decide_eq_true hc
     unfold mx2 at hC'
     split at hC' <;> omega
    clear hc
    refine evC_skip ?_
    refine then_normal ?_
    refine evC_seq ?_
    refine evC_block ?_
    refine evC_goK (ps := [(0 < 1 ∧ 0 < 2 ∧ 0 < 3 ∧ 1 ≠ 2 ∧ 1 ≠ 3 ∧ 2 ≠ 3) ∧ (∀ (i : Nat), i < P.sets.length → rsF P.sets i = rsF (rsL P.sets.length (rsF P.sets)) i) ∧ (∀ (i : Nat), i < P.words.length → rwF P.words i = rwF (rwL P.words.length (rwF P.words)) i) ∧ ∀ (i : Nat), i < (8 : Nat) → nI P.hd i = nI (If (nI P.hd)) i, List.length (rsL P.sets.length (rsF P.sets)) ≤ (1000000 : Nat)]) (s' := ⟨[(0, 0, zP 1), (0, 1, zI q), (0, 4, zS { data := #[] }), (0, 5, zI 0), (0, 6, zS (strB (setsB P (P.hd q) k))), (0, 7, zI k), (0, 8, zI (P.hd q + (↑k : Int))), (0, 9, zS (strB (knownL (etR P) (P.hd q + (↑k : Int)) P.me))), (1, 0, zI P.me), (1, 1, zI P.n), (1, 2, zI P.turn), (1, 3, zI P.iss), (1, 4, .arr 8 (nI P.hd)), (1, 12, zV 2), (1, 13, zV 3), (1, 14, .top), (2, 0, .vec 3 81 P.sets.length (rsF P.sets)), (3, 0, .vec 3 89 P.words.length (rwF P.words))], 580, 97⟩) ?_ ?_
    ·exact ⟨ref_side P hn6, by rw [rsL_len]; exact hR.2.1⟩
    rw [ref_eta hR, known_set hK]
    have hset := setOf_ok hok (P.hd q + (k : Int))
    have hsb := setsB_ok hok k (P.hd q)
    have hsn := setsB_snoc P k (P.hd q)
    generalize setOf P (P.hd q + (k : Int)) = S at hset hsn ⊢
    have hz : IntKind.u64.wrap ((strB S).size : Int) = (S.length : Nat) := by rw [strB_size]; exact u64_in (by omega)
    refine evC_goK (ps := [(0 : Int) ≤ 2 ∧ (2 : Int) ≤ 8, (0 : Int) ≤ IntKind.wrap IntKind.u64 (↑(ByteArray.size (strB S)) : Int) ∧ IntKind.wrap IntKind.u64 (↑(ByteArray.size (strB S)) : Int) ≤ (18446744073709551615 : Int), ByteArray.size (strB (leB (Int.toNat (2 : Int)) (IntKind.wrap IntKind.u64 (↑(ByteArray.size (strB S)) : Int)))) + ByteArray.size (strB S) ≤ (1000000000 : Nat), ByteArray.size (strB (setsB P (P.hd q) k)) + ByteArray.size (strB (leB (Int.toNat (2 : Int)) (IntKind.wrap IntKind.u64 (↑(ByteArray.size (strB S)) : Int))) ++ strB S) ≤ (1000000000 : Nat)]) (s' := ⟨[(0, 0, zP 1), (0, 1, zI q), (0, 4, zS { data := #[] }), (0, 5, zI 0), (0, 6, zS (strB (setsB P (P.hd q) k) ++ (strB (leB (Int.toNat 2) (IntKind.wrap IntKind.u64 (↑(ByteArray.size (strB S)) : Int))) ++ strB S))), (0, 7, zI k), (0, 8, zI (P.hd q + (↑k : Int))), (1, 0, zI P.me), (1, 1, zI P.n), (1, 2, zI P.turn), (1, 3, zI P.iss), (1, 4, .arr 8 (nI P.hd)), (1, 12, zV 2), (1, 13, zV 3), (1, 14, .top), (2, 0, .vec 3 81 P.sets.length (rsF P.sets)), (3, 0, .vec 3 89 P.words.length (rwF P.words))], 868, 97⟩) ?_ ?_
    ·rw [hz]
     simp only [All, strB_app, strB_size, List.length_append, leB_len]
     (repeat' apply And.intro) <;> first | omega | decide | exact rsF_self _ | exact rwF_self _ | exact fun _ _ => rfl | (rw [rwL_len]; exact hR.2.2)
    rw [hz, strB_app, strB_app, show Int.toNat 2 = 2 from rfl, ← hsn]
    refine evC_goL0K (s' := ⟨[(0, 0, zP 1), (0, 1, zI q), (0, 4, zS { data := #[] }), (0, 5, zI 0), (0, 6, zS (strB (setsB P (P.hd q) (k + 1)))), (0, 7, zI (IntKind.i64.wrap ((↑k : Int) + 1))), (0, 8, zI (P.hd q + (↑k : Int))), (1, 0, zI P.me), (1, 1, zI P.n), (1, 2, zI P.turn), (1, 3, zI P.iss), (1, 4, .arr 8 (nI P.hd)), (1, 12, zV 2), (1, 13, zV 3), (1, 14, .top), (2, 0, .vec 3 81 P.sets.length (rsF P.sets)), (3, 0, .vec 3 89 P.words.length (rwF P.words))], 964, 97⟩) ?_
    refine block_normal ?_
    refine then_normal ?_
    refine evC_goL0K (s' := ⟨[(0, 0, zP 1), (0, 1, zI q), (0, 4, zS { data := #[] }), (0, 5, zI 0), (0, 6, zS (strB (setsB P (P.hd q) (k + 1)))), (0, 7, zI (IntKind.i64.wrap ((↑k : Int) + 1))), (0, 8, zI (IntKind.i64.wrap (P.hd q + (↑k : Int) + 1))), (1, 0, zI P.me), (1, 1, zI P.n), (1, 2, zI P.turn), (1, 3, zI P.iss), (1, 4, .arr 8 (nI P.hd)), (1, 12, zV 2), (1, 13, zV 3), (1, 14, .top), (2, 0, .vec 3 81 P.sets.length (rsF P.sets)), (3, 0, .vec 3 89 P.words.length (rwF P.words))], 1060, 97⟩) ?_
    rw [i64_in ((k : Int) + 1) (by omega), i64_in (P.hd q + (k : Int) + 1) (by omega)]
    refine round_normal (⟨k + 1, hlt⟩) (wk_go [] rfl (by decide) rfl rfl ⟨⟨_, rfl, rfl⟩, ⟨_, rfl, rfl⟩, ⟨_, rfl, rfl⟩, ⟨_, rfl, rfl⟩, ⟨_, rfl, rfl⟩, ⟨_, rfl, rfl⟩, ⟨_, rfl, ?_⟩, ⟨_, rfl, rfl⟩, ⟨_, rfl, rfl⟩, ⟨_, rfl, rfl⟩, ⟨_, rfl, rfl⟩, ⟨_, rfl, ⟨rfl, fun _ _ => rfl⟩⟩, ⟨_, rfl, rfl⟩, ⟨_, rfl, rfl⟩, ⟨_, rfl, trivial⟩, ⟨_, rfl, ⟨rfl, rfl, rfl, fun _ _ => rfl⟩⟩, ⟨_, rfl, ⟨rfl, rfl, rfl, fun _ _ => rfl⟩⟩, trivial⟩) ?_
    ·show AV.int .i64 _ = AV.int .i64 _
     congr 1
     show P.hd q + (k : Int) + 1 = P.hd q + ((k + 1 : Nat) : Int)
     omega
    ·show C - (k + 1) < C - k; omega
   ·have hkC : k = C := by
     have := of_decide_eq_false hc
     unfold mx2 at hC'
     split at hC' <;> omega
    subst hkC
    clear hc
    rw [hC] at eE
    refine evC_exit ?_
    refine then_exit ?_
    refine round_exit ?_
    refine block_exit ?_
    refine then_normal ?_
    refine evC_seq ?_
    refine evC_go0K (s' := ⟨[(0, 0, zP 1), (0, 1, zI q), (0, 4, zS { data := #[] }), (0, 5, zI 0), (0, 6, zS (strB (setsB P (P.hd q) k))), (0, 7, zI k), (0, 51, zB (decide ((↑k : Int) > 255))), (1, 0, zI P.me), (1, 1, zI P.n), (1, 2, zI P.turn), (1, 3, zI P.iss), (1, 4, .arr 8 (nI P.hd)), (1, 12, zV 2), (1, 13, zV 3), (1, 14, .top), (2, 0, .vec 3 81 P.sets.length (rsF P.sets)), (3, 0, .vec 3 89 P.words.length (rwF P.words))], 260, 97⟩) ?_
    refine evC_if (q := decide ((↑k : Int) > 255)) (by kernel_rfl) (fun hc => ?_) (fun hc => ?_)
    ·have hE : sendE P (q : Int) = 5 := by rw [eE, hc]; rfl
     have hB : sendB P (q : Int) = [] := by unfold sendB; rw [hE]; rfl
     rw [hE, hB]
     refine evC_go0K (s' := ⟨[(0, 0, zP 1), (0, 1, zI q), (0, 4, zS { data := #[] }), (0, 5, zI 5), (0, 6, zS (strB (setsB P (P.hd q) k))), (0, 7, zI k), (1, 0, zI P.me), (1, 1, zI P.n), (1, 2, zI P.turn), (1, 3, zI P.iss), (1, 4, .arr 8 (nI P.hd)), (1, 12, zV 2), (1, 13, zV 3), (1, 14, .top), (2, 0, .vec 3 81 P.sets.length (rsF P.sets)), (3, 0, .vec 3 89 P.words.length (rwF P.words))], 324, 97⟩) ?_
     refine evC_ret ?_
     refine then_ret ?_
     refine post_ret ?_
     refine ends_go [] (AV.tup [AV.str { data := #[] }, AV.int IntKind.i64 5]) [(1, 0, zI P.me), (1, 1, zI P.n), (1, 2, zI P.turn), (1, 3, zI P.iss), (1, 4, .arr 8 (nI P.hd)), (1, 12, zV 2), (1, 13, zV 3), (1, 14, .top), (2, 0, .vec 3 81 P.sets.length (rsF P.sets)), (3, 0, .vec 3 89 P.words.length (rwF P.words))] rfl (by decide) rfl rfl (has_of _ rfl) rfl ⟨⟨_, rfl, rfl⟩, ⟨_, rfl, rfl⟩, ⟨_, rfl, rfl⟩, ⟨_, rfl, rfl⟩, ⟨_, rfl, ⟨rfl, fun _ _ => rfl⟩⟩, ⟨_, rfl, rfl⟩, ⟨_, rfl, rfl⟩, ⟨_, rfl, trivial⟩, ⟨_, rfl, ⟨rfl, rfl, rfl, fun _ _ => rfl⟩⟩, ⟨_, rfl, ⟨rfl, rfl, rfl, fun _ _ => rfl⟩⟩, trivial⟩ trivial ?_
     exact k4 _ _ (by simp [rcon, hget])
    ·have hE : sendE P (q : Int) = 0 := by rw [eE, hc]; rfl
     have hB : sendB P (q : Int) = headB P (q : Int) ++ setsB P (P.hd q) k := by unfold sendB; rw [hE, hC, Int.toNat_natCast, Int.toNat_natCast]; rfl
     rw [hE, hB]
     have h255 := of_decide_eq_false hc
     clear hc
     have wm : IntKind.u64.wrap P.me = P.me := u64_in (by omega)
     have wq : IntKind.u64.wrap (q : Int) = q := u64_in (by omega)
     have wt : IntKind.u64.wrap P.turn = P.turn := u64_in (by omega)
     have wh : IntKind.u64.wrap (P.hd q) = P.hd q := u64_in (by omega)
     have wk : IntKind.u64.wrap (k : Int) = k := u64_in (by omega)
     have hw : 0 ≤ wordV P P.turn P.me ∧ wordV P P.turn P.me ≤ 18446744073709551615 := wordOf_ok hok P.turn
     have hsb := setsB_ok hok k (P.hd q)
     refine evC_skip ?_
     refine then_normal ?_
     refine evC_goK (ps := [(0 : Int) ≤ 1 ∧ (1 : Int) ≤ 8, (0 : Int) ≤ IntKind.wrap IntKind.u64 P.me ∧ IntKind.wrap IntKind.u64 P.me ≤ (18446744073709551615 : Int), (0 : Int) ≤ 1 ∧ (1 : Int) ≤ 8, (0 : Int) ≤ IntKind.wrap IntKind.u64 (↑q : Int) ∧ IntKind.wrap IntKind.u64 (↑q : Int) ≤ (18446744073709551615 : Int), ByteArray.size (strB (leB (Int.toNat (1 : Int)) (IntKind.wrap IntKind.u64 P.me))) + ByteArray.size (strB (leB (Int.toNat (1 : Int)) (IntKind.wrap IntKind.u64 (↑q : Int)))) ≤ (1000000000 : Nat), (0 : Int) ≤ 4 ∧ (4 : Int) ≤ 8, (0 : Int) ≤ IntKind.wrap IntKind.u64 P.turn ∧ IntKind.wrap IntKind.u64 P.turn ≤ (18446744073709551615 : Int), ByteArray.size (strB (leB (Int.toNat (1 : Int)) (IntKind.wrap IntKind.u64 P.me)) ++ strB (leB (Int.toNat (1 : Int)) (IntKind.wrap IntKind.u64 (↑q : Int)))) + ByteArray.size (strB (leB (Int.toNat (4 : Int)) (IntKind.wrap IntKind.u64 P.turn))) ≤ (1000000000 : Nat), (0 < 1 ∧ 0 < 2 ∧ 0 < 3 ∧ 1 ≠ 2 ∧ 1 ≠ 3 ∧ 2 ≠ 3) ∧ (∀ (i : Nat), i < P.sets.length → rsF P.sets i = rsF (rsL P.sets.length (rsF P.sets)) i) ∧ (∀ (i : Nat), i < P.words.length → rwF P.words i = rwF (rwL P.words.length (rwF P.words)) i) ∧ ∀ (i : Nat), i < (8 : Nat) → nI P.hd i = nI (If (nI P.hd)) i, List.length (rwL P.words.length (rwF P.words)) ≤ (1000000 : Nat), (0 : Int) ≤ 8 ∧ (8 : Int) ≤ 8, (0 : Int) ≤ wordV (etR P) P.turn P.me ∧ wordV (etR P) P.turn P.me ≤ (18446744073709551615 : Int), ByteArray.size (strB (leB (Int.toNat (1 : Int)) (IntKind.wrap IntKind.u64 P.me)) ++ strB (leB (Int.toNat (1 : Int)) (IntKind.wrap IntKind.u64 (↑q : Int))) ++ strB (leB (Int.toNat (4 : Int)) (IntKind.wrap IntKind.u64 P.turn))) + ByteArray.size (strB (leB (Int.toNat (8 : Int)) (wordV (etR P) P.turn P.me))) ≤ (1000000000 : Nat)]) (s' := ⟨[(0, 0, zP 1), (0, 1, zI q), (0, 4, zS { data := #[] }), (0, 5, zI 0), (0, 6, zS (strB (setsB P (P.hd q) k))), (0, 7, zI k), (0, 11, zS (strB (leB (Int.toNat 1) (IntKind.wrap IntKind.u64 P.me)) ++ strB (leB (Int.toNat 1) (IntKind.wrap IntKind.u64 (↑q : Int))) ++ strB (leB (Int.toNat 4) (IntKind.wrap IntKind.u64 P.turn)) ++ strB (leB (Int.toNat 8) (wordV (etR P) P.turn P.me)))), (1, 0, zI P.me), (1, 1, zI P.n), (1, 2, zI P.turn), (1, 3, zI P.iss), (1, 4, .arr 8 (nI P.hd)), (1, 12, zV 2), (1, 13, zV 3), (1, 14, .top), (2, 0, .vec 3 81 P.sets.length (rsF P.sets)), (3, 0, .vec 3 89 P.words.length (rwF P.words))], 1220, 97⟩) ?_ ?_
     ·simp only [All, ref_eta hR, wm, wq, wt, strB_app, strB_size, List.length_append, leB_len]
      (repeat' apply And.intro) <;> first | omega | decide | exact rsF_self _ | exact rwF_self _ | exact fun _ _ => rfl | (rw [rwL_len]; exact hR.2.2)
     simp only [ref_eta hR, wm, wq, wt, strB_app]
     refine evC_goK (ps := [(0 : Int) ≤ ↑q, (↑q : Int) < (↑(8 : Nat) : Int), (0 : Int) ≤ ↑q, (↑q : Int) < (↑(8 : Nat) : Int), (0 : Int) ≤ 4 ∧ (4 : Int) ≤ 8, (0 : Int) ≤ IntKind.wrap IntKind.u64 (P.hd q) ∧ IntKind.wrap IntKind.u64 (P.hd q) ≤ (18446744073709551615 : Int), ByteArray.size (strB (leB (Int.toNat (1 : Int)) P.me ++ leB (Int.toNat (1 : Int)) (↑q : Int) ++ leB (Int.toNat (4 : Int)) P.turn ++ leB (Int.toNat (8 : Int)) (wordV P P.turn P.me))) + ByteArray.size (strB (leB (Int.toNat (4 : Int)) (IntKind.wrap IntKind.u64 (P.hd q)))) ≤ (1000000000 : Nat), (0 : Int) ≤ 1 ∧ (1 : Int) ≤ 8, (0 : Int) ≤ IntKind.wrap IntKind.u64 (↑k : Int) ∧ IntKind.wrap IntKind.u64 (↑k : Int) ≤ (18446744073709551615 : Int), ByteArray.size (strB (leB (Int.toNat (1 : Int)) P.me ++ leB (Int.toNat (1 : Int)) (↑q : Int) ++ leB (Int.toNat (4 : Int)) P.turn ++ leB (Int.toNat (8 : Int)) (wordV P P.turn P.me)) ++ strB (leB (Int.toNat (4 : Int)) (IntKind.wrap IntKind.u64 (P.hd q)))) + ByteArray.size (strB (leB (Int.toNat (1 : Int)) (IntKind.wrap IntKind.u64 (↑k : Int)))) ≤ (1000000000 : Nat), ByteArray.size (strB (leB (Int.toNat (1 : Int)) P.me ++ leB (Int.toNat (1 : Int)) (↑q : Int) ++ leB (Int.toNat (4 : Int)) P.turn ++ leB (Int.toNat (8 : Int)) (wordV P P.turn P.me)) ++ strB (leB (Int.toNat (4 : Int)) (IntKind.wrap IntKind.u64 (P.hd q))) ++ strB (leB (Int.toNat (1 : Int)) (IntKind.wrap IntKind.u64 (↑k : Int)))) + ByteArray.size (strB (setsB P (P.hd q) k)) ≤ (1000000000 : Nat)]) (s' := ⟨[(0, 4, zS (strB (leB (Int.toNat 1) P.me ++ leB (Int.toNat 1) (↑q : Int) ++ leB (Int.toNat 4) P.turn ++ leB (Int.toNat 8) (wordV P P.turn P.me)) ++ strB (leB (Int.toNat 4) (IntKind.wrap IntKind.u64 (P.hd q))) ++ strB (leB (Int.toNat 1) (IntKind.wrap IntKind.u64 (↑k : Int))) ++ strB (setsB P (P.hd q) k))), (0, 5, zI 0), (1, 0, zI P.me), (1, 1, zI P.n), (1, 2, zI P.turn), (1, 3, zI P.iss), (1, 4, .arr 8 (nI P.hd)), (1, 12, zV 2), (1, 13, zV 3), (1, 14, .top), (2, 0, .vec 3 81 P.sets.length (rsF P.sets)), (3, 0, .vec 3 89 P.words.length (rwF P.words))], 1796, 97⟩) ?_ ?_
     ·simp only [All, wh, wk, strB_app, strB_size, List.length_append, leB_len]
      (repeat' apply And.intro) <;> first | omega | decide | exact rsF_self _ | exact rwF_self _ | exact fun _ _ => rfl | (rw [rwL_len]; exact hR.2.2)
     simp only [wh, wk, strB_app]
     have e1 : ∀ x : Int, 0 ≤ x ∧ x ≤ 255 → leB (Int.toNat 1) x = [x] := fun x hx => by
      show [x % 256] = [x]
      rw [Int.emod_eq_of_lt (by omega) (by omega)]
     have hH : headB P (q : Int) = leB (Int.toNat 1) P.me ++ leB (Int.toNat 1) q ++ leB (Int.toNat 4) P.turn ++ leB (Int.toNat 8) (wordV P P.turn P.me) ++ leB (Int.toNat 4) (P.hd q) ++ leB (Int.toNat 1) k := by
      rw [e1 P.me (by omega), e1 q (by omega), e1 k (by omega)]
      unfold headB
      rw [hC, Int.toNat_natCast]
      rfl
     rw [hH]
     refine evC_ret ?_
     refine post_ret ?_
     refine ends_go [] (AV.tup [AV.str (strB (leB (Int.toNat 1) P.me ++ leB (Int.toNat 1) (↑q : Int) ++ leB (Int.toNat 4) P.turn ++ leB (Int.toNat 8) (wordV P P.turn P.me) ++ leB (Int.toNat 4) (P.hd q) ++ leB (Int.toNat 1) (↑k : Int) ++ setsB P (P.hd q) k)), AV.int IntKind.i64 0]) [(1, 0, zI P.me), (1, 1, zI P.n), (1, 2, zI P.turn), (1, 3, zI P.iss), (1, 4, .arr 8 (nI P.hd)), (1, 12, zV 2), (1, 13, zV 3), (1, 14, .top), (2, 0, .vec 3 81 P.sets.length (rsF P.sets)), (3, 0, .vec 3 89 P.words.length (rwF P.words))] rfl (by decide) rfl rfl (has_of _ rfl) rfl ⟨⟨_, rfl, rfl⟩, ⟨_, rfl, rfl⟩, ⟨_, rfl, rfl⟩, ⟨_, rfl, rfl⟩, ⟨_, rfl, ⟨rfl, fun _ _ => rfl⟩⟩, ⟨_, rfl, rfl⟩, ⟨_, rfl, rfl⟩, ⟨_, rfl, trivial⟩, ⟨_, rfl, ⟨rfl, rfl, rfl, fun _ _ => rfl⟩⟩, ⟨_, rfl, ⟨rfl, rfl, rfl, fun _ _ => rfl⟩⟩, trivial⟩ trivial ?_
     exact k4 _ _ (by simp [rcon, hget])
 ·cases e
end Go.Eng.S25