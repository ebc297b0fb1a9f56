/- Seat 25: one peer goes on as far as it may; its turn is read; walked. -/
import Derived.Test.YtodnecfgiimclaaEngX
import Derived.Test.YtodnecfgiimclaaS25AA
set_option linter.unusedSimpArgs false
set_option linter.unusedVariables false
namespace Go.Eng.S25
open Go.Proofs Go.IntWalk
set_option maxRecDepth 10000

theorem live_adv {n r i : Nat} {k R T I J : Int} {P : Peer} {Q : Exit → St → Prop} (hn : 2 ≤ n ∧ n ≤ 8) (hi : i < n) (hT : 0 ≤ T ∧ T ≤ 200) (hJ : 2 ≤ J ∧ J ≤ I ∧ I ≤ T + 8 ∧ T ≤ J) (V : VL n P i T I J)
    (hQ : ∀ P' b c, VL n P' i J I J → Q .normal ⟨[(0, 0, .cell (.int .i64 (n : Nat))), (0, 1, .cell (.int .i64 k)), (0, 2, .cell (.int .i64 R)), (0, 7, .cell (.vs 28)), (0, 8, .cell (.bool true)), (0, 9, .cell (.int .i64 (r : Nat))), (0, 17, .cell (.int .i64 (i : Nat))), (0, 18, .cell (.int .i64 c)), (0, 169, .cell (.bool b))] ++ (peerL 25 P' ++ [(28, 0, .vec 1 28 n (ptS i))]), 477, 189⟩) :
    Sem Try.prog 28 (cpath (Try.f3.body.getD .skip) [1, 1, 1, 1, 1, 1, 0, 1, 2, 2, 1, 0, 2, 1, 1, 1, 1, 2, 2, 1, 0]) (SKeep [0, 1, 2, 7, 8, 9, 17] Q) ⟨[(0, 0, .cell (.int .i64 (n : Nat))), (0, 1, .cell (.int .i64 k)), (0, 2, .cell (.int .i64 R)), (0, 7, .cell (.vs 28)), (0, 8, .cell (.bool true)), (0, 9, .cell (.int .i64 (r : Nat))), (0, 17, .cell (.int .i64 (i : Nat)))] ++ (peerL 25 P ++ [(28, 0, .vec 1 28 n (ptS i))]), 4000, 189⟩ := by
  have hm : Try.prog.follows .mixedOrders = true := by kernel_rfl
  have hΓ : SpecsOK Try.prog [(13, pin 25 sAdvance)] := sget_cons (pin_ok 25 advance_ok) sget_nil
  refine Sem.block (Sem.of_evC hm T_ok hΓ rfl ?_)
  obtain ⟨hn2, hn8⟩ := hn
  refine evC_go0 (dec := []) (ks := [(0, 0), (0, 1), (0, 2), (0, 7), (0, 8), (0, 9), (0, 17), (0, 18), (25, 0), (25, 1), (25, 2), (25, 3), (25, 4), (25, 12), (25, 13), (25, 14), (26, 0), (27, 0), (28, 0)]) (s' := ⟨[(0, 0, Cont.cell (AV.int IntKind.i64 (↑n : Int))), (0, 1, Cont.cell (AV.int IntKind.i64 k)), (0, 2, Cont.cell (AV.int IntKind.i64 R)), (0, 7, Cont.cell (AV.vs 28)), (0, 8, Cont.cell (AV.bool true)), (0, 9, Cont.cell (AV.int IntKind.i64 (↑r : Int))), (0, 17, Cont.cell (AV.int IntKind.i64 (↑i : Int))), (0, 18, Cont.cell (AV.int IntKind.i64 0)), (25, 0, Cont.cell (AV.int IntKind.i64 (Peer.me P))), (25, 1, Cont.cell (AV.int IntKind.i64 (Peer.n P))), (25, 2, Cont.cell (AV.int IntKind.i64 (Peer.turn P))), (25, 3, Cont.cell (AV.int IntKind.i64 (Peer.iss P))), (25, 4, Cont.arr 8 (nI (Peer.hd P))), (25, 12, Cont.cell (AV.mp 26)), (25, 13, Cont.cell (AV.mp 27)), (25, 14, Cont.top), (26, 0, Cont.map 2 (smap (Peer.sets P))), (27, 0, Cont.map 2 (wmap (Peer.words P))), (28, 0, Cont.vec 1 28 n (ptS i))], 4032, 189⟩) (by kernel_rfl) (by kernel_rfl) ?_
  refine evC_block ?_
  refine evC_loop (ι := { x : Nat × Peer // VL n x.2 i (T + x.1) I J ∧ T + x.1 ≤ J }) (fun x => ⟨[(0, 0, Cont.cell (AV.int IntKind.i64 (↑n : Int))), (0, 1, Cont.cell (AV.int IntKind.i64 k)), (0, 2, Cont.cell (AV.int IntKind.i64 R)), (0, 7, Cont.cell (AV.vs 28)), (0, 8, Cont.cell (AV.bool true)), (0, 9, Cont.cell (AV.int IntKind.i64 (↑r : Int))), (0, 17, Cont.cell (AV.int IntKind.i64 (↑i : Int))), (0, 18, .cell (.int .i64 (x.1.1 : Nat))), (25, 0, .cell (.int .i64 x.1.2.me)), (25, 1, .cell (.int .i64 x.1.2.n)), (25, 2, .cell (.int .i64 x.1.2.turn)), (25, 3, .cell (.int .i64 x.1.2.iss)), (25, 4, .arr 8 (nI x.1.2.hd)), (25, 12, Cont.cell (AV.mp 26)), (25, 13, Cont.cell (AV.mp 27)), (25, 14, Cont.top), (26, 0, .map 2 (smap x.1.2.sets)), (27, 0, .map 2 (wmap x.1.2.words)), (28, 0, Cont.vec 1 28 n (ptS i))], 29, 189⟩) (fun x => (J - T).toNat - x.1.1) ⟨(0, P), by simpa using V, by simpa using hJ.2.2.2⟩ (wk_go [28] rfl (by decide) rfl rfl ⟨⟨_, rfl, rfl⟩, ⟨_, rfl, rfl⟩, ⟨_, rfl, rfl⟩, ⟨_, rfl, rfl⟩, ⟨_, rfl, rfl⟩, ⟨_, rfl, rfl⟩, ⟨_, rfl, rfl⟩, ⟨_, rfl, rfl⟩, ⟨_, rfl, rfl⟩, ⟨_, rfl, rfl⟩, ⟨_, rfl, rfl⟩, ⟨_, rfl, rfl⟩, ⟨_, rfl, ⟨rfl, fun _ _ => rfl⟩⟩, ⟨_, rfl, rfl⟩, ⟨_, rfl, rfl⟩, ⟨_, rfl, trivial⟩, ⟨_, rfl, Go.Eng.S25.cw_smap _⟩, ⟨_, rfl, cw_map (Go.Eng.S25.flat_wmap _)⟩, ⟨_, rfl, Go.Eng.S25.cw_rowP (by assumption) (by assumption)⟩, trivial⟩) ?_
  rintro ⟨⟨c, P⟩, V, hc8⟩
  have V : VL n P i (T + (c : Nat)) I J := V
  have hc8 : T + (c : Nat) ≤ J := hc8
  obtain ⟨W1, W2, W3⟩ := V.adv hn2 hi ⟨hJ.1, hJ.2.1⟩
  refine evC_seq ?_
  refine evC_go0 (dec := []) (ks := [(0, 0), (0, 1), (0, 2), (0, 7), (0, 8), (0, 9), (0, 17), (0, 18), (0, 157), (25, 0), (25, 1), (25, 2), (25, 3), (25, 4), (25, 12), (25, 13), (25, 14), (26, 0), (27, 0), (28, 0)]) (s' := ⟨[(0, 0, Cont.cell (AV.int IntKind.i64 (↑n : Int))), (0, 1, Cont.cell (AV.int IntKind.i64 k)), (0, 2, Cont.cell (AV.int IntKind.i64 R)), (0, 7, Cont.cell (AV.vs 28)), (0, 8, Cont.cell (AV.bool true)), (0, 9, Cont.cell (AV.int IntKind.i64 (↑r : Int))), (0, 17, Cont.cell (AV.int IntKind.i64 (↑i : Int))), (0, 18, Cont.cell (AV.int IntKind.i64 (↑c : Int))), (0, 157, Cont.cell (AV.bool (decide ((↑c : Int) < 20)))), (25, 0, Cont.cell (AV.int IntKind.i64 (Peer.me P))), (25, 1, Cont.cell (AV.int IntKind.i64 (Peer.n P))), (25, 2, Cont.cell (AV.int IntKind.i64 (Peer.turn P))), (25, 3, Cont.cell (AV.int IntKind.i64 (Peer.iss P))), (25, 4, Cont.arr 8 (nI (Peer.hd P))), (25, 12, Cont.cell (AV.mp 26)), (25, 13, Cont.cell (AV.mp 27)), (25, 14, Cont.top), (26, 0, Cont.map 2 (smap (Peer.sets P))), (27, 0, Cont.map 2 (wmap (Peer.words P))), (28, 0, Cont.vec 1 28 n (ptS i))], 93, 189⟩) (by kernel_rfl) (by kernel_rfl) ?_
  refine evC_if (q := decide ((↑c : Int) < 20)) (by kernel_rfl) (fun hc => ?_) (fun hc => ?_)
  · clear hc
    refine evC_skip ?_
    refine then_normal ?_
    refine evC_seq ?_
    refine evC_block ?_
    refine evC_go (dec := []) (ks := [(0, 0), (0, 1), (0, 2), (0, 7), (0, 8), (0, 9), (0, 17), (0, 18), (0, 20), (25, 0), (25, 1), (25, 2), (25, 3), (25, 4), (25, 12), (25, 13), (25, 14), (26, 0), (27, 0), (28, 0)]) (ps := [(0 : Int) ≤ (↑i : Int), (↑i : Int) < (↑n : Int), (1 : Nat) = (1 : Nat), (0 : Int) ≤ (↑i : Int), (↑i : Int) < (↑n : Int), (1 : Nat) = (1 : Nat), ptS i i = AV.ptr (25 : Nat) (0 : Nat), ((0 : Nat) < (25 : Nat) ∧ (0 : Nat) < (26 : Nat) ∧ (0 : Nat) < (27 : Nat) ∧ (25 : Nat) ≠ (26 : Nat) ∧ (25 : Nat) ≠ (27 : Nat) ∧ (26 : Nat) ≠ (27 : Nat)) ∧ smap (Peer.sets P) = smap (sOf (smap (Peer.sets P))) ∧ wmap (Peer.words P) = wmap (wOf (wmap (Peer.words P))) ∧ ∀ (i : Nat), i < (8 : Nat) → nI (Peer.hd P) i = nI (If (nI (Peer.hd P))) i, okT { me := Peer.me P, n := Peer.n P, turn := Peer.turn P, iss := Peer.iss P, hd := If (nI (Peer.hd P)), sets := sOf (smap (Peer.sets P)), words := wOf (wmap (Peer.words P)) }, OkP { me := Peer.me P, n := Peer.n P, turn := Peer.turn P, iss := Peer.iss P, hd := If (nI (Peer.hd P)), sets := sOf (smap (Peer.sets P)), words := wOf (wmap (Peer.words P)) }]) (s' := ⟨[(0, 0, Cont.cell (AV.int IntKind.i64 (↑n : Int))), (0, 1, Cont.cell (AV.int IntKind.i64 k)), (0, 2, Cont.cell (AV.int IntKind.i64 R)), (0, 7, Cont.cell (AV.vs 28)), (0, 8, Cont.cell (AV.bool true)), (0, 9, Cont.cell (AV.int IntKind.i64 (↑r : Int))), (0, 17, Cont.cell (AV.int IntKind.i64 (↑i : Int))), (0, 18, Cont.cell (AV.int IntKind.i64 (↑c : Int))), (0, 20, Cont.cell (AV.int IntKind.i64 (advE { me := Peer.me P, n := Peer.n P, turn := Peer.turn P, iss := Peer.iss P, hd := If (nI (Peer.hd P)), sets := sOf (smap (Peer.sets P)), words := wOf (wmap (Peer.words P)) }))), (25, 0, Cont.cell (AV.int IntKind.i64 (Peer.me (advP { me := Peer.me P, n := Peer.n P, turn := Peer.turn P, iss := Peer.iss P, hd := If (nI (Peer.hd P)), sets := sOf (smap (Peer.sets P)), words := wOf (wmap (Peer.words P)) })))), (25, 1, Cont.cell (AV.int IntKind.i64 (Peer.n (advP { me := Peer.me P, n := Peer.n P, turn := Peer.turn P, iss := Peer.iss P, hd := If (nI (Peer.hd P)), sets := sOf (smap (Peer.sets P)), words := wOf (wmap (Peer.words P)) })))), (25, 2, Cont.cell (AV.int IntKind.i64 (Peer.turn (advP { me := Peer.me P, n := Peer.n P, turn := Peer.turn P, iss := Peer.iss P, hd := If (nI (Peer.hd P)), sets := sOf (smap (Peer.sets P)), words := wOf (wmap (Peer.words P)) })))), (25, 3, Cont.cell (AV.int IntKind.i64 (Peer.iss (advP { me := Peer.me P, n := Peer.n P, turn := Peer.turn P, iss := Peer.iss P, hd := If (nI (Peer.hd P)), sets := sOf (smap (Peer.sets P)), words := wOf (wmap (Peer.words P)) })))), (25, 4, Cont.arr 8 (nI (Peer.hd (advP { me := Peer.me P, n := Peer.n P, turn := Peer.turn P, iss := Peer.iss P, hd := If (nI (Peer.hd P)), sets := sOf (smap (Peer.sets P)), words := wOf (wmap (Peer.words P)) })))), (25, 12, Cont.cell (AV.mp 26)), (25, 13, Cont.cell (AV.mp 27)), (25, 14, Cont.top), (26, 0, Cont.map 2 (smap (Peer.sets (advP { me := Peer.me P, n := Peer.n P, turn := Peer.turn P, iss := Peer.iss P, hd := If (nI (Peer.hd P)), sets := sOf (smap (Peer.sets P)), words := wOf (wmap (Peer.words P)) })))), (27, 0, Cont.map 2 (wmap (Peer.words (advP { me := Peer.me P, n := Peer.n P, turn := Peer.turn P, iss := Peer.iss P, hd := If (nI (Peer.hd P)), sets := sOf (smap (Peer.sets P)), words := wOf (wmap (Peer.words P)) })))), (28, 0, Cont.vec 1 28 n (ptS i))], 413, 189⟩) (by kernel_rfl) (by kernel_rfl) ?_ ?_
    · rw [peer_eta]
      exact ⟨by omega, by omega, rfl, by omega, by omega, rfl, ptS_at i, peer_side P (by decide), V.okT (by omega) (by omega), V.ok⟩
    rw [peer_eta]
    by_cases hlt : T + (c : Nat) < J
    · rw [W1.2 hlt]
      refine evC_go0 (dec := []) (ks := [(0, 0), (0, 1), (0, 2), (0, 7), (0, 8), (0, 9), (0, 17), (0, 18), (0, 169), (25, 0), (25, 1), (25, 2), (25, 3), (25, 4), (25, 12), (25, 13), (25, 14), (26, 0), (27, 0), (28, 0)]) (s' := ⟨[(0, 0, Cont.cell (AV.int IntKind.i64 (↑n : Int))), (0, 1, Cont.cell (AV.int IntKind.i64 k)), (0, 2, Cont.cell (AV.int IntKind.i64 R)), (0, 7, Cont.cell (AV.vs 28)), (0, 8, Cont.cell (AV.bool true)), (0, 9, Cont.cell (AV.int IntKind.i64 (↑r : Int))), (0, 17, Cont.cell (AV.int IntKind.i64 (↑i : Int))), (0, 18, Cont.cell (AV.int IntKind.i64 (↑c : Int))), (0, 169, Cont.cell (AV.bool false)), (25, 0, Cont.cell (AV.int IntKind.i64 (Peer.me (advP P)))), (25, 1, Cont.cell (AV.int IntKind.i64 (Peer.n (advP P)))), (25, 2, Cont.cell (AV.int IntKind.i64 (Peer.turn (advP P)))), (25, 3, Cont.cell (AV.int IntKind.i64 (Peer.iss (advP P)))), (25, 4, Cont.arr 8 (nI (Peer.hd (advP P)))), (25, 12, Cont.cell (AV.mp 26)), (25, 13, Cont.cell (AV.mp 27)), (25, 14, Cont.top), (26, 0, Cont.map 2 (smap (Peer.sets (advP P)))), (27, 0, Cont.map 2 (wmap (Peer.words (advP P)))), (28, 0, Cont.vec 1 28 n (ptS i))], 477, 189⟩) (by kernel_rfl) (by kernel_rfl) ?_
      refine evC_if (q := false) (by kernel_rfl) (fun hc => ?_) (fun hc => ?_)
      · cases hc
      clear hc
      refine evC_skip ?_
      refine block_normal ?_
      refine then_normal ?_
      refine evC_goL0 (dec := []) (ks := [(0, 0), (0, 1), (0, 2), (0, 7), (0, 8), (0, 9), (0, 17), (0, 18), (25, 0), (25, 1), (25, 2), (25, 3), (25, 4), (25, 12), (25, 13), (25, 14), (26, 0), (27, 0), (28, 0)]) (s' := ⟨[(0, 0, Cont.cell (AV.int IntKind.i64 (↑n : Int))), (0, 1, Cont.cell (AV.int IntKind.i64 k)), (0, 2, Cont.cell (AV.int IntKind.i64 R)), (0, 7, Cont.cell (AV.vs 28)), (0, 8, Cont.cell (AV.bool true)), (0, 9, Cont.cell (AV.int IntKind.i64 (↑r : Int))), (0, 17, Cont.cell (AV.int IntKind.i64 (↑i : Int))), (0, 18, Cont.cell (AV.int IntKind.i64 (IntKind.i64.wrap ((↑c : Int) + 1)))), (25, 0, Cont.cell (AV.int IntKind.i64 (Peer.me (advP P)))), (25, 1, Cont.cell (AV.int IntKind.i64 (Peer.n (advP P)))), (25, 2, Cont.cell (AV.int IntKind.i64 (Peer.turn (advP P)))), (25, 3, Cont.cell (AV.int IntKind.i64 (Peer.iss (advP P)))), (25, 4, Cont.arr 8 (nI (Peer.hd (advP P)))), (25, 12, Cont.cell (AV.mp 26)), (25, 13, Cont.cell (AV.mp 27)), (25, 14, Cont.top), (26, 0, Cont.map 2 (smap (Peer.sets (advP P)))), (27, 0, Cont.map 2 (wmap (Peer.words (advP P)))), (28, 0, Cont.vec 1 28 n (ptS i))], 573, 189⟩) (by kernel_rfl) (by kernel_rfl) ?_
      refine round_normal (⟨(c + 1, advP P), by have := W2 hlt; rwa [Int.add_assoc] at this, by show T + ((c + 1 : Nat) : Int) ≤ _; omega⟩) (wk_go [28] rfl (by decide) rfl rfl ⟨⟨_, rfl, rfl⟩, ⟨_, rfl, rfl⟩, ⟨_, rfl, rfl⟩, ⟨_, rfl, rfl⟩, ⟨_, rfl, rfl⟩, ⟨_, rfl, rfl⟩, ⟨_, rfl, rfl⟩, ⟨_, rfl, ?_⟩, ⟨_, rfl, rfl⟩, ⟨_, rfl, rfl⟩, ⟨_, rfl, rfl⟩, ⟨_, rfl, rfl⟩, ⟨_, rfl, ⟨rfl, fun _ _ => rfl⟩⟩, ⟨_, rfl, rfl⟩, ⟨_, rfl, rfl⟩, ⟨_, rfl, trivial⟩, ⟨_, rfl, Go.Eng.S25.cw_smap _⟩, ⟨_, rfl, cw_map (Go.Eng.S25.flat_wmap _)⟩, ⟨_, rfl, Go.Eng.S25.cw_rowP (by assumption) (by assumption)⟩, trivial⟩) ?_
      · show AV.int .i64 _ = AV.int .i64 _
        rw [i64_in ((c : Int) + 1) (by omega)]
        rfl
      · show (J - T).toNat - (c + 1) < (J - T).toNat - c
        omega
    · have hne : advE P ≠ 0 := fun h => hlt (W1.1 h)
      rw [W3 hlt]
      have hb : (advE P != 0) = true := by rw [bne_iff_ne]; exact hne
      refine evC_go0 (dec := []) (ks := [(0, 0), (0, 1), (0, 2), (0, 7), (0, 8), (0, 9), (0, 17), (0, 18), (0, 169), (25, 0), (25, 1), (25, 2), (25, 3), (25, 4), (25, 12), (25, 13), (25, 14), (26, 0), (27, 0), (28, 0)]) (s' := ⟨[(0, 0, Cont.cell (AV.int IntKind.i64 (↑n : Int))), (0, 1, Cont.cell (AV.int IntKind.i64 k)), (0, 2, Cont.cell (AV.int IntKind.i64 R)), (0, 7, Cont.cell (AV.vs 28)), (0, 8, Cont.cell (AV.bool true)), (0, 9, Cont.cell (AV.int IntKind.i64 (↑r : Int))), (0, 17, Cont.cell (AV.int IntKind.i64 (↑i : Int))), (0, 18, Cont.cell (AV.int IntKind.i64 (↑c : Int))), (0, 169, Cont.cell (AV.bool (advE P != 0))), (25, 0, Cont.cell (AV.int IntKind.i64 (Peer.me P))), (25, 1, Cont.cell (AV.int IntKind.i64 (Peer.n P))), (25, 2, Cont.cell (AV.int IntKind.i64 (Peer.turn P))), (25, 3, Cont.cell (AV.int IntKind.i64 (Peer.iss P))), (25, 4, Cont.arr 8 (nI (Peer.hd P))), (25, 12, Cont.cell (AV.mp 26)), (25, 13, Cont.cell (AV.mp 27)), (25, 14, Cont.top), (26, 0, Cont.map 2 (smap (Peer.sets P))), (27, 0, Cont.map 2 (wmap (Peer.words P))), (28, 0, Cont.vec 1 28 n (ptS i))], 477, 189⟩) (by kernel_rfl) (by kernel_rfl) ?_
      refine evC_if (q := advE P != 0) (by kernel_rfl) (fun hc => ?_) (fun hc => ?_)
      · clear hc
        refine evC_exit ?_
        refine block_other rfl ?_
        refine then_exit ?_
        refine round_exit ?_
        refine block_exit ?_
        refine block_normal ?_
        refine skeep_at ?_
        exact hQ _ _ _ (by rw [show T + (c : Nat) = J by omega] at V; exact V)
      · rw [hb] at hc
        cases hc
  · exact absurd (of_decide_eq_false hc) (by omega)
theorem live_turn {n i k R : Nat} {T I J : Int} {P : Peer} {Q : Exit → St → Prop} (hn : 2 ≤ n ∧ n ≤ 8) (hi : i < n) (hT : 0 ≤ T ∧ T ≤ 200) (hI : 0 ≤ I ∧ I ≤ 300) (hk : 1 ≤ k) (hR : R ≤ 12) (hle : 8 * ((R / k : Nat) : Int) ≤ T) (V : VL n P i T I J)
    (hQ : ∀ b, Q .normal ⟨[(0, 0, .cell (.int .i64 (n : Nat))), (0, 1, .cell (.int .i64 (k : Nat))), (0, 2, .cell (.int .i64 (R : Nat))), (0, 7, .cell (.vs 28)), (0, 8, .cell (.bool true)), (0, 21, .cell (.int .i64 (i : Nat))), (0, 184, .cell (.bool b))] ++ (peerL 25 P ++ [(28, 0, .vec 1 28 n (ptS i))]), 4320, 189⟩) :
    Sem Try.prog 28 (cpath (Try.f3.body.getD .skip) [1, 1, 1, 1, 1, 1, 1, 0, 1, 2, 2, 1, 0]) (SKeep [0, 1, 2, 7, 8, 21] Q) ⟨[(0, 0, .cell (.int .i64 (n : Nat))), (0, 1, .cell (.int .i64 (k : Nat))), (0, 2, .cell (.int .i64 (R : Nat))), (0, 7, .cell (.vs 28)), (0, 8, .cell (.bool true)), (0, 21, .cell (.int .i64 (i : Nat)))] ++ (peerL 25 P ++ [(28, 0, .vec 1 28 n (ptS i))]), 4000, 189⟩ := by
  have hm : Try.prog.follows .mixedOrders = true := by kernel_rfl
  have hΓ : SpecsOK Try.prog [(14, pin 25 sTurn)] := sget_cons (pin_ok 25 turn_ok) sget_nil
  refine Sem.block (Sem.of_evC hm T_ok hΓ rfl ?_)
  obtain ⟨hn2, hn8⟩ := hn
  refine evC_go (dec := []) (ks := [(0, 0), (0, 1), (0, 2), (0, 7), (0, 8), (0, 21), (0, 184), (25, 0), (25, 1), (25, 2), (25, 3), (25, 4), (25, 12), (25, 13), (25, 14), (26, 0), (27, 0), (28, 0)]) (ps := [(0 : Int) ≤ (↑i : Int), (↑i : Int) < (↑n : Int), (1 : Nat) = (1 : Nat), (0 : Int) ≤ (↑i : Int), (↑i : Int) < (↑n : Int), (1 : Nat) = (1 : Nat), ptS i i = AV.ptr (25 : Nat) (0 : Nat), ((0 : Nat) < (25 : Nat) ∧ (0 : Nat) < (25 : Nat) + (1 : Nat) ∧ (0 : Nat) < (25 : Nat) + (2 : Nat) ∧ (25 : Nat) ≠ (25 : Nat) + (1 : Nat) ∧ (25 : Nat) ≠ (25 : Nat) + (2 : Nat) ∧ (25 : Nat) + (1 : Nat) ≠ (25 : Nat) + (2 : Nat)) ∧ smap (Peer.sets P) = smap (sOf (smap (Peer.sets P))) ∧ wmap (Peer.words P) = wmap (wOf (wmap (Peer.words P))) ∧ ∀ (i : Nat), i < (8 : Nat) → nI (Peer.hd P) i = nI (If (nI (Peer.hd P))) i, (↑k : Int) ≠ (0 : Int)]) (s' := ⟨[(0, 0, Cont.cell (AV.int IntKind.i64 (↑n : Int))), (0, 1, Cont.cell (AV.int IntKind.i64 (↑k : Int))), (0, 2, Cont.cell (AV.int IntKind.i64 (↑R : Int))), (0, 7, Cont.cell (AV.vs 28)), (0, 8, Cont.cell (AV.bool true)), (0, 21, Cont.cell (AV.int IntKind.i64 (↑i : Int))), (0, 184, Cont.cell (AV.bool (decide (Peer.turn P < IntKind.i64.wrap (8 * IntKind.i64.wrap (Int.tdiv (↑R : Int) (↑k : Int))))))), (25, 0, Cont.cell (AV.int IntKind.i64 (Peer.me P))), (25, 1, Cont.cell (AV.int IntKind.i64 (Peer.n P))), (25, 2, Cont.cell (AV.int IntKind.i64 (Peer.turn P))), (25, 3, Cont.cell (AV.int IntKind.i64 (Peer.iss P))), (25, 4, Cont.arr 8 (nI (Peer.hd P))), (25, 12, Cont.cell (AV.mp 26)), (25, 13, Cont.cell (AV.mp 27)), (25, 14, Cont.top), (26, 0, Cont.map 2 (smap (Peer.sets P))), (27, 0, Cont.map 2 (wmap (Peer.words P))), (28, 0, Cont.vec 1 28 n (ptS i))], 4320, 189⟩) (by kernel_rfl) (by kernel_rfl) ?_ ?_
  · exact ⟨by omega, by omega, rfl, by omega, by omega, rfl, ptS_at i, peer_side P (by decide), fun h => by have h : (k : Int) = 0 := h; omega⟩
  have hq : Int.tdiv (R : Int) (k : Int) = ((R / k : Nat) : Int) := rfl
  have hRk : R / k ≤ 12 := Nat.le_trans (Nat.div_le_self _ _) hR
  rw [hq]
  clear hq
  generalize R / k = z at *
  have ht : P.turn = T := by obtain ⟨_, _, V, _⟩ := V; exact V.pt
  rw [i64_in (z : Int) (by omega), i64_in (8 * (z : Int)) (by omega)]
  refine evC_if (q := decide (Peer.turn P < 8 * (↑z : Int))) (by kernel_rfl) (fun hc => ?_) (fun hc => ?_)
  · exact absurd (of_decide_eq_true hc) (by omega)
  clear hc
  refine evC_skip ?_
  refine block_normal ?_
  refine skeep_at ?_
  exact hQ _
end Go.Eng.S25
