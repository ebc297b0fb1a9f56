/- Seat 25: what a peer has issued and heard, walked. -/
import Derived.Test.YtodnecfgiimclaaEngX
import Derived.Test.YtodnecfgiimclaaS25B
set_option linter.unusedSimpArgs false
set_option linter.unusedVariables false
namespace Go.Eng.S25
open Go.Proofs Go.IntWalk
set_option maxRecDepth 10000

def sIssued : Spec := fun args hr _ => match args with
  | [v] => withPeer hr v fun n b c P s rd => some ⟨[s], .int .i64 P.iss, rd, []⟩
  | _ => none
theorem issued_ok : SpecOK Try.prog 20 sIssued := by
  refine spec_at (by kernel_rfl) T_ok sget_nil Try.func20 rfl rfl fun args hr nb out e => ?_
  unfold sIssued at e
  split at e
  · obtain ⟨n, b, c, P, s, rd, rfl, e, hrd, hs0, hs1, hs2⟩ := peer_open e
    injection e with e; subst e
    refine ⟨hrd, true, [n, b, c], [.ptr 1 0], pcon 1 2 3 P, rfl, fun hs => ?_⟩
    obtain ⟨k1, k2, k3⟩ := hs0 (hs _ List.mem_cons_self)
    have k4 := hs1 (hs _ List.mem_cons_self) [] nb
    refine ⟨k1, fun z hz => ⟨(k2 z hz).1, (k2 z hz).2 _ fun x hx => hx⟩, .cons _ _ _ _ (.name _ _ _ rfl) .nil, k3 _ _, ?_⟩
    clear hs hs0 hs1 hs2 k1 k2 k3 hrd
    unfold pcon
    refine evC_go0 (dec := []) (ks := [(0, 0), (0, 2), (1, 0), (1, 1), (1, 2), (1, 3), (1, 4), (1, 12), (1, 13), (1, 14), (2, 0), (3, 0)]) (s' := ⟨[(0, 0, Cont.cell (AV.ptr 1 0)), (0, 2, Cont.cell (AV.int IntKind.i64 0)), (1, 0, Cont.cell (AV.int IntKind.i64 (Peer.me P))), (1, 1, Cont.cell (AV.int IntKind.i64 (Peer.n P))), (1, 2, Cont.cell (AV.int IntKind.i64 (Peer.turn P))), (1, 3, Cont.cell (AV.int IntKind.i64 (Peer.iss P))), (1, 4, Cont.arr 8 (nI (Peer.hd P))), (1, 12, Cont.cell (AV.mp 2)), (1, 13, Cont.cell (AV.mp 3)), (1, 14, Cont.top), (2, 0, Cont.map 2 (smap (Peer.sets P))), (3, 0, Cont.map 2 (wmap (Peer.words P)))], 36, 7⟩) (by kernel_rfl) (by kernel_rfl) ?_
    refine evC_go0 (dec := []) (ks := [(0, 2), (1, 0), (1, 1), (1, 2), (1, 3), (1, 4), (1, 12), (1, 13), (1, 14), (2, 0), (3, 0)]) (s' := ⟨[(0, 2, Cont.cell (AV.int IntKind.i64 (Peer.iss P))), (1, 0, Cont.cell (AV.int IntKind.i64 (Peer.me P))), (1, 1, Cont.cell (AV.int IntKind.i64 (Peer.n P))), (1, 2, Cont.cell (AV.int IntKind.i64 (Peer.turn P))), (1, 3, Cont.cell (AV.int IntKind.i64 (Peer.iss P))), (1, 4, Cont.arr 8 (nI (Peer.hd P))), (1, 12, Cont.cell (AV.mp 2)), (1, 13, Cont.cell (AV.mp 3)), (1, 14, Cont.top), (2, 0, Cont.map 2 (smap (Peer.sets P))), (3, 0, Cont.map 2 (wmap (Peer.words P)))], 196, 7⟩) (by kernel_rfl) (by kernel_rfl) ?_
    refine evC_ret ?_
    refine post_ret ?_
    refine ends_go [] (AV.int IntKind.i64 (Peer.iss P)) [(1, 0, Cont.cell (AV.int IntKind.i64 (Peer.me P))), (1, 1, Cont.cell (AV.int IntKind.i64 (Peer.n P))), (1, 2, Cont.cell (AV.int IntKind.i64 (Peer.turn P))), (1, 3, Cont.cell (AV.int IntKind.i64 (Peer.iss P))), (1, 4, Cont.arr 8 (nI (Peer.hd P))), (1, 12, Cont.cell (AV.mp 2)), (1, 13, Cont.cell (AV.mp 3)), (1, 14, Cont.top), (2, 0, Cont.map 2 (smap (Peer.sets P))), (3, 0, Cont.map 2 (wmap (Peer.words P)))] rfl (by decide) rfl rfl (has_of _ rfl) rfl ⟨⟨_, rfl, rfl⟩, ⟨_, rfl, rfl⟩, ⟨_, rfl, rfl⟩, ⟨_, rfl, rfl⟩, ⟨_, rfl, ⟨rfl, fun _ _ => rfl⟩⟩, ⟨_, rfl, rfl⟩, ⟨_, rfl, rfl⟩, ⟨_, rfl, trivial⟩, ⟨_, rfl, Go.Eng.S25.cw_smap _⟩, ⟨_, rfl, cw_map (Go.Eng.S25.flat_wmap _)⟩, trivial⟩ trivial ?_
    exact k4 _ _ (by simp [pcon, hget])
  · cases e
def heardV (P : Peer) (q : Int) : Int := bif q == P.me then P.turn else bif decide (q < 0) || decide (q ≥ P.n) then 0 else P.hd q.toNat
def sHeard : Spec := fun args hr _ => match args with
  | [v, .int .i64 q] => withPeer hr v fun n b c P s rd => some ⟨[s, P.n ≤ 8], .int .i64 (heardV P q), rd, []⟩
  | _ => none
theorem heard_ok : SpecOK Try.prog 21 sHeard := by
  refine spec_at (by kernel_rfl) T_ok sget_nil Try.func21 rfl rfl fun args hr nb out e => ?_
  unfold sHeard at e
  split at e
  · rename_i v q
    obtain ⟨n, b, c, P, s, rd, rfl, e, hrd, hs0, hs1, hs2⟩ := peer_open e
    injection e with e; subst e
    refine ⟨hrd, true, [n, b, c], [.ptr 1 0, .int .i64 q], pcon 1 2 3 P, rfl, fun hs => ?_⟩
    obtain ⟨k1, k2, k3⟩ := hs0 (hs _ List.mem_cons_self)
    have k4 := hs1 (hs _ List.mem_cons_self) [] nb
    have hn := hs _ (List.mem_cons_of_mem _ List.mem_cons_self)
    refine ⟨k1, fun z hz => ⟨(k2 z hz).1, (k2 z hz).2 _ fun x hx => hx⟩, .cons _ _ _ _ (.name _ _ _ rfl) (.cons _ _ _ _ (.same _ _ (.int _ _)) .nil), k3 _ _, ?_⟩
    clear hs hs0 hs1 hs2 k1 k2 k3 hrd
    unfold heardV
    unfold pcon
    refine evC_go0 (dec := []) (ks := [(0, 0), (0, 1), (0, 4), (1, 0), (1, 1), (1, 2), (1, 3), (1, 4), (1, 12), (1, 13), (1, 14), (2, 0), (3, 0)]) (s' := ⟨[(0, 0, Cont.cell (AV.ptr 1 0)), (0, 1, Cont.cell (AV.int IntKind.i64 q)), (0, 4, Cont.cell (AV.int IntKind.i64 0)), (1, 0, Cont.cell (AV.int IntKind.i64 (Peer.me P))), (1, 1, Cont.cell (AV.int IntKind.i64 (Peer.n P))), (1, 2, Cont.cell (AV.int IntKind.i64 (Peer.turn P))), (1, 3, Cont.cell (AV.int IntKind.i64 (Peer.iss P))), (1, 4, Cont.arr 8 (nI (Peer.hd P))), (1, 12, Cont.cell (AV.mp 2)), (1, 13, Cont.cell (AV.mp 3)), (1, 14, Cont.top), (2, 0, Cont.map 2 (smap (Peer.sets P))), (3, 0, Cont.map 2 (wmap (Peer.words P)))], 36, 33⟩) (by kernel_rfl) (by kernel_rfl) ?_
    refine evC_seq ?_
    refine evC_block ?_
    refine evC_go0 (dec := []) (ks := [(0, 0), (0, 1), (0, 4), (0, 5), (1, 0), (1, 1), (1, 2), (1, 3), (1, 4), (1, 12), (1, 13), (1, 14), (2, 0), (3, 0)]) (s' := ⟨[(0, 0, Cont.cell (AV.ptr 1 0)), (0, 1, Cont.cell (AV.int IntKind.i64 q)), (0, 4, Cont.cell (AV.int IntKind.i64 0)), (0, 5, Cont.cell (AV.bool (q == Peer.me P))), (1, 0, Cont.cell (AV.int IntKind.i64 (Peer.me P))), (1, 1, Cont.cell (AV.int IntKind.i64 (Peer.n P))), (1, 2, Cont.cell (AV.int IntKind.i64 (Peer.turn P))), (1, 3, Cont.cell (AV.int IntKind.i64 (Peer.iss P))), (1, 4, Cont.arr 8 (nI (Peer.hd P))), (1, 12, Cont.cell (AV.mp 2)), (1, 13, Cont.cell (AV.mp 3)), (1, 14, Cont.top), (2, 0, Cont.map 2 (smap (Peer.sets P))), (3, 0, Cont.map 2 (wmap (Peer.words P)))], 260, 33⟩) (by kernel_rfl) (by kernel_rfl) ?_
    refine evC_if (q := q == Peer.me P) (by kernel_rfl) (fun hc => ?_) (fun hc => ?_)
    · rw [hc]
      simp only [cond_true]
      refine evC_go0 (dec := []) (ks := [(0, 0), (0, 1), (0, 4), (1, 0), (1, 1), (1, 2), (1, 3), (1, 4), (1, 12), (1, 13), (1, 14), (2, 0), (3, 0)]) (s' := ⟨[(0, 0, Cont.cell (AV.ptr 1 0)), (0, 1, Cont.cell (AV.int IntKind.i64 q)), (0, 4, Cont.cell (AV.int IntKind.i64 (Peer.turn P))), (1, 0, Cont.cell (AV.int IntKind.i64 (Peer.me P))), (1, 1, Cont.cell (AV.int IntKind.i64 (Peer.n P))), (1, 2, Cont.cell (AV.int IntKind.i64 (Peer.turn P))), (1, 3, Cont.cell (AV.int IntKind.i64 (Peer.iss P))), (1, 4, Cont.arr 8 (nI (Peer.hd P))), (1, 12, Cont.cell (AV.mp 2)), (1, 13, Cont.cell (AV.mp 3)), (1, 14, Cont.top), (2, 0, Cont.map 2 (smap (Peer.sets P))), (3, 0, Cont.map 2 (wmap (Peer.words P)))], 420, 33⟩) (by kernel_rfl) (by kernel_rfl) ?_
      refine evC_ret ?_
      refine block_ret ?_
      refine then_ret ?_
      refine post_ret ?_
      refine ends_go [] (AV.int IntKind.i64 (Peer.turn P)) [(1, 0, Cont.cell (AV.int IntKind.i64 (Peer.me P))), (1, 1, Cont.cell (AV.int IntKind.i64 (Peer.n P))), (1, 2, Cont.cell (AV.int IntKind.i64 (Peer.turn P))), (1, 3, Cont.cell (AV.int IntKind.i64 (Peer.iss P))), (1, 4, Cont.arr 8 (nI (Peer.hd P))), (1, 12, Cont.cell (AV.mp 2)), (1, 13, Cont.cell (AV.mp 3)), (1, 14, Cont.top), (2, 0, Cont.map 2 (smap (Peer.sets P))), (3, 0, Cont.map 2 (wmap (Peer.words P)))] rfl (by decide) rfl rfl (has_of _ rfl) rfl ⟨⟨_, rfl, rfl⟩, ⟨_, rfl, rfl⟩, ⟨_, rfl, rfl⟩, ⟨_, rfl, rfl⟩, ⟨_, rfl, ⟨rfl, fun _ _ => rfl⟩⟩, ⟨_, rfl, rfl⟩, ⟨_, rfl, rfl⟩, ⟨_, rfl, trivial⟩, ⟨_, rfl, Go.Eng.S25.cw_smap _⟩, ⟨_, rfl, cw_map (Go.Eng.S25.flat_wmap _)⟩, trivial⟩ trivial ?_
      exact k4 _ _ (by simp [pcon, hget])
    · rw [hc]
      simp only [cond_false]
      clear hc
      refine evC_go0 (dec := []) (ks := [(0, 0), (0, 1), (0, 4), (0, 16), (1, 0), (1, 1), (1, 2), (1, 3), (1, 4), (1, 12), (1, 13), (1, 14), (2, 0), (3, 0)]) (s' := ⟨[(0, 0, Cont.cell (AV.ptr 1 0)), (0, 1, Cont.cell (AV.int IntKind.i64 q)), (0, 4, Cont.cell (AV.int IntKind.i64 0)), (0, 16, Cont.cell (AV.bool (bif decide (q < 0) then true else decide (q ≥ Peer.n P)))), (1, 0, Cont.cell (AV.int IntKind.i64 (Peer.me P))), (1, 1, Cont.cell (AV.int IntKind.i64 (Peer.n P))), (1, 2, Cont.cell (AV.int IntKind.i64 (Peer.turn P))), (1, 3, Cont.cell (AV.int IntKind.i64 (Peer.iss P))), (1, 4, Cont.arr 8 (nI (Peer.hd P))), (1, 12, Cont.cell (AV.mp 2)), (1, 13, Cont.cell (AV.mp 3)), (1, 14, Cont.top), (2, 0, Cont.map 2 (smap (Peer.sets P))), (3, 0, Cont.map 2 (wmap (Peer.words P)))], 612, 33⟩) (by kernel_rfl) (by kernel_rfl) ?_
      rw [cond_or]
      refine evC_if (q := decide (q < 0) || decide (q ≥ Peer.n P)) (by kernel_rfl) (fun hc => ?_) (fun hc => ?_)
      · rw [hc]
        simp only [cond_true]
        refine evC_go0 (dec := []) (ks := [(0, 0), (0, 1), (0, 4), (1, 0), (1, 1), (1, 2), (1, 3), (1, 4), (1, 12), (1, 13), (1, 14), (2, 0), (3, 0)]) (s' := ⟨[(0, 0, Cont.cell (AV.ptr 1 0)), (0, 1, Cont.cell (AV.int IntKind.i64 q)), (0, 4, Cont.cell (AV.int IntKind.i64 0)), (1, 0, Cont.cell (AV.int IntKind.i64 (Peer.me P))), (1, 1, Cont.cell (AV.int IntKind.i64 (Peer.n P))), (1, 2, Cont.cell (AV.int IntKind.i64 (Peer.turn P))), (1, 3, Cont.cell (AV.int IntKind.i64 (Peer.iss P))), (1, 4, Cont.arr 8 (nI (Peer.hd P))), (1, 12, Cont.cell (AV.mp 2)), (1, 13, Cont.cell (AV.mp 3)), (1, 14, Cont.top), (2, 0, Cont.map 2 (smap (Peer.sets P))), (3, 0, Cont.map 2 (wmap (Peer.words P)))], 644, 33⟩) (by kernel_rfl) (by kernel_rfl) ?_
        refine evC_ret ?_
        refine block_ret ?_
        refine then_ret ?_
        refine post_ret ?_
        refine ends_go [] (AV.int IntKind.i64 0) [(1, 0, Cont.cell (AV.int IntKind.i64 (Peer.me P))), (1, 1, Cont.cell (AV.int IntKind.i64 (Peer.n P))), (1, 2, Cont.cell (AV.int IntKind.i64 (Peer.turn P))), (1, 3, Cont.cell (AV.int IntKind.i64 (Peer.iss P))), (1, 4, Cont.arr 8 (nI (Peer.hd P))), (1, 12, Cont.cell (AV.mp 2)), (1, 13, Cont.cell (AV.mp 3)), (1, 14, Cont.top), (2, 0, Cont.map 2 (smap (Peer.sets P))), (3, 0, Cont.map 2 (wmap (Peer.words P)))] rfl (by decide) rfl rfl (has_of _ rfl) rfl ⟨⟨_, rfl, rfl⟩, ⟨_, rfl, rfl⟩, ⟨_, rfl, rfl⟩, ⟨_, rfl, rfl⟩, ⟨_, rfl, ⟨rfl, fun _ _ => rfl⟩⟩, ⟨_, rfl, rfl⟩, ⟨_, rfl, rfl⟩, ⟨_, rfl, trivial⟩, ⟨_, rfl, Go.Eng.S25.cw_smap _⟩, ⟨_, rfl, cw_map (Go.Eng.S25.flat_wmap _)⟩, trivial⟩ trivial ?_
        exact k4 _ _ (by simp [pcon, hget])
      · rw [hc]
        simp only [cond_false]
        simp only [Bool.or_eq_false_iff, decide_eq_false_iff_not] at hc
        refine evC_skip ?_
        refine block_normal ?_
        refine then_normal ?_
        refine evC_go (dec := []) (ks := [(0, 4), (1, 0), (1, 1), (1, 2), (1, 3), (1, 4), (1, 12), (1, 13), (1, 14), (2, 0), (3, 0)]) (ps := [(0 : Int) ≤ q, q < (↑(8 : Nat) : Int), (0 : Int) ≤ q, q < (↑(8 : Nat) : Int)]) (s' := ⟨[(0, 4, Cont.cell (AV.int IntKind.i64 (Peer.hd P (Int.toNat q)))), (1, 0, Cont.cell (AV.int IntKind.i64 (Peer.me P))), (1, 1, Cont.cell (AV.int IntKind.i64 (Peer.n P))), (1, 2, Cont.cell (AV.int IntKind.i64 (Peer.turn P))), (1, 3, Cont.cell (AV.int IntKind.i64 (Peer.iss P))), (1, 4, Cont.arr 8 (nI (Peer.hd P))), (1, 12, Cont.cell (AV.mp 2)), (1, 13, Cont.cell (AV.mp 3)), (1, 14, Cont.top), (2, 0, Cont.map 2 (smap (Peer.sets P))), (3, 0, Cont.map 2 (wmap (Peer.words P)))], 836, 33⟩) (by kernel_rfl) (by kernel_rfl) ?_ ?_
        · (simp only [All]; (repeat' apply And.intro) <;> (try intro _) <;> (try intro _) <;> (repeat' apply And.intro) <;> (try intro _) <;> (try intro _) <;> first | trivial | assumption | exact .inr trivial | exact .inr rfl | omega | rfl | exact ⟨_, rfl, rfl⟩ | exact ⟨rfl, rfl⟩ | exact ⟨fun _ => rfl, fun _ => rfl⟩ | (unfold maxLen; omega) | (unfold i64R; first | omega | decide) | decide)
        refine evC_ret ?_
        refine post_ret ?_
        refine ends_go [] (AV.int IntKind.i64 (Peer.hd P (Int.toNat q))) [(1, 0, Cont.cell (AV.int IntKind.i64 (Peer.me P))), (1, 1, Cont.cell (AV.int IntKind.i64 (Peer.n P))), (1, 2, Cont.cell (AV.int IntKind.i64 (Peer.turn P))), (1, 3, Cont.cell (AV.int IntKind.i64 (Peer.iss P))), (1, 4, Cont.arr 8 (nI (Peer.hd P))), (1, 12, Cont.cell (AV.mp 2)), (1, 13, Cont.cell (AV.mp 3)), (1, 14, Cont.top), (2, 0, Cont.map 2 (smap (Peer.sets P))), (3, 0, Cont.map 2 (wmap (Peer.words P)))] rfl (by decide) rfl rfl (has_of _ rfl) rfl ⟨⟨_, rfl, rfl⟩, ⟨_, rfl, rfl⟩, ⟨_, rfl, rfl⟩, ⟨_, rfl, rfl⟩, ⟨_, rfl, ⟨rfl, fun _ _ => rfl⟩⟩, ⟨_, rfl, rfl⟩, ⟨_, rfl, rfl⟩, ⟨_, rfl, trivial⟩, ⟨_, rfl, Go.Eng.S25.cw_smap _⟩, ⟨_, rfl, cw_map (Go.Eng.S25.flat_wmap _)⟩, trivial⟩ trivial ?_
        exact k4 _ _ (by simp [pcon, hget])
  · cases e
end Go.Eng.S25
