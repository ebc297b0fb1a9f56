/- Seat 25: what is known, words, and a turn's end, walked. -/
import Derived.Test.YtodnecfgiimclaaEngX
import Derived.Test.YtodnecfgiimclaaS25H
set_option linter.unusedSimpArgs false
set_option linter.unusedVariables false
namespace Go.Eng.S25
open Go.Proofs Go.IntWalk
set_option maxRecDepth 10000

def knownL (P : Peer) (t q : Int) : List Int := bif decide (t < 2) then [] else (kget P.sets t q).getD []
def knownB (P : Peer) (t q : Int) : Bool := decide (t < 2) || (kget P.sets t q).isSome
theorem look_some (S : List ((Int × Int) × List Int)) (t p : Int) : (mget (smap S) [t, p]).isSome = (kget S t p).isSome := by
  rw [mget_smap]
  cases kget S t p <;> rfl
theorem look_wsome (W : List ((Int × Int) × Int)) (t p : Int) : (mget (wmap W) [t, p]).isSome = (kget W t p).isSome := by
  rw [mget_wmap]
  cases kget W t p <;> rfl
theorem bsb_has (L : List Int) (b : Bool) : Has true true (.tup [bs L, .bool b]) := .tup _ fun v hv => by
  simp only [List.mem_cons, List.not_mem_nil, or_false] at hv
  rcases hv with rfl | rfl
  · exact bs_has _
  · exact .bool _
def sKnown : Spec := fun args hr nb => match args with
  | [v, .agg [.int .i64 t, .int .i64 q]] => withPeer hr v fun n b c P s rd => some ⟨[s], .tup [bs (knownL P t q), .bool (knownB P t q)], rd, []⟩
  | _ => none
theorem known_ok : SpecOK Try.prog 35 sKnown := by
  refine spec_at (by kernel_rfl) T_ok sget_nil Try.func35 rfl rfl fun args hr nb out e => ?_
  unfold sKnown at e
  split at e
  · rename_i v t q
    obtain ⟨n, b, c, P, s, rd, rfl, e, hrd, hs0, hs1, hs2⟩ := peer_open e
    injection e with e; subst e
    refine ⟨hrd, true, [n, b, c], [.ptr 1 0, .agg [.int .i64 t, .int .i64 q]], pcon 1 2 3 P, rfl, fun hs => ?_⟩
    obtain ⟨k1, k2, k3⟩ := hs0 (hs _ List.mem_cons_self)
    have k4 := hs1 (hs _ List.mem_cons_self) [] nb
    refine ⟨k1, fun z hz => ⟨(k2 z hz).1, (k2 z hz).2 _ fun x hx => hx⟩, .cons _ _ _ _ (.name _ _ _ rfl) (.cons _ _ _ _ (.same _ _ (flat_of _ rfl).has) .nil), k3 _ _, ?_⟩
    clear hs hs0 hs1 hs2 k1 k2 k3 hrd
    unfold pcon
    refine evC_go0 (dec := []) (ks := [(0, 0), (0, 3), (0, 4), (0, 5), (1, 0), (1, 1), (1, 2), (1, 3), (1, 4), (1, 12), (1, 13), (1, 14), (2, 0), (3, 0), (4, 0), (4, 1), (4, 2)]) (s' := ⟨[(0, 0, Cont.cell (AV.ptr 1 0)), (0, 3, Cont.cell (AV.ptr 4 0)), (0, 4, Cont.cell AV.nils), (0, 5, Cont.cell (AV.bool false)), (1, 0, Cont.cell (AV.int IntKind.i64 (Peer.me P))), (1, 1, Cont.cell (AV.int IntKind.i64 (Peer.n P))), (1, 2, Cont.cell (AV.int IntKind.i64 (Peer.turn P))), (1, 3, Cont.cell (AV.int IntKind.i64 (Peer.iss P))), (1, 4, Cont.arr 8 (nI (Peer.hd P))), (1, 12, Cont.cell (AV.mp 2)), (1, 13, Cont.cell (AV.mp 3)), (1, 14, Cont.top), (2, 0, Cont.map 2 (smap (Peer.sets P))), (3, 0, Cont.map 2 (wmap (Peer.words P))), (4, 0, Cont.cell (AV.int IntKind.i64 t)), (4, 1, Cont.cell (AV.int IntKind.i64 q)), (4, 2, Cont.top)], 100, 22⟩) (by kernel_rfl) (by kernel_rfl) ?_
    refine evC_seq ?_
    refine evC_go0 (dec := []) (ks := [(0, 0), (0, 3), (0, 4), (0, 5), (0, 10), (1, 0), (1, 1), (1, 2), (1, 3), (1, 4), (1, 12), (1, 13), (1, 14), (2, 0), (3, 0), (4, 0), (4, 1), (4, 2)]) (s' := ⟨[(0, 0, Cont.cell (AV.ptr 1 0)), (0, 3, Cont.cell (AV.ptr 4 0)), (0, 4, Cont.cell AV.nils), (0, 5, Cont.cell (AV.bool false)), (0, 10, Cont.cell (AV.bool (decide (t < 2)))), (1, 0, Cont.cell (AV.int IntKind.i64 (Peer.me P))), (1, 1, Cont.cell (AV.int IntKind.i64 (Peer.n P))), (1, 2, Cont.cell (AV.int IntKind.i64 (Peer.turn P))), (1, 3, Cont.cell (AV.int IntKind.i64 (Peer.iss P))), (1, 4, Cont.arr 8 (nI (Peer.hd P))), (1, 12, Cont.cell (AV.mp 2)), (1, 13, Cont.cell (AV.mp 3)), (1, 14, Cont.top), (2, 0, Cont.map 2 (smap (Peer.sets P))), (3, 0, Cont.map 2 (wmap (Peer.words P))), (4, 0, Cont.cell (AV.int IntKind.i64 t)), (4, 1, Cont.cell (AV.int IntKind.i64 q)), (4, 2, Cont.top)], 196, 22⟩) (by kernel_rfl) (by kernel_rfl) ?_
    refine evC_if (q := decide (t < 2)) (by kernel_rfl) (fun hc => ?_) (fun hc => ?_)
    · have hL : knownL P t q = [] := by unfold knownL; rw [hc]; rfl
      have hB : knownB P t q = true := by unfold knownB; rw [hc]; rfl
      rw [hL, hB]
      refine evC_go0 (dec := []) (ks := [(0, 0), (0, 3), (0, 4), (0, 5), (1, 0), (1, 1), (1, 2), (1, 3), (1, 4), (1, 12), (1, 13), (1, 14), (2, 0), (3, 0), (4, 0), (4, 1), (4, 2)]) (s' := ⟨[(0, 0, Cont.cell (AV.ptr 1 0)), (0, 3, Cont.cell (AV.ptr 4 0)), (0, 4, Cont.cell AV.nils), (0, 5, Cont.cell (AV.bool true)), (1, 0, Cont.cell (AV.int IntKind.i64 (Peer.me P))), (1, 1, Cont.cell (AV.int IntKind.i64 (Peer.n P))), (1, 2, Cont.cell (AV.int IntKind.i64 (Peer.turn P))), (1, 3, Cont.cell (AV.int IntKind.i64 (Peer.iss P))), (1, 4, Cont.arr 8 (nI (Peer.hd P))), (1, 12, Cont.cell (AV.mp 2)), (1, 13, Cont.cell (AV.mp 3)), (1, 14, Cont.top), (2, 0, Cont.map 2 (smap (Peer.sets P))), (3, 0, Cont.map 2 (wmap (Peer.words P))), (4, 0, Cont.cell (AV.int IntKind.i64 t)), (4, 1, Cont.cell (AV.int IntKind.i64 q)), (4, 2, Cont.top)], 260, 22⟩) (by kernel_rfl) (by kernel_rfl) ?_
      refine evC_wk _ (.imp 0 4 _ (bs []) rfl ?_) ?_
      · exact vi_nil _ _ _
      refine evC_ret ?_
      refine then_ret ?_
      refine post_ret ?_
      unfold bs
      refine ends_go [] (AV.tup [AV.rs 1 0 false (nU []), AV.bool true]) [(1, 0, Cont.cell (AV.int IntKind.i64 (Peer.me P))), (1, 1, Cont.cell (AV.int IntKind.i64 (Peer.n P))), (1, 2, Cont.cell (AV.int IntKind.i64 (Peer.turn P))), (1, 3, Cont.cell (AV.int IntKind.i64 (Peer.iss P))), (1, 4, Cont.arr 8 (nI (Peer.hd P))), (1, 12, Cont.cell (AV.mp 2)), (1, 13, Cont.cell (AV.mp 3)), (1, 14, Cont.top), (2, 0, Cont.map 2 (smap (Peer.sets P))), (3, 0, Cont.map 2 (wmap (Peer.words P)))] rfl (by decide) rfl rfl (?_) rfl ⟨⟨_, rfl, rfl⟩, ⟨_, rfl, rfl⟩, ⟨_, rfl, rfl⟩, ⟨_, rfl, rfl⟩, ⟨_, rfl, ⟨rfl, fun _ _ => rfl⟩⟩, ⟨_, rfl, rfl⟩, ⟨_, rfl, rfl⟩, ⟨_, rfl, trivial⟩, ⟨_, rfl, Go.Eng.S25.cw_smap _⟩, ⟨_, rfl, cw_map (Go.Eng.S25.flat_wmap _)⟩, trivial⟩ trivial ?_
      · exact bsb_has [] _
      · exact k4 _ _ (by simp [pcon, hget])
    · have hL : knownL P t q = (kget P.sets t q).getD [] := by unfold knownL; rw [hc]; rfl
      have hB : knownB P t q = (kget P.sets t q).isSome := by unfold knownB; rw [hc]; rfl
      rw [hL, hB]
      obtain ⟨F, hF1, hF2, hF3⟩ := look_s P.sets t q
      refine evC_skip ?_
      refine then_normal ?_
      refine evC_go (dec := []) (ks := [(0, 4), (0, 5), (0, 6), (0, 7), (1, 0), (1, 1), (1, 2), (1, 3), (1, 4), (1, 12), (1, 13), (1, 14), (2, 0), (3, 0)]) (ps := [(∃ b, Option.getD (mget (smap (Peer.sets P)) [t, q]) AV.nils = AV.rs (1 : Nat) (rsn (Option.getD (mget (smap (Peer.sets P)) [t, q]) AV.nils)) b (rsf (Option.getD (mget (smap (Peer.sets P)) [t, q]) AV.nils))) ∨ Option.getD (mget (smap (Peer.sets P)) [t, q]) AV.nils = AV.nils]) (s' := ⟨[(0, 4, Cont.cell AV.nils), (0, 5, Cont.cell (AV.bool false)), (0, 6, Cont.cell (AV.rs 1 (rsn (Option.getD (mget (smap (Peer.sets P)) [t, q]) AV.nils)) false (rsf (Option.getD (mget (smap (Peer.sets P)) [t, q]) AV.nils)))), (0, 7, Cont.cell (AV.bool (Option.isSome (mget (smap (Peer.sets P)) [t, q])))), (1, 0, Cont.cell (AV.int IntKind.i64 (Peer.me P))), (1, 1, Cont.cell (AV.int IntKind.i64 (Peer.n P))), (1, 2, Cont.cell (AV.int IntKind.i64 (Peer.turn P))), (1, 3, Cont.cell (AV.int IntKind.i64 (Peer.iss P))), (1, 4, Cont.arr 8 (nI (Peer.hd P))), (1, 12, Cont.cell (AV.mp 2)), (1, 13, Cont.cell (AV.mp 3)), (1, 14, Cont.top), (2, 0, Cont.map 2 (smap (Peer.sets P))), (3, 0, Cont.map 2 (wmap (Peer.words P)))], 548, 22⟩) (by kernel_rfl) (by kernel_rfl) ?_ ?_
      · exact hF3
      rw [hF1, look_some]
      generalize (kget P.sets t q).getD [] = S at hF1 hF2 ⊢
      refine evC_wk _ (.imp 0 6 _ (bs S) rfl ?_) ?_
      · exact vi_rs hF2
      refine evC_go0 (dec := []) (ks := [(0, 4), (0, 5), (1, 0), (1, 1), (1, 2), (1, 3), (1, 4), (1, 12), (1, 13), (1, 14), (2, 0), (3, 0)]) (s' := ⟨[(0, 4, Cont.cell (AV.rs 1 (List.length S) false (nU S))), (0, 5, Cont.cell (AV.bool (Option.isSome (kget (Peer.sets P) t q)))), (1, 0, Cont.cell (AV.int IntKind.i64 (Peer.me P))), (1, 1, Cont.cell (AV.int IntKind.i64 (Peer.n P))), (1, 2, Cont.cell (AV.int IntKind.i64 (Peer.turn P))), (1, 3, Cont.cell (AV.int IntKind.i64 (Peer.iss P))), (1, 4, Cont.arr 8 (nI (Peer.hd P))), (1, 12, Cont.cell (AV.mp 2)), (1, 13, Cont.cell (AV.mp 3)), (1, 14, Cont.top), (2, 0, Cont.map 2 (smap (Peer.sets P))), (3, 0, Cont.map 2 (wmap (Peer.words P)))], 676, 22⟩) (by kernel_rfl) (by kernel_rfl) ?_
      refine evC_ret ?_
      refine post_ret ?_
      unfold bs
      refine ends_go [] (AV.tup [AV.rs 1 (List.length S) false (nU S), AV.bool (Option.isSome (kget (Peer.sets P) t q))]) [(1, 0, Cont.cell (AV.int IntKind.i64 (Peer.me P))), (1, 1, Cont.cell (AV.int IntKind.i64 (Peer.n P))), (1, 2, Cont.cell (AV.int IntKind.i64 (Peer.turn P))), (1, 3, Cont.cell (AV.int IntKind.i64 (Peer.iss P))), (1, 4, Cont.arr 8 (nI (Peer.hd P))), (1, 12, Cont.cell (AV.mp 2)), (1, 13, Cont.cell (AV.mp 3)), (1, 14, Cont.top), (2, 0, Cont.map 2 (smap (Peer.sets P))), (3, 0, Cont.map 2 (wmap (Peer.words P)))] rfl (by decide) rfl rfl (?_) rfl ⟨⟨_, rfl, rfl⟩, ⟨_, rfl, rfl⟩, ⟨_, rfl, rfl⟩, ⟨_, rfl, rfl⟩, ⟨_, rfl, ⟨rfl, fun _ _ => rfl⟩⟩, ⟨_, rfl, rfl⟩, ⟨_, rfl, rfl⟩, ⟨_, rfl, trivial⟩, ⟨_, rfl, Go.Eng.S25.cw_smap _⟩, ⟨_, rfl, cw_map (Go.Eng.S25.flat_wmap _)⟩, trivial⟩ trivial ?_
      · exact bsb_has S _
      · exact k4 _ _ (by simp [pcon, hget])
  · cases e
end Go.Eng.S25
