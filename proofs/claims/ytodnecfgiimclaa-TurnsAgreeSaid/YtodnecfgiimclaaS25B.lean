/- Seat 25: new peers, and what a peer tells of itself, walked. -/
import Derived.Test.YtodnecfgiimclaaEngX
import Derived.Test.YtodnecfgiimclaaS25A
set_option linter.unusedSimpArgs false
set_option linter.unusedVariables false
namespace Go.Eng.S25
open Go.Proofs Go.IntWalk
set_option maxRecDepth 10000

def mayP (me n : Int) : Bool := decide (2 ≤ n) && decide (n ≤ 8) && decide (0 ≤ me) && decide (me < n)
theorem mayP_get {me n : Int} (h : mayP me n = true) : (2 ≤ n ∧ n ≤ 8) ∧ 0 ≤ me ∧ me < n := by
  unfold mayP at h
  simp only [Bool.and_eq_true, decide_eq_true_eq] at h
  omega
def sMay : Spec := fun args _ _ => match args with
  | [.int .i64 me, .int .i64 n] => some ⟨[], .bool (mayP me n), [], []⟩
  | _ => none
theorem may_ok : SpecOK Try.prog 19 sMay := by
  refine spec_own (by kernel_rfl) T_ok sget_nil Try.func19 rfl rfl fun args hr nb out e => ?_
  unfold sMay at e
  split at e
  · rename_i me n
    injection e with e; subst e
    refine ⟨(fun _ h => nomatch h), true, [.int .i64 me, .int .i64 n], rfl, fun hs => ⟨.cons _ _ _ _ (.same _ _ (.int _ _)) (.cons _ _ _ _ (.same _ _ (.int _ _)) .nil), ?_⟩⟩
    refine evC_go0 (dec := []) (ks := [(0, 0), (0, 1), (0, 4)]) (s' := ⟨[(0, 0, Cont.cell (AV.int IntKind.i64 me)), (0, 1, Cont.cell (AV.int IntKind.i64 n)), (0, 4, Cont.cell (AV.bool false))], 33, 20⟩) (by kernel_rfl) (by kernel_rfl) ?_
    refine evC_go0 (dec := []) (ks := [(0, 4)]) (s' := ⟨[(0, 4, Cont.cell (AV.bool (bif bif bif decide (2 ≤ n) then decide (n ≤ 8) else false then decide (0 ≤ me) else false then decide (me < n) else false)))], 545, 20⟩) (by kernel_rfl) (by kernel_rfl) ?_
    refine evC_ret ?_
    refine post_ret ?_
    refine ends_flat (vs := [AV.bool (bif bif bif decide (2 ≤ n) then decide (n ≤ 8) else false then decide (0 ≤ me) else false then decide (me < n) else false)]) (Nat.zero_lt_succ _) (by kernel_rfl) (flat_of _ (by kernel_rfl)) rfl ?_
    simp only [cond_and, oneAV, mayP]
  · cases e
def newP (me n : Int) : Peer := ⟨me, n, 0, 2, fun _ => 0, [], []⟩
def sNewG : Spec := fun args _ nb => match args with
  | [.int .i64 me, .int .i64 n] => some ⟨[mayP me n = true], .tup [.ptr nb 0, .int .i64 0], [], pcon nb (nb + 1) (nb + 2) (newP me n)⟩
  | _ => none
def sNewB : Spec := fun args _ nb => match args with
  | [.int .i64 me, .int .i64 n] => some ⟨[mayP me n = false], .tup [.nilp, .int .i64 1], [], []⟩
  | _ => none
theorem newCond (me n : Int) : (bif bif bif decide (n < 2) then true else decide (n > 8) then true else decide (me < 0) then true else decide (me ≥ n)) = !mayP me n := by
  unfold mayP
  simp only [cond_or]
  by_cases a : 2 ≤ n <;> by_cases b : n ≤ 8 <;> by_cases c : 0 ≤ me <;> by_cases d : me < n <;> simp [a, b, c, d] <;> omega
theorem newG_ok : SpecOK Try.prog 18 sNewG := by
  refine spec_own (by kernel_rfl) T_ok sget_nil Try.func18 rfl rfl fun args hr nb out e => ?_
  unfold sNewG at e
  split at e
  · rename_i me n
    injection e with e; subst e
    refine ⟨(fun _ h => nomatch h), true, [.int .i64 me, .int .i64 n], rfl, fun hs => ⟨.cons _ _ _ _ (.same _ _ (.int _ _)) (.cons _ _ _ _ (.same _ _ (.int _ _)) .nil), ?_⟩⟩
    have hm := hs _ List.mem_cons_self
    clear hs
    refine evC_go0 (dec := []) (ks := [(0, 0), (0, 1), (0, 4), (0, 5)]) (s' := ⟨[(0, 0, Cont.cell (AV.int IntKind.i64 me)), (0, 1, Cont.cell (AV.int IntKind.i64 n)), (0, 4, Cont.cell AV.nilp), (0, 5, Cont.cell (AV.int IntKind.i64 0))], 65, 27⟩) (by kernel_rfl) (by kernel_rfl) ?_
    refine evC_seq ?_
    refine evC_go0 (dec := []) (ks := [(0, 0), (0, 1), (0, 4), (0, 5), (0, 20)]) (s' := ⟨[(0, 0, Cont.cell (AV.int IntKind.i64 me)), (0, 1, Cont.cell (AV.int IntKind.i64 n)), (0, 4, Cont.cell AV.nilp), (0, 5, Cont.cell (AV.int IntKind.i64 0)), (0, 20, Cont.cell (AV.bool (bif bif bif decide (n < 2) then true else decide (n > 8) then true else decide (me < 0) then true else decide (me ≥ n))))], 545, 27⟩) (by kernel_rfl) (by kernel_rfl) ?_
    rw [newCond, hm]
    refine evC_if (q := false) (by kernel_rfl) (fun hc => ?_) (fun hc => ?_)
    · cases ‹(!true) = true›
    · refine evC_skip ?_
      refine then_normal ?_
      refine evC_go0 (dec := []) (ks := [(0, 4), (0, 5), (609, 0), (641, 0), (705, 0), (705, 1), (705, 2), (705, 3), (705, 4), (705, 12), (705, 13), (705, 14)]) (s' := ⟨[(0, 4, Cont.cell (AV.ptr 705 0)), (0, 5, Cont.cell (AV.int IntKind.i64 0)), (609, 0, Cont.map 2 []), (641, 0, Cont.map 2 []), (705, 0, Cont.cell (AV.int IntKind.i64 me)), (705, 1, Cont.cell (AV.int IntKind.i64 n)), (705, 2, Cont.cell (AV.int IntKind.i64 0)), (705, 3, Cont.cell (AV.int IntKind.i64 2)), (705, 4, Cont.arr 8 fun x => AV.int IntKind.i64 0), (705, 12, Cont.cell (AV.mp 609)), (705, 13, Cont.cell (AV.mp 641)), (705, 14, Cont.top)], 801, 27⟩) (by kernel_rfl) (by kernel_rfl) ?_
      refine evC_ret ?_
      refine post_ret ?_
      refine ends_go [705, 609, 641] (AV.tup [AV.ptr 1 0, AV.int IntKind.i64 0]) [(1, 0, Cont.cell (AV.int IntKind.i64 me)), (1, 1, Cont.cell (AV.int IntKind.i64 n)), (1, 2, Cont.cell (AV.int IntKind.i64 0)), (1, 3, Cont.cell (AV.int IntKind.i64 2)), (1, 4, Cont.arr 8 fun x => AV.int IntKind.i64 0), (1, 12, Cont.cell (AV.mp 2)), (1, 13, Cont.cell (AV.mp 3)), (1, 14, Cont.top), (2, 0, Cont.map 2 []), (3, 0, Cont.map 2 [])] rfl (by decide) rfl rfl (has_of _ rfl) rfl ⟨⟨_, rfl, rfl⟩, ⟨_, rfl, rfl⟩, ⟨_, rfl, rfl⟩, ⟨_, rfl, rfl⟩, ⟨_, rfl, ⟨rfl, fun _ _ => rfl⟩⟩, ⟨_, rfl, rfl⟩, ⟨_, rfl, rfl⟩, ⟨_, rfl, trivial⟩, ⟨_, rfl, cw_map .nil⟩, ⟨_, rfl, cw_map .nil⟩, trivial⟩ ⟨fun _ => ⟨1, _, rfl, rfl, rfl, ⟨has_of _ rfl, rfl⟩⟩, fun _ => ⟨1, _, rfl, rfl, rfl, ⟨has_of _ rfl, rfl⟩⟩, fun _ => ⟨1, _, rfl, rfl, rfl, ⟨has_of _ rfl, rfl⟩⟩, fun _ => ⟨1, _, rfl, rfl, rfl, ⟨has_of _ rfl, rfl⟩⟩, fun _ => ⟨1, _, rfl, rfl, rfl, ⟨rfl, fun _ _ => ⟨has_of _ rfl, rfl⟩⟩⟩, fun _ => ⟨1, _, rfl, rfl, rfl, ⟨has_of _ rfl, rfl⟩⟩, fun _ => ⟨1, _, rfl, rfl, rfl, ⟨has_of _ rfl, rfl⟩⟩, fun _ => ⟨1, _, rfl, rfl, rfl, trivial⟩, fun _ => ⟨2, _, rfl, rfl, rfl, Go.Eng.S25.cf_smap _⟩, fun _ => ⟨3, _, rfl, rfl, rfl, cf_map (Go.Eng.S25.flat_wmap _)⟩, trivial⟩ (kept_nil _)
  · cases e
theorem newB_ok : SpecOK Try.prog 18 sNewB := by
  refine spec_own (by kernel_rfl) T_ok sget_nil Try.func18 rfl rfl fun args hr nb out e => ?_
  unfold sNewB at e
  split at e
  · rename_i me n
    injection e with e; subst e
    refine ⟨(fun _ h => nomatch h), true, [.int .i64 me, .int .i64 n], rfl, fun hs => ⟨.cons _ _ _ _ (.same _ _ (.int _ _)) (.cons _ _ _ _ (.same _ _ (.int _ _)) .nil), ?_⟩⟩
    have hm := hs _ List.mem_cons_self
    clear hs
    refine evC_go0 (dec := []) (ks := [(0, 0), (0, 1), (0, 4), (0, 5)]) (s' := ⟨[(0, 0, Cont.cell (AV.int IntKind.i64 me)), (0, 1, Cont.cell (AV.int IntKind.i64 n)), (0, 4, Cont.cell AV.nilp), (0, 5, Cont.cell (AV.int IntKind.i64 0))], 65, 27⟩) (by kernel_rfl) (by kernel_rfl) ?_
    refine evC_seq ?_
    refine evC_go0 (dec := []) (ks := [(0, 0), (0, 1), (0, 4), (0, 5), (0, 20)]) (s' := ⟨[(0, 0, Cont.cell (AV.int IntKind.i64 me)), (0, 1, Cont.cell (AV.int IntKind.i64 n)), (0, 4, Cont.cell AV.nilp), (0, 5, Cont.cell (AV.int IntKind.i64 0)), (0, 20, Cont.cell (AV.bool (bif bif bif decide (n < 2) then true else decide (n > 8) then true else decide (me < 0) then true else decide (me ≥ n))))], 545, 27⟩) (by kernel_rfl) (by kernel_rfl) ?_
    rw [newCond, hm]
    refine evC_if (q := true) (by kernel_rfl) (fun hc => ?_) (fun hc => ?_)
    · refine evC_go0 (dec := []) (ks := [(0, 0), (0, 1), (0, 4), (0, 5)]) (s' := ⟨[(0, 0, Cont.cell (AV.int IntKind.i64 me)), (0, 1, Cont.cell (AV.int IntKind.i64 n)), (0, 4, Cont.cell AV.nilp), (0, 5, Cont.cell (AV.int IntKind.i64 1))], 609, 27⟩) (by kernel_rfl) (by kernel_rfl) ?_
      refine evC_ret ?_
      refine then_ret ?_
      refine post_ret ?_
      refine ends_flat (vs := [AV.nilp, AV.int IntKind.i64 1]) (Nat.zero_lt_succ _) (by kernel_rfl) (flat_of _ (by kernel_rfl)) rfl ?_
      rfl
    · cases ‹(!false) = false›
  · cases e
/-! ### What it tells -/
def sTurn : Spec := fun args hr _ => match args with
  | [v] => withPeer hr v fun n b c P s rd => some ⟨[s], .int .i64 P.turn, rd, []⟩
  | _ => none
theorem turn_ok : SpecOK Try.prog 14 sTurn := by
  refine spec_at (by kernel_rfl) T_ok sget_nil Try.func14 rfl rfl fun args hr nb out e => ?_
  unfold sTurn at e
  split at e
  · obtain ⟨n, b, c, P, s, rd, rfl, e, hrd, hs0, hs1, hs2⟩ := peer_open e
    injection e with e; subst e
    refine ⟨hrd, true, [n, b, c], [.ptr 1 0], pcon 1 2 3 P, rfl, fun hs => ?_⟩
    obtain ⟨k1, k2, k3⟩ := hs0 (hs _ List.mem_cons_self)
    have k4 := hs1 (hs _ List.mem_cons_self) [] nb
    refine ⟨k1, fun z hz => ⟨(k2 z hz).1, (k2 z hz).2 _ fun x hx => hx⟩, .cons _ _ _ _ (.name _ _ _ rfl) .nil, k3 _ _, ?_⟩
    clear hs hs0 hs1 hs2 k1 k2 k3 hrd
    unfold pcon
    refine evC_go0 (dec := []) (ks := [(0, 0), (0, 2), (1, 0), (1, 1), (1, 2), (1, 3), (1, 4), (1, 12), (1, 13), (1, 14), (2, 0), (3, 0)]) (s' := ⟨[(0, 0, Cont.cell (AV.ptr 1 0)), (0, 2, Cont.cell (AV.int IntKind.i64 0)), (1, 0, Cont.cell (AV.int IntKind.i64 (Peer.me P))), (1, 1, Cont.cell (AV.int IntKind.i64 (Peer.n P))), (1, 2, Cont.cell (AV.int IntKind.i64 (Peer.turn P))), (1, 3, Cont.cell (AV.int IntKind.i64 (Peer.iss P))), (1, 4, Cont.arr 8 (nI (Peer.hd P))), (1, 12, Cont.cell (AV.mp 2)), (1, 13, Cont.cell (AV.mp 3)), (1, 14, Cont.top), (2, 0, Cont.map 2 (smap (Peer.sets P))), (3, 0, Cont.map 2 (wmap (Peer.words P)))], 36, 7⟩) (by kernel_rfl) (by kernel_rfl) ?_
    refine evC_go0 (dec := []) (ks := [(0, 2), (1, 0), (1, 1), (1, 2), (1, 3), (1, 4), (1, 12), (1, 13), (1, 14), (2, 0), (3, 0)]) (s' := ⟨[(0, 2, Cont.cell (AV.int IntKind.i64 (Peer.turn P))), (1, 0, Cont.cell (AV.int IntKind.i64 (Peer.me P))), (1, 1, Cont.cell (AV.int IntKind.i64 (Peer.n P))), (1, 2, Cont.cell (AV.int IntKind.i64 (Peer.turn P))), (1, 3, Cont.cell (AV.int IntKind.i64 (Peer.iss P))), (1, 4, Cont.arr 8 (nI (Peer.hd P))), (1, 12, Cont.cell (AV.mp 2)), (1, 13, Cont.cell (AV.mp 3)), (1, 14, Cont.top), (2, 0, Cont.map 2 (smap (Peer.sets P))), (3, 0, Cont.map 2 (wmap (Peer.words P)))], 196, 7⟩) (by kernel_rfl) (by kernel_rfl) ?_
    refine evC_ret ?_
    refine post_ret ?_
    refine ends_go [] (AV.int IntKind.i64 (Peer.turn P)) [(1, 0, Cont.cell (AV.int IntKind.i64 (Peer.me P))), (1, 1, Cont.cell (AV.int IntKind.i64 (Peer.n P))), (1, 2, Cont.cell (AV.int IntKind.i64 (Peer.turn P))), (1, 3, Cont.cell (AV.int IntKind.i64 (Peer.iss P))), (1, 4, Cont.arr 8 (nI (Peer.hd P))), (1, 12, Cont.cell (AV.mp 2)), (1, 13, Cont.cell (AV.mp 3)), (1, 14, Cont.top), (2, 0, Cont.map 2 (smap (Peer.sets P))), (3, 0, Cont.map 2 (wmap (Peer.words P)))] rfl (by decide) rfl rfl (has_of _ rfl) rfl ⟨⟨_, rfl, rfl⟩, ⟨_, rfl, rfl⟩, ⟨_, rfl, rfl⟩, ⟨_, rfl, rfl⟩, ⟨_, rfl, ⟨rfl, fun _ _ => rfl⟩⟩, ⟨_, rfl, rfl⟩, ⟨_, rfl, rfl⟩, ⟨_, rfl, trivial⟩, ⟨_, rfl, Go.Eng.S25.cw_smap _⟩, ⟨_, rfl, cw_map (Go.Eng.S25.flat_wmap _)⟩, trivial⟩ trivial ?_
    exact k4 _ _ (by simp [pcon, hget])
  · cases e
end Go.Eng.S25
