/- Seat 25: the law of new peers, walked. -/
import Derived.Test.YtodnecfgiimclaaEngX
import Derived.Test.YtodnecfgiimclaaS25N
import Derived.Test.YtodnecfgiimclaaS25P
set_option linter.unusedSimpArgs false
set_option linter.unusedVariables false
namespace Go.Eng.S25
open Go.Proofs Go.IntWalk
set_option maxRecDepth 10000

theorem newP_heard (me n q : Int) : heardV (newP me n) q = 0 := by
  unfold heardV newP
  cases q == me <;> cases decide (q < 0) || decide (q ≥ n) <;> rfl
theorem newP_des (me n : Int) : desB (newP me n) = false := rfl
def sNews : Spec := fun args _ _ => match args with
  | [.int .i64 me, .int .i64 n, .int .i64 q] => some ⟨[], .bool true, [], []⟩
  | _ => none
theorem news_good {me n : Int} (q : Int) (hm : mayP me n = true) (nb : Nat) : evC T [(18, sNewG), (19, sMay), (15, sAwake), (14, sTurn), (20, sIssued), (21, sHeard), (17, sDesync)] 1 (Try.f5.body.getD .skip) (Post T Try.f5 [] nb ⟨[], .bool true, [], []⟩ true) ⟨slots0 0 [.int .i64 me, .int .i64 n, .int .i64 q], 1, Try.f5.ntmps⟩ := by
  obtain ⟨⟨h1, h2⟩, h3, h4⟩ := mayP_get hm
  refine evC_go0 (dec := []) (ks := [(0, 0), (0, 1), (0, 2), (0, 6)]) (s' := ⟨[(0, 0, Cont.cell (AV.int IntKind.i64 me)), (0, 1, Cont.cell (AV.int IntKind.i64 n)), (0, 2, Cont.cell (AV.int IntKind.i64 q)), (0, 6, Cont.cell (AV.bool false))], 33, 58⟩) (by kernel_rfl) (by kernel_rfl) ?_
  refine evC_go (dec := []) (ks := [(0, 0), (0, 1), (0, 2), (0, 6), (0, 7), (0, 8), (97, 0), (97, 1), (97, 2), (97, 3), (97, 4), (97, 12), (97, 13), (97, 14), (98, 0), (99, 0)]) (ps := [mayP me n = true]) (s' := ⟨[(0, 0, Cont.cell (AV.int IntKind.i64 me)), (0, 1, Cont.cell (AV.int IntKind.i64 n)), (0, 2, Cont.cell (AV.int IntKind.i64 q)), (0, 6, Cont.cell (AV.bool false)), (0, 7, Cont.cell (AV.ptr 97 0)), (0, 8, Cont.cell (AV.int IntKind.i64 0)), (97, 0, Cont.cell (AV.int IntKind.i64 (Peer.me (newP me n)))), (97, 1, Cont.cell (AV.int IntKind.i64 (Peer.n (newP me n)))), (97, 2, Cont.cell (AV.int IntKind.i64 (Peer.turn (newP me n)))), (97, 3, Cont.cell (AV.int IntKind.i64 (Peer.iss (newP me n)))), (97, 4, Cont.arr 8 (nI (Peer.hd (newP me n)))), (97, 12, Cont.cell (AV.mp 98)), (97, 13, Cont.cell (AV.mp 99)), (97, 14, Cont.top), (98, 0, Cont.map 2 []), (99, 0, Cont.map 2 [])], 289, 58⟩) (by kernel_rfl) (by kernel_rfl) ?_ ?_
  · exact hm
  refine evC_seq ?_
  refine evC_go0 (dec := []) (ks := [(0, 2), (0, 6), (0, 7), (0, 8), (0, 18), (97, 0), (97, 1), (97, 2), (97, 3), (97, 4), (97, 12), (97, 13), (97, 14), (98, 0), (99, 0)]) (s' := ⟨[(0, 2, Cont.cell (AV.int IntKind.i64 q)), (0, 6, Cont.cell (AV.bool false)), (0, 7, Cont.cell (AV.ptr 97 0)), (0, 8, Cont.cell (AV.int IntKind.i64 0)), (0, 18, Cont.cell (AV.bool !mayP me n)), (97, 0, Cont.cell (AV.int IntKind.i64 (Peer.me (newP me n)))), (97, 1, Cont.cell (AV.int IntKind.i64 (Peer.n (newP me n)))), (97, 2, Cont.cell (AV.int IntKind.i64 (Peer.turn (newP me n)))), (97, 3, Cont.cell (AV.int IntKind.i64 (Peer.iss (newP me n)))), (97, 4, Cont.arr 8 (nI (Peer.hd (newP me n)))), (97, 12, Cont.cell (AV.mp 98)), (97, 13, Cont.cell (AV.mp 99)), (97, 14, Cont.top), (98, 0, Cont.map 2 []), (99, 0, Cont.map 2 [])], 417, 58⟩) (by kernel_rfl) (by kernel_rfl) ?_
  rw [hm]
  refine evC_if (q := false) (by kernel_rfl) (fun hc => ?_) (fun hc => ?_)
  · cases hc
  clear hc
  have a : heardV ⟨(newP me n).me, (newP me n).n, (newP me n).turn, (newP me n).iss, If (nI (newP me n).hd), sOf [], wOf []⟩ q = 0 := newP_heard me n q
  have b : desB ⟨(newP me n).me, (newP me n).n, (newP me n).turn, (newP me n).iss, If (nI (newP me n).hd), sOf [], wOf []⟩ = false := rfl
  refine evC_skip ?_
  refine then_normal ?_
  refine evC_go (dec := []) (ks := [(0, 6)]) (ps := [List.all [bif (0 : Int) == (0 : Int) then !false else false] id = true → ((0 : Nat) < (97 : Nat) ∧ (0 : Nat) < (98 : Nat) ∧ (0 : Nat) < (99 : Nat) ∧ (97 : Nat) ≠ (98 : Nat) ∧ (97 : Nat) ≠ (99 : Nat) ∧ (98 : Nat) ≠ (99 : Nat)) ∧ [] = smap (sOf []) ∧ [] = wmap (wOf []) ∧ ∀ (i : Nat), i < (8 : Nat) → nI (Peer.hd (newP me n)) i = nI (If (nI (Peer.hd (newP me n)))) i, List.all [bif bif (0 : Int) == (0 : Int) then !false else false then Peer.turn (newP me n) == (0 : Int) else false] id = true → ((0 : Nat) < (97 : Nat) ∧ (0 : Nat) < (98 : Nat) ∧ (0 : Nat) < (99 : Nat) ∧ (97 : Nat) ≠ (98 : Nat) ∧ (97 : Nat) ≠ (99 : Nat) ∧ (98 : Nat) ≠ (99 : Nat)) ∧ [] = smap (sOf []) ∧ [] = wmap (wOf []) ∧ ∀ (i : Nat), i < (8 : Nat) → nI (Peer.hd (newP me n)) i = nI (If (nI (Peer.hd (newP me n)))) i, List.all [bif bif bif (0 : Int) == (0 : Int) then !false else false then Peer.turn (newP me n) == (0 : Int) else false then Peer.iss (newP me n) == (2 : Int) else false] id = true → ((0 : Nat) < (97 : Nat) ∧ (0 : Nat) < (98 : Nat) ∧ (0 : Nat) < (99 : Nat) ∧ (97 : Nat) ≠ (98 : Nat) ∧ (97 : Nat) ≠ (99 : Nat) ∧ (98 : Nat) ≠ (99 : Nat)) ∧ [] = smap (sOf []) ∧ [] = wmap (wOf []) ∧ ∀ (i : Nat), i < (8 : Nat) → nI (Peer.hd (newP me n)) i = nI (If (nI (Peer.hd (newP me n)))) i, List.all [bif bif bif (0 : Int) == (0 : Int) then !false else false then Peer.turn (newP me n) == (0 : Int) else false then Peer.iss (newP me n) == (2 : Int) else false] id = true → Peer.n (newP me n) ≤ (8 : Int), List.all [bif bif bif bif (0 : Int) == (0 : Int) then !false else false then Peer.turn (newP me n) == (0 : Int) else false then Peer.iss (newP me n) == (2 : Int) else false then heardV { me := Peer.me (newP me n), n := Peer.n (newP me n), turn := Peer.turn (newP me n), iss := Peer.iss (newP me n), hd := If (nI (Peer.hd (newP me n))), sets := sOf [], words := wOf [] } q == (0 : Int) else false] id = true → ((0 : Nat) < (97 : Nat) ∧ (0 : Nat) < (98 : Nat) ∧ (0 : Nat) < (99 : Nat) ∧ (97 : Nat) ≠ (98 : Nat) ∧ (97 : Nat) ≠ (99 : Nat) ∧ (98 : Nat) ≠ (99 : Nat)) ∧ [] = smap (sOf []) ∧ [] = wmap (wOf []) ∧ ∀ (i : Nat), i < (8 : Nat) → nI (Peer.hd (newP me n)) i = nI (If (nI (Peer.hd (newP me n)))) i]) (s' := ⟨[(0, 6, Cont.cell (AV.bool (bif bif bif bif bif bif 0 == 0 then !false else false then Peer.turn (newP me n) == 0 else false then Peer.iss (newP me n) == 2 else false then heardV { me := Peer.me (newP me n), n := Peer.n (newP me n), turn := Peer.turn (newP me n), iss := Peer.iss (newP me n), hd := If (nI (Peer.hd (newP me n))), sets := sOf [], words := wOf [] } q == 0 else false then !desB { me := Peer.me (newP me n), n := Peer.n (newP me n), turn := Peer.turn (newP me n), iss := Peer.iss (newP me n), hd := If (nI (Peer.hd (newP me n))), sets := sOf [], words := wOf [] } else false then true else false)))], 1409, 58⟩) (by kernel_rfl) (by kernel_rfl) ?_ ?_
  · exact ⟨fun _ => peer_side (newP me n) (by decide), fun _ => peer_side (newP me n) (by decide), fun _ => peer_side (newP me n) (by decide), fun _ => h2, fun _ => peer_side (newP me n) (by decide)⟩
  rw [a, b]
  refine evC_ret ?_
  refine post_ret ?_
  refine ends_flat (vs := [AV.bool (bif bif bif bif bif bif 0 == 0 then !false else false then Peer.turn (newP me n) == 0 else false then Peer.iss (newP me n) == 2 else false then 0 == 0 else false then !false else false then true else false)]) (Nat.zero_lt_succ _) (by kernel_rfl) (flat_of _ (by kernel_rfl)) rfl ?_
  rfl
theorem news_bad {me n : Int} (q : Int) (hm : mayP me n = false) (nb : Nat) : evC T [(18, sNewB), (19, sMay), (15, sAwake)] 1 (Try.f5.body.getD .skip) (Post T Try.f5 [] nb ⟨[], .bool true, [], []⟩ true) ⟨slots0 0 [.int .i64 me, .int .i64 n, .int .i64 q], 1, Try.f5.ntmps⟩ := by
  refine evC_go0 (dec := []) (ks := [(0, 0), (0, 1), (0, 2), (0, 6)]) (s' := ⟨[(0, 0, Cont.cell (AV.int IntKind.i64 me)), (0, 1, Cont.cell (AV.int IntKind.i64 n)), (0, 2, Cont.cell (AV.int IntKind.i64 q)), (0, 6, Cont.cell (AV.bool false))], 33, 58⟩) (by kernel_rfl) (by kernel_rfl) ?_
  refine evC_go (dec := []) (ks := [(0, 0), (0, 1), (0, 2), (0, 6), (0, 7), (0, 8)]) (ps := [mayP me n = false]) (s' := ⟨[(0, 0, Cont.cell (AV.int IntKind.i64 me)), (0, 1, Cont.cell (AV.int IntKind.i64 n)), (0, 2, Cont.cell (AV.int IntKind.i64 q)), (0, 6, Cont.cell (AV.bool false)), (0, 7, Cont.cell AV.nilp), (0, 8, Cont.cell (AV.int IntKind.i64 1))], 289, 58⟩) (by kernel_rfl) (by kernel_rfl) ?_ ?_
  · exact hm
  refine evC_seq ?_
  refine evC_go0 (dec := []) (ks := [(0, 2), (0, 6), (0, 7), (0, 8), (0, 18)]) (s' := ⟨[(0, 2, Cont.cell (AV.int IntKind.i64 q)), (0, 6, Cont.cell (AV.bool false)), (0, 7, Cont.cell AV.nilp), (0, 8, Cont.cell (AV.int IntKind.i64 1)), (0, 18, Cont.cell (AV.bool !mayP me n))], 417, 58⟩) (by kernel_rfl) (by kernel_rfl) ?_
  rw [hm]
  refine evC_if (q := true) (by kernel_rfl) (fun hc => ?_) (fun hc => ?_)
  · refine evC_go0 (dec := []) (ks := [(0, 2), (0, 6), (0, 7), (0, 8)]) (s' := ⟨[(0, 2, Cont.cell (AV.int IntKind.i64 q)), (0, 6, Cont.cell (AV.bool true)), (0, 7, Cont.cell AV.nilp), (0, 8, Cont.cell (AV.int IntKind.i64 1))], 737, 58⟩) (by kernel_rfl) (by kernel_rfl) ?_
    refine evC_ret ?_
    refine then_ret ?_
    refine post_ret ?_
    refine ends_flat (vs := [AV.bool true]) (Nat.zero_lt_succ _) (by kernel_rfl) (flat_of _ (by kernel_rfl)) rfl ?_
    rfl
  · cases hc
theorem news_ok : SpecOK Try.prog 5 sNews := by
  refine spec_ownS (by kernel_rfl) T_ok sget_nil Try.func5 rfl rfl fun args hr nb out e => ?_
  unfold sNews at e
  split at e
  · rename_i me n q
    injection e with e; subst e
    refine ⟨(fun _ h => nomatch h), true, [.int .i64 me, .int .i64 n, .int .i64 q], rfl, fun hs => ⟨.cons _ _ _ _ (.same _ _ (.int _ _)) (.cons _ _ _ _ (.same _ _ (.int _ _)) (.cons _ _ _ _ (.same _ _ (.int _ _)) .nil)), ?_⟩⟩
    cases hm : mayP me n with
    | true => exact Sem.of_evC (by kernel_rfl) T_ok (sget_cons newG_ok (sget_cons may_ok (sget_cons awake_ok (sget_cons turn_ok (sget_cons issued_ok (sget_cons heard_ok (sget_cons desync_ok sget_nil))))))) rfl (news_good q hm nb)
    | false => exact Sem.of_evC (by kernel_rfl) T_ok (sget_cons newB_ok (sget_cons may_ok (sget_cons awake_ok sget_nil))) rfl (news_bad q hm nb)
  · cases e
end Go.Eng.S25
