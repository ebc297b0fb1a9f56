/- Seat 25: what is known, words, and a turn's end, walked. -/
import Derived.Test.YtodnecfgiimclaaEngX
import Derived.Test.YtodnecfgiimclaaS25H
set_option linter.unusedSimpArgs false
set_option linter.unusedVariables false
set_option maxHeartbeats 2000000
namespace Go.Eng.S25
open Go.Proofs Go.IntWalk
set_option maxRecDepth 10000
def knownL (P : Peer) (t q : Int) : List Int := bif decide (t < 2) then [] else (kget P.sets t q).getD []
def knownB (P : Peer) (t q : Int) : Bool := decide (t < 2) || (kget P.sets t q).isSome
theorem look_some (S : List ((Int × Int) × List Int)) (t p : Int) : (mget (smap S) [t, p]).isSome = (kget S t p).isSome := by
 rw [mget_smap]
 cases kget S t p <;> rfl
theorem look_wsome (W : List ((Int × Int) × Int)) (t p : Int) : (mget (wmap W) [t, p]).isSome = (kget W t p).isSome := by
 rw [mget_wmap]
 cases kget W t p <;> rfl
theorem bsb_has (L : List Int) (b : Bool) : Has true true (.tup [bs L, .bool b]) := .tup _ fun v hv => by
 simp only [List.mem_cons, List.not_mem_nil, or_false] at hv
 rcases hv with rfl | rfl
 ·exact bs_has _
 ·exact .bool _
def sKnown : Spec := fun args hr nb => match args with
 | [v, .agg [.int .i64 t, .int .i64 q]] => withPeer hr v fun n b c P s rd => some ⟨[s], .tup [bs (knownL P t q), .bool (knownB P t q)], rd, []⟩
 | _ => none
theorem known_ok : SpecOK Try.prog 35 sKnown := by
 refine spec_at (by kernel_rfl) T_ok sget_nil Try.func35 rfl rfl fun args hr nb out e => ?_
 unfold sKnown at e
 split at e
 ·rename_i v t q
  obtain ⟨n, b, c, P, s, rd, rfl, e, hrd, hs0, hs1, hs2⟩ := peer_open e
  injection e with e; subst e
  refine ⟨hrd, true, [n, b, c], [.ptr 1 0, .agg [.int .i64 t, .int .i64 q]], pcon 1 2 3 P, rfl, fun hs => ?_⟩
  obtain ⟨k1, k2, k3⟩ := hs0 (hs _ List.mem_cons_self)
  have k4 := hs1 (hs _ List.mem_cons_self) [] nb
  refine ⟨k1, fun z hz => ⟨(k2 z hz).1, (k2 z hz).2 _ fun x hx => hx⟩, .cons _ _ _ _ (.name _ _ _ rfl) (.cons _ _ _ _ (.same _ _ (flat_of _ rfl).has) .nil), k3 _ _, ?_⟩
  clear hs hs0 hs1 hs2 k1 k2 k3 hrd
  unfold pcon
  refine evC_go0K (s' := ⟨[(0, 0, zP 1), (0, 3, zP 4), (0, 4, .cell AV.nils), (0, 5, zB false), (1, 0, zI P.me), (1, 1, zI P.n), (1, 2, zI P.turn), (1, 3, zI P.iss), (1, 4, .arr 8 (nI P.hd)), (1, 12, zM 2), (1, 13, zM 3), (1, 14, .top), (2, 0, .map 2 (smap P.sets)), (3, 0, .map 2 (wmap P.words)), (4, 0, zI t), (4, 1, zI q), (4, 2, .top)], 100, 22⟩) ?_
  refine evC_seq ?_
  refine evC_go0K (s' := ⟨[(0, 0, zP 1), (0, 3, zP 4), (0, 4, .cell AV.nils), (0, 5, zB false), (0, 10, zB (decide (t < 2))), (1, 0, zI P.me), (1, 1, zI P.n), (1, 2, zI P.turn), (1, 3, zI P.iss), (1, 4, .arr 8 (nI P.hd)), (1, 12, zM 2), (1, 13, zM 3), (1, 14, .top), (2, 0, .map 2 (smap P.sets)), (3, 0, .map 2 (wmap P.words)), (4, 0, zI t), (4, 1, zI q), (4, 2, .top)], 196, 22⟩) ?_
  refine evC_if (q := decide (t < 2)) (by kernel_rfl) (fun hc => ?_) (fun hc => ?_)
  ·have hL : knownL P t q = [] := by unfold knownL; rw [hc]; rfl
   have hB : knownB P t q = true := by unfold knownB; rw [hc]; rfl
   rw [hL, hB]
   refine evC_go0K (s' := ⟨[(0, 0, zP 1), (0, 3, zP 4), (0, 4, .cell AV.nils), (0, 5, zB true), (1, 0, zI P.me), (1, 1, zI P.n), (1, 2, zI P.turn), (1, 3, zI P.iss), (1, 4, .arr 8 (nI P.hd)), (1, 12, zM 2), (1, 13, zM 3), (1, 14, .top), (2, 0, .map 2 (smap P.sets)), (3, 0, .map 2 (wmap P.words)), (4, 0, zI t), (4, 1, zI q), (4, 2, .top)], 260, 22⟩) ?_
   refine evC_wk _ (.imp 0 4 _ (bs []) rfl ?_) ?_
   ·exact vi_nil _ _ _
   refine evC_ret ?_
   refine then_ret ?_
   refine post_ret ?_
   unfold bs
   refine ends_go [] (AV.tup [AV.rs 1 0 false (nU []), AV.bool true]) [(1, 0, zI P.me), (1, 1, zI P.n), (1, 2, zI P.turn), (1, 3, zI P.iss), (1, 4, .arr 8 (nI P.hd)), (1, 12, zM 2), (1, 13, zM 3), (1, 14, .top), (2, 0, .map 2 (smap P.sets)), (3, 0, .map 2 (wmap P.words))] rfl (by decide) rfl rfl (?_) rfl ⟨⟨_, rfl, rfl⟩, ⟨_, rfl, rfl⟩, ⟨_, rfl, rfl⟩, ⟨_, rfl, rfl⟩, ⟨_, rfl, ⟨rfl, fun _ _ => rfl⟩⟩, ⟨_, rfl, rfl⟩, ⟨_, rfl, rfl⟩, ⟨_, rfl, trivial⟩, ⟨_, rfl, Go.Eng.S25.cw_smap _⟩, ⟨_, rfl, cw_map (Go.Eng.S25.flat_wmap _)⟩, trivial⟩ trivial ?_
   ·exact bsb_has [] _
   ·exact k4 _ _ (by simp [pcon, hget])
  ·have hL : knownL P t q = (kget P.sets t q).getD [] := by unfold knownL; rw [hc]; rfl
   have hB : knownB P t q = (kget P.sets t q).isSome := by unfold knownB; rw [hc]; rfl
   rw [hL, hB]
   obtain ⟨F, hF1, hF2, hF3⟩ := look_s P.sets t q
   refine evC_skip ?_
   refine then_normal ?_
   refine evC_goK (ps := [(∃ b, Option.getD (mget (smap P.sets) [t, q]) AV.nils = AV.rs (1 : Nat) (rsn (Option.getD (mget (smap P.sets) [t, q]) AV.nils)) b (rsf (Option.getD (mget (smap P.sets) [t, q]) AV.nils))) ∨ Option.getD (mget (smap P.sets) [t, q]) AV.nils = AV.nils]) (s' := ⟨[(0, 4, .cell AV.nils), (0, 5, zB false), (0, 6, .cell (AV.rs 1 (rsn (Option.getD (mget (smap P.sets) [t, q]) AV.nils)) false (rsf (Option.getD (mget (smap P.sets) [t, q]) AV.nils)))), (0, 7, zB (Option.isSome (mget (smap P.sets) [t, q]))), (1, 0, zI P.me), (1, 1, zI P.n), (1, 2, zI P.turn), (1, 3, zI P.iss), (1, 4, .arr 8 (nI P.hd)), (1, 12, zM 2), (1, 13, zM 3), (1, 14, .top), (2, 0, .map 2 (smap P.sets)), (3, 0, .map 2 (wmap P.words))], 548, 22⟩) ?_ ?_
   ·exact hF3
   rw [hF1, look_some]
   generalize (kget P.sets t q).getD [] = S at hF1 hF2 ⊢
   refine evC_wk _ (.imp 0 6 _ (bs S) rfl ?_) ?_
   ·exact vi_rs hF2
   refine evC_go0K (s' := ⟨[(0, 4, .cell (AV.rs 1 S.length false (nU S))), (0, 5, zB (Option.isSome (kget P.sets t q))), (1, 0, zI P.me), (1, 1, zI P.n), (1, 2, zI P.turn), (1, 3, zI P.iss), (1, 4, .arr 8 (nI P.hd)), (1, 12, zM 2), (1, 13, zM 3), (1, 14, .top), (2, 0, .map 2 (smap P.sets)), (3, 0, .map 2 (wmap P.words))], 676, 22⟩) ?_
   refine evC_ret ?_
   refine post_ret ?_
   unfold bs
   refine ends_go [] (AV.tup [AV.rs 1 S.length false (nU S), AV.bool (Option.isSome (kget P.sets t q))]) [(1, 0, zI P.me), (1, 1, zI P.n), (1, 2, zI P.turn), (1, 3, zI P.iss), (1, 4, .arr 8 (nI P.hd)), (1, 12, zM 2), (1, 13, zM 3), (1, 14, .top), (2, 0, .map 2 (smap P.sets)), (3, 0, .map 2 (wmap P.words))] rfl (by decide) rfl rfl (?_) rfl ⟨⟨_, rfl, rfl⟩, ⟨_, rfl, rfl⟩, ⟨_, rfl, rfl⟩, ⟨_, rfl, rfl⟩, ⟨_, rfl, ⟨rfl, fun _ _ => rfl⟩⟩, ⟨_, rfl, rfl⟩, ⟨_, rfl, rfl⟩, ⟨_, rfl, trivial⟩, ⟨_, rfl, Go.Eng.S25.cw_smap _⟩, ⟨_, rfl, cw_map (Go.Eng.S25.flat_wmap _)⟩, trivial⟩ trivial ?_
   ·exact bsb_has S _
   ·exact k4 _ _ (by simp [pcon, hget])
 ·cases e
end Go.Eng.S25
/- Seat 25: a turn's end, a word, walked. -/
set_option linter.unusedSimpArgs false
set_option linter.unusedVariables false
set_option maxHeartbeats 2000000
namespace Go.Eng.S25
open Go.Proofs Go.IntWalk
set_option maxRecDepth 10000
def noteE (P : Peer) (w : Int) : Int := bif P.turn == 0 then 6 else bif (kget P.words P.turn P.me).isSome then 5 else bif w == 0 then 1 else 0
def noteP (P : Peer) (w : Int) : Peer := bif noteE P w == 0 then ⟨P.me, P.n, P.turn, P.iss, P.hd, P.sets, kput P.words P.turn P.me w⟩ else P
def sNote : Spec := fun args hr nb => match args with
 | [v, .int .u64 w] => withPeer hr v fun n b c P s rd => some ⟨[s], .int .i64 (noteE P w), rd, pcon n b c (noteP P w)⟩
 | _ => none
theorem cw_wput (W : List ((Int × Int) × Int)) (t p w : Int) (ar : Nat) (π : Nat → Nat) : CW π (.map ar (wmap (kput W t p w))) (.map ar (mput (wmap W) [t, p] (.int .u64 w))) := by
 rw [mput_wmap]
 exact cw_map (flat_wmap _)
theorem note_ok : SpecOK Try.prog 22 sNote := by
 refine spec_at (by kernel_rfl) T_ok sget_nil Try.func22 rfl rfl fun args hr nb out e => ?_
 unfold sNote at e
 split at e
 ·rename_i v w
  obtain ⟨n, b, c, P, s, rd, rfl, e, hrd, hs0, hs1, hs2⟩ := peer_open e
  injection e with e; subst e
  refine ⟨hrd, true, [n, b, c], [.ptr 1 0, .int .u64 w], pcon 1 2 3 P, rfl, fun hs => ?_⟩
  obtain ⟨k1, k2, k3⟩ := hs0 (hs _ List.mem_cons_self)
  have k4 := fun fin P' => hs2 (hs _ List.mem_cons_self) [] nb fin P' []
  refine ⟨k1, fun z hz => ⟨(k2 z hz).1, (k2 z hz).2 _ fun x hx => hx⟩, .cons _ _ _ _ (.name _ _ _ rfl) (.cons _ _ _ _ (.same _ _ (.int _ _)) .nil), k3 _ _, ?_⟩
  clear hs hs0 hs1 hs2 k1 k2 k3 hrd
  have eE : noteE P w = bif P.turn == 0 then 6 else bif (kget P.words P.turn P.me).isSome then 5 else bif w == 0 then 1 else 0 := rfl
  unfold pcon
  refine evC_go0K (s' := ⟨[(0, 0, zP 1), (0, 1, zU w), (0, 4, zI 0), (1, 0, zI P.me), (1, 1, zI P.n), (1, 2, zI P.turn), (1, 3, zI P.iss), (1, 4, .arr 8 (nI P.hd)), (1, 12, zM 2), (1, 13, zM 3), (1, 14, .top), (2, 0, .map 2 (smap P.sets)), (3, 0, .map 2 (wmap P.words))], 36, 40⟩) ?_
  refine evC_go0K (s' := ⟨[(0, 0, zP 1), (0, 1, zU w), (0, 4, zI 0), (0, 5, zP 324), (1, 0, zI P.me), (1, 1, zI P.n), (1, 2, zI P.turn), (1, 3, zI P.iss), (1, 4, .arr 8 (nI P.hd)), (1, 12, zM 2), (1, 13, zM 3), (1, 14, .top), (2, 0, .map 2 (smap P.sets)), (3, 0, .map 2 (wmap P.words)), (324, 0, zI P.turn), (324, 1, zI P.me), (324, 2, .top)], 388, 40⟩) ?_
  refine evC_seq ?_
  refine evC_go0K (s' := ⟨[(0, 0, zP 1), (0, 1, zU w), (0, 4, zI 0), (0, 5, zP 324), (0, 21, zB (P.turn == 0)), (1, 0, zI P.me), (1, 1, zI P.n), (1, 2, zI P.turn), (1, 3, zI P.iss), (1, 4, .arr 8 (nI P.hd)), (1, 12, zM 2), (1, 13, zM 3), (1, 14, .top), (2, 0, .map 2 (smap P.sets)), (3, 0, .map 2 (wmap P.words)), (324, 0, zI P.turn), (324, 1, zI P.me), (324, 2, .top)], 548, 40⟩) ?_
  refine evC_if (q := P.turn == 0) (by kernel_rfl) (fun hc => ?_) (fun hc => ?_)
  ·have hE : noteE P w = 6 := by rw [eE, hc]; rfl
   have hP : noteP P w = P := by unfold noteP; rw [hE]; rfl
   rw [hE, hP]
   refine evC_go0K (s' := ⟨[(0, 0, zP 1), (0, 1, zU w), (0, 4, zI 6), (0, 5, zP 324), (1, 0, zI P.me), (1, 1, zI P.n), (1, 2, zI P.turn), (1, 3, zI P.iss), (1, 4, .arr 8 (nI P.hd)), (1, 12, zM 2), (1, 13, zM 3), (1, 14, .top), (2, 0, .map 2 (smap P.sets)), (3, 0, .map 2 (wmap P.words)), (324, 0, zI P.turn), (324, 1, zI P.me), (324, 2, .top)], 580, 40⟩) ?_
   refine evC_ret ?_
   refine then_ret ?_
   refine post_ret ?_
   refine ends_go [] (AV.int IntKind.i64 6) [(1, 0, zI P.me), (1, 1, zI P.n), (1, 2, zI P.turn), (1, 3, zI P.iss), (1, 4, .arr 8 (nI P.hd)), (1, 12, zM 2), (1, 13, zM 3), (1, 14, .top), (2, 0, .map 2 (smap P.sets)), (3, 0, .map 2 (wmap P.words))] rfl (by decide) rfl rfl (has_of _ rfl) rfl ⟨⟨_, rfl, rfl⟩, ⟨_, rfl, rfl⟩, ⟨_, rfl, rfl⟩, ⟨_, rfl, rfl⟩, ⟨_, rfl, ⟨rfl, fun _ _ => rfl⟩⟩, ⟨_, rfl, rfl⟩, ⟨_, rfl, rfl⟩, ⟨_, rfl, trivial⟩, ⟨_, rfl, Go.Eng.S25.cw_smap _⟩, ⟨_, rfl, cw_map (Go.Eng.S25.flat_wmap _)⟩, trivial⟩ ⟨fun _ => ⟨1, _, rfl, rfl, rfl, ⟨has_of _ rfl, rfl⟩⟩, fun _ => ⟨1, _, rfl, rfl, rfl, ⟨has_of _ rfl, rfl⟩⟩, fun _ => ⟨1, _, rfl, rfl, rfl, ⟨has_of _ rfl, rfl⟩⟩, fun _ => ⟨1, _, rfl, rfl, rfl, ⟨has_of _ rfl, rfl⟩⟩, fun _ => ⟨1, _, rfl, rfl, rfl, ⟨rfl, fun _ _ => ⟨has_of _ rfl, rfl⟩⟩⟩, fun _ => ⟨1, _, rfl, rfl, rfl, ⟨has_of _ rfl, rfl⟩⟩, fun _ => ⟨1, _, rfl, rfl, rfl, ⟨has_of _ rfl, rfl⟩⟩, fun _ => ⟨1, _, rfl, rfl, rfl, trivial⟩, fun _ => ⟨2, _, rfl, rfl, rfl, Go.Eng.S25.cf_smap _⟩, fun _ => ⟨3, _, rfl, rfl, rfl, cf_map (Go.Eng.S25.flat_wmap _)⟩, trivial⟩ ?_
   exact k4 _ _ rfl
  ·rw [hc] at eE
   clear hc
   have hlw := look_w P.words P.turn P.me
   refine evC_skip ?_
   refine then_normal ?_
   refine evC_seq ?_
   refine evC_goK (ps := [Option.getD (mget (wmap P.words) [P.turn, P.me]) (AV.int IntKind.u64 (0 : Int)) = AV.int IntKind.u64 (iv (Option.getD (mget (wmap P.words) [P.turn, P.me]) (AV.int IntKind.u64 (0 : Int))))]) (s' := ⟨[(0, 0, zP 1), (0, 1, zU w), (0, 4, zI 0), (0, 5, zP 324), (0, 7, zB (Option.isSome (mget (wmap P.words) [P.turn, P.me]))), (1, 0, zI P.me), (1, 1, zI P.n), (1, 2, zI P.turn), (1, 3, zI P.iss), (1, 4, .arr 8 (nI P.hd)), (1, 12, zM 2), (1, 13, zM 3), (1, 14, .top), (2, 0, .map 2 (smap P.sets)), (3, 0, .map 2 (wmap P.words)), (324, 0, zI P.turn), (324, 1, zI P.me), (324, 2, .top)], 900, 40⟩) ?_ ?_
   ·rw [hlw]; rfl
   rw [look_wsome]
   refine evC_go0K (s' := ⟨[(0, 0, zP 1), (0, 1, zU w), (0, 4, zI 0), (0, 5, zP 324), (0, 31, zB (Option.isSome (kget P.words P.turn P.me))), (1, 0, zI P.me), (1, 1, zI P.n), (1, 2, zI P.turn), (1, 3, zI P.iss), (1, 4, .arr 8 (nI P.hd)), (1, 12, zM 2), (1, 13, zM 3), (1, 14, .top), (2, 0, .map 2 (smap P.sets)), (3, 0, .map 2 (wmap P.words)), (324, 0, zI P.turn), (324, 1, zI P.me), (324, 2, .top)], 932, 40⟩) ?_
   refine evC_if (q := Option.isSome (kget P.words P.turn P.me)) (by kernel_rfl) (fun hc => ?_) (fun hc => ?_)
   ·have hE : noteE P w = 5 := by rw [eE, hc]; rfl
    have hP : noteP P w = P := by unfold noteP; rw [hE]; rfl
    rw [hE, hP]
    refine evC_go0K (s' := ⟨[(0, 0, zP 1), (0, 1, zU w), (0, 4, zI 5), (0, 5, zP 324), (1, 0, zI P.me), (1, 1, zI P.n), (1, 2, zI P.turn), (1, 3, zI P.iss), (1, 4, .arr 8 (nI P.hd)), (1, 12, zM 2), (1, 13, zM 3), (1, 14, .top), (2, 0, .map 2 (smap P.sets)), (3, 0, .map 2 (wmap P.words)), (324, 0, zI P.turn), (324, 1, zI P.me), (324, 2, .top)], 964, 40⟩) ?_
    refine evC_ret ?_
    refine then_ret ?_
    refine post_ret ?_
    refine ends_go [] (AV.int IntKind.i64 5) [(1, 0, zI P.me), (1, 1, zI P.n), (1, 2, zI P.turn), (1, 3, zI P.iss), (1, 4, .arr 8 (nI P.hd)), (1, 12, zM 2), (1, 13, zM 3), (1, 14, .top), (2, 0, .map 2 (smap P.sets)), (3, 0, .map 2 (wmap P.words))] rfl (by decide) rfl rfl (has_of _ rfl) rfl ⟨⟨_, rfl, rfl⟩, ⟨_, rfl, rfl⟩, ⟨_, rfl, rfl⟩, ⟨_, rfl, rfl⟩, ⟨_, rfl, ⟨rfl, fun _ _ => rfl⟩⟩, ⟨_, rfl, rfl⟩, ⟨_, rfl, rfl⟩, ⟨_, rfl, trivial⟩, ⟨_, rfl, Go.Eng.S25.cw_smap _⟩, ⟨_, rfl, cw_map (Go.Eng.S25.flat_wmap _)⟩, trivial⟩ ⟨fun _ => ⟨1, _, rfl, rfl, rfl, ⟨has_of _ rfl, rfl⟩⟩, fun _ => ⟨1, _, rfl, rfl, rfl, ⟨has_of _ rfl, rfl⟩⟩, fun _ => ⟨1, _, rfl, rfl, rfl, ⟨has_of _ rfl, rfl⟩⟩, fun _ => ⟨1, _, rfl, rfl, rfl, ⟨has_of _ rfl, rfl⟩⟩, fun _ => ⟨1, _, rfl, rfl, rfl, ⟨rfl, fun _ _ => ⟨has_of _ rfl, rfl⟩⟩⟩, fun _ => ⟨1, _, rfl, rfl, rfl, ⟨has_of _ rfl, rfl⟩⟩, fun _ => ⟨1, _, rfl, rfl, rfl, ⟨has_of _ rfl, rfl⟩⟩, fun _ => ⟨1, _, rfl, rfl, rfl, trivial⟩, fun _ => ⟨2, _, rfl, rfl, rfl, Go.Eng.S25.cf_smap _⟩, fun _ => ⟨3, _, rfl, rfl, rfl, cf_map (Go.Eng.S25.flat_wmap _)⟩, trivial⟩ ?_
    exact k4 _ _ rfl
   ·rw [hc] at eE
    clear hc
    refine evC_skip ?_
    refine then_normal ?_
    refine evC_seq ?_
    refine evC_go0K (s' := ⟨[(0, 0, zP 1), (0, 1, zU w), (0, 4, zI 0), (0, 5, zP 324), (0, 33, zB (w == 0)), (1, 0, zI P.me), (1, 1, zI P.n), (1, 2, zI P.turn), (1, 3, zI P.iss), (1, 4, .arr 8 (nI P.hd)), (1, 12, zM 2), (1, 13, zM 3), (1, 14, .top), (2, 0, .map 2 (smap P.sets)), (3, 0, .map 2 (wmap P.words)), (324, 0, zI P.turn), (324, 1, zI P.me), (324, 2, .top)], 996, 40⟩) ?_
    refine evC_if (q := w == 0) (by kernel_rfl) (fun hc => ?_) (fun hc => ?_)
    ·have hE : noteE P w = 1 := by rw [eE, hc]; rfl
     have hP : noteP P w = P := by unfold noteP; rw [hE]; rfl
     rw [hE, hP]
     refine evC_go0K (s' := ⟨[(0, 0, zP 1), (0, 1, zU w), (0, 4, zI 1), (0, 5, zP 324), (1, 0, zI P.me), (1, 1, zI P.n), (1, 2, zI P.turn), (1, 3, zI P.iss), (1, 4, .arr 8 (nI P.hd)), (1, 12, zM 2), (1, 13, zM 3), (1, 14, .top), (2, 0, .map 2 (smap P.sets)), (3, 0, .map 2 (wmap P.words)), (324, 0, zI P.turn), (324, 1, zI P.me), (324, 2, .top)], 1028, 40⟩) ?_
     refine evC_ret ?_
     refine then_ret ?_
     refine post_ret ?_
     refine ends_go [] (AV.int IntKind.i64 1) [(1, 0, zI P.me), (1, 1, zI P.n), (1, 2, zI P.turn), (1, 3, zI P.iss), (1, 4, .arr 8 (nI P.hd)), (1, 12, zM 2), (1, 13, zM 3), (1, 14, .top), (2, 0, .map 2 (smap P.sets)), (3, 0, .map 2 (wmap P.words))] rfl (by decide) rfl rfl (has_of _ rfl) rfl ⟨⟨_, rfl, rfl⟩, ⟨_, rfl, rfl⟩, ⟨_, rfl, rfl⟩, ⟨_, rfl, rfl⟩, ⟨_, rfl, ⟨rfl, fun _ _ => rfl⟩⟩, ⟨_, rfl, rfl⟩, ⟨_, rfl, rfl⟩, ⟨_, rfl, trivial⟩, ⟨_, rfl, Go.Eng.S25.cw_smap _⟩, ⟨_, rfl, cw_map (Go.Eng.S25.flat_wmap _)⟩, trivial⟩ ⟨fun _ => ⟨1, _, rfl, rfl, rfl, ⟨has_of _ rfl, rfl⟩⟩, fun _ => ⟨1, _, rfl, rfl, rfl, ⟨has_of _ rfl, rfl⟩⟩, fun _ => ⟨1, _, rfl, rfl, rfl, ⟨has_of _ rfl, rfl⟩⟩, fun _ => ⟨1, _, rfl, rfl, rfl, ⟨has_of _ rfl, rfl⟩⟩, fun _ => ⟨1, _, rfl, rfl, rfl, ⟨rfl, fun _ _ => ⟨has_of _ rfl, rfl⟩⟩⟩, fun _ => ⟨1, _, rfl, rfl, rfl, ⟨has_of _ rfl, rfl⟩⟩, fun _ => ⟨1, _, rfl, rfl, rfl, ⟨has_of _ rfl, rfl⟩⟩, fun _ => ⟨1, _, rfl, rfl, rfl, trivial⟩, fun _ => ⟨2, _, rfl, rfl, rfl, Go.Eng.S25.cf_smap _⟩, fun _ => ⟨3, _, rfl, rfl, rfl, cf_map (Go.Eng.S25.flat_wmap _)⟩, trivial⟩ ?_
     exact k4 _ _ rfl
    ·have hE : noteE P w = 0 := by rw [eE, hc]; rfl
     have hP : noteP P w = ⟨P.me, P.n, P.turn, P.iss, P.hd, P.sets, kput P.words P.turn P.me w⟩ := by unfold noteP; rw [hE]; rfl
     rw [hE, hP]
     refine evC_skip ?_
     refine then_normal ?_
     refine evC_go0K (s' := ⟨[(0, 4, zI 0), (1, 0, zI P.me), (1, 1, zI P.n), (1, 2, zI P.turn), (1, 3, zI P.iss), (1, 4, .arr 8 (nI P.hd)), (1, 12, zM 2), (1, 13, zM 3), (1, 14, .top), (2, 0, .map 2 (smap P.sets)), (3, 0, .map 2 (mput (wmap P.words) [P.turn, P.me] (AV.int IntKind.u64 w)))], 1220, 40⟩) ?_
     refine evC_wk (s' := ⟨[(0, 4, zI 0), (1, 0, zI P.me), (1, 1, zI P.n), (1, 2, zI P.turn), (1, 3, zI P.iss), (1, 4, Cont.arr 8 (nI P.hd)), (1, 12, zM 2), (1, 13, zM 3), (1, 14, Cont.top), (2, 0, Cont.map 2 (smap P.sets)), (3, 0, .map 2 (wmap (kput P.words P.turn P.me w)))], 4, 40⟩) _ (wk_go [] rfl (by decide) rfl rfl ⟨⟨_, rfl, rfl⟩, ⟨_, rfl, rfl⟩, ⟨_, rfl, rfl⟩, ⟨_, rfl, rfl⟩, ⟨_, rfl, rfl⟩, ⟨_, rfl, rfl, fun _ _ => rfl⟩, ⟨_, rfl, rfl⟩, ⟨_, rfl, rfl⟩, ⟨_, rfl, trivial⟩, ⟨_, rfl, Go.Eng.S25.cw_smap _⟩, ⟨_, rfl, ?_⟩, trivial⟩) ?_
     ·exact cw_wput _ _ _ _ _ _
     refine evC_go0K (s' := ⟨[(0, 4, zI 0), (1, 0, zI P.me), (1, 1, zI P.n), (1, 2, zI P.turn), (1, 3, zI P.iss), (1, 4, .arr 8 (nI P.hd)), (1, 12, zM 2), (1, 13, zM 3), (1, 14, .top), (2, 0, .map 2 (smap P.sets)), (3, 0, .map 2 (wmap (kput P.words P.turn P.me w)))], 36, 40⟩) ?_
     refine evC_ret ?_
     refine post_ret ?_
     refine ends_go [] (AV.int IntKind.i64 0) [(1, 0, zI P.me), (1, 1, zI P.n), (1, 2, zI P.turn), (1, 3, zI P.iss), (1, 4, .arr 8 (nI P.hd)), (1, 12, zM 2), (1, 13, zM 3), (1, 14, .top), (2, 0, .map 2 (smap P.sets)), (3, 0, .map 2 (wmap (kput P.words P.turn P.me w)))] rfl (by decide) rfl rfl (has_of _ rfl) rfl ⟨⟨_, rfl, rfl⟩, ⟨_, rfl, rfl⟩, ⟨_, rfl, rfl⟩, ⟨_, rfl, rfl⟩, ⟨_, rfl, ⟨rfl, fun _ _ => rfl⟩⟩, ⟨_, rfl, rfl⟩, ⟨_, rfl, rfl⟩, ⟨_, rfl, trivial⟩, ⟨_, rfl, Go.Eng.S25.cw_smap _⟩, ⟨_, rfl, cw_map (Go.Eng.S25.flat_wmap _)⟩, trivial⟩ ⟨fun _ => ⟨1, _, rfl, rfl, rfl, ⟨has_of _ rfl, rfl⟩⟩, fun _ => ⟨1, _, rfl, rfl, rfl, ⟨has_of _ rfl, rfl⟩⟩, fun _ => ⟨1, _, rfl, rfl, rfl, ⟨has_of _ rfl, rfl⟩⟩, fun _ => ⟨1, _, rfl, rfl, rfl, ⟨has_of _ rfl, rfl⟩⟩, fun _ => ⟨1, _, rfl, rfl, rfl, ⟨rfl, fun _ _ => ⟨has_of _ rfl, rfl⟩⟩⟩, fun _ => ⟨1, _, rfl, rfl, rfl, ⟨has_of _ rfl, rfl⟩⟩, fun _ => ⟨1, _, rfl, rfl, rfl, ⟨has_of _ rfl, rfl⟩⟩, fun _ => ⟨1, _, rfl, rfl, rfl, trivial⟩, fun _ => ⟨2, _, rfl, rfl, rfl, Go.Eng.S25.cf_smap _⟩, fun _ => ⟨3, _, rfl, rfl, rfl, cf_map (Go.Eng.S25.flat_wmap _)⟩, trivial⟩ ?_
     exact k4 _ _ rfl
 ·cases e
end Go.Eng.S25