/- Seat 25: issuing, walked. -/
import Derived.Test.YtodnecfgiimclaaEngX
import Derived.Test.YtodnecfgiimclaaS25C
set_option linter.unusedSimpArgs false
set_option linter.unusedVariables false
set_option maxHeartbeats 2000000
namespace Go.Eng.S25
open Go.Proofs Go.IntWalk
set_option maxRecDepth 10000
theorem cw_put (S : List ((Int × Int) × List Int)) (t p : Int) (L : List Int) (n ar : Nat) (π : Nat → Nat) : CW π (.map ar (mput (smap S) [t, p] (.rs 1 L.length false (nU L)))) (.map ar ((mput (smap S) [t, p] (.vs n)).map fun x => (x.1, x.2.frz n 1 L.length (nU L)))) := by
 rw [frz_put]
 show CW π (.map ar (mput (smap S) [t, p] (bs L))) (.map ar (mput (smap S) [t, p] (bs L)))
 rw [mput_smap]
 exact cw_smap _
theorem cw_put2 (S : List ((Int × Int) × List Int)) (t p : Int) (L : List Int) (ar : Nat) (π : Nat → Nat) : CW π (.map ar (smap (kput S t p L))) (.map ar (mput (smap S) [t, p] (.rs 1 L.length false (nU L)))) := by
 show CW π (.map ar (smap (kput S t p L))) (.map ar (mput (smap S) [t, p] (bs L)))
 rw [mput_smap]
 exact cw_smap _
theorem map_put (g : AV → AV) (hg : ∀ L, g (bs L) = bs L) (S : List ((Int × Int) × List Int)) (t p : Int) (v : AV) : (mput (smap S) [t, p] v).map (fun x => (x.1, g x.2)) = mput (smap S) [t, p] (g v) := by
 have h3 : ∀ S, (smap S).map (fun x => (x.1, g x.2)) = smap S := fun S => by
  simp only [smap, List.map_map, Function.comp_def, hg]
 induction S with
 | nil => rfl
 | cons x S ih =>
   show (bif ([t, p] : List Int) == [x.1.1, x.1.2] then ([t, p], v) :: smap S else ([x.1.1, x.1.2], bs x.2) :: mput (smap S) [t, p] v).map _ = bif ([t, p] : List Int) == [x.1.1, x.1.2] then ([t, p], g v) :: smap S else ([x.1.1, x.1.2], bs x.2) :: mput (smap S) [t, p] (g v)
   cases ([t, p] : List Int) == [x.1.1, x.1.2] with
   | true => rw [cond_true, cond_true, List.map_cons, h3]
   | false => rw [cond_false, cond_false, List.map_cons, ih, hg]
theorem cw_of_map {π : Nat → Nat} {ar : Nat} {es es' : List (List Int × AV)} (h : es = es'.map fun x => (x.1, x.2.ren π)) : CW π (.map ar es') (.map ar es) := by
 subst h
 exact ⟨rfl, by simp, fun i x hx => by rw [List.getElem?_map, hx]; rfl⟩
theorem cw_vs (S : List ((Int × Int) × List Int)) (t p : Int) (m n ar : Nat) (π : Nat → Nat) (h : π m = n) : CW π (.map ar (mput (smap S) [t, p] (.vs m))) (.map ar (mput (smap S) [t, p] (.vs n))) :=
 cw_of_map (by rw [map_put (fun v => v.ren π) (fun _ => rfl)]; show _ = mput (smap S) [t, p] (.vs (π m)); rw [h])
theorem kept_app {K : List Nat} {nb : Nat} {b : Bool} {fin : Heap} {up : List (Nat × Nat × Cont)} : ∀ {r1 r2 : List (Nat × Nat × Cont)}, KeptH K nb b fin up r1 → KeptH K nb b fin up r2 → KeptH K nb b fin up (r1 ++ r2)
 | [], _, _, h => h
 | x :: r1, r2, h1, h => ⟨h1.1, kept_app h1.2 h⟩
theorem cat0 (L : List Int) (g : Nat → AV) : ∀ i, i < L.length → catF 0 g (nU L) i = nU L i := fun i _ => rfl
def okT (P : Peer) : Prop := (0 ≤ P.turn ∧ P.turn ≤ 1000000) ∧ 0 ≤ P.iss ∧ P.iss ≤ 1000000
def issE (P : Peer) (m : Nat) : Int := bif decide ((m : Int) > 704) then 1 else bif decide (P.iss ≥ P.turn + 8) then 5 else 0
def issP (P : Peer) (L : List Int) : Peer := bif issE P L.length == 0 then ⟨P.me, P.n, P.turn, P.iss + 1, P.hd, kput P.sets P.iss P.me L, P.words⟩ else P
def sIssue : Spec := fun args hr _ => match args with
 | [v, .rs 1 m _ f] => withPeer hr v fun n b c P s rd => some ⟨[s, okT P, IsB m f], .int .i64 (issE P m), rd, pcon n b c (issP P (bytesL m f))⟩
 | [v, .nils] => withPeer hr v fun n b c P s rd => some ⟨[s, okT P], .int .i64 (issE P 0), rd, pcon n b c (issP P [])⟩
 | [v, .vs j] => match hr j 0 with
   | some (.vec 1 5 m f) => withPeer hr v fun n b c P s rd => some ⟨[s, okT P, IsB m f, 0 < j ∧ n ≠ j ∧ b ≠ j ∧ c ≠ j], .int .i64 (issE P m), rd ++ [(j, 0, .vec 1 5 m f)], pcon n b c (issP P (bytesL m f))⟩
   | _ => none
 | _ => none
theorem issue_walk {n b c nb : Nat} {P : Peer} {L : List Int} {sd : List Prop} {rd : List (Nat × Nat × Cont)} (hT1 : 0 ≤ P.turn ∧ P.turn ≤ 1000000) (hT2 : 0 ≤ P.iss ∧ P.iss ≤ 1000000)
 (k4 : ∀ fin P', hget fin 1 14 = some .top → KeptH [n, b, c] nb true fin (pcon n b c P') rd) :
 evC T [] ([n, b, c].length + 1) (Try.f10.body.getD .skip) (Post T Try.f10 [n, b, c] nb ⟨sd, .int .i64 (issE P L.length), rd, pcon n b c (issP P L)⟩ true) ⟨slots0 0 [.ptr 1 0, bs L] ++ pcon 1 2 3 P, [n, b, c].length + 1, Try.f10.ntmps⟩ := by
 have eE : issE P L.length = bif decide ((L.length : Int) > 704) then 1 else bif decide (P.iss ≥ P.turn + 8) then 5 else 0 := rfl
 unfold bs
 unfold pcon
 refine evC_go0K (s' := ⟨[(0, 0, zP 1), (0, 1, .cell (AV.rs 1 L.length false (nU L))), (0, 4, zI 0), (1, 0, zI P.me), (1, 1, zI P.n), (1, 2, zI P.turn), (1, 3, zI P.iss), (1, 4, .arr 8 (nI P.hd)), (1, 12, zM 2), (1, 13, zM 3), (1, 14, .top), (2, 0, .map 2 (smap P.sets)), (3, 0, .map 2 (wmap P.words))], 36, 43⟩) ?_
 refine evC_seq ?_
 refine evC_block ?_
 refine evC_go0K (s' := ⟨[(0, 0, zP 1), (0, 1, .cell (AV.rs 1 L.length false (nU L))), (0, 4, zI 0), (0, 5, zB (decide ((↑L.length : Int) > 704))), (1, 0, zI P.me), (1, 1, zI P.n), (1, 2, zI P.turn), (1, 3, zI P.iss), (1, 4, .arr 8 (nI P.hd)), (1, 12, zM 2), (1, 13, zM 3), (1, 14, .top), (2, 0, .map 2 (smap P.sets)), (3, 0, .map 2 (wmap P.words))], 164, 43⟩) ?_
 refine evC_if (q := decide ((↑(List.length L) : Int) > 704)) (by kernel_rfl) (fun hc => ?_) (fun hc => ?_)
 ·have hE : issE P L.length = 1 := by rw [eE, hc]; rfl
  have hP : issP P L = P := by unfold issP; rw [hE]; rfl
  rw [hE, hP]
  refine evC_go0K (s' := ⟨[(0, 0, zP 1), (0, 1, .cell (AV.rs 1 L.length false (nU L))), (0, 4, zI 1), (1, 0, zI P.me), (1, 1, zI P.n), (1, 2, zI P.turn), (1, 3, zI P.iss), (1, 4, .arr 8 (nI P.hd)), (1, 12, zM 2), (1, 13, zM 3), (1, 14, .top), (2, 0, .map 2 (smap P.sets)), (3, 0, .map 2 (wmap P.words))], 196, 43⟩) ?_
  refine evC_ret ?_
  refine block_ret ?_
  refine then_ret ?_
  refine post_ret ?_
  refine ends_go [] (AV.int IntKind.i64 1) [(1, 0, zI P.me), (1, 1, zI P.n), (1, 2, zI P.turn), (1, 3, zI P.iss), (1, 4, .arr 8 (nI P.hd)), (1, 12, zM 2), (1, 13, zM 3), (1, 14, .top), (2, 0, .map 2 (smap P.sets)), (3, 0, .map 2 (wmap P.words))] rfl (by decide) rfl rfl (has_of _ rfl) rfl ⟨⟨_, rfl, rfl⟩, ⟨_, rfl, rfl⟩, ⟨_, rfl, rfl⟩, ⟨_, rfl, rfl⟩, ⟨_, rfl, ⟨rfl, fun _ _ => rfl⟩⟩, ⟨_, rfl, rfl⟩, ⟨_, rfl, rfl⟩, ⟨_, rfl, trivial⟩, ⟨_, rfl, Go.Eng.S25.cw_smap _⟩, ⟨_, rfl, cw_map (Go.Eng.S25.flat_wmap _)⟩, trivial⟩ ⟨fun _ => ⟨1, _, rfl, rfl, rfl, ⟨has_of _ rfl, rfl⟩⟩, fun _ => ⟨1, _, rfl, rfl, rfl, ⟨has_of _ rfl, rfl⟩⟩, fun _ => ⟨1, _, rfl, rfl, rfl, ⟨has_of _ rfl, rfl⟩⟩, fun _ => ⟨1, _, rfl, rfl, rfl, ⟨has_of _ rfl, rfl⟩⟩, fun _ => ⟨1, _, rfl, rfl, rfl, ⟨rfl, fun _ _ => ⟨has_of _ rfl, rfl⟩⟩⟩, fun _ => ⟨1, _, rfl, rfl, rfl, ⟨has_of _ rfl, rfl⟩⟩, fun _ => ⟨1, _, rfl, rfl, rfl, ⟨has_of _ rfl, rfl⟩⟩, fun _ => ⟨1, _, rfl, rfl, rfl, trivial⟩, fun _ => ⟨2, _, rfl, rfl, rfl, Go.Eng.S25.cf_smap _⟩, fun _ => ⟨3, _, rfl, rfl, rfl, cf_map (Go.Eng.S25.flat_wmap _)⟩, trivial⟩ ?_
  exact k4 _ _ rfl
 ·rw [hc] at eE
  have h7 : L.length ≤ 704 := by
   have := of_decide_eq_false hc
   omega
  clear hc
  refine evC_go0K (s' := ⟨[(0, 0, zP 1), (0, 1, .cell (AV.rs 1 L.length false (nU L))), (0, 4, zI 0), (0, 9, zB (decide (P.iss ≥ IntKind.i64.wrap (P.turn + 8)))), (1, 0, zI P.me), (1, 1, zI P.n), (1, 2, zI P.turn), (1, 3, zI P.iss), (1, 4, .arr 8 (nI P.hd)), (1, 12, zM 2), (1, 13, zM 3), (1, 14, .top), (2, 0, .map 2 (smap P.sets)), (3, 0, .map 2 (wmap P.words))], 516, 43⟩) ?_
  rw [i64_in (P.turn + 8) (by omega)]
  refine evC_if (q := decide (P.iss ≥ P.turn + 8)) (by kernel_rfl) (fun hc => ?_) (fun hc => ?_)
  ·have hE : issE P L.length = 5 := by rw [eE, hc]; rfl
   have hP : issP P L = P := by unfold issP; rw [hE]; rfl
   rw [hE, hP]
   refine evC_go0K (s' := ⟨[(0, 0, zP 1), (0, 1, .cell (AV.rs 1 L.length false (nU L))), (0, 4, zI 5), (1, 0, zI P.me), (1, 1, zI P.n), (1, 2, zI P.turn), (1, 3, zI P.iss), (1, 4, .arr 8 (nI P.hd)), (1, 12, zM 2), (1, 13, zM 3), (1, 14, .top), (2, 0, .map 2 (smap P.sets)), (3, 0, .map 2 (wmap P.words))], 548, 43⟩) ?_
   refine evC_ret ?_
   refine block_ret ?_
   refine then_ret ?_
   refine post_ret ?_
   refine ends_go [] (AV.int IntKind.i64 5) [(1, 0, zI P.me), (1, 1, zI P.n), (1, 2, zI P.turn), (1, 3, zI P.iss), (1, 4, .arr 8 (nI P.hd)), (1, 12, zM 2), (1, 13, zM 3), (1, 14, .top), (2, 0, .map 2 (smap P.sets)), (3, 0, .map 2 (wmap P.words))] rfl (by decide) rfl rfl (has_of _ rfl) rfl ⟨⟨_, rfl, rfl⟩, ⟨_, rfl, rfl⟩, ⟨_, rfl, rfl⟩, ⟨_, rfl, rfl⟩, ⟨_, rfl, ⟨rfl, fun _ _ => rfl⟩⟩, ⟨_, rfl, rfl⟩, ⟨_, rfl, rfl⟩, ⟨_, rfl, trivial⟩, ⟨_, rfl, Go.Eng.S25.cw_smap _⟩, ⟨_, rfl, cw_map (Go.Eng.S25.flat_wmap _)⟩, trivial⟩ ⟨fun _ => ⟨1, _, rfl, rfl, rfl, ⟨has_of _ rfl, rfl⟩⟩, fun _ => ⟨1, _, rfl, rfl, rfl, ⟨has_of _ rfl, rfl⟩⟩, fun _ => ⟨1, _, rfl, rfl, rfl, ⟨has_of _ rfl, rfl⟩⟩, fun _ => ⟨1, _, rfl, rfl, rfl, ⟨has_of _ rfl, rfl⟩⟩, fun _ => ⟨1, _, rfl, rfl, rfl, ⟨rfl, fun _ _ => ⟨has_of _ rfl, rfl⟩⟩⟩, fun _ => ⟨1, _, rfl, rfl, rfl, ⟨has_of _ rfl, rfl⟩⟩, fun _ => ⟨1, _, rfl, rfl, rfl, ⟨has_of _ rfl, rfl⟩⟩, fun _ => ⟨1, _, rfl, rfl, rfl, trivial⟩, fun _ => ⟨2, _, rfl, rfl, rfl, Go.Eng.S25.cf_smap _⟩, fun _ => ⟨3, _, rfl, rfl, rfl, cf_map (Go.Eng.S25.flat_wmap _)⟩, trivial⟩ ?_
   exact k4 _ _ rfl
  ·have hE : issE P L.length = 0 := by rw [eE, hc]; rfl
   have hP : issP P L = ⟨P.me, P.n, P.turn, P.iss + 1, P.hd, kput P.sets P.iss P.me L, P.words⟩ := by unfold issP; rw [hE]; rfl
   rw [hE, hP]
   refine evC_skip ?_
   refine block_normal ?_
   refine then_normal ?_
   refine evC_goK (ps := [((0 : Nat) + L.length) * 1 ≤ 140737488355328, (0 : Nat) + L.length ≤ maxLen, L.length = (0 : Nat) ∨ 1 = 1, 1 = 1, 5 = 5]) (s' := ⟨[(0, 0, zP 1), (0, 4, zI 0), (1, 0, zI P.me), (1, 1, zI P.n), (1, 2, zI P.turn), (1, 3, zI P.iss), (1, 4, .arr 8 (nI P.hd)), (1, 12, zM 2), (1, 13, zM 3), (1, 14, .top), (2, 0, .map 2 (mput (smap P.sets) [P.iss, P.me] (AV.vs 996))), (3, 0, .map 2 (wmap P.words)), (996, 0, .vec 1 5 (0 + L.length) (catF 0 (pget []) (nU L)))], 1060, 43⟩) ?_ ?_
   ·(simp only [All]; (repeat' apply And.intro) <;> (try intro _) <;> (try intro _) <;> (repeat' apply And.intro) <;> (try intro _) <;> (try intro _) <;> first | trivial | assumption | exact .inr trivial | exact .inr rfl | omega | rfl | exact ⟨_, rfl, rfl⟩ | exact ⟨rfl, rfl⟩ | exact ⟨fun _ => rfl, fun _ => rfl⟩ | (unfold maxLen; omega) | (unfold i64R; first | omega | decide) | decide)
   refine evC_wk (s' := ⟨[(0, 0, zP 1), (0, 4, zI 0), (1, 0, zI P.me), (1, 1, zI P.n), (1, 2, zI P.turn), (1, 3, zI P.iss), (1, 4, Cont.arr 8 (nI P.hd)), (1, 12, zM 2), (1, 13, zM 3), (1, 14, Cont.top), (2, 0, Cont.map 2 (mput (smap P.sets) [P.iss, P.me] (AV.vs 4))), (3, 0, Cont.map 2 (wmap P.words)), (4, 0, .vec 1 5 L.length (nU L))], 5, 43⟩) _ (wk_go [996] rfl (by decide) rfl rfl ⟨⟨_, rfl, rfl⟩, ⟨_, rfl, rfl⟩, ⟨_, rfl, rfl⟩, ⟨_, rfl, rfl⟩, ⟨_, rfl, rfl⟩, ⟨_, rfl, rfl⟩, ⟨_, rfl, rfl, fun _ _ => rfl⟩, ⟨_, rfl, rfl⟩, ⟨_, rfl, rfl⟩, ⟨_, rfl, trivial⟩, ⟨_, rfl, ?_⟩, ⟨_, rfl, cw_map (Go.Eng.S25.flat_wmap _)⟩, ⟨_, rfl, ?_⟩, trivial⟩) ?_
   ·exact cw_vs _ _ _ _ _ _ _ rfl
   ·exact ⟨rfl, rfl, Nat.zero_add _, fun i hi => cat0 L _ i (by omega)⟩
   refine evC_wk (s' := ⟨[(0, 0, zP 1), (0, 4, zI 0), (1, 0, zI P.me), (1, 1, zI P.n), (1, 2, zI P.turn), (1, 3, zI P.iss), (1, 4, Cont.arr 8 (nI P.hd)), (1, 12, zM 2), (1, 13, zM 3), (1, 14, Cont.top), (2, 0, Cont.map 2 (mput (smap P.sets) [P.iss, P.me] (AV.rs 1 L.length false (nU L)))), (3, 0, Cont.map 2 (wmap P.words))], 4, 43⟩) _ (.trans (.frz 4 1 5 L.length (nU L) (Nat.le_of_ble_eq_true rfl) rfl) (wk_go [] rfl (by decide) rfl rfl ⟨⟨_, rfl, rfl⟩, ⟨_, rfl, rfl⟩, ⟨_, rfl, rfl⟩, ⟨_, rfl, rfl⟩, ⟨_, rfl, rfl⟩, ⟨_, rfl, rfl⟩, ⟨_, rfl, rfl, fun _ _ => rfl⟩, ⟨_, rfl, rfl⟩, ⟨_, rfl, rfl⟩, ⟨_, rfl, trivial⟩, ⟨_, rfl, ?_⟩, ⟨_, rfl, Go.Eng.S25.cw_wfrz _⟩, trivial⟩)) ?_
   ·exact cw_put _ _ _ _ _ _ _
   refine evC_wk (s' := ⟨[(0, 0, zP 1), (0, 4, zI 0), (1, 0, zI P.me), (1, 1, zI P.n), (1, 2, zI P.turn), (1, 3, zI P.iss), (1, 4, Cont.arr 8 (nI P.hd)), (1, 12, zM 2), (1, 13, zM 3), (1, 14, Cont.top), (2, 0, .map 2 (smap (kput P.sets P.iss P.me L))), (3, 0, Cont.map 2 (wmap P.words))], 4, 43⟩) _ (wk_go [] rfl (by decide) rfl rfl ⟨⟨_, rfl, rfl⟩, ⟨_, rfl, rfl⟩, ⟨_, rfl, rfl⟩, ⟨_, rfl, rfl⟩, ⟨_, rfl, rfl⟩, ⟨_, rfl, rfl⟩, ⟨_, rfl, rfl, fun _ _ => rfl⟩, ⟨_, rfl, rfl⟩, ⟨_, rfl, rfl⟩, ⟨_, rfl, trivial⟩, ⟨_, rfl, ?_⟩, ⟨_, rfl, cw_map (Go.Eng.S25.flat_wmap _)⟩, trivial⟩) ?_
   ·exact cw_put2 _ _ _ _ _ _
   refine evC_go0K (s' := ⟨[(0, 4, zI 0), (1, 0, zI P.me), (1, 1, zI P.n), (1, 2, zI P.turn), (1, 3, zI (IntKind.i64.wrap (P.iss + 1))), (1, 4, .arr 8 (nI P.hd)), (1, 12, zM 2), (1, 13, zM 3), (1, 14, .top), (2, 0, .map 2 (smap (kput P.sets P.iss P.me L))), (3, 0, .map 2 (wmap P.words))], 260, 43⟩) ?_
   rw [i64_in (P.iss + 1) (by omega)]
   refine evC_go0K (s' := ⟨[(0, 4, zI 0), (1, 0, zI P.me), (1, 1, zI P.n), (1, 2, zI P.turn), (1, 3, zI (P.iss + 1)), (1, 4, .arr 8 (nI P.hd)), (1, 12, zM 2), (1, 13, zM 3), (1, 14, .top), (2, 0, .map 2 (smap (kput P.sets P.iss P.me L))), (3, 0, .map 2 (wmap P.words))], 292, 43⟩) ?_
   refine evC_ret ?_
   refine post_ret ?_
   refine ends_go [] (AV.int IntKind.i64 0) [(1, 0, zI P.me), (1, 1, zI P.n), (1, 2, zI P.turn), (1, 3, zI (P.iss + 1)), (1, 4, .arr 8 (nI P.hd)), (1, 12, zM 2), (1, 13, zM 3), (1, 14, .top), (2, 0, .map 2 (smap (kput P.sets P.iss P.me L))), (3, 0, .map 2 (wmap P.words))] rfl (by decide) rfl rfl (has_of _ rfl) rfl ⟨⟨_, rfl, rfl⟩, ⟨_, rfl, rfl⟩, ⟨_, rfl, rfl⟩, ⟨_, rfl, rfl⟩, ⟨_, rfl, ⟨rfl, fun _ _ => rfl⟩⟩, ⟨_, rfl, rfl⟩, ⟨_, rfl, rfl⟩, ⟨_, rfl, trivial⟩, ⟨_, rfl, Go.Eng.S25.cw_smap _⟩, ⟨_, rfl, cw_map (Go.Eng.S25.flat_wmap _)⟩, trivial⟩ ⟨fun _ => ⟨1, _, rfl, rfl, rfl, ⟨has_of _ rfl, rfl⟩⟩, fun _ => ⟨1, _, rfl, rfl, rfl, ⟨has_of _ rfl, rfl⟩⟩, fun _ => ⟨1, _, rfl, rfl, rfl, ⟨has_of _ rfl, rfl⟩⟩, fun _ => ⟨1, _, rfl, rfl, rfl, ⟨has_of _ rfl, rfl⟩⟩, fun _ => ⟨1, _, rfl, rfl, rfl, ⟨rfl, fun _ _ => ⟨has_of _ rfl, rfl⟩⟩⟩, fun _ => ⟨1, _, rfl, rfl, rfl, ⟨has_of _ rfl, rfl⟩⟩, fun _ => ⟨1, _, rfl, rfl, rfl, ⟨has_of _ rfl, rfl⟩⟩, fun _ => ⟨1, _, rfl, rfl, rfl, trivial⟩, fun _ => ⟨2, _, rfl, rfl, rfl, Go.Eng.S25.cf_smap _⟩, fun _ => ⟨3, _, rfl, rfl, rfl, cf_map (Go.Eng.S25.flat_wmap _)⟩, trivial⟩ ?_
   ·exact k4 _ _ rfl
theorem issue_walkV {n b c j nb : Nat} {P : Peer} {L : List Int} {sd : List Prop} {rd : List (Nat × Nat × Cont)} (hT1 : 0 ≤ P.turn ∧ P.turn ≤ 1000000) (hT2 : 0 ≤ P.iss ∧ P.iss ≤ 1000000)
 (k4 : ∀ fin P', hget fin 1 14 = some .top → hget fin 4 0 = some (.vec 1 5 L.length (nU L)) → KeptH [n, b, c, j] nb true fin (pcon n b c P') rd) :
 evC T [] ([n, b, c, j].length + 1) (Try.f10.body.getD .skip) (Post T Try.f10 [n, b, c, j] nb ⟨sd, .int .i64 (issE P L.length), rd, pcon n b c (issP P L)⟩ true) ⟨slots0 0 [.ptr 1 0, .vs 4] ++ (pcon 1 2 3 P ++ [(4, 0, .vec 1 5 L.length (nU L))]), [n, b, c, j].length + 1, Try.f10.ntmps⟩ := by
 have eE : issE P L.length = bif decide ((L.length : Int) > 704) then 1 else bif decide (P.iss ≥ P.turn + 8) then 5 else 0 := rfl
 unfold pcon
 refine evC_go0K (s' := ⟨[(0, 0, zP 1), (0, 1, zV 4), (0, 4, zI 0), (1, 0, zI P.me), (1, 1, zI P.n), (1, 2, zI P.turn), (1, 3, zI P.iss), (1, 4, .arr 8 (nI P.hd)), (1, 12, zM 2), (1, 13, zM 3), (1, 14, .top), (2, 0, .map 2 (smap P.sets)), (3, 0, .map 2 (wmap P.words)), (4, 0, .vec 1 5 L.length (nU L))], 37, 43⟩) ?_
 refine evC_seq ?_
 refine evC_block ?_
 refine evC_go0K (s' := ⟨[(0, 0, zP 1), (0, 1, zV 4), (0, 4, zI 0), (0, 5, zB (decide ((↑L.length : Int) > 704))), (1, 0, zI P.me), (1, 1, zI P.n), (1, 2, zI P.turn), (1, 3, zI P.iss), (1, 4, .arr 8 (nI P.hd)), (1, 12, zM 2), (1, 13, zM 3), (1, 14, .top), (2, 0, .map 2 (smap P.sets)), (3, 0, .map 2 (wmap P.words)), (4, 0, .vec 1 5 L.length (nU L))], 165, 43⟩) ?_
 refine evC_if (q := decide ((↑(List.length L) : Int) > 704)) (by kernel_rfl) (fun hc => ?_) (fun hc => ?_)
 ·have hE : issE P L.length = 1 := by rw [eE, hc]; rfl
  have hP : issP P L = P := by unfold issP; rw [hE]; rfl
  rw [hE, hP]
  refine evC_go0K (s' := ⟨[(0, 0, zP 1), (0, 1, zV 4), (0, 4, zI 1), (1, 0, zI P.me), (1, 1, zI P.n), (1, 2, zI P.turn), (1, 3, zI P.iss), (1, 4, .arr 8 (nI P.hd)), (1, 12, zM 2), (1, 13, zM 3), (1, 14, .top), (2, 0, .map 2 (smap P.sets)), (3, 0, .map 2 (wmap P.words)), (4, 0, .vec 1 5 L.length (nU L))], 197, 43⟩) ?_
  refine evC_ret ?_
  refine block_ret ?_
  refine then_ret ?_
  refine post_ret ?_
  refine ends_go [] (AV.int IntKind.i64 1) [(1, 0, zI P.me), (1, 1, zI P.n), (1, 2, zI P.turn), (1, 3, zI P.iss), (1, 4, .arr 8 (nI P.hd)), (1, 12, zM 2), (1, 13, zM 3), (1, 14, .top), (2, 0, .map 2 (smap P.sets)), (3, 0, .map 2 (wmap P.words)), (4, 0, .vec 1 5 L.length (nU L))] rfl (by decide) rfl rfl (has_of _ rfl) rfl ⟨⟨_, rfl, rfl⟩, ⟨_, rfl, rfl⟩, ⟨_, rfl, rfl⟩, ⟨_, rfl, rfl⟩, ⟨_, rfl, ⟨rfl, fun _ _ => rfl⟩⟩, ⟨_, rfl, rfl⟩, ⟨_, rfl, rfl⟩, ⟨_, rfl, trivial⟩, ⟨_, rfl, Go.Eng.S25.cw_smap _⟩, ⟨_, rfl, cw_map (Go.Eng.S25.flat_wmap _)⟩, ⟨_, rfl, ⟨rfl, rfl, rfl, fun _ _ => rfl⟩⟩, trivial⟩ ⟨fun _ => ⟨1, _, rfl, rfl, rfl, ⟨has_of _ rfl, rfl⟩⟩, fun _ => ⟨1, _, rfl, rfl, rfl, ⟨has_of _ rfl, rfl⟩⟩, fun _ => ⟨1, _, rfl, rfl, rfl, ⟨has_of _ rfl, rfl⟩⟩, fun _ => ⟨1, _, rfl, rfl, rfl, ⟨has_of _ rfl, rfl⟩⟩, fun _ => ⟨1, _, rfl, rfl, rfl, ⟨rfl, fun _ _ => ⟨has_of _ rfl, rfl⟩⟩⟩, fun _ => ⟨1, _, rfl, rfl, rfl, ⟨has_of _ rfl, rfl⟩⟩, fun _ => ⟨1, _, rfl, rfl, rfl, ⟨has_of _ rfl, rfl⟩⟩, fun _ => ⟨1, _, rfl, rfl, rfl, trivial⟩, fun _ => ⟨2, _, rfl, rfl, rfl, Go.Eng.S25.cf_smap _⟩, fun _ => ⟨3, _, rfl, rfl, rfl, cf_map (Go.Eng.S25.flat_wmap _)⟩, trivial⟩ ?_
  exact k4 _ _ rfl rfl
 ·rw [hc] at eE
  have h7 : L.length ≤ 704 := by
   have := of_decide_eq_false hc
   omega
  clear hc
  refine evC_go0K (s' := ⟨[(0, 0, zP 1), (0, 1, zV 4), (0, 4, zI 0), (0, 9, zB (decide (P.iss ≥ IntKind.i64.wrap (P.turn + 8)))), (1, 0, zI P.me), (1, 1, zI P.n), (1, 2, zI P.turn), (1, 3, zI P.iss), (1, 4, .arr 8 (nI P.hd)), (1, 12, zM 2), (1, 13, zM 3), (1, 14, .top), (2, 0, .map 2 (smap P.sets)), (3, 0, .map 2 (wmap P.words)), (4, 0, .vec 1 5 L.length (nU L))], 517, 43⟩) ?_
  rw [i64_in (P.turn + 8) (by omega)]
  refine evC_if (q := decide (P.iss ≥ P.turn + 8)) (by kernel_rfl) (fun hc => ?_) (fun hc => ?_)
  ·have hE : issE P L.length = 5 := by rw [eE, hc]; rfl
   have hP : issP P L = P := by unfold issP; rw [hE]; rfl
   rw [hE, hP]
   refine evC_go0K (s' := ⟨[(0, 0, zP 1), (0, 1, zV 4), (0, 4, zI 5), (1, 0, zI P.me), (1, 1, zI P.n), (1, 2, zI P.turn), (1, 3, zI P.iss), (1, 4, .arr 8 (nI P.hd)), (1, 12, zM 2), (1, 13, zM 3), (1, 14, .top), (2, 0, .map 2 (smap P.sets)), (3, 0, .map 2 (wmap P.words)), (4, 0, .vec 1 5 L.length (nU L))], 549, 43⟩) ?_
   refine evC_ret ?_
   refine block_ret ?_
   refine then_ret ?_
   refine post_ret ?_
   refine ends_go [] (AV.int IntKind.i64 5) [(1, 0, zI P.me), (1, 1, zI P.n), (1, 2, zI P.turn), (1, 3, zI P.iss), (1, 4, .arr 8 (nI P.hd)), (1, 12, zM 2), (1, 13, zM 3), (1, 14, .top), (2, 0, .map 2 (smap P.sets)), (3, 0, .map 2 (wmap P.words)), (4, 0, .vec 1 5 L.length (nU L))] rfl (by decide) rfl rfl (has_of _ rfl) rfl ⟨⟨_, rfl, rfl⟩, ⟨_, rfl, rfl⟩, ⟨_, rfl, rfl⟩, ⟨_, rfl, rfl⟩, ⟨_, rfl, ⟨rfl, fun _ _ => rfl⟩⟩, ⟨_, rfl, rfl⟩, ⟨_, rfl, rfl⟩, ⟨_, rfl, trivial⟩, ⟨_, rfl, Go.Eng.S25.cw_smap _⟩, ⟨_, rfl, cw_map (Go.Eng.S25.flat_wmap _)⟩, ⟨_, rfl, ⟨rfl, rfl, rfl, fun _ _ => rfl⟩⟩, trivial⟩ ⟨fun _ => ⟨1, _, rfl, rfl, rfl, ⟨has_of _ rfl, rfl⟩⟩, fun _ => ⟨1, _, rfl, rfl, rfl, ⟨has_of _ rfl, rfl⟩⟩, fun _ => ⟨1, _, rfl, rfl, rfl, ⟨has_of _ rfl, rfl⟩⟩, fun _ => ⟨1, _, rfl, rfl, rfl, ⟨has_of _ rfl, rfl⟩⟩, fun _ => ⟨1, _, rfl, rfl, rfl, ⟨rfl, fun _ _ => ⟨has_of _ rfl, rfl⟩⟩⟩, fun _ => ⟨1, _, rfl, rfl, rfl, ⟨has_of _ rfl, rfl⟩⟩, fun _ => ⟨1, _, rfl, rfl, rfl, ⟨has_of _ rfl, rfl⟩⟩, fun _ => ⟨1, _, rfl, rfl, rfl, trivial⟩, fun _ => ⟨2, _, rfl, rfl, rfl, Go.Eng.S25.cf_smap _⟩, fun _ => ⟨3, _, rfl, rfl, rfl, cf_map (Go.Eng.S25.flat_wmap _)⟩, trivial⟩ ?_
   exact k4 _ _ rfl rfl
  ·have hE : issE P L.length = 0 := by rw [eE, hc]; rfl
   have hP : issP P L = ⟨P.me, P.n, P.turn, P.iss + 1, P.hd, kput P.sets P.iss P.me L, P.words⟩ := by unfold issP; rw [hE]; rfl
   rw [hE, hP]
   refine evC_skip ?_
   refine block_normal ?_
   refine then_normal ?_
   refine evC_goK (ps := [((0 : Nat) + L.length) * 1 ≤ 140737488355328, (0 : Nat) + L.length ≤ maxLen, L.length = (0 : Nat) ∨ 1 = 1, 1 = 1, 5 = 5]) (s' := ⟨[(0, 0, zP 1), (0, 4, zI 0), (1, 0, zI P.me), (1, 1, zI P.n), (1, 2, zI P.turn), (1, 3, zI P.iss), (1, 4, .arr 8 (nI P.hd)), (1, 12, zM 2), (1, 13, zM 3), (1, 14, .top), (2, 0, .map 2 (mput (smap P.sets) [P.iss, P.me] (AV.vs 997))), (3, 0, .map 2 (wmap P.words)), (4, 0, .vec 1 5 L.length (nU L)), (997, 0, .vec 1 5 (0 + L.length) (catF 0 (pget []) (nU L)))], 1061, 43⟩) ?_ ?_
   ·(simp only [All]; (repeat' apply And.intro) <;> (try intro _) <;> (try intro _) <;> (repeat' apply And.intro) <;> (try intro _) <;> (try intro _) <;> first | trivial | assumption | exact .inr trivial | exact .inr rfl | omega | rfl | exact ⟨_, rfl, rfl⟩ | exact ⟨rfl, rfl⟩ | exact ⟨fun _ => rfl, fun _ => rfl⟩ | (unfold maxLen; omega) | (unfold i64R; first | omega | decide) | decide)
   refine evC_wk (s' := ⟨[(0, 0, zP 1), (0, 4, zI 0), (1, 0, zI P.me), (1, 1, zI P.n), (1, 2, zI P.turn), (1, 3, zI P.iss), (1, 4, Cont.arr 8 (nI P.hd)), (1, 12, zM 2), (1, 13, zM 3), (1, 14, Cont.top), (2, 0, Cont.map 2 (mput (smap P.sets) [P.iss, P.me] (AV.vs 5))), (3, 0, Cont.map 2 (wmap P.words)), (4, 0, Cont.vec 1 5 L.length (nU L)), (5, 0, .vec 1 5 L.length (nU L))], 6, 43⟩) _ (wk_go [997] rfl (by decide) rfl rfl ⟨⟨_, rfl, rfl⟩, ⟨_, rfl, rfl⟩, ⟨_, rfl, rfl⟩, ⟨_, rfl, rfl⟩, ⟨_, rfl, rfl⟩, ⟨_, rfl, rfl⟩, ⟨_, rfl, rfl, fun _ _ => rfl⟩, ⟨_, rfl, rfl⟩, ⟨_, rfl, rfl⟩, ⟨_, rfl, trivial⟩, ⟨_, rfl, ?_⟩, ⟨_, rfl, cw_map (Go.Eng.S25.flat_wmap _)⟩, ⟨_, rfl, rfl, rfl, rfl, fun _ _ => rfl⟩, ⟨_, rfl, ?_⟩, trivial⟩) ?_
   ·exact cw_vs _ _ _ _ _ _ _ rfl
   ·exact ⟨rfl, rfl, Nat.zero_add _, fun i hi => cat0 L _ i (by omega)⟩
   refine evC_wk (s' := ⟨[(0, 0, zP 1), (0, 4, zI 0), (1, 0, zI P.me), (1, 1, zI P.n), (1, 2, zI P.turn), (1, 3, zI P.iss), (1, 4, Cont.arr 8 (nI P.hd)), (1, 12, zM 2), (1, 13, zM 3), (1, 14, Cont.top), (2, 0, Cont.map 2 (mput (smap P.sets) [P.iss, P.me] (AV.rs 1 L.length false (nU L)))), (3, 0, Cont.map 2 (wmap P.words)), (4, 0, Cont.vec 1 5 L.length (nU L))], 5, 43⟩) _ (.trans (.frz 5 1 5 L.length (nU L) (Nat.le_of_ble_eq_true rfl) rfl) (wk_go [] rfl (by decide) rfl rfl ⟨⟨_, rfl, rfl⟩, ⟨_, rfl, rfl⟩, ⟨_, rfl, rfl⟩, ⟨_, rfl, rfl⟩, ⟨_, rfl, rfl⟩, ⟨_, rfl, rfl⟩, ⟨_, rfl, rfl, fun _ _ => rfl⟩, ⟨_, rfl, rfl⟩, ⟨_, rfl, rfl⟩, ⟨_, rfl, trivial⟩, ⟨_, rfl, ?_⟩, ⟨_, rfl, Go.Eng.S25.cw_wfrz _⟩, ⟨_, rfl, rfl, rfl, rfl, fun _ _ => rfl⟩, trivial⟩)) ?_
   ·exact cw_put _ _ _ _ _ _ _
   refine evC_wk (s' := ⟨[(0, 0, zP 1), (0, 4, zI 0), (1, 0, zI P.me), (1, 1, zI P.n), (1, 2, zI P.turn), (1, 3, zI P.iss), (1, 4, Cont.arr 8 (nI P.hd)), (1, 12, zM 2), (1, 13, zM 3), (1, 14, Cont.top), (2, 0, .map 2 (smap (kput P.sets P.iss P.me L))), (3, 0, Cont.map 2 (wmap P.words)), (4, 0, Cont.vec 1 5 L.length (nU L))], 5, 43⟩) _ (wk_go [] rfl (by decide) rfl rfl ⟨⟨_, rfl, rfl⟩, ⟨_, rfl, rfl⟩, ⟨_, rfl, rfl⟩, ⟨_, rfl, rfl⟩, ⟨_, rfl, rfl⟩, ⟨_, rfl, rfl⟩, ⟨_, rfl, rfl, fun _ _ => rfl⟩, ⟨_, rfl, rfl⟩, ⟨_, rfl, rfl⟩, ⟨_, rfl, trivial⟩, ⟨_, rfl, ?_⟩, ⟨_, rfl, cw_map (Go.Eng.S25.flat_wmap _)⟩, ⟨_, rfl, rfl, rfl, rfl, fun _ _ => rfl⟩, trivial⟩) ?_
   ·exact cw_put2 _ _ _ _ _ _
   refine evC_go0K (s' := ⟨[(0, 4, zI 0), (1, 0, zI P.me), (1, 1, zI P.n), (1, 2, zI P.turn), (1, 3, zI (IntKind.i64.wrap (P.iss + 1))), (1, 4, .arr 8 (nI P.hd)), (1, 12, zM 2), (1, 13, zM 3), (1, 14, .top), (2, 0, .map 2 (smap (kput P.sets P.iss P.me L))), (3, 0, .map 2 (wmap P.words)), (4, 0, .vec 1 5 L.length (nU L))], 261, 43⟩) ?_
   rw [i64_in (P.iss + 1) (by omega)]
   refine evC_go0K (s' := ⟨[(0, 4, zI 0), (1, 0, zI P.me), (1, 1, zI P.n), (1, 2, zI P.turn), (1, 3, zI (P.iss + 1)), (1, 4, .arr 8 (nI P.hd)), (1, 12, zM 2), (1, 13, zM 3), (1, 14, .top), (2, 0, .map 2 (smap (kput P.sets P.iss P.me L))), (3, 0, .map 2 (wmap P.words)), (4, 0, .vec 1 5 L.length (nU L))], 293, 43⟩) ?_
   refine evC_ret ?_
   refine post_ret ?_
   refine ends_go [] (AV.int IntKind.i64 0) [(1, 0, zI P.me), (1, 1, zI P.n), (1, 2, zI P.turn), (1, 3, zI (P.iss + 1)), (1, 4, .arr 8 (nI P.hd)), (1, 12, zM 2), (1, 13, zM 3), (1, 14, .top), (2, 0, .map 2 (smap (kput P.sets P.iss P.me L))), (3, 0, .map 2 (wmap P.words)), (4, 0, .vec 1 5 L.length (nU L))] rfl (by decide) rfl rfl (has_of _ rfl) rfl ⟨⟨_, rfl, rfl⟩, ⟨_, rfl, rfl⟩, ⟨_, rfl, rfl⟩, ⟨_, rfl, rfl⟩, ⟨_, rfl, ⟨rfl, fun _ _ => rfl⟩⟩, ⟨_, rfl, rfl⟩, ⟨_, rfl, rfl⟩, ⟨_, rfl, trivial⟩, ⟨_, rfl, Go.Eng.S25.cw_smap _⟩, ⟨_, rfl, cw_map (Go.Eng.S25.flat_wmap _)⟩, ⟨_, rfl, ⟨rfl, rfl, rfl, fun _ _ => rfl⟩⟩, trivial⟩ ⟨fun _ => ⟨1, _, rfl, rfl, rfl, ⟨has_of _ rfl, rfl⟩⟩, fun _ => ⟨1, _, rfl, rfl, rfl, ⟨has_of _ rfl, rfl⟩⟩, fun _ => ⟨1, _, rfl, rfl, rfl, ⟨has_of _ rfl, rfl⟩⟩, fun _ => ⟨1, _, rfl, rfl, rfl, ⟨has_of _ rfl, rfl⟩⟩, fun _ => ⟨1, _, rfl, rfl, rfl, ⟨rfl, fun _ _ => ⟨has_of _ rfl, rfl⟩⟩⟩, fun _ => ⟨1, _, rfl, rfl, rfl, ⟨has_of _ rfl, rfl⟩⟩, fun _ => ⟨1, _, rfl, rfl, rfl, ⟨has_of _ rfl, rfl⟩⟩, fun _ => ⟨1, _, rfl, rfl, rfl, trivial⟩, fun _ => ⟨2, _, rfl, rfl, rfl, Go.Eng.S25.cf_smap _⟩, fun _ => ⟨3, _, rfl, rfl, rfl, cf_map (Go.Eng.S25.flat_wmap _)⟩, trivial⟩ ?_
   ·exact k4 _ _ rfl rfl
theorem issue_ok : SpecOK Try.prog 10 sIssue := by
 refine spec_at (by kernel_rfl) T_ok sget_nil Try.func10 rfl rfl fun args hr nb out e => ?_
 unfold sIssue at e
 split at e
 ·rename_i v m fl f
  obtain ⟨n, b, c, P, s, rd, rfl, e, hrd, hs0, hs1, hs2⟩ := peer_open e
  injection e with e; subst e
  by_cases hB : IsB m f
  rotate_left
  ·exact ⟨hrd, true, [], [], [], rfl, fun hs => absurd (hs _ (List.mem_cons_of_mem _ (List.mem_cons_of_mem _ List.mem_cons_self))) hB⟩
  obtain ⟨L, rfl, hL, eL, hf⟩ := hB.list
  refine ⟨hrd, true, [n, b, c], [.ptr 1 0, bs L], pcon 1 2 3 P, rfl, fun hs => ?_⟩
  obtain ⟨k1, k2, k3⟩ := hs0 (hs _ List.mem_cons_self)
  have k4 := fun fin P' => hs2 (hs _ List.mem_cons_self) [] nb fin P' []
  obtain ⟨hT1, hT2⟩ := hs _ (List.mem_cons_of_mem _ List.mem_cons_self)
  refine ⟨k1, fun z hz => ⟨(k2 z hz).1, (k2 z hz).2 _ fun x hx => hx⟩, .cons _ _ _ _ (.name _ _ _ rfl) (.cons _ _ _ _ (.rs _ _ _ _ _ _ fun i hi => ⟨hf i hi, (nU_flat _ i).has⟩) .nil), k3 _ _, ?_⟩
  rw [eL]
  exact issue_walk hT1 hT2 k4
 ·rename_i v
  obtain ⟨n, b, c, P, s, rd, rfl, e, hrd, hs0, hs1, hs2⟩ := peer_open e
  injection e with e; subst e
  refine ⟨hrd, true, [n, b, c], [.ptr 1 0, bs []], pcon 1 2 3 P, rfl, fun hs => ?_⟩
  obtain ⟨k1, k2, k3⟩ := hs0 (hs _ List.mem_cons_self)
  have k4 := fun fin P' => hs2 (hs _ List.mem_cons_self) [] nb fin P' []
  obtain ⟨hT1, hT2⟩ := hs _ (List.mem_cons_of_mem _ List.mem_cons_self)
  refine ⟨k1, fun z hz => ⟨(k2 z hz).1, (k2 z hz).2 _ fun x hx => hx⟩, .cons _ _ _ _ (.name _ _ _ rfl) (.cons _ _ _ _ (.nil _ _ _) .nil), k3 _ _, ?_⟩
  exact issue_walk (L := []) hT1 hT2 k4
 ·rename_i v j
  split at e
  ·rename_i m f hj
   obtain ⟨n, b, c, P, s, rd, rfl, e, hrd, hs0, hs1, hs2⟩ := peer_open e
   injection e with e; subst e
   have hrd' : ∀ x ∈ rd ++ [(j, 0, Cont.vec 1 5 m f)], hr x.1 x.2.1 = some x.2.2 := by
    intro x hx
    rcases List.mem_append.1 hx with hx | hx
    ·exact hrd x hx
    ·rw [List.mem_singleton.1 hx]; exact hj
   by_cases hB : IsB m f
   rotate_left
   ·exact ⟨hrd', true, [], [], [], rfl, fun hs => absurd (hs _ (List.mem_cons_of_mem _ (List.mem_cons_of_mem _ List.mem_cons_self))) hB⟩
   obtain ⟨L, rfl, hL, eL, hf⟩ := hB.list
   refine ⟨hrd', true, [n, b, c, j], [.ptr 1 0, .vs 4], pcon 1 2 3 P ++ [(4, 0, .vec 1 5 L.length (nU L))], rfl, fun hs => ?_⟩
   obtain ⟨k1, k2, k3⟩ := hs0 (hs _ List.mem_cons_self)
   have k4 := fun fin P' => hs2 (hs _ List.mem_cons_self) [j] nb fin P' []
   obtain ⟨hT1, hT2⟩ := hs _ (List.mem_cons_of_mem _ List.mem_cons_self)
   obtain ⟨j0, j1, j2, j3⟩ := hs _ (List.mem_cons_of_mem _ (List.mem_cons_of_mem _ (List.mem_cons_of_mem _ List.mem_cons_self)))
   refine ⟨by simp at k1 ⊢; exact ⟨⟨k1.1.1, k1.1.2, j1⟩, ⟨k1.2, j2⟩, j3⟩, fun z hz => ?_, .cons _ _ _ _ (.name _ _ _ rfl) (.cons _ _ _ _ (.name _ _ _ rfl) .nil), fun x hx => ?_, ?_⟩
   ·by_cases hz' : z ∈ [n, b, c]
    ·exact ⟨(k2 z hz').1, (k2 z hz').2 _ fun x hx => List.mem_append_left _ hx⟩
    ·have : z = j := by simp at hz hz'; omega
     subst this
     exact ⟨j0, .vec 1 5 L.length f (List.mem_append_right _ List.mem_cons_self)⟩
   ·rcases List.mem_append.1 hx with hx | hx
    ·obtain ⟨i, m, c', h1, h2, h3, h4⟩ := k3 [j] nb x hx
     exact ⟨i, m, c', h1, h2, List.mem_append_left _ h3, h4⟩
    ·rw [List.mem_singleton.1 hx]
     exact ⟨3, j, _, rfl, rfl, List.mem_append_right _ List.mem_cons_self, rfl, rfl, rfl, fun i hi => hf i hi⟩
   rw [eL]
   refine issue_walkV hT1 hT2 fun fin P' h1 h2 => ?_
   exact kept_app (k4 fin P' h1) ⟨fun _ => .inr ⟨3, _, rfl, h2, rfl, rfl, rfl, fun i hi => ⟨.int _ _, hf i hi⟩⟩, trivial⟩
  ·cases e
 ·cases e
end Go.Eng.S25
/- Seat 25: numbers as bytes, walked. -/
set_option linter.unusedSimpArgs false
set_option linter.unusedVariables false
set_option maxHeartbeats 2000000
namespace Go.Eng.S25
open Go.Proofs Go.IntWalk
set_option maxRecDepth 10000
def leB : Nat → Int → List Int
 | 0, _ => []
 | k + 1, v => v % 256 :: leB k (v / 256)
theorem leB_len : ∀ (k : Nat) (v : Int), (leB k v).length = k
 | 0, _ => rfl
 | k + 1, v => by rw [leB, List.length_cons, leB_len k]
theorem leB_snoc : ∀ (k : Nat) (v : Int), leB (k + 1) v = leB k v ++ [v / 256 ^ k % 256]
 | 0, v => by simp [leB]
 | k + 1, v => by
   rw [leB, leB_snoc k, leB, List.cons_append]
   have : v / 256 / 256 ^ k = v / 256 ^ (k + 1) := by
    rw [Int.ediv_ediv_of_nonneg (by omega)]
    congr 1
    rw [Int.pow_succ, Int.mul_comm]
   rw [this]
theorem leB_isU : ∀ (k : Nat) (v : Int), IsU (leB k v)
 | 0, _, x, hx => by cases hx
 | k + 1, v, x, hx => by
   rcases List.mem_cons.1 hx with rfl | hx
   ·omega
   ·exact leB_isU k _ x hx
theorem isU_app {L M : List Int} (h : IsU L) (k : IsU M) : IsU (L ++ M) := fun x hx => (List.mem_append.1 hx).elim (h x) (k x)
theorem shr_byte {k : Nat} (hk : k < 8) (v : Int) : IntKind.u8.wrap (v.fdiv (2 ^ min (8 * (k : Int)).toNat IntKind.u64.bits)) = v / 256 ^ k % 256 := by
 have e1 : min (8 * (k : Int)).toNat IntKind.u64.bits = 8 * k := by
  show min (8 * (k : Int)).toNat 64 = 8 * k
  omega
 have e2 : (2 : Int) ^ (8 * k) = 256 ^ k := by rw [Int.pow_mul]; rfl
 rw [e1, e2, Int.fdiv_eq_ediv_of_nonneg _ (Int.pow_nonneg (by omega)), IntKind.wrap_u8]
def sPut : Spec := fun args hr nb => match args with
 | [.vs j, .int .i64 z, .int .u64 v] => match hr j 0 with
   | some (.vec 1 5 m f) => some ⟨[0 < j, IsB m f, 0 ≤ z ∧ z ≤ 8, 0 ≤ v ∧ v ≤ 18446744073709551615, m ≤ 100000000], .vs nb, [(j, 0, .vec 1 5 m f)], [(j, 0, .dead), (nb, 0, .vec 1 5 (m + z.toNat) (nU (bytesL m f ++ leB z.toNat v)))]⟩
   | _ => none
 | _ => none
theorem put_ok : SpecOK Try.prog 32 sPut := by
 refine spec_at (by kernel_rfl) T_ok sget_nil Try.func32 rfl rfl fun args hr nb out e => ?_
 unfold sPut at e
 split at e
 ·rename_i j z v
  split at e
  ·rename_i m f hj
   injection e with e; subst e
   have hrd' : ∀ x ∈ [(j, 0, Cont.vec 1 5 m f)], hr x.1 x.2.1 = some x.2.2 := by
    intro x hx
    rw [List.mem_singleton.1 hx]; exact hj
   by_cases hB : IsB m f
   rotate_left
   ·exact ⟨hrd', true, [], [], [], rfl, fun hs => absurd (hs _ (List.mem_cons_of_mem _ List.mem_cons_self)) hB⟩
   obtain ⟨L, rfl, hL, eL, hf⟩ := hB.list
   refine ⟨hrd', true, [j], [.vs 1, .int .i64 z, .int .u64 v], [(1, 0, .vec 1 5 L.length (nU L))], rfl, fun hs => ?_⟩
   have j0 := hs _ List.mem_cons_self
   have hz := hs _ (List.mem_cons_of_mem _ (List.mem_cons_of_mem _ List.mem_cons_self))
   have hv := hs _ (List.mem_cons_of_mem _ (List.mem_cons_of_mem _ (List.mem_cons_of_mem _ List.mem_cons_self)))
   have hm := hs _ (List.mem_cons_of_mem _ (List.mem_cons_of_mem _ (List.mem_cons_of_mem _ (List.mem_cons_of_mem _ List.mem_cons_self))))
   refine ⟨by simp, fun y hy => ?_, .cons _ _ _ _ (.name _ _ _ rfl) (.cons _ _ _ _ (.same _ _ (.int _ _)) (.cons _ _ _ _ (.same _ _ (.int _ _)) .nil)), fun x hx => ?_, ?_⟩
   ·rw [List.mem_singleton.1 hy]
    exact ⟨j0, .vec 1 5 L.length f List.mem_cons_self⟩
   ·rw [List.mem_singleton.1 hx]
    exact ⟨0, j, _, rfl, rfl, List.mem_cons_self, rfl, rfl, rfl, fun i hi => hf i hi⟩
   rw [eL]
   clear hs hrd' hB eL hf
   obtain ⟨z, rfl⟩ := Int.eq_ofNat_of_zero_le hz.1
   simp only [Int.toNat_natCast]
   refine evC_go0K (s' := ⟨[(0, 0, zV 1), (0, 1, zI z), (0, 2, zU v), (0, 6, .cell AV.nils), (1, 0, .vec 1 5 L.length (nU L))], 34, 22⟩) ?_
   refine evC_seq ?_
   refine evC_go0K (s' := ⟨[(0, 0, zV 1), (0, 2, zU v), (0, 6, .cell AV.nils), (0, 8, zI z), (0, 9, zI 0), (1, 0, .vec 1 5 L.length (nU L))], 98, 22⟩) ?_
   refine evC_wk (s' := ⟨[(0, 0, zV 98), (0, 2, zU v), (0, 6, .cell AV.nils), (0, 8, zI z), (0, 9, zI 0), (98, 0, .vec 1 5 L.length (nU L))], 99, 22⟩) _ (wk_take 1 rfl rfl rfl ⟨⟨_, rfl, rfl⟩, ⟨_, rfl, rfl⟩, ⟨_, rfl, rfl⟩, ⟨_, rfl, rfl⟩, ⟨_, rfl, rfl⟩, ⟨_, rfl, rfl, rfl, rfl, fun _ _ => rfl⟩, trivial⟩) ?_
   refine evC_block ?_
   refine evC_loop (ι := { k : Nat // k ≤ z }) (fun k => ⟨[(0, 0, zV 2), (0, 2, zU v), (0, 6, Cont.cell AV.nils), (0, 8, zI z), (0, 9, zI (k.1 : Nat)), (2, 0, .vec 1 5 (L ++ leB k.1 v).length (nU (L ++ leB k.1 v)))], 3, 22⟩) (fun k => z - k.1) ⟨0, Nat.zero_le _⟩ (wk_go [98] rfl (by decide) rfl rfl ⟨⟨_, rfl, rfl⟩, ⟨_, rfl, rfl⟩, ⟨_, rfl, rfl⟩, ⟨_, rfl, rfl⟩, ⟨_, rfl, rfl⟩, ⟨_, rfl, ?_⟩, trivial⟩) ?_
   ·exact ⟨rfl, rfl, by simp [leB], fun i hi => by show nU L i = nU (L ++ []) i; rw [List.append_nil]⟩
   rintro ⟨k, hk⟩
   refine evC_go0K (s' := ⟨[(0, 0, zV 2), (0, 2, zU v), (0, 6, .cell AV.nils), (0, 8, zI z), (0, 9, zI k), (0, 10, zB (decide ((↑k : Int) < ↑z))), (2, 0, .vec 1 5 (List.length (L ++ leB k v)) (nU (L ++ leB k v)))], 35, 22⟩) ?_
   refine evC_seq ?_
   refine evC_if (q := decide ((↑k : Int) < (↑z : Int))) (by kernel_rfl) (fun hc => ?_) (fun hc => ?_)
   ·have hlt : k < z := by have := of_decide_eq_true hc; omega
    clear hc
    have hl : (L ++ leB k v).length = L.length + k := by rw [List.length_append, leB_len]
    have e8 : IntKind.i64.wrap (8 * (k : Int)) = 8 * (k : Int) := i64_in _ (by omega)
    refine evC_skip ?_
    refine then_normal ?_
    refine evC_seq ?_
    refine evC_block ?_
    refine evC_go0K (s' := ⟨[(0, 0, zV 2), (0, 2, zU v), (0, 6, .cell AV.nils), (0, 7, zI k), (0, 8, zI z), (0, 9, zI k), (2, 0, .vec 1 5 (List.length (L ++ leB k v)) (nU (L ++ leB k v)))], 99, 22⟩) ?_
    refine evC_goLK (ps := [(0 : Int) ≤ IntKind.i64.wrap ((8 : Int) * (↑k : Int)), (List.length (L ++ leB k v) + (1 : Nat)) * 1 ≤ 140737488355328, List.length (L ++ leB k v) + (1 : Nat) ≤ maxLen, 1 = 0 ∨ 1 = 1, 1 = 1, 5 = 5]) (s' := ⟨[(0, 0, zV 323), (0, 2, zU v), (0, 6, .cell AV.nils), (0, 8, zI z), (0, 9, zI k), (323, 0, .vec 1 5 (List.length (L ++ leB k v) + 1) (catF (List.length (L ++ leB k v)) (nU (L ++ leB k v)) (pget [(0, AV.int IntKind.u8 (IntKind.wrap IntKind.u8 (Int.fdiv v (2 ^ min (Int.toNat (IntKind.i64.wrap (8 * (↑k : Int)))) (IntKind.bits IntKind.u64)))))])))], 387, 22⟩) ?_ ?_
    ·rw [e8, hl]
     (simp only [All]; (repeat' apply And.intro) <;> (try intro _) <;> (try intro _) <;> (repeat' apply And.intro) <;> (try intro _) <;> (try intro _) <;> first | trivial | assumption | exact .inr trivial | exact .inr rfl | omega | rfl | exact ⟨_, rfl, rfl⟩ | exact ⟨rfl, rfl⟩ | exact ⟨fun _ => rfl, fun _ => rfl⟩ | (unfold maxLen; omega) | (unfold i64R; first | omega | decide) | decide)
    rw [e8]
    refine block_normal ?_
    refine then_normal ?_
    refine evC_goL0K (s' := ⟨[(0, 0, zV 323), (0, 2, zU v), (0, 6, .cell AV.nils), (0, 8, zI z), (0, 9, zI (IntKind.i64.wrap ((↑k : Int) + 1))), (323, 0, .vec 1 5 (List.length (L ++ leB k v) + 1) (catF (List.length (L ++ leB k v)) (nU (L ++ leB k v)) (pget [(0, AV.int IntKind.u8 (IntKind.wrap IntKind.u8 (Int.fdiv v (2 ^ min (Int.toNat (8 * (↑k : Int))) (IntKind.bits IntKind.u64)))))])))], 451, 22⟩) ?_
    refine round_normal (⟨k + 1, hlt⟩) (wk_go [323] rfl (by decide) rfl rfl ⟨⟨_, rfl, rfl⟩, ⟨_, rfl, rfl⟩, ⟨_, rfl, rfl⟩, ⟨_, rfl, rfl⟩, ⟨_, rfl, ?_⟩, ⟨_, rfl, ?_⟩, trivial⟩) ?_
    ·show AV.int .i64 _ = AV.int .i64 _
     rw [i64_in ((k : Int) + 1) (by omega)]
     rfl
    ·refine ⟨rfl, rfl, ?_, fun i hi => ?_⟩
     ·rw [List.length_append, List.length_append, leB_len, leB_len]; rfl
     ·rw [shr_byte (by omega)]
      show catF (L ++ leB k v).length (nU (L ++ leB k v)) _ i = nU (L ++ leB (k + 1) v) i
      rw [cat_nU (L ++ leB k v) [v / 256 ^ k % 256] _ (fun i hi => by simp at hi; subst hi; rfl) i (by rw [List.length_append, leB_len] at hi; rw [List.length_append, leB_len]; simp at hi ⊢; omega), leB_snoc, List.append_assoc]
    ·show z - (k + 1) < z - k
     omega
   ·have hk : k = z := by have := of_decide_eq_false hc; omega
    subst hk
    refine evC_exit ?_
    refine then_exit ?_
    refine round_exit ?_
    refine block_exit ?_
    refine then_normal ?_
    refine evC_go0K (s' := ⟨[(0, 6, zV 2), (2, 0, .vec 1 5 (List.length (L ++ leB k v)) (nU (L ++ leB k v)))], 99, 22⟩) ?_
    refine evC_ret ?_
    refine post_ret ?_
    refine ends_go [2] (AV.vs 2) [(2, 0, .vec 1 5 (List.length (L ++ leB k v)) (nU (L ++ leB k v)))] rfl (by decide) rfl rfl (has_of _ rfl) rfl ⟨⟨_, rfl, ⟨rfl, rfl, rfl, fun _ _ => rfl⟩⟩, trivial⟩ ⟨fun h => False.elim h, ?_, trivial⟩ ⟨fun _ => .inl ⟨by simp [keyIn, upKeys], fun sz h => by simp at h⟩, trivial⟩
    ·exact fun _ => ⟨2, _, rfl, rfl, rfl, rfl, rfl, by rw [List.length_append, leB_len], fun i hi => ⟨.int _ _, rfl⟩⟩
  ·cases e
 ·cases e
end Go.Eng.S25
/- Seat 25: the number of bytes, walked. -/
set_option linter.unusedSimpArgs false
set_option linter.unusedVariables false
set_option maxHeartbeats 2000000
namespace Go.Eng.S25
open Go.Proofs Go.IntWalk
set_option maxRecDepth 10000
def numL : List Int → Int
 | [] => 0
 | x :: L => x + 256 * numL L
theorem numL_snoc : ∀ (L : List Int) (x : Int), numL (L ++ [x]) = numL L + x * 256 ^ L.length
 | [], x => by simp [numL]
 | y :: L, x => by
   rw [List.cons_append, numL, numL_snoc, numL, List.length_cons, Int.pow_succ, Int.mul_add]
   have : x * (256 ^ L.length * 256) = 256 * (x * 256 ^ L.length) := by rw [← Int.mul_assoc, Int.mul_comm]
   omega
theorem numL_rng : ∀ {L : List Int}, IsU L → 0 ≤ numL L ∧ numL L < 256 ^ L.length
 | [], _ => ⟨Int.le_refl _, by simp [numL]⟩
 | x :: L, h => by
   have h1 := h x List.mem_cons_self
   have h2 := numL_rng (L := L) fun y hy => h y (List.mem_cons_of_mem _ hy)
   rw [numL, List.length_cons, Int.pow_succ]
   omega
theorem u64_in {x : Int} (h : 0 ≤ x ∧ x < 18446744073709551616) : IntKind.u64.wrap x = x := by
 rw [IntKind.wrap_u64]; omega
theorem ofInt_nat {a : Nat} (h : a < 18446744073709551616) : (BitVec.ofInt 64 (a : Int)).toNat = a := by
 rw [BitVec.toNat_ofInt]
 show ((a : Int) % (2 ^ 64 : Nat)).toNat = a
 rw [Int.emod_eq_of_lt (by omega) (by show (a : Int) < 18446744073709551616; omega)]
 rfl
theorem or_byte {a c : Int} {i : Nat} (hi : i < 8) (ha : 0 ≤ a ∧ a < 256 ^ i) (hc : 0 ≤ c ∧ c ≤ 255) : IntKind.u64.wrap (BitVec.ofInt IntKind.u64.bits a ||| BitVec.ofInt IntKind.u64.bits (IntKind.u64.wrap (IntKind.u64.wrap c * 2 ^ min (8 * (i : Int)).toNat IntKind.u64.bits))).toNat = a + c * 256 ^ i := by
 have e1 : min (8 * (i : Int)).toNat IntKind.u64.bits = 8 * i := by
  show min (8 * (i : Int)).toNat 64 = 8 * i
  omega
 have e2 : (2 : Int) ^ (8 * i) = 256 ^ i := by rw [Int.pow_mul]; rfl
 have e3 : (256 : Int) ^ i = ((256 ^ i : Nat) : Int) := by rw [Int.natCast_pow]; rfl
 have e4 : (256 : Nat) ^ i = 2 ^ (8 * i) := by rw [Nat.pow_mul]
 have e5 : (256 : Nat) ^ i ≤ 256 ^ 7 := Nat.pow_le_pow_right (by omega) (by omega)
 obtain ⟨a, rfl⟩ := Int.eq_ofNat_of_zero_le ha.1
 obtain ⟨c, rfl⟩ := Int.eq_ofNat_of_zero_le hc.1
 have ha2 : a < 256 ^ i := by have := ha.2; rw [e3] at this; omega
 have hc2 : c ≤ 255 := by omega
 have h1 : c * 256 ^ i ≤ 255 * 256 ^ 7 := Nat.mul_le_mul hc2 e5
 rw [e1, e2, u64_in (x := (c : Int)) (by omega), e3, ← Int.natCast_mul, u64_in (x := ((c * 256 ^ i : Nat) : Int)) (by omega)]
 show IntKind.u64.wrap ((BitVec.ofInt 64 (a : Int) ||| BitVec.ofInt 64 ((c * 256 ^ i : Nat) : Int)).toNat : Int) = _
 rw [BitVec.toNat_or, ofInt_nat (by omega), ofInt_nat (by omega)]
 have h2 : a ||| c * 256 ^ i = a + c * 256 ^ i := by
  rw [Nat.or_comm, Nat.mul_comm c, e4, ← Nat.two_pow_add_eq_or_of_lt (by rw [← e4]; exact ha2), Nat.add_comm]
 rw [h2, u64_in (x := ((a + c * 256 ^ i : Nat) : Int)) (by omega)]
 rw [Int.natCast_add, Int.natCast_mul]
def sNum : Spec := fun args hr _ => match args with
 | [v] => match sl 1 hr v with
   | some (m, f, rd) => some ⟨[IsB m f, m ≤ 8], .int .u64 (numL (bytesL m f)), rd, []⟩
   | none => none
 | _ => none
theorem num_ok : SpecOK Try.prog 34 sNum := by
 refine spec_own (by kernel_rfl) T_ok sget_nil Try.func34 rfl rfl fun args hr nb out e => ?_
 unfold sNum at e
 split at e
 ·rename_i v
  split at e
  ·rename_i m f rd hs1
   injection e with e; subst e
   by_cases hB : IsB m f
   rotate_left
   ·exact ⟨fun x hx => sl_rd hs1 x hx, true, [], rfl, fun hs => absurd (hs _ List.mem_cons_self) hB⟩
   obtain ⟨L, rfl, hL, eL, hf⟩ := hB.list
   refine ⟨fun x hx => sl_rd hs1 x hx, false, [bs L], rfl, fun hs => ?_⟩
   have h8 := hs _ (List.mem_cons_of_mem _ List.mem_cons_self)
   refine ⟨.cons _ _ _ _ (.slice _ _ _ _ _ hs1 (fun y hy => ⟨hy, by simp⟩) _ fun i hi => ⟨hf i hi, (nU_flat _ i).has⟩) .nil, ?_⟩
   rw [eL]
   clear hs hB hf eL hs1
   unfold bs
   refine evC_go0K (s' := ⟨[(0, 0, .cell (AV.rs 1 L.length false (nU L))), (0, 2, zU 0)], 33, 22⟩) ?_
   refine evC_go0K (s' := ⟨[(0, 0, .cell (AV.rs 1 L.length false (nU L))), (0, 2, zU 0), (0, 3, zU 0)], 65, 22⟩) ?_
   refine evC_seq ?_
   refine evC_go0K (s' := ⟨[(0, 2, zU 0), (0, 3, zU 0), (0, 6, .cell (AV.rs 1 L.length false (nU L))), (0, 7, zI L.length), (0, 8, zI 0)], 161, 22⟩) ?_
   refine evC_block ?_
   refine evC_loop (ι := { i : Nat // i ≤ L.length }) (fun i => ⟨[(0, 2, zU 0), (0, 3, zU (numL (L.take i.1))), (0, 6, Cont.cell (AV.rs 1 L.length false (nU L))), (0, 7, zI L.length), (0, 8, zI (i.1 : Nat))], 1, 22⟩) (fun i => L.length - i.1) ⟨0, Nat.zero_le _⟩ (wk_go [] rfl (by decide) rfl rfl ⟨⟨_, rfl, rfl⟩, ⟨_, rfl, rfl⟩, ⟨_, rfl, rfl⟩, ⟨_, rfl, rfl⟩, ⟨_, rfl, rfl⟩, trivial⟩) ?_
   rintro ⟨i, hi⟩
   refine evC_go0K (s' := ⟨[(0, 2, zU 0), (0, 3, zU (numL (List.take i L))), (0, 6, .cell (AV.rs 1 L.length false (nU L))), (0, 7, zI L.length), (0, 8, zI i), (0, 9, zB (decide ((↑i : Int) < ↑L.length)))], 33, 22⟩) ?_
   refine evC_seq ?_
   refine evC_if (q := decide ((↑i : Int) < (↑(List.length L) : Int))) (by kernel_rfl) (fun hc => ?_) (fun hc => ?_)
   ·have hlt : i < L.length := by have := of_decide_eq_true hc; omega
    clear hc
    refine evC_skip ?_
    refine then_normal ?_
    refine evC_seq ?_
    refine evC_block ?_
    refine evC_goK (ps := [(0 : Int) ≤ ↑i, (↑i : Int) < ↑L.length, 1 = 1]) (s' := ⟨[(0, 2, zU 0), (0, 3, zU (numL (List.take i L))), (0, 4, zI i), (0, 5, .cell (AV.int IntKind.u8 (List.getD L i 0))), (0, 6, .cell (AV.rs 1 L.length false (nU L))), (0, 7, zI L.length), (0, 8, zI i)], 193, 22⟩) ?_ ?_
    ·(simp only [All]; (repeat' apply And.intro) <;> (try intro _) <;> (try intro _) <;> (repeat' apply And.intro) <;> (try intro _) <;> (try intro _) <;> first | trivial | assumption | exact .inr trivial | exact .inr rfl | omega | rfl | exact ⟨_, rfl, rfl⟩ | exact ⟨rfl, rfl⟩ | exact ⟨fun _ => rfl, fun _ => rfl⟩ | (unfold maxLen; omega) | (unfold i64R; first | omega | decide) | decide)
    refine evC_goLK (ps := [(0 : Int) ≤ IntKind.i64.wrap ((8 : Int) * (↑i : Int))]) (s' := ⟨[(0, 2, zU 0), (0, 3, zU (IntKind.wrap IntKind.u64 (↑(BitVec.toNat (BitVec.ofInt (IntKind.bits IntKind.u64) (numL (List.take i L)) ||| BitVec.ofInt (IntKind.bits IntKind.u64) (IntKind.wrap IntKind.u64 (IntKind.wrap IntKind.u64 (List.getD L i 0) * 2 ^ min (Int.toNat (IntKind.i64.wrap (8 * (↑i : Int)))) (IntKind.bits IntKind.u64))))) : Int))), (0, 6, .cell (AV.rs 1 L.length false (nU L))), (0, 7, zI L.length), (0, 8, zI i)], 449, 22⟩) ?_ ?_
    ·rw [i64_in (8 * (i : Int)) (by omega)]
     (simp only [All]; (repeat' apply And.intro) <;> (try intro _) <;> (try intro _) <;> (repeat' apply And.intro) <;> (try intro _) <;> (try intro _) <;> first | trivial | assumption | exact .inr trivial | exact .inr rfl | omega | rfl | exact ⟨_, rfl, rfl⟩ | exact ⟨rfl, rfl⟩ | exact ⟨fun _ => rfl, fun _ => rfl⟩ | (unfold maxLen; omega) | (unfold i64R; first | omega | decide) | decide)
    rw [i64_in (8 * (i : Int)) (by omega)]
    have hx : 0 ≤ L.getD i 0 ∧ L.getD i 0 ≤ 255 := ((isB hL).get i hlt).2
    have ht : IsU (L.take i) := fun y hy => hL y (List.mem_of_mem_take hy)
    have hr := numL_rng ht
    have hlen : (L.take i).length = i := by rw [List.length_take]; omega
    rw [hlen] at hr
    have htk : L.take (i + 1) = L.take i ++ [L.getD i 0] := by
     rw [List.take_add_one, List.getD_eq_getElem?_getD, List.getElem?_eq_getElem hlt]; rfl
    rw [or_byte (by omega) hr hx]
    refine block_normal ?_
    refine then_normal ?_
    refine evC_goL0K (s' := ⟨[(0, 2, zU 0), (0, 3, zU (numL (List.take i L) + List.getD L i 0 * 256 ^ i)), (0, 6, .cell (AV.rs 1 L.length false (nU L))), (0, 7, zI L.length), (0, 8, zI (IntKind.i64.wrap ((↑i : Int) + 1)))], 513, 22⟩) ?_
    refine round_normal (⟨i + 1, hlt⟩) (wk_go [] rfl (by decide) rfl rfl ⟨⟨_, rfl, rfl⟩, ⟨_, rfl, ?_⟩, ⟨_, rfl, rfl⟩, ⟨_, rfl, rfl⟩, ⟨_, rfl, ?_⟩, trivial⟩) ?_
    ·show AV.int .u64 _ = AV.int .u64 _
     rw [htk, numL_snoc, hlen]
    ·show AV.int .i64 _ = AV.int .i64 _
     rw [i64_in ((i : Int) + 1) (by omega)]
     rfl
    ·show L.length - (i + 1) < L.length - i
     omega
   ·have : i = L.length := by have := of_decide_eq_false hc; omega
    subst this
    refine evC_exit ?_
    refine then_exit ?_
    refine round_exit ?_
    refine block_exit ?_
    refine then_normal ?_
    refine evC_go0K (s' := ⟨[(0, 2, zU (numL (List.take L.length L)))], 97, 22⟩) ?_
    refine evC_ret ?_
    refine post_ret ?_
    refine ends_flat (vs := [AV.int IntKind.u64 (numL (List.take (List.length L) L))]) (Nat.zero_lt_succ _) (by kernel_rfl) (flat_of _ (by kernel_rfl)) rfl ?_
    rw [List.take_length]
    rfl
  ·cases e
 ·cases e
end Go.Eng.S25