/- Seat 25: issuing, walked. -/
import Derived.Test.YtodnecfgiimclaaEngX
import Derived.Test.YtodnecfgiimclaaS25C
set_option linter.unusedSimpArgs false
set_option linter.unusedVariables false
namespace Go.Eng.S25
open Go.Proofs Go.IntWalk
set_option maxRecDepth 10000

theorem cw_put (S : List ((Int × Int) × List Int)) (t p : Int) (L : List Int) (n ar : Nat) (π : Nat → Nat) : CW π (.map ar (mput (smap S) [t, p] (.rs 1 L.length false (nU L)))) (.map ar ((mput (smap S) [t, p] (.vs n)).map fun x => (x.1, x.2.frz n 1 L.length (nU L)))) := by
  rw [frz_put]
  show CW π (.map ar (mput (smap S) [t, p] (bs L))) (.map ar (mput (smap S) [t, p] (bs L)))
  rw [mput_smap]
  exact cw_smap _
theorem cw_put2 (S : List ((Int × Int) × List Int)) (t p : Int) (L : List Int) (ar : Nat) (π : Nat → Nat) : CW π (.map ar (smap (kput S t p L))) (.map ar (mput (smap S) [t, p] (.rs 1 L.length false (nU L)))) := by
  show CW π (.map ar (smap (kput S t p L))) (.map ar (mput (smap S) [t, p] (bs L)))
  rw [mput_smap]
  exact cw_smap _
theorem map_put (g : AV → AV) (hg : ∀ L, g (bs L) = bs L) (S : List ((Int × Int) × List Int)) (t p : Int) (v : AV) : (mput (smap S) [t, p] v).map (fun x => (x.1, g x.2)) = mput (smap S) [t, p] (g v) := by
  have h3 : ∀ S, (smap S).map (fun x => (x.1, g x.2)) = smap S := fun S => by
    simp only [smap, List.map_map, Function.comp_def, hg]
  induction S with
  | nil => rfl
  | cons x S ih =>
    show (bif ([t, p] : List Int) == [x.1.1, x.1.2] then ([t, p], v) :: smap S else ([x.1.1, x.1.2], bs x.2) :: mput (smap S) [t, p] v).map _ = bif ([t, p] : List Int) == [x.1.1, x.1.2] then ([t, p], g v) :: smap S else ([x.1.1, x.1.2], bs x.2) :: mput (smap S) [t, p] (g v)
    cases ([t, p] : List Int) == [x.1.1, x.1.2] with
    | true => rw [cond_true, cond_true, List.map_cons, h3]
    | false => rw [cond_false, cond_false, List.map_cons, ih, hg]
theorem cw_of_map {π : Nat → Nat} {ar : Nat} {es es' : List (List Int × AV)} (h : es = es'.map fun x => (x.1, x.2.ren π)) : CW π (.map ar es') (.map ar es) := by
  subst h
  exact ⟨rfl, by simp, fun i x hx => by rw [List.getElem?_map, hx]; rfl⟩
theorem cw_vs (S : List ((Int × Int) × List Int)) (t p : Int) (m n ar : Nat) (π : Nat → Nat) (h : π m = n) : CW π (.map ar (mput (smap S) [t, p] (.vs m))) (.map ar (mput (smap S) [t, p] (.vs n))) :=
  cw_of_map (by rw [map_put (fun v => v.ren π) (fun _ => rfl)]; show _ = mput (smap S) [t, p] (.vs (π m)); rw [h])
theorem kept_app {K : List Nat} {nb : Nat} {b : Bool} {fin : Heap} {up : List (Nat × Nat × Cont)} : ∀ {r1 r2 : List (Nat × Nat × Cont)}, KeptH K nb b fin up r1 → KeptH K nb b fin up r2 → KeptH K nb b fin up (r1 ++ r2)
  | [], _, _, h => h
  | x :: r1, r2, h1, h => ⟨h1.1, kept_app h1.2 h⟩
theorem cat0 (L : List Int) (g : Nat → AV) : ∀ i, i < L.length → catF 0 g (nU L) i = nU L i := fun i _ => rfl
def okT (P : Peer) : Prop := (0 ≤ P.turn ∧ P.turn ≤ 1000000) ∧ 0 ≤ P.iss ∧ P.iss ≤ 1000000
def issE (P : Peer) (m : Nat) : Int := bif decide ((m : Int) > 704) then 1 else bif decide (P.iss ≥ P.turn + 8) then 5 else 0
def issP (P : Peer) (L : List Int) : Peer := bif issE P L.length == 0 then ⟨P.me, P.n, P.turn, P.iss + 1, P.hd, kput P.sets P.iss P.me L, P.words⟩ else P
def sIssue : Spec := fun args hr _ => match args with
  | [v, .rs 1 m _ f] => withPeer hr v fun n b c P s rd => some ⟨[s, okT P, IsB m f], .int .i64 (issE P m), rd, pcon n b c (issP P (bytesL m f))⟩
  | [v, .nils] => withPeer hr v fun n b c P s rd => some ⟨[s, okT P], .int .i64 (issE P 0), rd, pcon n b c (issP P [])⟩
  | [v, .vs j] => match hr j 0 with
    | some (.vec 1 5 m f) => withPeer hr v fun n b c P s rd => some ⟨[s, okT P, IsB m f, 0 < j ∧ n ≠ j ∧ b ≠ j ∧ c ≠ j], .int .i64 (issE P m), rd ++ [(j, 0, .vec 1 5 m f)], pcon n b c (issP P (bytesL m f))⟩
    | _ => none
  | _ => none
theorem issue_walk {n b c nb : Nat} {P : Peer} {L : List Int} {sd : List Prop} {rd : List (Nat × Nat × Cont)} (hT1 : 0 ≤ P.turn ∧ P.turn ≤ 1000000) (hT2 : 0 ≤ P.iss ∧ P.iss ≤ 1000000)
    (k4 : ∀ fin P', hget fin 1 14 = some .top → KeptH [n, b, c] nb true fin (pcon n b c P') rd) :
    evC T [] ([n, b, c].length + 1) (Try.f10.body.getD .skip) (Post T Try.f10 [n, b, c] nb ⟨sd, .int .i64 (issE P L.length), rd, pcon n b c (issP P L)⟩ true) ⟨slots0 0 [.ptr 1 0, bs L] ++ pcon 1 2 3 P, [n, b, c].length + 1, Try.f10.ntmps⟩ := by
  have eE : issE P L.length = bif decide ((L.length : Int) > 704) then 1 else bif decide (P.iss ≥ P.turn + 8) then 5 else 0 := rfl
  unfold bs
  unfold pcon
  refine evC_go0 (dec := []) (ks := [(0, 0), (0, 1), (0, 4), (1, 0), (1, 1), (1, 2), (1, 3), (1, 4), (1, 12), (1, 13), (1, 14), (2, 0), (3, 0)]) (s' := ⟨[(0, 0, Cont.cell (AV.ptr 1 0)), (0, 1, Cont.cell (AV.rs 1 (List.length L) false (nU L))), (0, 4, Cont.cell (AV.int IntKind.i64 0)), (1, 0, Cont.cell (AV.int IntKind.i64 (Peer.me P))), (1, 1, Cont.cell (AV.int IntKind.i64 (Peer.n P))), (1, 2, Cont.cell (AV.int IntKind.i64 (Peer.turn P))), (1, 3, Cont.cell (AV.int IntKind.i64 (Peer.iss P))), (1, 4, Cont.arr 8 (nI (Peer.hd P))), (1, 12, Cont.cell (AV.mp 2)), (1, 13, Cont.cell (AV.mp 3)), (1, 14, Cont.top), (2, 0, Cont.map 2 (smap (Peer.sets P))), (3, 0, Cont.map 2 (wmap (Peer.words P)))], 36, 43⟩) (by kernel_rfl) (by kernel_rfl) ?_
  refine evC_seq ?_
  refine evC_block ?_
  refine evC_go0 (dec := []) (ks := [(0, 0), (0, 1), (0, 4), (0, 5), (1, 0), (1, 1), (1, 2), (1, 3), (1, 4), (1, 12), (1, 13), (1, 14), (2, 0), (3, 0)]) (s' := ⟨[(0, 0, Cont.cell (AV.ptr 1 0)), (0, 1, Cont.cell (AV.rs 1 (List.length L) false (nU L))), (0, 4, Cont.cell (AV.int IntKind.i64 0)), (0, 5, Cont.cell (AV.bool (decide ((↑(List.length L) : Int) > 704)))), (1, 0, Cont.cell (AV.int IntKind.i64 (Peer.me P))), (1, 1, Cont.cell (AV.int IntKind.i64 (Peer.n P))), (1, 2, Cont.cell (AV.int IntKind.i64 (Peer.turn P))), (1, 3, Cont.cell (AV.int IntKind.i64 (Peer.iss P))), (1, 4, Cont.arr 8 (nI (Peer.hd P))), (1, 12, Cont.cell (AV.mp 2)), (1, 13, Cont.cell (AV.mp 3)), (1, 14, Cont.top), (2, 0, Cont.map 2 (smap (Peer.sets P))), (3, 0, Cont.map 2 (wmap (Peer.words P)))], 164, 43⟩) (by kernel_rfl) (by kernel_rfl) ?_
  refine evC_if (q := decide ((↑(List.length L) : Int) > 704)) (by kernel_rfl) (fun hc => ?_) (fun hc => ?_)
  · have hE : issE P L.length = 1 := by rw [eE, hc]; rfl
    have hP : issP P L = P := by unfold issP; rw [hE]; rfl
    rw [hE, hP]
    refine evC_go0 (dec := []) (ks := [(0, 0), (0, 1), (0, 4), (1, 0), (1, 1), (1, 2), (1, 3), (1, 4), (1, 12), (1, 13), (1, 14), (2, 0), (3, 0)]) (s' := ⟨[(0, 0, Cont.cell (AV.ptr 1 0)), (0, 1, Cont.cell (AV.rs 1 (List.length L) false (nU L))), (0, 4, Cont.cell (AV.int IntKind.i64 1)), (1, 0, Cont.cell (AV.int IntKind.i64 (Peer.me P))), (1, 1, Cont.cell (AV.int IntKind.i64 (Peer.n P))), (1, 2, Cont.cell (AV.int IntKind.i64 (Peer.turn P))), (1, 3, Cont.cell (AV.int IntKind.i64 (Peer.iss P))), (1, 4, Cont.arr 8 (nI (Peer.hd P))), (1, 12, Cont.cell (AV.mp 2)), (1, 13, Cont.cell (AV.mp 3)), (1, 14, Cont.top), (2, 0, Cont.map 2 (smap (Peer.sets P))), (3, 0, Cont.map 2 (wmap (Peer.words P)))], 196, 43⟩) (by kernel_rfl) (by kernel_rfl) ?_
    refine evC_ret ?_
    refine block_ret ?_
    refine then_ret ?_
    refine post_ret ?_
    refine ends_go [] (AV.int IntKind.i64 1) [(1, 0, Cont.cell (AV.int IntKind.i64 (Peer.me P))), (1, 1, Cont.cell (AV.int IntKind.i64 (Peer.n P))), (1, 2, Cont.cell (AV.int IntKind.i64 (Peer.turn P))), (1, 3, Cont.cell (AV.int IntKind.i64 (Peer.iss P))), (1, 4, Cont.arr 8 (nI (Peer.hd P))), (1, 12, Cont.cell (AV.mp 2)), (1, 13, Cont.cell (AV.mp 3)), (1, 14, Cont.top), (2, 0, Cont.map 2 (smap (Peer.sets P))), (3, 0, Cont.map 2 (wmap (Peer.words P)))] rfl (by decide) rfl rfl (has_of _ rfl) rfl ⟨⟨_, rfl, rfl⟩, ⟨_, rfl, rfl⟩, ⟨_, rfl, rfl⟩, ⟨_, rfl, rfl⟩, ⟨_, rfl, ⟨rfl, fun _ _ => rfl⟩⟩, ⟨_, rfl, rfl⟩, ⟨_, rfl, rfl⟩, ⟨_, rfl, trivial⟩, ⟨_, rfl, Go.Eng.S25.cw_smap _⟩, ⟨_, rfl, cw_map (Go.Eng.S25.flat_wmap _)⟩, trivial⟩ ⟨fun _ => ⟨1, _, rfl, rfl, rfl, ⟨has_of _ rfl, rfl⟩⟩, fun _ => ⟨1, _, rfl, rfl, rfl, ⟨has_of _ rfl, rfl⟩⟩, fun _ => ⟨1, _, rfl, rfl, rfl, ⟨has_of _ rfl, rfl⟩⟩, fun _ => ⟨1, _, rfl, rfl, rfl, ⟨has_of _ rfl, rfl⟩⟩, fun _ => ⟨1, _, rfl, rfl, rfl, ⟨rfl, fun _ _ => ⟨has_of _ rfl, rfl⟩⟩⟩, fun _ => ⟨1, _, rfl, rfl, rfl, ⟨has_of _ rfl, rfl⟩⟩, fun _ => ⟨1, _, rfl, rfl, rfl, ⟨has_of _ rfl, rfl⟩⟩, fun _ => ⟨1, _, rfl, rfl, rfl, trivial⟩, fun _ => ⟨2, _, rfl, rfl, rfl, Go.Eng.S25.cf_smap _⟩, fun _ => ⟨3, _, rfl, rfl, rfl, cf_map (Go.Eng.S25.flat_wmap _)⟩, trivial⟩ ?_
    exact k4 _ _ rfl
  · rw [hc] at eE
    have h7 : L.length ≤ 704 := by
      have := of_decide_eq_false hc
      omega
    clear hc
    refine evC_go0 (dec := []) (ks := [(0, 0), (0, 1), (0, 4), (0, 9), (1, 0), (1, 1), (1, 2), (1, 3), (1, 4), (1, 12), (1, 13), (1, 14), (2, 0), (3, 0)]) (s' := ⟨[(0, 0, Cont.cell (AV.ptr 1 0)), (0, 1, Cont.cell (AV.rs 1 (List.length L) false (nU L))), (0, 4, Cont.cell (AV.int IntKind.i64 0)), (0, 9, Cont.cell (AV.bool (decide (Peer.iss P ≥ IntKind.i64.wrap (Peer.turn P + 8))))), (1, 0, Cont.cell (AV.int IntKind.i64 (Peer.me P))), (1, 1, Cont.cell (AV.int IntKind.i64 (Peer.n P))), (1, 2, Cont.cell (AV.int IntKind.i64 (Peer.turn P))), (1, 3, Cont.cell (AV.int IntKind.i64 (Peer.iss P))), (1, 4, Cont.arr 8 (nI (Peer.hd P))), (1, 12, Cont.cell (AV.mp 2)), (1, 13, Cont.cell (AV.mp 3)), (1, 14, Cont.top), (2, 0, Cont.map 2 (smap (Peer.sets P))), (3, 0, Cont.map 2 (wmap (Peer.words P)))], 516, 43⟩) (by kernel_rfl) (by kernel_rfl) ?_
    rw [i64_in (P.turn + 8) (by omega)]
    refine evC_if (q := decide (Peer.iss P ≥ Peer.turn P + 8)) (by kernel_rfl) (fun hc => ?_) (fun hc => ?_)
    · have hE : issE P L.length = 5 := by rw [eE, hc]; rfl
      have hP : issP P L = P := by unfold issP; rw [hE]; rfl
      rw [hE, hP]
      refine evC_go0 (dec := []) (ks := [(0, 0), (0, 1), (0, 4), (1, 0), (1, 1), (1, 2), (1, 3), (1, 4), (1, 12), (1, 13), (1, 14), (2, 0), (3, 0)]) (s' := ⟨[(0, 0, Cont.cell (AV.ptr 1 0)), (0, 1, Cont.cell (AV.rs 1 (List.length L) false (nU L))), (0, 4, Cont.cell (AV.int IntKind.i64 5)), (1, 0, Cont.cell (AV.int IntKind.i64 (Peer.me P))), (1, 1, Cont.cell (AV.int IntKind.i64 (Peer.n P))), (1, 2, Cont.cell (AV.int IntKind.i64 (Peer.turn P))), (1, 3, Cont.cell (AV.int IntKind.i64 (Peer.iss P))), (1, 4, Cont.arr 8 (nI (Peer.hd P))), (1, 12, Cont.cell (AV.mp 2)), (1, 13, Cont.cell (AV.mp 3)), (1, 14, Cont.top), (2, 0, Cont.map 2 (smap (Peer.sets P))), (3, 0, Cont.map 2 (wmap (Peer.words P)))], 548, 43⟩) (by kernel_rfl) (by kernel_rfl) ?_
      refine evC_ret ?_
      refine block_ret ?_
      refine then_ret ?_
      refine post_ret ?_
      refine ends_go [] (AV.int IntKind.i64 5) [(1, 0, Cont.cell (AV.int IntKind.i64 (Peer.me P))), (1, 1, Cont.cell (AV.int IntKind.i64 (Peer.n P))), (1, 2, Cont.cell (AV.int IntKind.i64 (Peer.turn P))), (1, 3, Cont.cell (AV.int IntKind.i64 (Peer.iss P))), (1, 4, Cont.arr 8 (nI (Peer.hd P))), (1, 12, Cont.cell (AV.mp 2)), (1, 13, Cont.cell (AV.mp 3)), (1, 14, Cont.top), (2, 0, Cont.map 2 (smap (Peer.sets P))), (3, 0, Cont.map 2 (wmap (Peer.words P)))] rfl (by decide) rfl rfl (has_of _ rfl) rfl ⟨⟨_, rfl, rfl⟩, ⟨_, rfl, rfl⟩, ⟨_, rfl, rfl⟩, ⟨_, rfl, rfl⟩, ⟨_, rfl, ⟨rfl, fun _ _ => rfl⟩⟩, ⟨_, rfl, rfl⟩, ⟨_, rfl, rfl⟩, ⟨_, rfl, trivial⟩, ⟨_, rfl, Go.Eng.S25.cw_smap _⟩, ⟨_, rfl, cw_map (Go.Eng.S25.flat_wmap _)⟩, trivial⟩ ⟨fun _ => ⟨1, _, rfl, rfl, rfl, ⟨has_of _ rfl, rfl⟩⟩, fun _ => ⟨1, _, rfl, rfl, rfl, ⟨has_of _ rfl, rfl⟩⟩, fun _ => ⟨1, _, rfl, rfl, rfl, ⟨has_of _ rfl, rfl⟩⟩, fun _ => ⟨1, _, rfl, rfl, rfl, ⟨has_of _ rfl, rfl⟩⟩, fun _ => ⟨1, _, rfl, rfl, rfl, ⟨rfl, fun _ _ => ⟨has_of _ rfl, rfl⟩⟩⟩, fun _ => ⟨1, _, rfl, rfl, rfl, ⟨has_of _ rfl, rfl⟩⟩, fun _ => ⟨1, _, rfl, rfl, rfl, ⟨has_of _ rfl, rfl⟩⟩, fun _ => ⟨1, _, rfl, rfl, rfl, trivial⟩, fun _ => ⟨2, _, rfl, rfl, rfl, Go.Eng.S25.cf_smap _⟩, fun _ => ⟨3, _, rfl, rfl, rfl, cf_map (Go.Eng.S25.flat_wmap _)⟩, trivial⟩ ?_
      exact k4 _ _ rfl
    · have hE : issE P L.length = 0 := by rw [eE, hc]; rfl
      have hP : issP P L = ⟨P.me, P.n, P.turn, P.iss + 1, P.hd, kput P.sets P.iss P.me L, P.words⟩ := by unfold issP; rw [hE]; rfl
      rw [hE, hP]
      refine evC_skip ?_
      refine block_normal ?_
      refine then_normal ?_
      refine evC_go (dec := []) (ks := [(0, 0), (0, 4), (1, 0), (1, 1), (1, 2), (1, 3), (1, 4), (1, 12), (1, 13), (1, 14), (2, 0), (3, 0), (996, 0)]) (ps := [((0 : Nat) + List.length L) * (1 : Nat) ≤ (140737488355328 : Nat), (0 : Nat) + List.length L ≤ maxLen, List.length L = (0 : Nat) ∨ (1 : Nat) = (1 : Nat), (1 : Nat) = (1 : Nat), (5 : Nat) = (5 : Nat)]) (s' := ⟨[(0, 0, Cont.cell (AV.ptr 1 0)), (0, 4, Cont.cell (AV.int IntKind.i64 0)), (1, 0, Cont.cell (AV.int IntKind.i64 (Peer.me P))), (1, 1, Cont.cell (AV.int IntKind.i64 (Peer.n P))), (1, 2, Cont.cell (AV.int IntKind.i64 (Peer.turn P))), (1, 3, Cont.cell (AV.int IntKind.i64 (Peer.iss P))), (1, 4, Cont.arr 8 (nI (Peer.hd P))), (1, 12, Cont.cell (AV.mp 2)), (1, 13, Cont.cell (AV.mp 3)), (1, 14, Cont.top), (2, 0, Cont.map 2 (mput (smap (Peer.sets P)) [Peer.iss P, Peer.me P] (AV.vs 996))), (3, 0, Cont.map 2 (wmap (Peer.words P))), (996, 0, Cont.vec 1 5 (0 + List.length L) (catF 0 (pget []) (nU L)))], 1060, 43⟩) (by kernel_rfl) (by kernel_rfl) ?_ ?_
      · (simp only [All]; (repeat' apply And.intro) <;> (try intro _) <;> (try intro _) <;> (repeat' apply And.intro) <;> (try intro _) <;> (try intro _) <;> first | trivial | assumption | exact .inr trivial | exact .inr rfl | omega | rfl | exact ⟨_, rfl, rfl⟩ | exact ⟨rfl, rfl⟩ | exact ⟨fun _ => rfl, fun _ => rfl⟩ | (unfold maxLen; omega) | (unfold i64R; first | omega | decide) | decide)
      refine evC_wk (s' := ⟨[(0, 0, Cont.cell (AV.ptr 1 0)), (0, 4, Cont.cell (AV.int IntKind.i64 0)), (1, 0, Cont.cell (AV.int IntKind.i64 (Peer.me P))), (1, 1, Cont.cell (AV.int IntKind.i64 (Peer.n P))), (1, 2, Cont.cell (AV.int IntKind.i64 (Peer.turn P))), (1, 3, Cont.cell (AV.int IntKind.i64 (Peer.iss P))), (1, 4, Cont.arr 8 (nI (Peer.hd P))), (1, 12, Cont.cell (AV.mp 2)), (1, 13, Cont.cell (AV.mp 3)), (1, 14, Cont.top), (2, 0, Cont.map 2 (mput (smap (Peer.sets P)) [Peer.iss P, Peer.me P] (AV.vs 4))), (3, 0, Cont.map 2 (wmap (Peer.words P))), (4, 0, .vec 1 5 L.length (nU L))], 5, 43⟩) _ (wk_go [996] rfl (by decide) rfl rfl ⟨⟨_, rfl, rfl⟩, ⟨_, rfl, rfl⟩, ⟨_, rfl, rfl⟩, ⟨_, rfl, rfl⟩, ⟨_, rfl, rfl⟩, ⟨_, rfl, rfl⟩, ⟨_, rfl, rfl, fun _ _ => rfl⟩, ⟨_, rfl, rfl⟩, ⟨_, rfl, rfl⟩, ⟨_, rfl, trivial⟩, ⟨_, rfl, ?_⟩, ⟨_, rfl, cw_map (Go.Eng.S25.flat_wmap _)⟩, ⟨_, rfl, ?_⟩, trivial⟩) ?_
      · exact cw_vs _ _ _ _ _ _ _ rfl
      · exact ⟨rfl, rfl, Nat.zero_add _, fun i hi => cat0 L _ i (by omega)⟩
      refine evC_wk (s' := ⟨[(0, 0, Cont.cell (AV.ptr 1 0)), (0, 4, Cont.cell (AV.int IntKind.i64 0)), (1, 0, Cont.cell (AV.int IntKind.i64 (Peer.me P))), (1, 1, Cont.cell (AV.int IntKind.i64 (Peer.n P))), (1, 2, Cont.cell (AV.int IntKind.i64 (Peer.turn P))), (1, 3, Cont.cell (AV.int IntKind.i64 (Peer.iss P))), (1, 4, Cont.arr 8 (nI (Peer.hd P))), (1, 12, Cont.cell (AV.mp 2)), (1, 13, Cont.cell (AV.mp 3)), (1, 14, Cont.top), (2, 0, Cont.map 2 (mput (smap (Peer.sets P)) [Peer.iss P, Peer.me P] (AV.rs 1 (List.length L) false (nU L)))), (3, 0, Cont.map 2 (wmap (Peer.words P)))], 4, 43⟩) _ (.trans (.frz 4 1 5 (List.length L) (nU L) (Nat.le_of_ble_eq_true rfl) rfl) (wk_go [] rfl (by decide) rfl rfl ⟨⟨_, rfl, rfl⟩, ⟨_, rfl, rfl⟩, ⟨_, rfl, rfl⟩, ⟨_, rfl, rfl⟩, ⟨_, rfl, rfl⟩, ⟨_, rfl, rfl⟩, ⟨_, rfl, rfl, fun _ _ => rfl⟩, ⟨_, rfl, rfl⟩, ⟨_, rfl, rfl⟩, ⟨_, rfl, trivial⟩, ⟨_, rfl, ?_⟩, ⟨_, rfl, Go.Eng.S25.cw_wfrz _⟩, trivial⟩)) ?_
      · exact cw_put _ _ _ _ _ _ _
      refine evC_wk (s' := ⟨[(0, 0, Cont.cell (AV.ptr 1 0)), (0, 4, Cont.cell (AV.int IntKind.i64 0)), (1, 0, Cont.cell (AV.int IntKind.i64 (Peer.me P))), (1, 1, Cont.cell (AV.int IntKind.i64 (Peer.n P))), (1, 2, Cont.cell (AV.int IntKind.i64 (Peer.turn P))), (1, 3, Cont.cell (AV.int IntKind.i64 (Peer.iss P))), (1, 4, Cont.arr 8 (nI (Peer.hd P))), (1, 12, Cont.cell (AV.mp 2)), (1, 13, Cont.cell (AV.mp 3)), (1, 14, Cont.top), (2, 0, .map 2 (smap (kput P.sets P.iss P.me L))), (3, 0, Cont.map 2 (wmap (Peer.words P)))], 4, 43⟩) _ (wk_go [] rfl (by decide) rfl rfl ⟨⟨_, rfl, rfl⟩, ⟨_, rfl, rfl⟩, ⟨_, rfl, rfl⟩, ⟨_, rfl, rfl⟩, ⟨_, rfl, rfl⟩, ⟨_, rfl, rfl⟩, ⟨_, rfl, rfl, fun _ _ => rfl⟩, ⟨_, rfl, rfl⟩, ⟨_, rfl, rfl⟩, ⟨_, rfl, trivial⟩, ⟨_, rfl, ?_⟩, ⟨_, rfl, cw_map (Go.Eng.S25.flat_wmap _)⟩, trivial⟩) ?_
      · exact cw_put2 _ _ _ _ _ _
      refine evC_go0 (dec := []) (ks := [(0, 4), (1, 0), (1, 1), (1, 2), (1, 3), (1, 4), (1, 12), (1, 13), (1, 14), (2, 0), (3, 0)]) (s' := ⟨[(0, 4, Cont.cell (AV.int IntKind.i64 0)), (1, 0, Cont.cell (AV.int IntKind.i64 (Peer.me P))), (1, 1, Cont.cell (AV.int IntKind.i64 (Peer.n P))), (1, 2, Cont.cell (AV.int IntKind.i64 (Peer.turn P))), (1, 3, Cont.cell (AV.int IntKind.i64 (IntKind.i64.wrap (Peer.iss P + 1)))), (1, 4, Cont.arr 8 (nI (Peer.hd P))), (1, 12, Cont.cell (AV.mp 2)), (1, 13, Cont.cell (AV.mp 3)), (1, 14, Cont.top), (2, 0, Cont.map 2 (smap (kput (Peer.sets P) (Peer.iss P) (Peer.me P) L))), (3, 0, Cont.map 2 (wmap (Peer.words P)))], 260, 43⟩) (by kernel_rfl) (by kernel_rfl) ?_
      rw [i64_in (P.iss + 1) (by omega)]
      refine evC_go0 (dec := []) (ks := [(0, 4), (1, 0), (1, 1), (1, 2), (1, 3), (1, 4), (1, 12), (1, 13), (1, 14), (2, 0), (3, 0)]) (s' := ⟨[(0, 4, Cont.cell (AV.int IntKind.i64 0)), (1, 0, Cont.cell (AV.int IntKind.i64 (Peer.me P))), (1, 1, Cont.cell (AV.int IntKind.i64 (Peer.n P))), (1, 2, Cont.cell (AV.int IntKind.i64 (Peer.turn P))), (1, 3, Cont.cell (AV.int IntKind.i64 (Peer.iss P + 1))), (1, 4, Cont.arr 8 (nI (Peer.hd P))), (1, 12, Cont.cell (AV.mp 2)), (1, 13, Cont.cell (AV.mp 3)), (1, 14, Cont.top), (2, 0, Cont.map 2 (smap (kput (Peer.sets P) (Peer.iss P) (Peer.me P) L))), (3, 0, Cont.map 2 (wmap (Peer.words P)))], 292, 43⟩) (by kernel_rfl) (by kernel_rfl) ?_
      refine evC_ret ?_
      refine post_ret ?_
      refine ends_go [] (AV.int IntKind.i64 0) [(1, 0, Cont.cell (AV.int IntKind.i64 (Peer.me P))), (1, 1, Cont.cell (AV.int IntKind.i64 (Peer.n P))), (1, 2, Cont.cell (AV.int IntKind.i64 (Peer.turn P))), (1, 3, Cont.cell (AV.int IntKind.i64 (Peer.iss P + 1))), (1, 4, Cont.arr 8 (nI (Peer.hd P))), (1, 12, Cont.cell (AV.mp 2)), (1, 13, Cont.cell (AV.mp 3)), (1, 14, Cont.top), (2, 0, Cont.map 2 (smap (kput (Peer.sets P) (Peer.iss P) (Peer.me P) L))), (3, 0, Cont.map 2 (wmap (Peer.words P)))] rfl (by decide) rfl rfl (has_of _ rfl) rfl ⟨⟨_, rfl, rfl⟩, ⟨_, rfl, rfl⟩, ⟨_, rfl, rfl⟩, ⟨_, rfl, rfl⟩, ⟨_, rfl, ⟨rfl, fun _ _ => rfl⟩⟩, ⟨_, rfl, rfl⟩, ⟨_, rfl, rfl⟩, ⟨_, rfl, trivial⟩, ⟨_, rfl, Go.Eng.S25.cw_smap _⟩, ⟨_, rfl, cw_map (Go.Eng.S25.flat_wmap _)⟩, trivial⟩ ⟨fun _ => ⟨1, _, rfl, rfl, rfl, ⟨has_of _ rfl, rfl⟩⟩, fun _ => ⟨1, _, rfl, rfl, rfl, ⟨has_of _ rfl, rfl⟩⟩, fun _ => ⟨1, _, rfl, rfl, rfl, ⟨has_of _ rfl, rfl⟩⟩, fun _ => ⟨1, _, rfl, rfl, rfl, ⟨has_of _ rfl, rfl⟩⟩, fun _ => ⟨1, _, rfl, rfl, rfl, ⟨rfl, fun _ _ => ⟨has_of _ rfl, rfl⟩⟩⟩, fun _ => ⟨1, _, rfl, rfl, rfl, ⟨has_of _ rfl, rfl⟩⟩, fun _ => ⟨1, _, rfl, rfl, rfl, ⟨has_of _ rfl, rfl⟩⟩, fun _ => ⟨1, _, rfl, rfl, rfl, trivial⟩, fun _ => ⟨2, _, rfl, rfl, rfl, Go.Eng.S25.cf_smap _⟩, fun _ => ⟨3, _, rfl, rfl, rfl, cf_map (Go.Eng.S25.flat_wmap _)⟩, trivial⟩ ?_
      · exact k4 _ _ rfl
theorem issue_walkV {n b c j nb : Nat} {P : Peer} {L : List Int} {sd : List Prop} {rd : List (Nat × Nat × Cont)} (hT1 : 0 ≤ P.turn ∧ P.turn ≤ 1000000) (hT2 : 0 ≤ P.iss ∧ P.iss ≤ 1000000)
    (k4 : ∀ fin P', hget fin 1 14 = some .top → hget fin 4 0 = some (.vec 1 5 L.length (nU L)) → KeptH [n, b, c, j] nb true fin (pcon n b c P') rd) :
    evC T [] ([n, b, c, j].length + 1) (Try.f10.body.getD .skip) (Post T Try.f10 [n, b, c, j] nb ⟨sd, .int .i64 (issE P L.length), rd, pcon n b c (issP P L)⟩ true) ⟨slots0 0 [.ptr 1 0, .vs 4] ++ (pcon 1 2 3 P ++ [(4, 0, .vec 1 5 L.length (nU L))]), [n, b, c, j].length + 1, Try.f10.ntmps⟩ := by
  have eE : issE P L.length = bif decide ((L.length : Int) > 704) then 1 else bif decide (P.iss ≥ P.turn + 8) then 5 else 0 := rfl
  unfold pcon
  refine evC_go0 (dec := []) (ks := [(0, 0), (0, 1), (0, 4), (1, 0), (1, 1), (1, 2), (1, 3), (1, 4), (1, 12), (1, 13), (1, 14), (2, 0), (3, 0), (4, 0)]) (s' := ⟨[(0, 0, Cont.cell (AV.ptr 1 0)), (0, 1, Cont.cell (AV.vs 4)), (0, 4, Cont.cell (AV.int IntKind.i64 0)), (1, 0, Cont.cell (AV.int IntKind.i64 (Peer.me P))), (1, 1, Cont.cell (AV.int IntKind.i64 (Peer.n P))), (1, 2, Cont.cell (AV.int IntKind.i64 (Peer.turn P))), (1, 3, Cont.cell (AV.int IntKind.i64 (Peer.iss P))), (1, 4, Cont.arr 8 (nI (Peer.hd P))), (1, 12, Cont.cell (AV.mp 2)), (1, 13, Cont.cell (AV.mp 3)), (1, 14, Cont.top), (2, 0, Cont.map 2 (smap (Peer.sets P))), (3, 0, Cont.map 2 (wmap (Peer.words P))), (4, 0, Cont.vec 1 5 (List.length L) (nU L))], 37, 43⟩) (by kernel_rfl) (by kernel_rfl) ?_
  refine evC_seq ?_
  refine evC_block ?_
  refine evC_go0 (dec := []) (ks := [(0, 0), (0, 1), (0, 4), (0, 5), (1, 0), (1, 1), (1, 2), (1, 3), (1, 4), (1, 12), (1, 13), (1, 14), (2, 0), (3, 0), (4, 0)]) (s' := ⟨[(0, 0, Cont.cell (AV.ptr 1 0)), (0, 1, Cont.cell (AV.vs 4)), (0, 4, Cont.cell (AV.int IntKind.i64 0)), (0, 5, Cont.cell (AV.bool (decide ((↑(List.length L) : Int) > 704)))), (1, 0, Cont.cell (AV.int IntKind.i64 (Peer.me P))), (1, 1, Cont.cell (AV.int IntKind.i64 (Peer.n P))), (1, 2, Cont.cell (AV.int IntKind.i64 (Peer.turn P))), (1, 3, Cont.cell (AV.int IntKind.i64 (Peer.iss P))), (1, 4, Cont.arr 8 (nI (Peer.hd P))), (1, 12, Cont.cell (AV.mp 2)), (1, 13, Cont.cell (AV.mp 3)), (1, 14, Cont.top), (2, 0, Cont.map 2 (smap (Peer.sets P))), (3, 0, Cont.map 2 (wmap (Peer.words P))), (4, 0, Cont.vec 1 5 (List.length L) (nU L))], 165, 43⟩) (by kernel_rfl) (by kernel_rfl) ?_
  refine evC_if (q := decide ((↑(List.length L) : Int) > 704)) (by kernel_rfl) (fun hc => ?_) (fun hc => ?_)
  · have hE : issE P L.length = 1 := by rw [eE, hc]; rfl
    have hP : issP P L = P := by unfold issP; rw [hE]; rfl
    rw [hE, hP]
    refine evC_go0 (dec := []) (ks := [(0, 0), (0, 1), (0, 4), (1, 0), (1, 1), (1, 2), (1, 3), (1, 4), (1, 12), (1, 13), (1, 14), (2, 0), (3, 0), (4, 0)]) (s' := ⟨[(0, 0, Cont.cell (AV.ptr 1 0)), (0, 1, Cont.cell (AV.vs 4)), (0, 4, Cont.cell (AV.int IntKind.i64 1)), (1, 0, Cont.cell (AV.int IntKind.i64 (Peer.me P))), (1, 1, Cont.cell (AV.int IntKind.i64 (Peer.n P))), (1, 2, Cont.cell (AV.int IntKind.i64 (Peer.turn P))), (1, 3, Cont.cell (AV.int IntKind.i64 (Peer.iss P))), (1, 4, Cont.arr 8 (nI (Peer.hd P))), (1, 12, Cont.cell (AV.mp 2)), (1, 13, Cont.cell (AV.mp 3)), (1, 14, Cont.top), (2, 0, Cont.map 2 (smap (Peer.sets P))), (3, 0, Cont.map 2 (wmap (Peer.words P))), (4, 0, Cont.vec 1 5 (List.length L) (nU L))], 197, 43⟩) (by kernel_rfl) (by kernel_rfl) ?_
    refine evC_ret ?_
    refine block_ret ?_
    refine then_ret ?_
    refine post_ret ?_
    refine ends_go [] (AV.int IntKind.i64 1) [(1, 0, Cont.cell (AV.int IntKind.i64 (Peer.me P))), (1, 1, Cont.cell (AV.int IntKind.i64 (Peer.n P))), (1, 2, Cont.cell (AV.int IntKind.i64 (Peer.turn P))), (1, 3, Cont.cell (AV.int IntKind.i64 (Peer.iss P))), (1, 4, Cont.arr 8 (nI (Peer.hd P))), (1, 12, Cont.cell (AV.mp 2)), (1, 13, Cont.cell (AV.mp 3)), (1, 14, Cont.top), (2, 0, Cont.map 2 (smap (Peer.sets P))), (3, 0, Cont.map 2 (wmap (Peer.words P))), (4, 0, Cont.vec 1 5 (List.length L) (nU L))] rfl (by decide) rfl rfl (has_of _ rfl) rfl ⟨⟨_, rfl, rfl⟩, ⟨_, rfl, rfl⟩, ⟨_, rfl, rfl⟩, ⟨_, rfl, rfl⟩, ⟨_, rfl, ⟨rfl, fun _ _ => rfl⟩⟩, ⟨_, rfl, rfl⟩, ⟨_, rfl, rfl⟩, ⟨_, rfl, trivial⟩, ⟨_, rfl, Go.Eng.S25.cw_smap _⟩, ⟨_, rfl, cw_map (Go.Eng.S25.flat_wmap _)⟩, ⟨_, rfl, ⟨rfl, rfl, rfl, fun _ _ => rfl⟩⟩, trivial⟩ ⟨fun _ => ⟨1, _, rfl, rfl, rfl, ⟨has_of _ rfl, rfl⟩⟩, fun _ => ⟨1, _, rfl, rfl, rfl, ⟨has_of _ rfl, rfl⟩⟩, fun _ => ⟨1, _, rfl, rfl, rfl, ⟨has_of _ rfl, rfl⟩⟩, fun _ => ⟨1, _, rfl, rfl, rfl, ⟨has_of _ rfl, rfl⟩⟩, fun _ => ⟨1, _, rfl, rfl, rfl, ⟨rfl, fun _ _ => ⟨has_of _ rfl, rfl⟩⟩⟩, fun _ => ⟨1, _, rfl, rfl, rfl, ⟨has_of _ rfl, rfl⟩⟩, fun _ => ⟨1, _, rfl, rfl, rfl, ⟨has_of _ rfl, rfl⟩⟩, fun _ => ⟨1, _, rfl, rfl, rfl, trivial⟩, fun _ => ⟨2, _, rfl, rfl, rfl, Go.Eng.S25.cf_smap _⟩, fun _ => ⟨3, _, rfl, rfl, rfl, cf_map (Go.Eng.S25.flat_wmap _)⟩, trivial⟩ ?_
    exact k4 _ _ rfl rfl
  · rw [hc] at eE
    have h7 : L.length ≤ 704 := by
      have := of_decide_eq_false hc
      omega
    clear hc
    refine evC_go0 (dec := []) (ks := [(0, 0), (0, 1), (0, 4), (0, 9), (1, 0), (1, 1), (1, 2), (1, 3), (1, 4), (1, 12), (1, 13), (1, 14), (2, 0), (3, 0), (4, 0)]) (s' := ⟨[(0, 0, Cont.cell (AV.ptr 1 0)), (0, 1, Cont.cell (AV.vs 4)), (0, 4, Cont.cell (AV.int IntKind.i64 0)), (0, 9, Cont.cell (AV.bool (decide (Peer.iss P ≥ IntKind.i64.wrap (Peer.turn P + 8))))), (1, 0, Cont.cell (AV.int IntKind.i64 (Peer.me P))), (1, 1, Cont.cell (AV.int IntKind.i64 (Peer.n P))), (1, 2, Cont.cell (AV.int IntKind.i64 (Peer.turn P))), (1, 3, Cont.cell (AV.int IntKind.i64 (Peer.iss P))), (1, 4, Cont.arr 8 (nI (Peer.hd P))), (1, 12, Cont.cell (AV.mp 2)), (1, 13, Cont.cell (AV.mp 3)), (1, 14, Cont.top), (2, 0, Cont.map 2 (smap (Peer.sets P))), (3, 0, Cont.map 2 (wmap (Peer.words P))), (4, 0, Cont.vec 1 5 (List.length L) (nU L))], 517, 43⟩) (by kernel_rfl) (by kernel_rfl) ?_
    rw [i64_in (P.turn + 8) (by omega)]
    refine evC_if (q := decide (Peer.iss P ≥ Peer.turn P + 8)) (by kernel_rfl) (fun hc => ?_) (fun hc => ?_)
    · have hE : issE P L.length = 5 := by rw [eE, hc]; rfl
      have hP : issP P L = P := by unfold issP; rw [hE]; rfl
      rw [hE, hP]
      refine evC_go0 (dec := []) (ks := [(0, 0), (0, 1), (0, 4), (1, 0), (1, 1), (1, 2), (1, 3), (1, 4), (1, 12), (1, 13), (1, 14), (2, 0), (3, 0), (4, 0)]) (s' := ⟨[(0, 0, Cont.cell (AV.ptr 1 0)), (0, 1, Cont.cell (AV.vs 4)), (0, 4, Cont.cell (AV.int IntKind.i64 5)), (1, 0, Cont.cell (AV.int IntKind.i64 (Peer.me P))), (1, 1, Cont.cell (AV.int IntKind.i64 (Peer.n P))), (1, 2, Cont.cell (AV.int IntKind.i64 (Peer.turn P))), (1, 3, Cont.cell (AV.int IntKind.i64 (Peer.iss P))), (1, 4, Cont.arr 8 (nI (Peer.hd P))), (1, 12, Cont.cell (AV.mp 2)), (1, 13, Cont.cell (AV.mp 3)), (1, 14, Cont.top), (2, 0, Cont.map 2 (smap (Peer.sets P))), (3, 0, Cont.map 2 (wmap (Peer.words P))), (4, 0, Cont.vec 1 5 (List.length L) (nU L))], 549, 43⟩) (by kernel_rfl) (by kernel_rfl) ?_
      refine evC_ret ?_
      refine block_ret ?_
      refine then_ret ?_
      refine post_ret ?_
      refine ends_go [] (AV.int IntKind.i64 5) [(1, 0, Cont.cell (AV.int IntKind.i64 (Peer.me P))), (1, 1, Cont.cell (AV.int IntKind.i64 (Peer.n P))), (1, 2, Cont.cell (AV.int IntKind.i64 (Peer.turn P))), (1, 3, Cont.cell (AV.int IntKind.i64 (Peer.iss P))), (1, 4, Cont.arr 8 (nI (Peer.hd P))), (1, 12, Cont.cell (AV.mp 2)), (1, 13, Cont.cell (AV.mp 3)), (1, 14, Cont.top), (2, 0, Cont.map 2 (smap (Peer.sets P))), (3, 0, Cont.map 2 (wmap (Peer.words P))), (4, 0, Cont.vec 1 5 (List.length L) (nU L))] rfl (by decide) rfl rfl (has_of _ rfl) rfl ⟨⟨_, rfl, rfl⟩, ⟨_, rfl, rfl⟩, ⟨_, rfl, rfl⟩, ⟨_, rfl, rfl⟩, ⟨_, rfl, ⟨rfl, fun _ _ => rfl⟩⟩, ⟨_, rfl, rfl⟩, ⟨_, rfl, rfl⟩, ⟨_, rfl, trivial⟩, ⟨_, rfl, Go.Eng.S25.cw_smap _⟩, ⟨_, rfl, cw_map (Go.Eng.S25.flat_wmap _)⟩, ⟨_, rfl, ⟨rfl, rfl, rfl, fun _ _ => rfl⟩⟩, trivial⟩ ⟨fun _ => ⟨1, _, rfl, rfl, rfl, ⟨has_of _ rfl, rfl⟩⟩, fun _ => ⟨1, _, rfl, rfl, rfl, ⟨has_of _ rfl, rfl⟩⟩, fun _ => ⟨1, _, rfl, rfl, rfl, ⟨has_of _ rfl, rfl⟩⟩, fun _ => ⟨1, _, rfl, rfl, rfl, ⟨has_of _ rfl, rfl⟩⟩, fun _ => ⟨1, _, rfl, rfl, rfl, ⟨rfl, fun _ _ => ⟨has_of _ rfl, rfl⟩⟩⟩, fun _ => ⟨1, _, rfl, rfl, rfl, ⟨has_of _ rfl, rfl⟩⟩, fun _ => ⟨1, _, rfl, rfl, rfl, ⟨has_of _ rfl, rfl⟩⟩, fun _ => ⟨1, _, rfl, rfl, rfl, trivial⟩, fun _ => ⟨2, _, rfl, rfl, rfl, Go.Eng.S25.cf_smap _⟩, fun _ => ⟨3, _, rfl, rfl, rfl, cf_map (Go.Eng.S25.flat_wmap _)⟩, trivial⟩ ?_
      exact k4 _ _ rfl rfl
    · have hE : issE P L.length = 0 := by rw [eE, hc]; rfl
      have hP : issP P L = ⟨P.me, P.n, P.turn, P.iss + 1, P.hd, kput P.sets P.iss P.me L, P.words⟩ := by unfold issP; rw [hE]; rfl
      rw [hE, hP]
      refine evC_skip ?_
      refine block_normal ?_
      refine then_normal ?_
      refine evC_go (dec := []) (ks := [(0, 0), (0, 4), (1, 0), (1, 1), (1, 2), (1, 3), (1, 4), (1, 12), (1, 13), (1, 14), (2, 0), (3, 0), (4, 0), (997, 0)]) (ps := [((0 : Nat) + List.length L) * (1 : Nat) ≤ (140737488355328 : Nat), (0 : Nat) + List.length L ≤ maxLen, List.length L = (0 : Nat) ∨ (1 : Nat) = (1 : Nat), (1 : Nat) = (1 : Nat), (5 : Nat) = (5 : Nat)]) (s' := ⟨[(0, 0, Cont.cell (AV.ptr 1 0)), (0, 4, Cont.cell (AV.int IntKind.i64 0)), (1, 0, Cont.cell (AV.int IntKind.i64 (Peer.me P))), (1, 1, Cont.cell (AV.int IntKind.i64 (Peer.n P))), (1, 2, Cont.cell (AV.int IntKind.i64 (Peer.turn P))), (1, 3, Cont.cell (AV.int IntKind.i64 (Peer.iss P))), (1, 4, Cont.arr 8 (nI (Peer.hd P))), (1, 12, Cont.cell (AV.mp 2)), (1, 13, Cont.cell (AV.mp 3)), (1, 14, Cont.top), (2, 0, Cont.map 2 (mput (smap (Peer.sets P)) [Peer.iss P, Peer.me P] (AV.vs 997))), (3, 0, Cont.map 2 (wmap (Peer.words P))), (4, 0, Cont.vec 1 5 (List.length L) (nU L)), (997, 0, Cont.vec 1 5 (0 + List.length L) (catF 0 (pget []) (nU L)))], 1061, 43⟩) (by kernel_rfl) (by kernel_rfl) ?_ ?_
      · (simp only [All]; (repeat' apply And.intro) <;> (try intro _) <;> (try intro _) <;> (repeat' apply And.intro) <;> (try intro _) <;> (try intro _) <;> first | trivial | assumption | exact .inr trivial | exact .inr rfl | omega | rfl | exact ⟨_, rfl, rfl⟩ | exact ⟨rfl, rfl⟩ | exact ⟨fun _ => rfl, fun _ => rfl⟩ | (unfold maxLen; omega) | (unfold i64R; first | omega | decide) | decide)
      refine evC_wk (s' := ⟨[(0, 0, Cont.cell (AV.ptr 1 0)), (0, 4, Cont.cell (AV.int IntKind.i64 0)), (1, 0, Cont.cell (AV.int IntKind.i64 (Peer.me P))), (1, 1, Cont.cell (AV.int IntKind.i64 (Peer.n P))), (1, 2, Cont.cell (AV.int IntKind.i64 (Peer.turn P))), (1, 3, Cont.cell (AV.int IntKind.i64 (Peer.iss P))), (1, 4, Cont.arr 8 (nI (Peer.hd P))), (1, 12, Cont.cell (AV.mp 2)), (1, 13, Cont.cell (AV.mp 3)), (1, 14, Cont.top), (2, 0, Cont.map 2 (mput (smap (Peer.sets P)) [Peer.iss P, Peer.me P] (AV.vs 5))), (3, 0, Cont.map 2 (wmap (Peer.words P))), (4, 0, Cont.vec 1 5 (List.length L) (nU L)), (5, 0, .vec 1 5 L.length (nU L))], 6, 43⟩) _ (wk_go [997] rfl (by decide) rfl rfl ⟨⟨_, rfl, rfl⟩, ⟨_, rfl, rfl⟩, ⟨_, rfl, rfl⟩, ⟨_, rfl, rfl⟩, ⟨_, rfl, rfl⟩, ⟨_, rfl, rfl⟩, ⟨_, rfl, rfl, fun _ _ => rfl⟩, ⟨_, rfl, rfl⟩, ⟨_, rfl, rfl⟩, ⟨_, rfl, trivial⟩, ⟨_, rfl, ?_⟩, ⟨_, rfl, cw_map (Go.Eng.S25.flat_wmap _)⟩, ⟨_, rfl, rfl, rfl, rfl, fun _ _ => rfl⟩, ⟨_, rfl, ?_⟩, trivial⟩) ?_
      · exact cw_vs _ _ _ _ _ _ _ rfl
      · exact ⟨rfl, rfl, Nat.zero_add _, fun i hi => cat0 L _ i (by omega)⟩
      refine evC_wk (s' := ⟨[(0, 0, Cont.cell (AV.ptr 1 0)), (0, 4, Cont.cell (AV.int IntKind.i64 0)), (1, 0, Cont.cell (AV.int IntKind.i64 (Peer.me P))), (1, 1, Cont.cell (AV.int IntKind.i64 (Peer.n P))), (1, 2, Cont.cell (AV.int IntKind.i64 (Peer.turn P))), (1, 3, Cont.cell (AV.int IntKind.i64 (Peer.iss P))), (1, 4, Cont.arr 8 (nI (Peer.hd P))), (1, 12, Cont.cell (AV.mp 2)), (1, 13, Cont.cell (AV.mp 3)), (1, 14, Cont.top), (2, 0, Cont.map 2 (mput (smap (Peer.sets P)) [Peer.iss P, Peer.me P] (AV.rs 1 (List.length L) false (nU L)))), (3, 0, Cont.map 2 (wmap (Peer.words P))), (4, 0, Cont.vec 1 5 (List.length L) (nU L))], 5, 43⟩) _ (.trans (.frz 5 1 5 (List.length L) (nU L) (Nat.le_of_ble_eq_true rfl) rfl) (wk_go [] rfl (by decide) rfl rfl ⟨⟨_, rfl, rfl⟩, ⟨_, rfl, rfl⟩, ⟨_, rfl, rfl⟩, ⟨_, rfl, rfl⟩, ⟨_, rfl, rfl⟩, ⟨_, rfl, rfl⟩, ⟨_, rfl, rfl, fun _ _ => rfl⟩, ⟨_, rfl, rfl⟩, ⟨_, rfl, rfl⟩, ⟨_, rfl, trivial⟩, ⟨_, rfl, ?_⟩, ⟨_, rfl, Go.Eng.S25.cw_wfrz _⟩, ⟨_, rfl, rfl, rfl, rfl, fun _ _ => rfl⟩, trivial⟩)) ?_
      · exact cw_put _ _ _ _ _ _ _
      refine evC_wk (s' := ⟨[(0, 0, Cont.cell (AV.ptr 1 0)), (0, 4, Cont.cell (AV.int IntKind.i64 0)), (1, 0, Cont.cell (AV.int IntKind.i64 (Peer.me P))), (1, 1, Cont.cell (AV.int IntKind.i64 (Peer.n P))), (1, 2, Cont.cell (AV.int IntKind.i64 (Peer.turn P))), (1, 3, Cont.cell (AV.int IntKind.i64 (Peer.iss P))), (1, 4, Cont.arr 8 (nI (Peer.hd P))), (1, 12, Cont.cell (AV.mp 2)), (1, 13, Cont.cell (AV.mp 3)), (1, 14, Cont.top), (2, 0, .map 2 (smap (kput P.sets P.iss P.me L))), (3, 0, Cont.map 2 (wmap (Peer.words P))), (4, 0, Cont.vec 1 5 (List.length L) (nU L))], 5, 43⟩) _ (wk_go [] rfl (by decide) rfl rfl ⟨⟨_, rfl, rfl⟩, ⟨_, rfl, rfl⟩, ⟨_, rfl, rfl⟩, ⟨_, rfl, rfl⟩, ⟨_, rfl, rfl⟩, ⟨_, rfl, rfl⟩, ⟨_, rfl, rfl, fun _ _ => rfl⟩, ⟨_, rfl, rfl⟩, ⟨_, rfl, rfl⟩, ⟨_, rfl, trivial⟩, ⟨_, rfl, ?_⟩, ⟨_, rfl, cw_map (Go.Eng.S25.flat_wmap _)⟩, ⟨_, rfl, rfl, rfl, rfl, fun _ _ => rfl⟩, trivial⟩) ?_
      · exact cw_put2 _ _ _ _ _ _
      refine evC_go0 (dec := []) (ks := [(0, 4), (1, 0), (1, 1), (1, 2), (1, 3), (1, 4), (1, 12), (1, 13), (1, 14), (2, 0), (3, 0), (4, 0)]) (s' := ⟨[(0, 4, Cont.cell (AV.int IntKind.i64 0)), (1, 0, Cont.cell (AV.int IntKind.i64 (Peer.me P))), (1, 1, Cont.cell (AV.int IntKind.i64 (Peer.n P))), (1, 2, Cont.cell (AV.int IntKind.i64 (Peer.turn P))), (1, 3, Cont.cell (AV.int IntKind.i64 (IntKind.i64.wrap (Peer.iss P + 1)))), (1, 4, Cont.arr 8 (nI (Peer.hd P))), (1, 12, Cont.cell (AV.mp 2)), (1, 13, Cont.cell (AV.mp 3)), (1, 14, Cont.top), (2, 0, Cont.map 2 (smap (kput (Peer.sets P) (Peer.iss P) (Peer.me P) L))), (3, 0, Cont.map 2 (wmap (Peer.words P))), (4, 0, Cont.vec 1 5 (List.length L) (nU L))], 261, 43⟩) (by kernel_rfl) (by kernel_rfl) ?_
      rw [i64_in (P.iss + 1) (by omega)]
      refine evC_go0 (dec := []) (ks := [(0, 4), (1, 0), (1, 1), (1, 2), (1, 3), (1, 4), (1, 12), (1, 13), (1, 14), (2, 0), (3, 0), (4, 0)]) (s' := ⟨[(0, 4, Cont.cell (AV.int IntKind.i64 0)), (1, 0, Cont.cell (AV.int IntKind.i64 (Peer.me P))), (1, 1, Cont.cell (AV.int IntKind.i64 (Peer.n P))), (1, 2, Cont.cell (AV.int IntKind.i64 (Peer.turn P))), (1, 3, Cont.cell (AV.int IntKind.i64 (Peer.iss P + 1))), (1, 4, Cont.arr 8 (nI (Peer.hd P))), (1, 12, Cont.cell (AV.mp 2)), (1, 13, Cont.cell (AV.mp 3)), (1, 14, Cont.top), (2, 0, Cont.map 2 (smap (kput (Peer.sets P) (Peer.iss P) (Peer.me P) L))), (3, 0, Cont.map 2 (wmap (Peer.words P))), (4, 0, Cont.vec 1 5 (List.length L) (nU L))], 293, 43⟩) (by kernel_rfl) (by kernel_rfl) ?_
      refine evC_ret ?_
      refine post_ret ?_
      refine ends_go [] (AV.int IntKind.i64 0) [(1, 0, Cont.cell (AV.int IntKind.i64 (Peer.me P))), (1, 1, Cont.cell (AV.int IntKind.i64 (Peer.n P))), (1, 2, Cont.cell (AV.int IntKind.i64 (Peer.turn P))), (1, 3, Cont.cell (AV.int IntKind.i64 (Peer.iss P + 1))), (1, 4, Cont.arr 8 (nI (Peer.hd P))), (1, 12, Cont.cell (AV.mp 2)), (1, 13, Cont.cell (AV.mp 3)), (1, 14, Cont.top), (2, 0, Cont.map 2 (smap (kput (Peer.sets P) (Peer.iss P) (Peer.me P) L))), (3, 0, Cont.map 2 (wmap (Peer.words P))), (4, 0, Cont.vec 1 5 (List.length L) (nU L))] rfl (by decide) rfl rfl (has_of _ rfl) rfl ⟨⟨_, rfl, rfl⟩, ⟨_, rfl, rfl⟩, ⟨_, rfl, rfl⟩, ⟨_, rfl, rfl⟩, ⟨_, rfl, ⟨rfl, fun _ _ => rfl⟩⟩, ⟨_, rfl, rfl⟩, ⟨_, rfl, rfl⟩, ⟨_, rfl, trivial⟩, ⟨_, rfl, Go.Eng.S25.cw_smap _⟩, ⟨_, rfl, cw_map (Go.Eng.S25.flat_wmap _)⟩, ⟨_, rfl, ⟨rfl, rfl, rfl, fun _ _ => rfl⟩⟩, trivial⟩ ⟨fun _ => ⟨1, _, rfl, rfl, rfl, ⟨has_of _ rfl, rfl⟩⟩, fun _ => ⟨1, _, rfl, rfl, rfl, ⟨has_of _ rfl, rfl⟩⟩, fun _ => ⟨1, _, rfl, rfl, rfl, ⟨has_of _ rfl, rfl⟩⟩, fun _ => ⟨1, _, rfl, rfl, rfl, ⟨has_of _ rfl, rfl⟩⟩, fun _ => ⟨1, _, rfl, rfl, rfl, ⟨rfl, fun _ _ => ⟨has_of _ rfl, rfl⟩⟩⟩, fun _ => ⟨1, _, rfl, rfl, rfl, ⟨has_of _ rfl, rfl⟩⟩, fun _ => ⟨1, _, rfl, rfl, rfl, ⟨has_of _ rfl, rfl⟩⟩, fun _ => ⟨1, _, rfl, rfl, rfl, trivial⟩, fun _ => ⟨2, _, rfl, rfl, rfl, Go.Eng.S25.cf_smap _⟩, fun _ => ⟨3, _, rfl, rfl, rfl, cf_map (Go.Eng.S25.flat_wmap _)⟩, trivial⟩ ?_
      · exact k4 _ _ rfl rfl
theorem issue_ok : SpecOK Try.prog 10 sIssue := by
  refine spec_at (by kernel_rfl) T_ok sget_nil Try.func10 rfl rfl fun args hr nb out e => ?_
  unfold sIssue at e
  split at e
  · rename_i v m fl f
    obtain ⟨n, b, c, P, s, rd, rfl, e, hrd, hs0, hs1, hs2⟩ := peer_open e
    injection e with e; subst e
    by_cases hB : IsB m f
    rotate_left
    · exact ⟨hrd, true, [], [], [], rfl, fun hs => absurd (hs _ (List.mem_cons_of_mem _ (List.mem_cons_of_mem _ List.mem_cons_self))) hB⟩
    obtain ⟨L, rfl, hL, eL, hf⟩ := hB.list
    refine ⟨hrd, true, [n, b, c], [.ptr 1 0, bs L], pcon 1 2 3 P, rfl, fun hs => ?_⟩
    obtain ⟨k1, k2, k3⟩ := hs0 (hs _ List.mem_cons_self)
    have k4 := fun fin P' => hs2 (hs _ List.mem_cons_self) [] nb fin P' []
    obtain ⟨hT1, hT2⟩ := hs _ (List.mem_cons_of_mem _ List.mem_cons_self)
    refine ⟨k1, fun z hz => ⟨(k2 z hz).1, (k2 z hz).2 _ fun x hx => hx⟩, .cons _ _ _ _ (.name _ _ _ rfl) (.cons _ _ _ _ (.rs _ _ _ _ _ _ fun i hi => ⟨hf i hi, (nU_flat _ i).has⟩) .nil), k3 _ _, ?_⟩
    rw [eL]
    exact issue_walk hT1 hT2 k4
  · rename_i v
    obtain ⟨n, b, c, P, s, rd, rfl, e, hrd, hs0, hs1, hs2⟩ := peer_open e
    injection e with e; subst e
    refine ⟨hrd, true, [n, b, c], [.ptr 1 0, bs []], pcon 1 2 3 P, rfl, fun hs => ?_⟩
    obtain ⟨k1, k2, k3⟩ := hs0 (hs _ List.mem_cons_self)
    have k4 := fun fin P' => hs2 (hs _ List.mem_cons_self) [] nb fin P' []
    obtain ⟨hT1, hT2⟩ := hs _ (List.mem_cons_of_mem _ List.mem_cons_self)
    refine ⟨k1, fun z hz => ⟨(k2 z hz).1, (k2 z hz).2 _ fun x hx => hx⟩, .cons _ _ _ _ (.name _ _ _ rfl) (.cons _ _ _ _ (.nil _ _ _) .nil), k3 _ _, ?_⟩
    exact issue_walk (L := []) hT1 hT2 k4
  · rename_i v j
    split at e
    · rename_i m f hj
      obtain ⟨n, b, c, P, s, rd, rfl, e, hrd, hs0, hs1, hs2⟩ := peer_open e
      injection e with e; subst e
      have hrd' : ∀ x ∈ rd ++ [(j, 0, Cont.vec 1 5 m f)], hr x.1 x.2.1 = some x.2.2 := by
        intro x hx
        rcases List.mem_append.1 hx with hx | hx
        · exact hrd x hx
        · rw [List.mem_singleton.1 hx]; exact hj
      by_cases hB : IsB m f
      rotate_left
      · exact ⟨hrd', true, [], [], [], rfl, fun hs => absurd (hs _ (List.mem_cons_of_mem _ (List.mem_cons_of_mem _ List.mem_cons_self))) hB⟩
      obtain ⟨L, rfl, hL, eL, hf⟩ := hB.list
      refine ⟨hrd', true, [n, b, c, j], [.ptr 1 0, .vs 4], pcon 1 2 3 P ++ [(4, 0, .vec 1 5 L.length (nU L))], rfl, fun hs => ?_⟩
      obtain ⟨k1, k2, k3⟩ := hs0 (hs _ List.mem_cons_self)
      have k4 := fun fin P' => hs2 (hs _ List.mem_cons_self) [j] nb fin P' []
      obtain ⟨hT1, hT2⟩ := hs _ (List.mem_cons_of_mem _ List.mem_cons_self)
      obtain ⟨j0, j1, j2, j3⟩ := hs _ (List.mem_cons_of_mem _ (List.mem_cons_of_mem _ (List.mem_cons_of_mem _ List.mem_cons_self)))
      refine ⟨by simp at k1 ⊢; exact ⟨⟨k1.1.1, k1.1.2, j1⟩, ⟨k1.2, j2⟩, j3⟩, fun z hz => ?_, .cons _ _ _ _ (.name _ _ _ rfl) (.cons _ _ _ _ (.name _ _ _ rfl) .nil), fun x hx => ?_, ?_⟩
      · by_cases hz' : z ∈ [n, b, c]
        · exact ⟨(k2 z hz').1, (k2 z hz').2 _ fun x hx => List.mem_append_left _ hx⟩
        · have : z = j := by simp at hz hz'; omega
          subst this
          exact ⟨j0, .vec 1 5 L.length f (List.mem_append_right _ List.mem_cons_self)⟩
      · rcases List.mem_append.1 hx with hx | hx
        · obtain ⟨i, m, c', h1, h2, h3, h4⟩ := k3 [j] nb x hx
          exact ⟨i, m, c', h1, h2, List.mem_append_left _ h3, h4⟩
        · rw [List.mem_singleton.1 hx]
          exact ⟨3, j, _, rfl, rfl, List.mem_append_right _ List.mem_cons_self, rfl, rfl, rfl, fun i hi => hf i hi⟩
      rw [eL]
      refine issue_walkV hT1 hT2 fun fin P' h1 h2 => ?_
      exact kept_app (k4 fin P' h1) ⟨fun _ => .inr ⟨3, _, rfl, h2, rfl, rfl, rfl, fun i hi => ⟨.int _ _, hf i hi⟩⟩, trivial⟩
    · cases e
  · cases e
end Go.Eng.S25
