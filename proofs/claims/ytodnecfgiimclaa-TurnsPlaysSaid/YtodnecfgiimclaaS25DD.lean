/- Seat 25: the document's Note and Issue, walked. -/
import Derived.Test.YtodnecfgiimclaaEngX
import Derived.Test.YtodnecfgiimclaaS25DC
set_option linter.unusedSimpArgs false
set_option linter.unusedVariables false
set_option maxHeartbeats 2000000
namespace Go.Eng.S25
open Go.Proofs Go.IntWalk
set_option maxRecDepth 10000
theorem kput_new {α : Type} {t q : Int} {v : α} : ∀ {S : List ((Int × Int) × α)}, kget S t q = none → kput S t q v = S ++ [((t, q), v)]
 | [], _ => rfl
 | e :: S, h => by
   have h : (bif t == e.1.1 && q == e.1.2 then some e.2 else kget S t q) = none := h
   show (bif t == e.1.1 && q == e.1.2 then ((t, q), v) :: S else e :: kput S t q v) = _
   cases hb : (t == e.1.1 && q == e.1.2) with
   | true => rw [hb] at h; cases h
   | false =>
     rw [hb] at h
     rw [cond_false, kput_new h]; rfl
theorem word_some {P : Peer} (h : OkW P) : (wordV P P.turn P.me != 0) = (kget P.words P.turn P.me).isSome := by
 unfold wordV
 cases hk : kget P.words P.turn P.me with
 | none => rfl
 | some v => simpa using h _ (kget_in hk)
theorem cat_rw (W : List ((Int × Int) × Int)) (x : (Int × Int) × Int) {g : Nat → AV} (hg : g 0 = .agg [.int .i64 x.1.1, .int .i64 x.1.2, .int .u64 x.2]) (i : Nat) (hi : i < W.length + 1) : catF W.length (rwF W) g i = rwF (W ++ [x]) i := by
 unfold catF
 rcases Nat.lt_or_ge i W.length with h | h
 ·rw [nblt_yes h, cond_true]
  unfold rwF
  rw [List.getD_eq_getElem?_getD, List.getD_eq_getElem?_getD, List.getElem?_append_left h]
 ·have : i = W.length := by omega
  subst this
  rw [nblt_no (by omega), cond_false, Nat.sub_self, hg]
  simp [rwF]
theorem cat_rs (W : List ((Int × Int) × List Int)) (x : (Int × Int) × List Int) {g : Nat → AV} (hg : g 0 = .agg [.int .i64 x.1.1, .int .i64 x.1.2, .str (strB x.2)]) (i : Nat) (hi : i < W.length + 1) : catF W.length (rsF W) g i = rsF (W ++ [x]) i := by
 unfold catF
 rcases Nat.lt_or_ge i W.length with h | h
 ·rw [nblt_yes h, cond_true]
  unfold rsF
  rw [List.getD_eq_getElem?_getD, List.getD_eq_getElem?_getD, List.getElem?_append_left h]
 ·have : i = W.length := by omega
  subst this
  rw [nblt_no (by omega), cond_false, Nat.sub_self, hg]
  simp [rsF]
def sRNote : Spec := fun args hr nb => match args with
 | [v, .int .u64 w] => withRef hr v fun n b c P s rd => some ⟨[s, OkR P, OkW P], .int .i64 (noteE P w), rd, rnew n b c nb (noteP P w)⟩
 | _ => none
theorem rnote_ok : SpecOK Try.prog 29 sRNote := by
 refine spec_at (by kernel_rfl) T_ok (sget_cons rword_ok sget_nil) Try.func29 rfl rfl fun args hr nb out e => ?_
 unfold sRNote at e
 split at e
 ·rename_i v w
  obtain ⟨n, b, c, P, s, rd, rfl, e, hrd, hs0, hs1, hs2, hs3⟩ := ref_open e
  injection e with e; subst e
  refine ⟨hrd, true, [n, b, c], [.ptr 1 0, .int .u64 w], rcon 1 2 3 P, rfl, fun hs => ?_⟩
  obtain ⟨k1, k2, k3⟩ := hs0 (hs _ List.mem_cons_self)
  have k4 := hs1 (hs _ List.mem_cons_self) [] nb
  have hR := hs _ (List.mem_cons_of_mem _ List.mem_cons_self)
  have hW := hs _ (List.mem_cons_of_mem _ (List.mem_cons_of_mem _ List.mem_cons_self))
  have k5 := hs3 (hs _ List.mem_cons_self) [] nb nb
  refine ⟨k1, fun z hz => ⟨(k2 z hz).1, (k2 z hz).2 _ fun x hx => hx⟩, .cons _ _ _ _ (.name _ _ _ rfl) (.cons _ _ _ _ (.same _ _ (.int _ _)) .nil), k3 _ _, ?_⟩
  clear hs hs0 hs1 hs2 hs3 k1 k2 k3 hrd
  have eE : noteE P w = bif P.turn == 0 then 6 else bif (kget P.words P.turn P.me).isSome then 5 else bif w == 0 then 1 else 0 := rfl
  have eP : noteE P w ≠ 0 → noteP P w = P := fun h => by
   unfold noteP
   rw [show (noteE P w == 0) = false by simpa using h]; rfl
  unfold rcon
  refine evC_go0K (s' := ⟨[(0, 0, zP 1), (0, 1, zU w), (0, 4, zI 0), (1, 0, zI P.me), (1, 1, zI P.n), (1, 2, zI P.turn), (1, 3, zI P.iss), (1, 4, .arr 8 (nI P.hd)), (1, 12, zV 2), (1, 13, zV 3), (1, 14, .top), (2, 0, .vec 3 81 P.sets.length (rsF P.sets)), (3, 0, .vec 3 89 P.words.length (rwF P.words))], 36, 42⟩) ?_
  refine evC_seq ?_
  refine evC_go0K (s' := ⟨[(0, 0, zP 1), (0, 1, zU w), (0, 4, zI 0), (0, 9, zB (P.turn == 0)), (1, 0, zI P.me), (1, 1, zI P.n), (1, 2, zI P.turn), (1, 3, zI P.iss), (1, 4, .arr 8 (nI P.hd)), (1, 12, zV 2), (1, 13, zV 3), (1, 14, .top), (2, 0, .vec 3 81 P.sets.length (rsF P.sets)), (3, 0, .vec 3 89 P.words.length (rwF P.words))], 196, 42⟩) ?_
  refine evC_if (q := P.turn == 0) (by kernel_rfl) (fun hc => ?_) (fun hc => ?_)
  ·rw [hc] at eE
   simp only [cond_true] at eE
   rw [eP (by rw [eE]; decide), eE]
   refine evC_wk (s' := ⟨[(0, 0, zP 1), (0, 1, zU w), (0, 4, zI 0), (0, 9, zB (P.turn == 0)), (1, 0, zI P.me), (1, 1, zI P.n), (1, 2, zI P.turn), (1, 3, zI P.iss), (1, 4, .arr 8 (nI P.hd)), (1, 12, zV 196), (1, 13, zV 3), (1, 14, .top), (196, 0, .vec 3 81 P.sets.length (rsF P.sets)), (3, 0, .vec 3 89 P.words.length (rwF P.words))], 197, 42⟩) _ (wk_take 2 rfl rfl rfl ⟨⟨_, rfl, rfl⟩, ⟨_, rfl, rfl⟩, ⟨_, rfl, rfl⟩, ⟨_, rfl, rfl⟩, ⟨_, rfl, rfl⟩, ⟨_, rfl, rfl⟩, ⟨_, rfl, rfl⟩, ⟨_, rfl, rfl⟩, ⟨_, rfl, rfl, fun _ _ => rfl⟩, ⟨_, rfl, rfl⟩, ⟨_, rfl, rfl⟩, ⟨_, rfl, trivial⟩, ⟨_, rfl, rfl, rfl, rfl, fun _ _ => rfl⟩, ⟨_, rfl, rfl, rfl, rfl, fun _ _ => rfl⟩, trivial⟩) ?_
   refine evC_wk (s' := ⟨[(0, 0, zP 1), (0, 1, zU w), (0, 4, zI 0), (0, 9, zB (P.turn == 0)), (1, 0, zI P.me), (1, 1, zI P.n), (1, 2, zI P.turn), (1, 3, zI P.iss), (1, 4, .arr 8 (nI P.hd)), (1, 12, zV 196), (1, 13, zV 197), (1, 14, .top), (196, 0, .vec 3 81 P.sets.length (rsF P.sets)), (197, 0, .vec 3 89 P.words.length (rwF P.words))], 198, 42⟩) _ (wk_take 3 rfl rfl rfl ⟨⟨_, rfl, rfl⟩, ⟨_, rfl, rfl⟩, ⟨_, rfl, rfl⟩, ⟨_, rfl, rfl⟩, ⟨_, rfl, rfl⟩, ⟨_, rfl, rfl⟩, ⟨_, rfl, rfl⟩, ⟨_, rfl, rfl⟩, ⟨_, rfl, rfl, fun _ _ => rfl⟩, ⟨_, rfl, rfl⟩, ⟨_, rfl, rfl⟩, ⟨_, rfl, trivial⟩, ⟨_, rfl, rfl, rfl, rfl, fun _ _ => rfl⟩, ⟨_, rfl, rfl, rfl, rfl, fun _ _ => rfl⟩, trivial⟩) ?_
   refine evC_go0K (s' := ⟨[(0, 0, zP 1), (0, 1, zU w), (0, 4, zI 6), (1, 0, zI P.me), (1, 1, zI P.n), (1, 2, zI P.turn), (1, 3, zI P.iss), (1, 4, .arr 8 (nI P.hd)), (1, 12, zV 196), (1, 13, zV 197), (1, 14, .top), (196, 0, .vec 3 81 P.sets.length (rsF P.sets)), (197, 0, .vec 3 89 P.words.length (rwF P.words))], 230, 42⟩) ?_
   refine evC_ret ?_
   refine then_ret ?_
   refine post_ret ?_
   refine ends_go [196, 197] (AV.int IntKind.i64 6) [(1, 0, zI P.me), (1, 1, zI P.n), (1, 2, zI P.turn), (1, 3, zI P.iss), (1, 4, .arr 8 (nI P.hd)), (1, 12, zV 4), (1, 13, zV 5), (1, 14, .top), (4, 0, .vec 3 81 P.sets.length (rsF P.sets)), (5, 0, .vec 3 89 P.words.length (rwF P.words))] rfl (by decide) rfl rfl (has_of _ rfl) rfl ⟨⟨_, rfl, rfl⟩, ⟨_, rfl, rfl⟩, ⟨_, rfl, rfl⟩, ⟨_, rfl, rfl⟩, ⟨_, rfl, ⟨rfl, fun _ _ => rfl⟩⟩, ⟨_, rfl, rfl⟩, ⟨_, rfl, rfl⟩, ⟨_, rfl, trivial⟩, ⟨_, rfl, ⟨rfl, rfl, rfl, fun _ _ => rfl⟩⟩, ⟨_, rfl, ⟨rfl, rfl, rfl, fun _ _ => rfl⟩⟩, trivial⟩ ⟨fun _ => ⟨1, _, rfl, rfl, rfl, ⟨has_of _ rfl, rfl⟩⟩, fun _ => ⟨1, _, rfl, rfl, rfl, ⟨has_of _ rfl, rfl⟩⟩, fun _ => ⟨1, _, rfl, rfl, rfl, ⟨has_of _ rfl, rfl⟩⟩, fun _ => ⟨1, _, rfl, rfl, rfl, ⟨has_of _ rfl, rfl⟩⟩, fun _ => ⟨1, _, rfl, rfl, rfl, ⟨rfl, fun _ _ => ⟨has_of _ rfl, rfl⟩⟩⟩, fun _ => ⟨1, _, rfl, rfl, rfl, ⟨has_of _ rfl, rfl⟩⟩, fun _ => ⟨1, _, rfl, rfl, rfl, ⟨has_of _ rfl, rfl⟩⟩, fun h => False.elim h, fun h => False.elim h, fun _ => ⟨4, _, rfl, rfl, rfl, ⟨rfl, rfl, rfl, fun _ _ => ⟨has_of _ rfl, rfl⟩⟩⟩, fun _ => ⟨5, _, rfl, rfl, rfl, ⟨rfl, rfl, rfl, fun _ _ => ⟨has_of _ rfl, rfl⟩⟩⟩, trivial⟩ ?_
   exact k5 _ _ rfl
  ·rw [hc] at eE
   clear hc
   refine evC_skip ?_
   refine then_normal ?_
   refine evC_seq ?_
   refine evC_goK (ps := [(0 < 1 ∧ 0 < 2 ∧ 0 < 3 ∧ 1 ≠ 2 ∧ 1 ≠ 3 ∧ 2 ≠ 3) ∧ (∀ (i : Nat), i < P.sets.length → rsF P.sets i = rsF (rsL P.sets.length (rsF P.sets)) i) ∧ (∀ (i : Nat), i < P.words.length → rwF P.words i = rwF (rwL P.words.length (rwF P.words)) i) ∧ ∀ (i : Nat), i < (8 : Nat) → nI P.hd i = nI (If (nI P.hd)) i, List.length (rwL P.words.length (rwF P.words)) ≤ (1000000 : Nat)]) (s' := ⟨[(0, 0, zP 1), (0, 1, zU w), (0, 4, zI 0), (0, 20, zB (wordV (etR P) P.turn P.me != 0)), (1, 0, zI P.me), (1, 1, zI P.n), (1, 2, zI P.turn), (1, 3, zI P.iss), (1, 4, .arr 8 (nI P.hd)), (1, 12, zV 2), (1, 13, zV 3), (1, 14, .top), (2, 0, .vec 3 81 P.sets.length (rsF P.sets)), (3, 0, .vec 3 89 P.words.length (rwF P.words))], 548, 42⟩) ?_ ?_
   ·exact ⟨ref_side P ⟨by decide, by decide, by decide, by decide, by decide, by decide⟩, by rw [rwL_len]; exact hR.2.2⟩
   rw [ref_eta hR, word_some hW]
   refine evC_if (q := Option.isSome (kget P.words P.turn P.me)) (by kernel_rfl) (fun hc => ?_) (fun hc => ?_)
   ·rw [hc] at eE
    simp only [cond_true, cond_false] at eE
    rw [eP (by rw [eE]; decide), eE]
    refine evC_wk (s' := ⟨[(0, 0, zP 1), (0, 1, zU w), (0, 4, zI 0), (0, 20, zB (Option.isSome (kget P.words P.turn P.me))), (1, 0, zI P.me), (1, 1, zI P.n), (1, 2, zI P.turn), (1, 3, zI P.iss), (1, 4, .arr 8 (nI P.hd)), (1, 12, zV 548), (1, 13, zV 3), (1, 14, .top), (548, 0, .vec 3 81 P.sets.length (rsF P.sets)), (3, 0, .vec 3 89 P.words.length (rwF P.words))], 549, 42⟩) _ (wk_take 2 rfl rfl rfl ⟨⟨_, rfl, rfl⟩, ⟨_, rfl, rfl⟩, ⟨_, rfl, rfl⟩, ⟨_, rfl, rfl⟩, ⟨_, rfl, rfl⟩, ⟨_, rfl, rfl⟩, ⟨_, rfl, rfl⟩, ⟨_, rfl, rfl⟩, ⟨_, rfl, rfl, fun _ _ => rfl⟩, ⟨_, rfl, rfl⟩, ⟨_, rfl, rfl⟩, ⟨_, rfl, trivial⟩, ⟨_, rfl, rfl, rfl, rfl, fun _ _ => rfl⟩, ⟨_, rfl, rfl, rfl, rfl, fun _ _ => rfl⟩, trivial⟩) ?_
    refine evC_wk (s' := ⟨[(0, 0, zP 1), (0, 1, zU w), (0, 4, zI 0), (0, 20, zB (Option.isSome (kget P.words P.turn P.me))), (1, 0, zI P.me), (1, 1, zI P.n), (1, 2, zI P.turn), (1, 3, zI P.iss), (1, 4, .arr 8 (nI P.hd)), (1, 12, zV 548), (1, 13, zV 549), (1, 14, .top), (548, 0, .vec 3 81 P.sets.length (rsF P.sets)), (549, 0, .vec 3 89 P.words.length (rwF P.words))], 550, 42⟩) _ (wk_take 3 rfl rfl rfl ⟨⟨_, rfl, rfl⟩, ⟨_, rfl, rfl⟩, ⟨_, rfl, rfl⟩, ⟨_, rfl, rfl⟩, ⟨_, rfl, rfl⟩, ⟨_, rfl, rfl⟩, ⟨_, rfl, rfl⟩, ⟨_, rfl, rfl⟩, ⟨_, rfl, rfl, fun _ _ => rfl⟩, ⟨_, rfl, rfl⟩, ⟨_, rfl, rfl⟩, ⟨_, rfl, trivial⟩, ⟨_, rfl, rfl, rfl, rfl, fun _ _ => rfl⟩, ⟨_, rfl, rfl, rfl, rfl, fun _ _ => rfl⟩, trivial⟩) ?_
    refine evC_go0K (s' := ⟨[(0, 0, zP 1), (0, 1, zU w), (0, 4, zI 5), (1, 0, zI P.me), (1, 1, zI P.n), (1, 2, zI P.turn), (1, 3, zI P.iss), (1, 4, .arr 8 (nI P.hd)), (1, 12, zV 548), (1, 13, zV 549), (1, 14, .top), (548, 0, .vec 3 81 P.sets.length (rsF P.sets)), (549, 0, .vec 3 89 P.words.length (rwF P.words))], 582, 42⟩) ?_
    refine evC_ret ?_
    refine then_ret ?_
    refine post_ret ?_
    refine ends_go [548, 549] (AV.int IntKind.i64 5) [(1, 0, zI P.me), (1, 1, zI P.n), (1, 2, zI P.turn), (1, 3, zI P.iss), (1, 4, .arr 8 (nI P.hd)), (1, 12, zV 4), (1, 13, zV 5), (1, 14, .top), (4, 0, .vec 3 81 P.sets.length (rsF P.sets)), (5, 0, .vec 3 89 P.words.length (rwF P.words))] rfl (by decide) rfl rfl (has_of _ rfl) rfl ⟨⟨_, rfl, rfl⟩, ⟨_, rfl, rfl⟩, ⟨_, rfl, rfl⟩, ⟨_, rfl, rfl⟩, ⟨_, rfl, ⟨rfl, fun _ _ => rfl⟩⟩, ⟨_, rfl, rfl⟩, ⟨_, rfl, rfl⟩, ⟨_, rfl, trivial⟩, ⟨_, rfl, ⟨rfl, rfl, rfl, fun _ _ => rfl⟩⟩, ⟨_, rfl, ⟨rfl, rfl, rfl, fun _ _ => rfl⟩⟩, trivial⟩ ⟨fun _ => ⟨1, _, rfl, rfl, rfl, ⟨has_of _ rfl, rfl⟩⟩, fun _ => ⟨1, _, rfl, rfl, rfl, ⟨has_of _ rfl, rfl⟩⟩, fun _ => ⟨1, _, rfl, rfl, rfl, ⟨has_of _ rfl, rfl⟩⟩, fun _ => ⟨1, _, rfl, rfl, rfl, ⟨has_of _ rfl, rfl⟩⟩, fun _ => ⟨1, _, rfl, rfl, rfl, ⟨rfl, fun _ _ => ⟨has_of _ rfl, rfl⟩⟩⟩, fun _ => ⟨1, _, rfl, rfl, rfl, ⟨has_of _ rfl, rfl⟩⟩, fun _ => ⟨1, _, rfl, rfl, rfl, ⟨has_of _ rfl, rfl⟩⟩, fun h => False.elim h, fun h => False.elim h, fun _ => ⟨4, _, rfl, rfl, rfl, ⟨rfl, rfl, rfl, fun _ _ => ⟨has_of _ rfl, rfl⟩⟩⟩, fun _ => ⟨5, _, rfl, rfl, rfl, ⟨rfl, rfl, rfl, fun _ _ => ⟨has_of _ rfl, rfl⟩⟩⟩, trivial⟩ ?_
    exact k5 _ _ rfl
   ·rw [hc] at eE
    have hno : kget P.words P.turn P.me = none := by simpa using hc
    clear hc
    refine evC_skip ?_
    refine then_normal ?_
    refine evC_seq ?_
    refine evC_go0K (s' := ⟨[(0, 0, zP 1), (0, 1, zU w), (0, 4, zI 0), (0, 22, zB (w == 0)), (1, 0, zI P.me), (1, 1, zI P.n), (1, 2, zI P.turn), (1, 3, zI P.iss), (1, 4, .arr 8 (nI P.hd)), (1, 12, zV 2), (1, 13, zV 3), (1, 14, .top), (2, 0, .vec 3 81 P.sets.length (rsF P.sets)), (3, 0, .vec 3 89 P.words.length (rwF P.words))], 612, 42⟩) ?_
    refine evC_if (q := w == 0) (by kernel_rfl) (fun hc => ?_) (fun hc => ?_)
    ·rw [hc] at eE
     simp only [cond_true, cond_false] at eE
     rw [eP (by rw [eE]; decide), eE]
     refine evC_wk (s' := ⟨[(0, 0, zP 1), (0, 1, zU w), (0, 4, zI 0), (0, 22, zB (w == 0)), (1, 0, zI P.me), (1, 1, zI P.n), (1, 2, zI P.turn), (1, 3, zI P.iss), (1, 4, .arr 8 (nI P.hd)), (1, 12, zV 612), (1, 13, zV 3), (1, 14, .top), (612, 0, .vec 3 81 P.sets.length (rsF P.sets)), (3, 0, .vec 3 89 P.words.length (rwF P.words))], 613, 42⟩) _ (wk_take 2 rfl rfl rfl ⟨⟨_, rfl, rfl⟩, ⟨_, rfl, rfl⟩, ⟨_, rfl, rfl⟩, ⟨_, rfl, rfl⟩, ⟨_, rfl, rfl⟩, ⟨_, rfl, rfl⟩, ⟨_, rfl, rfl⟩, ⟨_, rfl, rfl⟩, ⟨_, rfl, rfl, fun _ _ => rfl⟩, ⟨_, rfl, rfl⟩, ⟨_, rfl, rfl⟩, ⟨_, rfl, trivial⟩, ⟨_, rfl, rfl, rfl, rfl, fun _ _ => rfl⟩, ⟨_, rfl, rfl, rfl, rfl, fun _ _ => rfl⟩, trivial⟩) ?_
     refine evC_wk (s' := ⟨[(0, 0, zP 1), (0, 1, zU w), (0, 4, zI 0), (0, 22, zB (w == 0)), (1, 0, zI P.me), (1, 1, zI P.n), (1, 2, zI P.turn), (1, 3, zI P.iss), (1, 4, .arr 8 (nI P.hd)), (1, 12, zV 612), (1, 13, zV 613), (1, 14, .top), (612, 0, .vec 3 81 P.sets.length (rsF P.sets)), (613, 0, .vec 3 89 P.words.length (rwF P.words))], 614, 42⟩) _ (wk_take 3 rfl rfl rfl ⟨⟨_, rfl, rfl⟩, ⟨_, rfl, rfl⟩, ⟨_, rfl, rfl⟩, ⟨_, rfl, rfl⟩, ⟨_, rfl, rfl⟩, ⟨_, rfl, rfl⟩, ⟨_, rfl, rfl⟩, ⟨_, rfl, rfl⟩, ⟨_, rfl, rfl, fun _ _ => rfl⟩, ⟨_, rfl, rfl⟩, ⟨_, rfl, rfl⟩, ⟨_, rfl, trivial⟩, ⟨_, rfl, rfl, rfl, rfl, fun _ _ => rfl⟩, ⟨_, rfl, rfl, rfl, rfl, fun _ _ => rfl⟩, trivial⟩) ?_
     refine evC_go0K (s' := ⟨[(0, 0, zP 1), (0, 1, zU w), (0, 4, zI 1), (1, 0, zI P.me), (1, 1, zI P.n), (1, 2, zI P.turn), (1, 3, zI P.iss), (1, 4, .arr 8 (nI P.hd)), (1, 12, zV 612), (1, 13, zV 613), (1, 14, .top), (612, 0, .vec 3 81 P.sets.length (rsF P.sets)), (613, 0, .vec 3 89 P.words.length (rwF P.words))], 646, 42⟩) ?_
     refine evC_ret ?_
     refine then_ret ?_
     refine post_ret ?_
     refine ends_go [612, 613] (AV.int IntKind.i64 1) [(1, 0, zI P.me), (1, 1, zI P.n), (1, 2, zI P.turn), (1, 3, zI P.iss), (1, 4, .arr 8 (nI P.hd)), (1, 12, zV 4), (1, 13, zV 5), (1, 14, .top), (4, 0, .vec 3 81 P.sets.length (rsF P.sets)), (5, 0, .vec 3 89 P.words.length (rwF P.words))] rfl (by decide) rfl rfl (has_of _ rfl) rfl ⟨⟨_, rfl, rfl⟩, ⟨_, rfl, rfl⟩, ⟨_, rfl, rfl⟩, ⟨_, rfl, rfl⟩, ⟨_, rfl, ⟨rfl, fun _ _ => rfl⟩⟩, ⟨_, rfl, rfl⟩, ⟨_, rfl, rfl⟩, ⟨_, rfl, trivial⟩, ⟨_, rfl, ⟨rfl, rfl, rfl, fun _ _ => rfl⟩⟩, ⟨_, rfl, ⟨rfl, rfl, rfl, fun _ _ => rfl⟩⟩, trivial⟩ ⟨fun _ => ⟨1, _, rfl, rfl, rfl, ⟨has_of _ rfl, rfl⟩⟩, fun _ => ⟨1, _, rfl, rfl, rfl, ⟨has_of _ rfl, rfl⟩⟩, fun _ => ⟨1, _, rfl, rfl, rfl, ⟨has_of _ rfl, rfl⟩⟩, fun _ => ⟨1, _, rfl, rfl, rfl, ⟨has_of _ rfl, rfl⟩⟩, fun _ => ⟨1, _, rfl, rfl, rfl, ⟨rfl, fun _ _ => ⟨has_of _ rfl, rfl⟩⟩⟩, fun _ => ⟨1, _, rfl, rfl, rfl, ⟨has_of _ rfl, rfl⟩⟩, fun _ => ⟨1, _, rfl, rfl, rfl, ⟨has_of _ rfl, rfl⟩⟩, fun h => False.elim h, fun h => False.elim h, fun _ => ⟨4, _, rfl, rfl, rfl, ⟨rfl, rfl, rfl, fun _ _ => ⟨has_of _ rfl, rfl⟩⟩⟩, fun _ => ⟨5, _, rfl, rfl, rfl, ⟨rfl, rfl, rfl, fun _ _ => ⟨has_of _ rfl, rfl⟩⟩⟩, trivial⟩ ?_
     exact k5 _ _ rfl
    ·rw [hc] at eE
     simp only [cond_false] at eE
     have hP : noteP P w = ⟨P.me, P.n, P.turn, P.iss, P.hd, P.sets, kput P.words P.turn P.me w⟩ := by unfold noteP; rw [eE]; rfl
     rw [hP, eE, kput_new hno]
     clear hc
     have hl1 := hR.2.2
     refine evC_skip ?_
     refine then_normal ?_
     refine evC_wk (s' := ⟨[(0, 0, zP 1), (0, 1, zU w), (0, 4, zI 0), (0, 22, zB (w == 0)), (1, 0, zI P.me), (1, 1, zI P.n), (1, 2, zI P.turn), (1, 3, zI P.iss), (1, 4, .arr 8 (nI P.hd)), (1, 12, zV 612), (1, 13, zV 3), (1, 14, .top), (612, 0, .vec 3 81 P.sets.length (rsF P.sets)), (3, 0, .vec 3 89 P.words.length (rwF P.words))], 613, 42⟩) _ (wk_take 2 rfl rfl rfl ⟨⟨_, rfl, rfl⟩, ⟨_, rfl, rfl⟩, ⟨_, rfl, rfl⟩, ⟨_, rfl, rfl⟩, ⟨_, rfl, rfl⟩, ⟨_, rfl, rfl⟩, ⟨_, rfl, rfl⟩, ⟨_, rfl, rfl⟩, ⟨_, rfl, rfl, fun _ _ => rfl⟩, ⟨_, rfl, rfl⟩, ⟨_, rfl, rfl⟩, ⟨_, rfl, trivial⟩, ⟨_, rfl, rfl, rfl, rfl, fun _ _ => rfl⟩, ⟨_, rfl, rfl, rfl, rfl, fun _ _ => rfl⟩, trivial⟩) ?_
     refine evC_wk (s' := ⟨[(0, 0, zP 1), (0, 1, zU w), (0, 4, zI 0), (0, 22, zB (w == 0)), (1, 0, zI P.me), (1, 1, zI P.n), (1, 2, zI P.turn), (1, 3, zI P.iss), (1, 4, .arr 8 (nI P.hd)), (1, 12, zV 612), (1, 13, zV 613), (1, 14, .top), (612, 0, .vec 3 81 P.sets.length (rsF P.sets)), (613, 0, .vec 3 89 P.words.length (rwF P.words))], 614, 42⟩) _ (wk_take 3 rfl rfl rfl ⟨⟨_, rfl, rfl⟩, ⟨_, rfl, rfl⟩, ⟨_, rfl, rfl⟩, ⟨_, rfl, rfl⟩, ⟨_, rfl, rfl⟩, ⟨_, rfl, rfl⟩, ⟨_, rfl, rfl⟩, ⟨_, rfl, rfl⟩, ⟨_, rfl, rfl, fun _ _ => rfl⟩, ⟨_, rfl, rfl⟩, ⟨_, rfl, rfl⟩, ⟨_, rfl, trivial⟩, ⟨_, rfl, rfl, rfl, rfl, fun _ _ => rfl⟩, ⟨_, rfl, rfl, rfl, rfl, fun _ _ => rfl⟩, trivial⟩) ?_
     refine evC_goK (ps := [(P.words.length + (1 : Nat)) * 24 ≤ 140737488355328, P.words.length + (1 : Nat) ≤ maxLen, 1 = 0 ∨ 3 = 3, 3 = 3, 89 = 89]) (s' := ⟨[(0, 4, zI 0), (1, 0, zI P.me), (1, 1, zI P.n), (1, 2, zI P.turn), (1, 3, zI P.iss), (1, 4, .arr 8 (nI P.hd)), (1, 12, zV 612), (1, 13, zV 1126), (1, 14, .top), (612, 0, .vec 3 81 P.sets.length (rsF P.sets)), (1126, 0, .vec 3 89 (P.words.length + 1) (catF P.words.length (rwF P.words) (pget [(0, AV.agg ([AV.int IntKind.i64 P.turn, AV.int IntKind.i64 P.me] ++ AV.cells (AV.int IntKind.u64 w) ++ []))])))], 1254, 42⟩) ?_ ?_
     ·exact ⟨by omega, by unfold maxLen; omega, .inr rfl, rfl, rfl⟩
     refine evC_wk (s' := ⟨[(0, 4, zI 0), (1, 0, zI P.me), (1, 1, zI P.n), (1, 2, zI P.turn), (1, 3, zI P.iss), (1, 4, Cont.arr 8 (nI P.hd)), (1, 12, zV 4), (1, 13, zV 5), (1, 14, Cont.top), (4, 0, Cont.vec 3 81 P.sets.length (rsF P.sets)), (5, 0, .vec 3 89 (P.words ++ [((P.turn, P.me), w)]).length (rwF (P.words ++ [((P.turn, P.me), w)])))], 6, 42⟩) _ (wk_go [612, 1126] rfl (by decide) rfl rfl ⟨⟨_, rfl, rfl⟩, ⟨_, rfl, rfl⟩, ⟨_, rfl, rfl⟩, ⟨_, rfl, rfl⟩, ⟨_, rfl, rfl⟩, ⟨_, rfl, rfl, fun _ _ => rfl⟩, ⟨_, rfl, rfl⟩, ⟨_, rfl, rfl⟩, ⟨_, rfl, trivial⟩, ⟨_, rfl, rfl, rfl, rfl, fun _ _ => rfl⟩, ⟨_, rfl, ?_⟩, trivial⟩) ?_
     ·exact ⟨rfl, rfl, by rw [List.length_append]; rfl, fun i hi => cat_rw P.words ((P.turn, P.me), w) rfl i (by rw [List.length_append] at hi; exact hi)⟩
     refine evC_go0K (s' := ⟨[(0, 4, zI 0), (1, 0, zI P.me), (1, 1, zI P.n), (1, 2, zI P.turn), (1, 3, zI P.iss), (1, 4, .arr 8 (nI P.hd)), (1, 12, zV 4), (1, 13, zV 5), (1, 14, .top), (4, 0, .vec 3 81 P.sets.length (rsF P.sets)), (5, 0, .vec 3 89 (List.length (P.words ++ [((P.turn, P.me), w)])) (rwF (P.words ++ [((P.turn, P.me), w)])))], 38, 42⟩) ?_
     refine evC_ret ?_
     refine post_ret ?_
     refine ends_go [4, 5] (AV.int IntKind.i64 0) [(1, 0, zI P.me), (1, 1, zI P.n), (1, 2, zI P.turn), (1, 3, zI P.iss), (1, 4, .arr 8 (nI P.hd)), (1, 12, zV 4), (1, 13, zV 5), (1, 14, .top), (4, 0, .vec 3 81 P.sets.length (rsF P.sets)), (5, 0, .vec 3 89 (List.length (P.words ++ [((P.turn, P.me), w)])) (rwF (P.words ++ [((P.turn, P.me), w)])))] rfl (by decide) rfl rfl (has_of _ rfl) rfl ⟨⟨_, rfl, rfl⟩, ⟨_, rfl, rfl⟩, ⟨_, rfl, rfl⟩, ⟨_, rfl, rfl⟩, ⟨_, rfl, ⟨rfl, fun _ _ => rfl⟩⟩, ⟨_, rfl, rfl⟩, ⟨_, rfl, rfl⟩, ⟨_, rfl, trivial⟩, ⟨_, rfl, ⟨rfl, rfl, rfl, fun _ _ => rfl⟩⟩, ⟨_, rfl, ⟨rfl, rfl, rfl, fun _ _ => rfl⟩⟩, trivial⟩ ⟨fun _ => ⟨1, _, rfl, rfl, rfl, ⟨has_of _ rfl, rfl⟩⟩, fun _ => ⟨1, _, rfl, rfl, rfl, ⟨has_of _ rfl, rfl⟩⟩, fun _ => ⟨1, _, rfl, rfl, rfl, ⟨has_of _ rfl, rfl⟩⟩, fun _ => ⟨1, _, rfl, rfl, rfl, ⟨has_of _ rfl, rfl⟩⟩, fun _ => ⟨1, _, rfl, rfl, rfl, ⟨rfl, fun _ _ => ⟨has_of _ rfl, rfl⟩⟩⟩, fun _ => ⟨1, _, rfl, rfl, rfl, ⟨has_of _ rfl, rfl⟩⟩, fun _ => ⟨1, _, rfl, rfl, rfl, ⟨has_of _ rfl, rfl⟩⟩, fun h => False.elim h, fun h => False.elim h, fun _ => ⟨4, _, rfl, rfl, rfl, ⟨rfl, rfl, rfl, fun _ _ => ⟨has_of _ rfl, rfl⟩⟩⟩, fun _ => ⟨5, _, rfl, rfl, rfl, ⟨rfl, rfl, rfl, fun _ _ => ⟨has_of _ rfl, rfl⟩⟩⟩, trivial⟩ ?_
     ·exact k5 _ _ rfl
 ·cases e
def sRIssue : Spec := fun args hr nb => match args with
 | [v, .str l] => withRef hr v fun n b c P s rd => some ⟨[s, okT P, OkR P, kget P.sets P.iss P.me = none], .int .i64 (issE P l.size), rd, rnew n b c nb (issP P (blS l))⟩
 | _ => none
theorem rissue_ok : SpecOK Try.prog 24 sRIssue := by
 refine spec_at (by kernel_rfl) T_ok sget_nil Try.func24 rfl rfl fun args hr nb out e => ?_
 unfold sRIssue at e
 split at e
 ·rename_i v l
  obtain ⟨n, b, c, P, s, rd, rfl, e, hrd, hs0, hs1, hs2, hs3⟩ := ref_open e
  injection e with e; subst e
  refine ⟨hrd, true, [n, b, c], [.ptr 1 0, .str l], rcon 1 2 3 P, rfl, fun hs => ?_⟩
  obtain ⟨k1, k2, k3⟩ := hs0 (hs _ List.mem_cons_self)
  have k4 := hs1 (hs _ List.mem_cons_self) [] nb
  obtain ⟨hT1, hT2⟩ := hs _ (List.mem_cons_of_mem _ List.mem_cons_self)
  have hR := hs _ (List.mem_cons_of_mem _ (List.mem_cons_of_mem _ List.mem_cons_self))
  have hno := hs _ (List.mem_cons_of_mem _ (List.mem_cons_of_mem _ (List.mem_cons_of_mem _ List.mem_cons_self)))
  have k5 := hs3 (hs _ List.mem_cons_self) [] nb nb
  refine ⟨k1, fun z hz => ⟨(k2 z hz).1, (k2 z hz).2 _ fun x hx => hx⟩, .cons _ _ _ _ (.name _ _ _ rfl) (.cons _ _ _ _ (.same _ _ (.str _)) .nil), k3 _ _, ?_⟩
  clear hs hs0 hs1 hs2 hs3 k1 k2 k3 hrd
  have eE : issE P l.size = bif decide ((l.size : Int) > 704) then 1 else bif decide (P.iss ≥ P.turn + 8) then 5 else 0 := rfl
  have eP : issE P l.size ≠ 0 → issP P (blS l) = P := fun h => by
   unfold issP
   rw [blS_len, show (issE P l.size == 0) = false by simpa using h]; rfl
  unfold rcon
  refine evC_go0K (s' := ⟨[(0, 0, zP 1), (0, 1, zS l), (0, 4, zI 0), (1, 0, zI P.me), (1, 1, zI P.n), (1, 2, zI P.turn), (1, 3, zI P.iss), (1, 4, .arr 8 (nI P.hd)), (1, 12, zV 2), (1, 13, zV 3), (1, 14, .top), (2, 0, .vec 3 81 P.sets.length (rsF P.sets)), (3, 0, .vec 3 89 P.words.length (rwF P.words))], 36, 44⟩) ?_
  refine evC_seq ?_
  refine evC_go0K (s' := ⟨[(0, 0, zP 1), (0, 1, zS l), (0, 4, zI 0), (0, 7, zB (decide ((↑(ByteArray.size l) : Int) > 704))), (1, 0, zI P.me), (1, 1, zI P.n), (1, 2, zI P.turn), (1, 3, zI P.iss), (1, 4, .arr 8 (nI P.hd)), (1, 12, zV 2), (1, 13, zV 3), (1, 14, .top), (2, 0, .vec 3 81 P.sets.length (rsF P.sets)), (3, 0, .vec 3 89 P.words.length (rwF P.words))], 132, 44⟩) ?_
  refine evC_if (q := decide ((↑(ByteArray.size l) : Int) > 704)) (by kernel_rfl) (fun hc => ?_) (fun hc => ?_)
  ·rw [hc] at eE
   simp only [cond_true] at eE
   rw [eP (by rw [eE]; decide), eE]
   refine evC_wk (s' := ⟨[(0, 0, zP 1), (0, 1, zS l), (0, 4, zI 0), (0, 7, zB (decide ((↑(ByteArray.size l) : Int) > 704))), (1, 0, zI P.me), (1, 1, zI P.n), (1, 2, zI P.turn), (1, 3, zI P.iss), (1, 4, .arr 8 (nI P.hd)), (1, 12, zV 132), (1, 13, zV 3), (1, 14, .top), (132, 0, .vec 3 81 P.sets.length (rsF P.sets)), (3, 0, .vec 3 89 P.words.length (rwF P.words))], 133, 44⟩) _ (wk_take 2 rfl rfl rfl ⟨⟨_, rfl, rfl⟩, ⟨_, rfl, rfl⟩, ⟨_, rfl, rfl⟩, ⟨_, rfl, rfl⟩, ⟨_, rfl, rfl⟩, ⟨_, rfl, rfl⟩, ⟨_, rfl, rfl⟩, ⟨_, rfl, rfl⟩, ⟨_, rfl, rfl, fun _ _ => rfl⟩, ⟨_, rfl, rfl⟩, ⟨_, rfl, rfl⟩, ⟨_, rfl, trivial⟩, ⟨_, rfl, rfl, rfl, rfl, fun _ _ => rfl⟩, ⟨_, rfl, rfl, rfl, rfl, fun _ _ => rfl⟩, trivial⟩) ?_
   refine evC_wk (s' := ⟨[(0, 0, zP 1), (0, 1, zS l), (0, 4, zI 0), (0, 7, zB (decide ((↑(ByteArray.size l) : Int) > 704))), (1, 0, zI P.me), (1, 1, zI P.n), (1, 2, zI P.turn), (1, 3, zI P.iss), (1, 4, .arr 8 (nI P.hd)), (1, 12, zV 132), (1, 13, zV 133), (1, 14, .top), (132, 0, .vec 3 81 P.sets.length (rsF P.sets)), (133, 0, .vec 3 89 P.words.length (rwF P.words))], 134, 44⟩) _ (wk_take 3 rfl rfl rfl ⟨⟨_, rfl, rfl⟩, ⟨_, rfl, rfl⟩, ⟨_, rfl, rfl⟩, ⟨_, rfl, rfl⟩, ⟨_, rfl, rfl⟩, ⟨_, rfl, rfl⟩, ⟨_, rfl, rfl⟩, ⟨_, rfl, rfl⟩, ⟨_, rfl, rfl, fun _ _ => rfl⟩, ⟨_, rfl, rfl⟩, ⟨_, rfl, rfl⟩, ⟨_, rfl, trivial⟩, ⟨_, rfl, rfl, rfl, rfl, fun _ _ => rfl⟩, ⟨_, rfl, rfl, rfl, rfl, fun _ _ => rfl⟩, trivial⟩) ?_
   refine evC_go0K (s' := ⟨[(0, 0, zP 1), (0, 1, zS l), (0, 4, zI 1), (1, 0, zI P.me), (1, 1, zI P.n), (1, 2, zI P.turn), (1, 3, zI P.iss), (1, 4, .arr 8 (nI P.hd)), (1, 12, zV 132), (1, 13, zV 133), (1, 14, .top), (132, 0, .vec 3 81 P.sets.length (rsF P.sets)), (133, 0, .vec 3 89 P.words.length (rwF P.words))], 166, 44⟩) ?_
   refine evC_ret ?_
   refine then_ret ?_
   refine post_ret ?_
   refine ends_go [132, 133] (AV.int IntKind.i64 1) [(1, 0, zI P.me), (1, 1, zI P.n), (1, 2, zI P.turn), (1, 3, zI P.iss), (1, 4, .arr 8 (nI P.hd)), (1, 12, zV 4), (1, 13, zV 5), (1, 14, .top), (4, 0, .vec 3 81 P.sets.length (rsF P.sets)), (5, 0, .vec 3 89 P.words.length (rwF P.words))] rfl (by decide) rfl rfl (has_of _ rfl) rfl ⟨⟨_, rfl, rfl⟩, ⟨_, rfl, rfl⟩, ⟨_, rfl, rfl⟩, ⟨_, rfl, rfl⟩, ⟨_, rfl, ⟨rfl, fun _ _ => rfl⟩⟩, ⟨_, rfl, rfl⟩, ⟨_, rfl, rfl⟩, ⟨_, rfl, trivial⟩, ⟨_, rfl, ⟨rfl, rfl, rfl, fun _ _ => rfl⟩⟩, ⟨_, rfl, ⟨rfl, rfl, rfl, fun _ _ => rfl⟩⟩, trivial⟩ ⟨fun _ => ⟨1, _, rfl, rfl, rfl, ⟨has_of _ rfl, rfl⟩⟩, fun _ => ⟨1, _, rfl, rfl, rfl, ⟨has_of _ rfl, rfl⟩⟩, fun _ => ⟨1, _, rfl, rfl, rfl, ⟨has_of _ rfl, rfl⟩⟩, fun _ => ⟨1, _, rfl, rfl, rfl, ⟨has_of _ rfl, rfl⟩⟩, fun _ => ⟨1, _, rfl, rfl, rfl, ⟨rfl, fun _ _ => ⟨has_of _ rfl, rfl⟩⟩⟩, fun _ => ⟨1, _, rfl, rfl, rfl, ⟨has_of _ rfl, rfl⟩⟩, fun _ => ⟨1, _, rfl, rfl, rfl, ⟨has_of _ rfl, rfl⟩⟩, fun h => False.elim h, fun h => False.elim h, fun _ => ⟨4, _, rfl, rfl, rfl, ⟨rfl, rfl, rfl, fun _ _ => ⟨has_of _ rfl, rfl⟩⟩⟩, fun _ => ⟨5, _, rfl, rfl, rfl, ⟨rfl, rfl, rfl, fun _ _ => ⟨has_of _ rfl, rfl⟩⟩⟩, trivial⟩ ?_
   exact k5 _ _ rfl
  ·rw [hc] at eE
   clear hc
   refine evC_skip ?_
   refine then_normal ?_
   refine evC_seq ?_
   refine evC_go0K (s' := ⟨[(0, 0, zP 1), (0, 1, zS l), (0, 4, zI 0), (0, 17, zB (decide (P.iss ≥ IntKind.i64.wrap (P.turn + 8)))), (1, 0, zI P.me), (1, 1, zI P.n), (1, 2, zI P.turn), (1, 3, zI P.iss), (1, 4, .arr 8 (nI P.hd)), (1, 12, zV 2), (1, 13, zV 3), (1, 14, .top), (2, 0, .vec 3 81 P.sets.length (rsF P.sets)), (3, 0, .vec 3 89 P.words.length (rwF P.words))], 452, 44⟩) ?_
   rw [i64_in (P.turn + 8) (by omega)]
   refine evC_if (q := decide (P.iss ≥ P.turn + 8)) (by kernel_rfl) (fun hc => ?_) (fun hc => ?_)
   ·rw [hc] at eE
    simp only [cond_true, cond_false] at eE
    rw [eP (by rw [eE]; decide), eE]
    refine evC_wk (s' := ⟨[(0, 0, zP 1), (0, 1, zS l), (0, 4, zI 0), (0, 17, zB (decide (P.iss ≥ P.turn + 8))), (1, 0, zI P.me), (1, 1, zI P.n), (1, 2, zI P.turn), (1, 3, zI P.iss), (1, 4, .arr 8 (nI P.hd)), (1, 12, zV 452), (1, 13, zV 3), (1, 14, .top), (452, 0, .vec 3 81 P.sets.length (rsF P.sets)), (3, 0, .vec 3 89 P.words.length (rwF P.words))], 453, 44⟩) _ (wk_take 2 rfl rfl rfl ⟨⟨_, rfl, rfl⟩, ⟨_, rfl, rfl⟩, ⟨_, rfl, rfl⟩, ⟨_, rfl, rfl⟩, ⟨_, rfl, rfl⟩, ⟨_, rfl, rfl⟩, ⟨_, rfl, rfl⟩, ⟨_, rfl, rfl⟩, ⟨_, rfl, rfl, fun _ _ => rfl⟩, ⟨_, rfl, rfl⟩, ⟨_, rfl, rfl⟩, ⟨_, rfl, trivial⟩, ⟨_, rfl, rfl, rfl, rfl, fun _ _ => rfl⟩, ⟨_, rfl, rfl, rfl, rfl, fun _ _ => rfl⟩, trivial⟩) ?_
    refine evC_wk (s' := ⟨[(0, 0, zP 1), (0, 1, zS l), (0, 4, zI 0), (0, 17, zB (decide (P.iss ≥ P.turn + 8))), (1, 0, zI P.me), (1, 1, zI P.n), (1, 2, zI P.turn), (1, 3, zI P.iss), (1, 4, .arr 8 (nI P.hd)), (1, 12, zV 452), (1, 13, zV 453), (1, 14, .top), (452, 0, .vec 3 81 P.sets.length (rsF P.sets)), (453, 0, .vec 3 89 P.words.length (rwF P.words))], 454, 44⟩) _ (wk_take 3 rfl rfl rfl ⟨⟨_, rfl, rfl⟩, ⟨_, rfl, rfl⟩, ⟨_, rfl, rfl⟩, ⟨_, rfl, rfl⟩, ⟨_, rfl, rfl⟩, ⟨_, rfl, rfl⟩, ⟨_, rfl, rfl⟩, ⟨_, rfl, rfl⟩, ⟨_, rfl, rfl, fun _ _ => rfl⟩, ⟨_, rfl, rfl⟩, ⟨_, rfl, rfl⟩, ⟨_, rfl, trivial⟩, ⟨_, rfl, rfl, rfl, rfl, fun _ _ => rfl⟩, ⟨_, rfl, rfl, rfl, rfl, fun _ _ => rfl⟩, trivial⟩) ?_
    refine evC_go0K (s' := ⟨[(0, 0, zP 1), (0, 1, zS l), (0, 4, zI 5), (1, 0, zI P.me), (1, 1, zI P.n), (1, 2, zI P.turn), (1, 3, zI P.iss), (1, 4, .arr 8 (nI P.hd)), (1, 12, zV 452), (1, 13, zV 453), (1, 14, .top), (452, 0, .vec 3 81 P.sets.length (rsF P.sets)), (453, 0, .vec 3 89 P.words.length (rwF P.words))], 486, 44⟩) ?_
    refine evC_ret ?_
    refine then_ret ?_
    refine post_ret ?_
    refine ends_go [452, 453] (AV.int IntKind.i64 5) [(1, 0, zI P.me), (1, 1, zI P.n), (1, 2, zI P.turn), (1, 3, zI P.iss), (1, 4, .arr 8 (nI P.hd)), (1, 12, zV 4), (1, 13, zV 5), (1, 14, .top), (4, 0, .vec 3 81 P.sets.length (rsF P.sets)), (5, 0, .vec 3 89 P.words.length (rwF P.words))] rfl (by decide) rfl rfl (has_of _ rfl) rfl ⟨⟨_, rfl, rfl⟩, ⟨_, rfl, rfl⟩, ⟨_, rfl, rfl⟩, ⟨_, rfl, rfl⟩, ⟨_, rfl, ⟨rfl, fun _ _ => rfl⟩⟩, ⟨_, rfl, rfl⟩, ⟨_, rfl, rfl⟩, ⟨_, rfl, trivial⟩, ⟨_, rfl, ⟨rfl, rfl, rfl, fun _ _ => rfl⟩⟩, ⟨_, rfl, ⟨rfl, rfl, rfl, fun _ _ => rfl⟩⟩, trivial⟩ ⟨fun _ => ⟨1, _, rfl, rfl, rfl, ⟨has_of _ rfl, rfl⟩⟩, fun _ => ⟨1, _, rfl, rfl, rfl, ⟨has_of _ rfl, rfl⟩⟩, fun _ => ⟨1, _, rfl, rfl, rfl, ⟨has_of _ rfl, rfl⟩⟩, fun _ => ⟨1, _, rfl, rfl, rfl, ⟨has_of _ rfl, rfl⟩⟩, fun _ => ⟨1, _, rfl, rfl, rfl, ⟨rfl, fun _ _ => ⟨has_of _ rfl, rfl⟩⟩⟩, fun _ => ⟨1, _, rfl, rfl, rfl, ⟨has_of _ rfl, rfl⟩⟩, fun _ => ⟨1, _, rfl, rfl, rfl, ⟨has_of _ rfl, rfl⟩⟩, fun h => False.elim h, fun h => False.elim h, fun _ => ⟨4, _, rfl, rfl, rfl, ⟨rfl, rfl, rfl, fun _ _ => ⟨has_of _ rfl, rfl⟩⟩⟩, fun _ => ⟨5, _, rfl, rfl, rfl, ⟨rfl, rfl, rfl, fun _ _ => ⟨has_of _ rfl, rfl⟩⟩⟩, trivial⟩ ?_
    exact k5 _ _ rfl
   ·rw [hc] at eE
    simp only [cond_false] at eE
    have hP : issP P (blS l) = ⟨P.me, P.n, P.turn, P.iss + 1, P.hd, kput P.sets P.iss P.me (blS l), P.words⟩ := by unfold issP; rw [blS_len, eE]; rfl
    rw [hP, eE, kput_new hno]
    clear hc
    have hl1 := hR.2.1
    refine evC_skip ?_
    refine then_normal ?_
    refine evC_wk (s' := ⟨[(0, 0, zP 1), (0, 1, zS l), (0, 4, zI 0), (0, 17, zB (decide (P.iss ≥ P.turn + 8))), (1, 0, zI P.me), (1, 1, zI P.n), (1, 2, zI P.turn), (1, 3, zI P.iss), (1, 4, .arr 8 (nI P.hd)), (1, 12, zV 452), (1, 13, zV 3), (1, 14, .top), (452, 0, .vec 3 81 P.sets.length (rsF P.sets)), (3, 0, .vec 3 89 P.words.length (rwF P.words))], 453, 44⟩) _ (wk_take 2 rfl rfl rfl ⟨⟨_, rfl, rfl⟩, ⟨_, rfl, rfl⟩, ⟨_, rfl, rfl⟩, ⟨_, rfl, rfl⟩, ⟨_, rfl, rfl⟩, ⟨_, rfl, rfl⟩, ⟨_, rfl, rfl⟩, ⟨_, rfl, rfl⟩, ⟨_, rfl, rfl, fun _ _ => rfl⟩, ⟨_, rfl, rfl⟩, ⟨_, rfl, rfl⟩, ⟨_, rfl, trivial⟩, ⟨_, rfl, rfl, rfl, rfl, fun _ _ => rfl⟩, ⟨_, rfl, rfl, rfl, rfl, fun _ _ => rfl⟩, trivial⟩) ?_
    refine evC_wk (s' := ⟨[(0, 0, zP 1), (0, 1, zS l), (0, 4, zI 0), (0, 17, zB (decide (P.iss ≥ P.turn + 8))), (1, 0, zI P.me), (1, 1, zI P.n), (1, 2, zI P.turn), (1, 3, zI P.iss), (1, 4, .arr 8 (nI P.hd)), (1, 12, zV 452), (1, 13, zV 453), (1, 14, .top), (452, 0, .vec 3 81 P.sets.length (rsF P.sets)), (453, 0, .vec 3 89 P.words.length (rwF P.words))], 454, 44⟩) _ (wk_take 3 rfl rfl rfl ⟨⟨_, rfl, rfl⟩, ⟨_, rfl, rfl⟩, ⟨_, rfl, rfl⟩, ⟨_, rfl, rfl⟩, ⟨_, rfl, rfl⟩, ⟨_, rfl, rfl⟩, ⟨_, rfl, rfl⟩, ⟨_, rfl, rfl⟩, ⟨_, rfl, rfl, fun _ _ => rfl⟩, ⟨_, rfl, rfl⟩, ⟨_, rfl, rfl⟩, ⟨_, rfl, trivial⟩, ⟨_, rfl, rfl, rfl, rfl, fun _ _ => rfl⟩, ⟨_, rfl, rfl, rfl, rfl, fun _ _ => rfl⟩, trivial⟩) ?_
    refine evC_goK (ps := [(P.sets.length + (1 : Nat)) * 32 ≤ 140737488355328, P.sets.length + (1 : Nat) ≤ maxLen, 1 = 0 ∨ 3 = 3, 3 = 3, 81 = 81]) (s' := ⟨[(0, 0, zP 1), (0, 4, zI 0), (1, 0, zI P.me), (1, 1, zI P.n), (1, 2, zI P.turn), (1, 3, zI P.iss), (1, 4, .arr 8 (nI P.hd)), (1, 12, zV 966), (1, 13, zV 453), (1, 14, .top), (453, 0, .vec 3 89 P.words.length (rwF P.words)), (966, 0, .vec 3 81 (P.sets.length + 1) (catF P.sets.length (rsF P.sets) (pget [(0, AV.agg ([AV.int IntKind.i64 P.iss, AV.int IntKind.i64 P.me] ++ AV.cells (AV.str l) ++ []))])))], 1094, 44⟩) ?_ ?_
    ·exact ⟨by omega, by unfold maxLen; omega, .inr rfl, rfl, rfl⟩
    refine evC_wk (s' := ⟨[(0, 0, zP 1), (0, 4, zI 0), (1, 0, zI P.me), (1, 1, zI P.n), (1, 2, zI P.turn), (1, 3, zI P.iss), (1, 4, Cont.arr 8 (nI P.hd)), (1, 12, zV 4), (1, 13, zV 5), (1, 14, Cont.top), (4, 0, .vec 3 81 (P.sets ++ [((P.iss, P.me), blS l)]).length (rsF (P.sets ++ [((P.iss, P.me), blS l)]))), (5, 0, Cont.vec 3 89 P.words.length (rwF P.words))], 6, 44⟩) _ (wk_go [966, 453] rfl (by decide) rfl rfl ⟨⟨_, rfl, rfl⟩, ⟨_, rfl, rfl⟩, ⟨_, rfl, rfl⟩, ⟨_, rfl, rfl⟩, ⟨_, rfl, rfl⟩, ⟨_, rfl, rfl⟩, ⟨_, rfl, rfl, fun _ _ => rfl⟩, ⟨_, rfl, rfl⟩, ⟨_, rfl, rfl⟩, ⟨_, rfl, trivial⟩, ⟨_, rfl, ?_⟩, ⟨_, rfl, rfl, rfl, rfl, fun _ _ => rfl⟩, trivial⟩) ?_
    ·refine ⟨rfl, rfl, by rw [List.length_append]; rfl, fun i hi => ?_⟩
     exact cat_rs P.sets ((P.iss, P.me), blS l) (by show AV.agg [.int .i64 P.iss, .int .i64 P.me, .str l] = AV.agg [.int .i64 P.iss, .int .i64 P.me, .str (strB (blS l))]; rw [strB_blS]) i (by rw [List.length_append] at hi; exact hi)
    refine evC_go0K (s' := ⟨[(0, 4, zI 0), (1, 0, zI P.me), (1, 1, zI P.n), (1, 2, zI P.turn), (1, 3, zI (IntKind.i64.wrap (P.iss + 1))), (1, 4, .arr 8 (nI P.hd)), (1, 12, zV 4), (1, 13, zV 5), (1, 14, .top), (4, 0, .vec 3 81 (List.length (P.sets ++ [((P.iss, P.me), blS l)])) (rsF (P.sets ++ [((P.iss, P.me), blS l)]))), (5, 0, .vec 3 89 P.words.length (rwF P.words))], 262, 44⟩) ?_
    refine evC_go0K (s' := ⟨[(0, 4, zI 0), (1, 0, zI P.me), (1, 1, zI P.n), (1, 2, zI P.turn), (1, 3, zI (IntKind.i64.wrap (P.iss + 1))), (1, 4, .arr 8 (nI P.hd)), (1, 12, zV 4), (1, 13, zV 5), (1, 14, .top), (4, 0, .vec 3 81 (List.length (P.sets ++ [((P.iss, P.me), blS l)])) (rsF (P.sets ++ [((P.iss, P.me), blS l)]))), (5, 0, .vec 3 89 P.words.length (rwF P.words))], 294, 44⟩) ?_
    refine evC_ret ?_
    refine post_ret ?_
    rw [i64_in (P.iss + 1) (by omega)]
    skip
    refine ends_go [4, 5] (AV.int IntKind.i64 0) [(1, 0, zI P.me), (1, 1, zI P.n), (1, 2, zI P.turn), (1, 3, zI (P.iss + 1)), (1, 4, .arr 8 (nI P.hd)), (1, 12, zV 4), (1, 13, zV 5), (1, 14, .top), (4, 0, .vec 3 81 (List.length (P.sets ++ [((P.iss, P.me), blS l)])) (rsF (P.sets ++ [((P.iss, P.me), blS l)]))), (5, 0, .vec 3 89 P.words.length (rwF P.words))] rfl (by decide) rfl rfl (has_of _ rfl) rfl ⟨⟨_, rfl, rfl⟩, ⟨_, rfl, rfl⟩, ⟨_, rfl, rfl⟩, ⟨_, rfl, rfl⟩, ⟨_, rfl, ⟨rfl, fun _ _ => rfl⟩⟩, ⟨_, rfl, rfl⟩, ⟨_, rfl, rfl⟩, ⟨_, rfl, trivial⟩, ⟨_, rfl, ⟨rfl, rfl, rfl, fun _ _ => rfl⟩⟩, ⟨_, rfl, ⟨rfl, rfl, rfl, fun _ _ => rfl⟩⟩, trivial⟩ ⟨fun _ => ⟨1, _, rfl, rfl, rfl, ⟨has_of _ rfl, rfl⟩⟩, fun _ => ⟨1, _, rfl, rfl, rfl, ⟨has_of _ rfl, rfl⟩⟩, fun _ => ⟨1, _, rfl, rfl, rfl, ⟨has_of _ rfl, rfl⟩⟩, fun _ => ⟨1, _, rfl, rfl, rfl, ⟨has_of _ rfl, rfl⟩⟩, fun _ => ⟨1, _, rfl, rfl, rfl, ⟨rfl, fun _ _ => ⟨has_of _ rfl, rfl⟩⟩⟩, fun _ => ⟨1, _, rfl, rfl, rfl, ⟨has_of _ rfl, rfl⟩⟩, fun _ => ⟨1, _, rfl, rfl, rfl, ⟨has_of _ rfl, rfl⟩⟩, fun h => False.elim h, fun h => False.elim h, fun _ => ⟨4, _, rfl, rfl, rfl, ⟨rfl, rfl, rfl, fun _ _ => ⟨has_of _ rfl, rfl⟩⟩⟩, fun _ => ⟨5, _, rfl, rfl, rfl, ⟨rfl, rfl, rfl, fun _ _ => ⟨has_of _ rfl, rfl⟩⟩⟩, trivial⟩ ?_
    ·exact k5 _ _ rfl
 ·cases e
end Go.Eng.S25