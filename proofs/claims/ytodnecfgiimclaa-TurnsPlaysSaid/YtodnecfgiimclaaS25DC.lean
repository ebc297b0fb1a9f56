/- Seat 25: the document's Word, Desync, put, num, walked. -/
import Derived.Test.YtodnecfgiimclaaEngX
import Derived.Test.YtodnecfgiimclaaS25DB
set_option linter.unusedSimpArgs false
set_option linter.unusedVariables false
set_option maxHeartbeats 2000000
namespace Go.Eng.S25
open Go.Proofs Go.IntWalk
set_option maxRecDepth 10000
def wordV (P : Peer) (t q : Int) : Int := (kget P.words t q).getD 0
def sRWord : Spec := fun args hr _ => match args with
 | [v, .int .i64 t, .int .i64 q] => withRef hr v fun n b c P s rd => some ⟨[s, P.words.length ≤ 1000000], .int .u64 (wordV P t q), rd, []⟩
 | _ => none
theorem rword_ok : SpecOK Try.prog 39 sRWord := by
 refine spec_at (by kernel_rfl) T_ok sget_nil Try.func39 rfl rfl fun args hr nb out e => ?_
 unfold sRWord at e
 split at e
 ·rename_i v t q
  obtain ⟨n, b, c, P, s, rd, rfl, e, hrd, hs0, hs1, hs2, hs3⟩ := ref_open e
  injection e with e; subst e
  refine ⟨hrd, true, [n, b, c], [.ptr 1 0, .int .i64 t, .int .i64 q], rcon 1 2 3 P, rfl, fun hs => ?_⟩
  obtain ⟨k1, k2, k3⟩ := hs0 (hs _ List.mem_cons_self)
  have k4 := hs1 (hs _ List.mem_cons_self) [] nb
  have hS := hs _ (List.mem_cons_of_mem _ List.mem_cons_self)
  refine ⟨k1, fun z hz => ⟨(k2 z hz).1, (k2 z hz).2 _ fun x hx => hx⟩, .cons _ _ _ _ (.name _ _ _ rfl) (.cons _ _ _ _ (.same _ _ (.int _ _)) (.cons _ _ _ _ (.same _ _ (.int _ _)) .nil)), k3 _ _, ?_⟩
  clear hs hs0 hs1 hs2 hs3 k1 k2 k3 hrd
  unfold wordV
  unfold rcon
  refine evC_go0K (s' := ⟨[(0, 0, zP 1), (0, 1, zI t), (0, 2, zI q), (0, 6, zU 0), (1, 0, zI P.me), (1, 1, zI P.n), (1, 2, zI P.turn), (1, 3, zI P.iss), (1, 4, .arr 8 (nI P.hd)), (1, 12, zV 2), (1, 13, zV 3), (1, 14, .top), (2, 0, .vec 3 81 P.sets.length (rsF P.sets)), (3, 0, .vec 3 89 P.words.length (rwF P.words))], 36, 47⟩) ?_
  refine evC_seq ?_
  refine evC_go0K (s' := ⟨[(0, 0, zP 1), (0, 1, zI t), (0, 2, zI q), (0, 6, zU 0), (0, 7, zI 0), (1, 0, zI P.me), (1, 1, zI P.n), (1, 2, zI P.turn), (1, 3, zI P.iss), (1, 4, .arr 8 (nI P.hd)), (1, 12, zV 2), (1, 13, zV 3), (1, 14, .top), (2, 0, .vec 3 81 P.sets.length (rsF P.sets)), (3, 0, .vec 3 89 P.words.length (rwF P.words))], 68, 47⟩) ?_
  refine evC_block ?_
  refine evC_loop (ι := { i : Nat // i ≤ P.words.length ∧ ∀ j, j < i → (P.words.getD j ((0, 0), 0)).1 ≠ (t, q) }) (fun i => ⟨[(0, 0, zP 1), (0, 1, zI t), (0, 2, zI q), (0, 6, zU 0), (0, 7, zI (i.1 : Nat)), (1, 0, zI P.me), (1, 1, zI P.n), (1, 2, zI P.turn), (1, 3, zI P.iss), (1, 4, Cont.arr 8 (nI P.hd)), (1, 12, zV 2), (1, 13, zV 3), (1, 14, Cont.top), (2, 0, Cont.vec 3 81 P.sets.length (rsF P.sets)), (3, 0, Cont.vec 3 89 P.words.length (rwF P.words))], 4, 47⟩) (fun i => P.words.length - i.1) ⟨0, Nat.zero_le _, fun j hj => absurd hj (Nat.not_lt_zero _)⟩ (wk_go [] rfl (by decide) rfl rfl ⟨⟨_, rfl, rfl⟩, ⟨_, rfl, rfl⟩, ⟨_, rfl, rfl⟩, ⟨_, rfl, rfl⟩, ⟨_, rfl, rfl⟩, ⟨_, rfl, rfl⟩, ⟨_, rfl, rfl⟩, ⟨_, rfl, rfl⟩, ⟨_, rfl, rfl⟩, ⟨_, rfl, rfl, fun _ _ => rfl⟩, ⟨_, rfl, rfl⟩, ⟨_, rfl, rfl⟩, ⟨_, rfl, trivial⟩, ⟨_, rfl, rfl, rfl, rfl, fun _ _ => rfl⟩, ⟨_, rfl, rfl, rfl, rfl, fun _ _ => rfl⟩, trivial⟩) ?_
  rintro ⟨i, hi, hno⟩
  have hi : i ≤ P.words.length := hi
  refine evC_seq ?_
  refine evC_go0K (s' := ⟨[(0, 0, zP 1), (0, 1, zI t), (0, 2, zI q), (0, 6, zU 0), (0, 7, zI i), (0, 14, zB (decide ((↑i : Int) < ↑P.words.length))), (1, 0, zI P.me), (1, 1, zI P.n), (1, 2, zI P.turn), (1, 3, zI P.iss), (1, 4, .arr 8 (nI P.hd)), (1, 12, zV 2), (1, 13, zV 3), (1, 14, .top), (2, 0, .vec 3 81 P.sets.length (rsF P.sets)), (3, 0, .vec 3 89 P.words.length (rwF P.words))], 228, 47⟩) ?_
  refine evC_if (q := decide ((↑i : Int) < ↑P.words.length)) (by kernel_rfl) (fun hc => ?_) (fun hc => ?_)
  ·have hlt : i < P.words.length := by have := of_decide_eq_true hc; omega
   clear hc
   refine evC_skip ?_
   refine then_normal ?_
   refine evC_seq ?_
   refine evC_block ?_
   refine evC_goK (ps := [(0 : Int) ≤ ↑i, (↑i : Int) < ↑P.words.length, 3 = 3, (0 : Int) ≤ ↑i, (↑i : Int) < ↑P.words.length, 3 = 3, List.all [Prod.fst (Prod.fst (List.getD P.words i (((0 : Int), (0 : Int)), (0 : Int)))) == t] id = true → (0 : Int) ≤ ↑i, List.all [Prod.fst (Prod.fst (List.getD P.words i (((0 : Int), (0 : Int)), (0 : Int)))) == t] id = true → (↑i : Int) < ↑P.words.length, List.all [Prod.fst (Prod.fst (List.getD P.words i (((0 : Int), (0 : Int)), (0 : Int)))) == t] id = true → 3 = 3, List.all [Prod.fst (Prod.fst (List.getD P.words i (((0 : Int), (0 : Int)), (0 : Int)))) == t] id = true → (0 : Int) ≤ ↑i, List.all [Prod.fst (Prod.fst (List.getD P.words i (((0 : Int), (0 : Int)), (0 : Int)))) == t] id = true → (↑i : Int) < ↑P.words.length, List.all [Prod.fst (Prod.fst (List.getD P.words i (((0 : Int), (0 : Int)), (0 : Int)))) == t] id = true → 3 = 3]) (s' := ⟨[(0, 0, zP 1), (0, 1, zI t), (0, 2, zI q), (0, 6, zU 0), (0, 7, zI i), (0, 38, zB (bif Prod.fst (Prod.fst (List.getD P.words i ((0, 0), 0))) == t then Prod.snd (Prod.fst (List.getD P.words i ((0, 0), 0))) == q else false)), (1, 0, zI P.me), (1, 1, zI P.n), (1, 2, zI P.turn), (1, 3, zI P.iss), (1, 4, .arr 8 (nI P.hd)), (1, 12, zV 2), (1, 13, zV 3), (1, 14, .top), (2, 0, .vec 3 81 P.sets.length (rsF P.sets)), (3, 0, .vec 3 89 P.words.length (rwF P.words))], 932, 47⟩) ?_ ?_
   ·(simp only [All]; (repeat' apply And.intro) <;> (try intro _) <;> (try intro _) <;> (repeat' apply And.intro) <;> (try intro _) <;> (try intro _) <;> first | trivial | assumption | exact .inr trivial | exact .inr rfl | omega | rfl | exact ⟨_, rfl, rfl⟩ | exact ⟨rfl, rfl⟩ | exact ⟨fun _ => rfl, fun _ => rfl⟩ | (unfold maxLen; omega) | (unfold i64R; first | omega | decide) | decide)
   rw [cond_and]
   refine evC_if (q := Prod.fst (Prod.fst (List.getD P.words i ((0, 0), 0))) == t && Prod.snd (Prod.fst (List.getD P.words i ((0, 0), 0))) == q) (by kernel_rfl) (fun hc => ?_) (fun hc => ?_)
   ·have hat : (P.words.getD i ((0, 0), 0)).1 = (t, q) := by
     simp only [Bool.and_eq_true, beq_iff_eq] at hc
     exact Prod.ext hc.1 hc.2
    rw [kget_at hlt hat hno]
    refine evC_goK (ps := [(0 : Int) ≤ ↑i, (↑i : Int) < ↑P.words.length, 3 = 3, (0 : Int) ≤ ↑i, (↑i : Int) < ↑P.words.length, 3 = 3]) (s' := ⟨[(0, 0, zP 1), (0, 1, zI t), (0, 2, zI q), (0, 6, zU (Prod.snd (List.getD P.words i ((0, 0), 0)))), (0, 7, zI i), (1, 0, zI P.me), (1, 1, zI P.n), (1, 2, zI P.turn), (1, 3, zI P.iss), (1, 4, .arr 8 (nI P.hd)), (1, 12, zV 2), (1, 13, zV 3), (1, 14, .top), (2, 0, .vec 3 81 P.sets.length (rsF P.sets)), (3, 0, .vec 3 89 P.words.length (rwF P.words))], 1220, 47⟩) ?_ ?_
    ·(simp only [All]; (repeat' apply And.intro) <;> (try intro _) <;> (try intro _) <;> (repeat' apply And.intro) <;> (try intro _) <;> (try intro _) <;> first | trivial | assumption | exact .inr trivial | exact .inr rfl | omega | rfl | exact ⟨_, rfl, rfl⟩ | exact ⟨rfl, rfl⟩ | exact ⟨fun _ => rfl, fun _ => rfl⟩ | (unfold maxLen; omega) | (unfold i64R; first | omega | decide) | decide)
    refine evC_ret ?_
    refine block_ret ?_
    refine then_ret ?_
    refine round_ret ?_
    refine block_ret ?_
    refine then_ret ?_
    refine post_ret ?_
    refine ends_go [] (AV.int IntKind.u64 (Prod.snd (List.getD P.words i ((0, 0), 0)))) [(1, 0, zI P.me), (1, 1, zI P.n), (1, 2, zI P.turn), (1, 3, zI P.iss), (1, 4, .arr 8 (nI P.hd)), (1, 12, zV 2), (1, 13, zV 3), (1, 14, .top), (2, 0, .vec 3 81 P.sets.length (rsF P.sets)), (3, 0, .vec 3 89 P.words.length (rwF P.words))] rfl (by decide) rfl rfl (has_of _ rfl) rfl ⟨⟨_, rfl, rfl⟩, ⟨_, rfl, rfl⟩, ⟨_, rfl, rfl⟩, ⟨_, rfl, rfl⟩, ⟨_, rfl, ⟨rfl, fun _ _ => rfl⟩⟩, ⟨_, rfl, rfl⟩, ⟨_, rfl, rfl⟩, ⟨_, rfl, trivial⟩, ⟨_, rfl, ⟨rfl, rfl, rfl, fun _ _ => rfl⟩⟩, ⟨_, rfl, ⟨rfl, rfl, rfl, fun _ _ => rfl⟩⟩, trivial⟩ trivial ?_
    exact k4 _ _ (by simp [rcon, hget])
   ·have hne : (P.words.getD i ((0, 0), 0)).1 ≠ (t, q) := fun h => by
     rw [h, beq_self_eq_true, beq_self_eq_true] at hc; cases hc
    refine evC_skip ?_
    refine block_normal ?_
    refine then_normal ?_
    refine evC_goL0K (s' := ⟨[(0, 0, zP 1), (0, 1, zI t), (0, 2, zI q), (0, 6, zU 0), (0, 7, zI (IntKind.i64.wrap ((↑i : Int) + 1))), (1, 0, zI P.me), (1, 1, zI P.n), (1, 2, zI P.turn), (1, 3, zI P.iss), (1, 4, .arr 8 (nI P.hd)), (1, 12, zV 2), (1, 13, zV 3), (1, 14, .top), (2, 0, .vec 3 81 P.sets.length (rsF P.sets)), (3, 0, .vec 3 89 P.words.length (rwF P.words))], 1028, 47⟩) ?_
    rw [wrap_add_one hlt (by omega)]
    refine round_normal (⟨i + 1, hlt, fun j hj => ?_⟩) (wk_go [] rfl (by decide) rfl rfl ⟨⟨_, rfl, rfl⟩, ⟨_, rfl, rfl⟩, ⟨_, rfl, rfl⟩, ⟨_, rfl, rfl⟩, ⟨_, rfl, rfl⟩, ⟨_, rfl, rfl⟩, ⟨_, rfl, rfl⟩, ⟨_, rfl, rfl⟩, ⟨_, rfl, rfl⟩, ⟨_, rfl, ⟨rfl, fun _ _ => rfl⟩⟩, ⟨_, rfl, rfl⟩, ⟨_, rfl, rfl⟩, ⟨_, rfl, trivial⟩, ⟨_, rfl, ⟨rfl, rfl, rfl, fun _ _ => rfl⟩⟩, ⟨_, rfl, ⟨rfl, rfl, rfl, fun _ _ => rfl⟩⟩, trivial⟩) ?_
    ·rcases Nat.lt_or_ge j i with h | h
     ·exact hno j h
     ·have : j = i := by omega
      subst this; exact hne
    ·show P.words.length - (i + 1) < P.words.length - i; omega
  ·have hin : i = P.words.length := by have := of_decide_eq_false hc; omega
   subst hin
   rw [kget_no hno]
   refine evC_exit ?_
   refine then_exit ?_
   refine round_exit ?_
   refine block_exit ?_
   refine then_normal ?_
   refine evC_go0K (s' := ⟨[(0, 6, zU 0), (1, 0, zI P.me), (1, 1, zI P.n), (1, 2, zI P.turn), (1, 3, zI P.iss), (1, 4, .arr 8 (nI P.hd)), (1, 12, zV 2), (1, 13, zV 3), (1, 14, .top), (2, 0, .vec 3 81 P.sets.length (rsF P.sets)), (3, 0, .vec 3 89 P.words.length (rwF P.words))], 260, 47⟩) ?_
   refine evC_ret ?_
   refine post_ret ?_
   refine ends_go [] (AV.int IntKind.u64 0) [(1, 0, zI P.me), (1, 1, zI P.n), (1, 2, zI P.turn), (1, 3, zI P.iss), (1, 4, .arr 8 (nI P.hd)), (1, 12, zV 2), (1, 13, zV 3), (1, 14, .top), (2, 0, .vec 3 81 P.sets.length (rsF P.sets)), (3, 0, .vec 3 89 P.words.length (rwF P.words))] rfl (by decide) rfl rfl (has_of _ rfl) rfl ⟨⟨_, rfl, rfl⟩, ⟨_, rfl, rfl⟩, ⟨_, rfl, rfl⟩, ⟨_, rfl, rfl⟩, ⟨_, rfl, ⟨rfl, fun _ _ => rfl⟩⟩, ⟨_, rfl, rfl⟩, ⟨_, rfl, rfl⟩, ⟨_, rfl, trivial⟩, ⟨_, rfl, ⟨rfl, rfl, rfl, fun _ _ => rfl⟩⟩, ⟨_, rfl, ⟨rfl, rfl, rfl, fun _ _ => rfl⟩⟩, trivial⟩ trivial ?_
   exact k4 _ _ (by simp [rcon, hget])
 ·cases e
def OkW (P : Peer) : Prop := ∀ x ∈ P.words, x.2 ≠ 0
theorem kget_in {α : Type} {t q : Int} {v : α} : ∀ {S : List ((Int × Int) × α)}, kget S t q = some v → ((t, q), v) ∈ S
 | e :: S, h => by
   have h : (bif t == e.1.1 && q == e.1.2 then some e.2 else kget S t q) = some v := h
   cases hb : (t == e.1.1 && q == e.1.2) with
   | true =>
     rw [hb] at h
     simp only [cond_true, Option.some.injEq] at h
     simp only [Bool.and_eq_true, beq_iff_eq] at hb
     rw [show ((t, q), v) = e from Prod.ext (Prod.ext hb.1 hb.2) h.symm]
     exact List.mem_cons_self
   | false =>
     rw [hb] at h
     exact List.mem_cons_of_mem _ (kget_in h)
theorem bad_word {P : Peer} (h : OkW P) (x : (Int × Int) × Int) : (bif wordV P x.1.1 P.me != 0 then wordV P x.1.1 P.me != x.2 else false) = badW P x := by
 unfold badW wordV
 cases hk : kget P.words x.1.1 P.me with
 | none => rfl
 | some v =>
   have := h _ (kget_in hk)
   have hv : (v != 0) = true := by simpa using this
   show (bif v != 0 then v != x.2 else false) = _
   rw [hv]; rfl
def sRDesync : Spec := fun args hr _ => match args with
 | [v] => withRef hr v fun n b c P s rd => some ⟨[s, OkR P, OkW P], .bool (desB P), rd, []⟩
 | _ => none
theorem rdesync_ok : SpecOK Try.prog 31 sRDesync := by
 refine spec_at (by kernel_rfl) T_ok (sget_cons rword_ok sget_nil) Try.func31 rfl rfl fun args hr nb out e => ?_
 unfold sRDesync at e
 split at e
 ·rename_i v
  obtain ⟨n, b, c, P, s, rd, rfl, e, hrd, hs0, hs1, hs2, hs3⟩ := ref_open e
  injection e with e; subst e
  refine ⟨hrd, true, [n, b, c], [.ptr 1 0], rcon 1 2 3 P, rfl, fun hs => ?_⟩
  obtain ⟨k1, k2, k3⟩ := hs0 (hs _ List.mem_cons_self)
  have k4 := hs1 (hs _ List.mem_cons_self) [] nb
  have hR := hs _ (List.mem_cons_of_mem _ List.mem_cons_self)
  have hW := hs _ (List.mem_cons_of_mem _ (List.mem_cons_of_mem _ List.mem_cons_self))
  refine ⟨k1, fun z hz => ⟨(k2 z hz).1, (k2 z hz).2 _ fun x hx => hx⟩, .cons _ _ _ _ (.name _ _ _ rfl) .nil, k3 _ _, ?_⟩
  clear hs hs0 hs1 hs2 hs3 k1 k2 k3 hrd
  have hS := hR.2.2
  unfold rcon
  refine evC_go0K (s' := ⟨[(0, 0, zP 1), (0, 2, zB false), (1, 0, zI P.me), (1, 1, zI P.n), (1, 2, zI P.turn), (1, 3, zI P.iss), (1, 4, .arr 8 (nI P.hd)), (1, 12, zV 2), (1, 13, zV 3), (1, 14, .top), (2, 0, .vec 3 81 P.sets.length (rsF P.sets)), (3, 0, .vec 3 89 P.words.length (rwF P.words))], 36, 42⟩) ?_
  refine evC_seq ?_
  refine evC_go0K (s' := ⟨[(0, 0, zP 1), (0, 2, zB false), (0, 3, zI 0), (1, 0, zI P.me), (1, 1, zI P.n), (1, 2, zI P.turn), (1, 3, zI P.iss), (1, 4, .arr 8 (nI P.hd)), (1, 12, zV 2), (1, 13, zV 3), (1, 14, .top), (2, 0, .vec 3 81 P.sets.length (rsF P.sets)), (3, 0, .vec 3 89 P.words.length (rwF P.words))], 68, 42⟩) ?_
  refine evC_block ?_
  refine evC_loop (ι := { i : Nat // i ≤ P.words.length ∧ ∀ j, j < i → badW P (P.words.getD j ((0, 0), 0)) = false }) (fun i => ⟨[(0, 0, zP 1), (0, 2, zB false), (0, 3, zI (i.1 : Nat)), (1, 0, zI P.me), (1, 1, zI P.n), (1, 2, zI P.turn), (1, 3, zI P.iss), (1, 4, Cont.arr 8 (nI P.hd)), (1, 12, zV 2), (1, 13, zV 3), (1, 14, Cont.top), (2, 0, Cont.vec 3 81 P.sets.length (rsF P.sets)), (3, 0, Cont.vec 3 89 P.words.length (rwF P.words))], 4, 42⟩) (fun i => P.words.length - i.1) ⟨0, Nat.zero_le _, fun j hj => absurd hj (Nat.not_lt_zero _)⟩ (wk_go [] rfl (by decide) rfl rfl ⟨⟨_, rfl, rfl⟩, ⟨_, rfl, rfl⟩, ⟨_, rfl, rfl⟩, ⟨_, rfl, rfl⟩, ⟨_, rfl, rfl⟩, ⟨_, rfl, rfl⟩, ⟨_, rfl, rfl⟩, ⟨_, rfl, rfl, fun _ _ => rfl⟩, ⟨_, rfl, rfl⟩, ⟨_, rfl, rfl⟩, ⟨_, rfl, trivial⟩, ⟨_, rfl, rfl, rfl, rfl, fun _ _ => rfl⟩, ⟨_, rfl, rfl, rfl, rfl, fun _ _ => rfl⟩, trivial⟩) ?_
  rintro ⟨i, hi, hno⟩
  have hi : i ≤ P.words.length := hi
  refine evC_seq ?_
  refine evC_go0K (s' := ⟨[(0, 0, zP 1), (0, 2, zB false), (0, 3, zI i), (0, 11, zB (decide ((↑i : Int) < ↑P.words.length))), (1, 0, zI P.me), (1, 1, zI P.n), (1, 2, zI P.turn), (1, 3, zI P.iss), (1, 4, .arr 8 (nI P.hd)), (1, 12, zV 2), (1, 13, zV 3), (1, 14, .top), (2, 0, .vec 3 81 P.sets.length (rsF P.sets)), (3, 0, .vec 3 89 P.words.length (rwF P.words))], 228, 42⟩) ?_
  refine evC_if (q := decide ((↑i : Int) < ↑P.words.length)) (by kernel_rfl) (fun hc => ?_) (fun hc => ?_)
  ·have hlt : i < P.words.length := by have := of_decide_eq_true hc; omega
   clear hc
   refine evC_skip ?_
   refine then_normal ?_
   refine evC_seq ?_
   refine evC_block ?_
   refine evC_goK (ps := [(0 : Int) ≤ ↑i, (↑i : Int) < ↑P.words.length, 3 = 3, (0 : Int) ≤ ↑i, (↑i : Int) < ↑P.words.length, 3 = 3, (0 < 1 ∧ 0 < 2 ∧ 0 < 3 ∧ 1 ≠ 2 ∧ 1 ≠ 3 ∧ 2 ≠ 3) ∧ (∀ (i : Nat), i < P.sets.length → rsF P.sets i = rsF (rsL P.sets.length (rsF P.sets)) i) ∧ (∀ (i : Nat), i < P.words.length → rwF P.words i = rwF (rwL P.words.length (rwF P.words)) i) ∧ ∀ (i : Nat), i < (8 : Nat) → nI P.hd i = nI (If (nI P.hd)) i, List.length (rwL P.words.length (rwF P.words)) ≤ (1000000 : Nat)]) (s' := ⟨[(0, 0, zP 1), (0, 2, zB false), (0, 3, zI i), (0, 4, zU (wordV (etR P) (Prod.fst (Prod.fst (List.getD P.words i ((0, 0), 0)))) P.me)), (1, 0, zI P.me), (1, 1, zI P.n), (1, 2, zI P.turn), (1, 3, zI P.iss), (1, 4, .arr 8 (nI P.hd)), (1, 12, zV 2), (1, 13, zV 3), (1, 14, .top), (2, 0, .vec 3 81 P.sets.length (rsF P.sets)), (3, 0, .vec 3 89 P.words.length (rwF P.words))], 708, 42⟩) ?_ ?_
   ·exact ⟨by omega, by omega, rfl, by omega, by omega, rfl, ref_side P ⟨by decide, by decide, by decide, by decide, by decide, by decide⟩, by rw [rwL_len]; exact hS⟩
   rw [ref_eta hR]
   refine evC_goK (ps := [List.all [wordV P (Prod.fst (Prod.fst (List.getD P.words i (((0 : Int), (0 : Int)), (0 : Int))))) P.me != (0 : Int)] id = true → (0 : Int) ≤ ↑i, List.all [wordV P (Prod.fst (Prod.fst (List.getD P.words i (((0 : Int), (0 : Int)), (0 : Int))))) P.me != (0 : Int)] id = true → (↑i : Int) < ↑P.words.length, List.all [wordV P (Prod.fst (Prod.fst (List.getD P.words i (((0 : Int), (0 : Int)), (0 : Int))))) P.me != (0 : Int)] id = true → 3 = 3, List.all [wordV P (Prod.fst (Prod.fst (List.getD P.words i (((0 : Int), (0 : Int)), (0 : Int))))) P.me != (0 : Int)] id = true → (0 : Int) ≤ ↑i, List.all [wordV P (Prod.fst (Prod.fst (List.getD P.words i (((0 : Int), (0 : Int)), (0 : Int))))) P.me != (0 : Int)] id = true → (↑i : Int) < ↑P.words.length, List.all [wordV P (Prod.fst (Prod.fst (List.getD P.words i (((0 : Int), (0 : Int)), (0 : Int))))) P.me != (0 : Int)] id = true → 3 = 3]) (s' := ⟨[(0, 0, zP 1), (0, 2, zB false), (0, 3, zI i), (0, 41, zB (bif wordV P (Prod.fst (Prod.fst (List.getD P.words i ((0, 0), 0)))) P.me != 0 then wordV P (Prod.fst (Prod.fst (List.getD P.words i ((0, 0), 0)))) P.me != Prod.snd (List.getD P.words i ((0, 0), 0)) else false)), (1, 0, zI P.me), (1, 1, zI P.n), (1, 2, zI P.turn), (1, 3, zI P.iss), (1, 4, .arr 8 (nI P.hd)), (1, 12, zV 2), (1, 13, zV 3), (1, 14, .top), (2, 0, .vec 3 81 P.sets.length (rsF P.sets)), (3, 0, .vec 3 89 P.words.length (rwF P.words))], 1156, 42⟩) ?_ ?_
   ·(simp only [All]; (repeat' apply And.intro) <;> (try intro _) <;> (try intro _) <;> (repeat' apply And.intro) <;> (try intro _) <;> (try intro _) <;> first | trivial | assumption | exact .inr trivial | exact .inr rfl | omega | rfl | exact ⟨_, rfl, rfl⟩ | exact ⟨rfl, rfl⟩ | exact ⟨fun _ => rfl, fun _ => rfl⟩ | (unfold maxLen; omega) | (unfold i64R; first | omega | decide) | decide)
   rw [bad_word hW]
   refine evC_if (q := badW P (List.getD P.words i ((0, 0), 0))) (by kernel_rfl) (fun hc => ?_) (fun hc => ?_)
   ·have hd : desB P = true := by
     unfold desB
     rw [List.any_eq_true]
     refine ⟨_, List.getElem_mem hlt, ?_⟩
     simpa [hlt] using hc
    rw [hd]
    refine evC_go0K (s' := ⟨[(0, 0, zP 1), (0, 2, zB true), (0, 3, zI i), (1, 0, zI P.me), (1, 1, zI P.n), (1, 2, zI P.turn), (1, 3, zI P.iss), (1, 4, .arr 8 (nI P.hd)), (1, 12, zV 2), (1, 13, zV 3), (1, 14, .top), (2, 0, .vec 3 81 P.sets.length (rsF P.sets)), (3, 0, .vec 3 89 P.words.length (rwF P.words))], 1188, 42⟩) ?_
    refine evC_ret ?_
    refine block_ret ?_
    refine then_ret ?_
    refine round_ret ?_
    refine block_ret ?_
    refine then_ret ?_
    refine post_ret ?_
    refine ends_go [] (AV.bool true) [(1, 0, zI P.me), (1, 1, zI P.n), (1, 2, zI P.turn), (1, 3, zI P.iss), (1, 4, .arr 8 (nI P.hd)), (1, 12, zV 2), (1, 13, zV 3), (1, 14, .top), (2, 0, .vec 3 81 P.sets.length (rsF P.sets)), (3, 0, .vec 3 89 P.words.length (rwF P.words))] rfl (by decide) rfl rfl (has_of _ rfl) rfl ⟨⟨_, rfl, rfl⟩, ⟨_, rfl, rfl⟩, ⟨_, rfl, rfl⟩, ⟨_, rfl, rfl⟩, ⟨_, rfl, ⟨rfl, fun _ _ => rfl⟩⟩, ⟨_, rfl, rfl⟩, ⟨_, rfl, rfl⟩, ⟨_, rfl, trivial⟩, ⟨_, rfl, ⟨rfl, rfl, rfl, fun _ _ => rfl⟩⟩, ⟨_, rfl, ⟨rfl, rfl, rfl, fun _ _ => rfl⟩⟩, trivial⟩ trivial ?_
    exact k4 _ _ (by simp [rcon, hget])
   ·have hf : badW P (P.words.getD i ((0, 0), 0)) = false := hc
    refine evC_skip ?_
    refine block_normal ?_
    refine then_normal ?_
    refine evC_goL0K (s' := ⟨[(0, 0, zP 1), (0, 2, zB false), (0, 3, zI (IntKind.i64.wrap ((↑i : Int) + 1))), (1, 0, zI P.me), (1, 1, zI P.n), (1, 2, zI P.turn), (1, 3, zI P.iss), (1, 4, .arr 8 (nI P.hd)), (1, 12, zV 2), (1, 13, zV 3), (1, 14, .top), (2, 0, .vec 3 81 P.sets.length (rsF P.sets)), (3, 0, .vec 3 89 P.words.length (rwF P.words))], 1252, 42⟩) ?_
    rw [wrap_add_one hlt (by omega)]
    refine round_normal (⟨i + 1, hlt, fun j hj => ?_⟩) (wk_go [] rfl (by decide) rfl rfl ⟨⟨_, rfl, rfl⟩, ⟨_, rfl, rfl⟩, ⟨_, rfl, rfl⟩, ⟨_, rfl, rfl⟩, ⟨_, rfl, rfl⟩, ⟨_, rfl, rfl⟩, ⟨_, rfl, rfl⟩, ⟨_, rfl, ⟨rfl, fun _ _ => rfl⟩⟩, ⟨_, rfl, rfl⟩, ⟨_, rfl, rfl⟩, ⟨_, rfl, trivial⟩, ⟨_, rfl, ⟨rfl, rfl, rfl, fun _ _ => rfl⟩⟩, ⟨_, rfl, ⟨rfl, rfl, rfl, fun _ _ => rfl⟩⟩, trivial⟩) ?_
    ·rcases Nat.lt_or_ge j i with h | h
     ·exact hno j h
     ·have : j = i := by omega
      subst this; exact hf
    ·show P.words.length - (i + 1) < P.words.length - i; omega
  ·have hin : i = P.words.length := by have := of_decide_eq_false hc; omega
   subst hin
   have hd : desB P = false := by
    unfold desB
    rw [List.any_eq_false]
    intro x hx
    obtain ⟨j, hj, rfl⟩ := List.getElem_of_mem hx
    have := hno j hj
    simpa [hj] using this
   rw [hd]
   refine evC_exit ?_
   refine then_exit ?_
   refine round_exit ?_
   refine block_exit ?_
   refine then_normal ?_
   refine evC_go0K (s' := ⟨[(0, 2, zB false), (1, 0, zI P.me), (1, 1, zI P.n), (1, 2, zI P.turn), (1, 3, zI P.iss), (1, 4, .arr 8 (nI P.hd)), (1, 12, zV 2), (1, 13, zV 3), (1, 14, .top), (2, 0, .vec 3 81 P.sets.length (rsF P.sets)), (3, 0, .vec 3 89 P.words.length (rwF P.words))], 260, 42⟩) ?_
   refine evC_ret ?_
   refine post_ret ?_
   refine ends_go [] (AV.bool false) [(1, 0, zI P.me), (1, 1, zI P.n), (1, 2, zI P.turn), (1, 3, zI P.iss), (1, 4, .arr 8 (nI P.hd)), (1, 12, zV 2), (1, 13, zV 3), (1, 14, .top), (2, 0, .vec 3 81 P.sets.length (rsF P.sets)), (3, 0, .vec 3 89 P.words.length (rwF P.words))] rfl (by decide) rfl rfl (has_of _ rfl) rfl ⟨⟨_, rfl, rfl⟩, ⟨_, rfl, rfl⟩, ⟨_, rfl, rfl⟩, ⟨_, rfl, rfl⟩, ⟨_, rfl, ⟨rfl, fun _ _ => rfl⟩⟩, ⟨_, rfl, rfl⟩, ⟨_, rfl, rfl⟩, ⟨_, rfl, trivial⟩, ⟨_, rfl, ⟨rfl, rfl, rfl, fun _ _ => rfl⟩⟩, ⟨_, rfl, ⟨rfl, rfl, rfl, fun _ _ => rfl⟩⟩, trivial⟩ trivial ?_
   exact k4 _ _ (by simp [rcon, hget])
 ·cases e
def sRPut : Spec := fun args _ _ => match args with
 | [.int .u64 v, .int .i64 z] => some ⟨[0 ≤ z ∧ z ≤ 8, 0 ≤ v ∧ v ≤ 18446744073709551615], .str (strB (leB z.toNat v)), [], []⟩
 | _ => none
theorem ediv_pow (v : Int) (k : Nat) : v / 256 ^ k / 256 = v / 256 ^ (k + 1) := by
 rw [Int.ediv_ediv_of_nonneg (Int.pow_nonneg (by omega)), Int.pow_succ]
theorem rput_ok : SpecOK Try.prog 38 sRPut := by
 refine spec_own (by kernel_rfl) T_ok sget_nil Try.func38 rfl rfl fun args hr nb out e => ?_
 unfold sRPut at e
 split at e
 ·rename_i v z
  injection e with e; subst e
  refine ⟨(fun _ h => nomatch h), true, [.int .u64 v, .int .i64 z], rfl, fun hs => ⟨.cons _ _ _ _ (.same _ _ (.int _ _)) (.cons _ _ _ _ (.same _ _ (.int _ _)) .nil), ?_⟩⟩
  obtain ⟨hz1, hz2⟩ := hs _ List.mem_cons_self
  obtain ⟨hv1, hv2⟩ := hs _ (List.mem_cons_of_mem _ List.mem_cons_self)
  clear hs
  obtain ⟨z, rfl⟩ := Int.eq_ofNat_of_zero_le hz1
  have hz : z ≤ 8 := by omega
  rw [Int.toNat_natCast]
  refine evC_go0K (s' := ⟨[(0, 0, zU v), (0, 1, zI z), (0, 4, zS { data := #[] })], 33, 22⟩) ?_
  refine evC_go0K (s' := ⟨[(0, 0, zU v), (0, 1, zI z), (0, 4, zS { data := #[] }), (0, 5, .cell AV.nils)], 65, 22⟩) ?_
  refine evC_wk _ (.nil 0 5 1 5 (fun _ => .nils) (Nat.le_of_ble_eq_true rfl) rfl) ?_
  refine evC_seq ?_
  refine evC_go0K (s' := ⟨[(0, 0, zU v), (0, 1, zI z), (0, 4, zS { data := #[] }), (0, 5, zV 65), (0, 6, zI 0), (65, 0, .vec 1 5 0 fun x => AV.nils)], 98, 22⟩) ?_
  refine evC_block ?_
  refine evC_loop (ι := { k : Nat // k ≤ z }) (fun k => ⟨[(0, 0, zU (v / 256 ^ k.1)), (0, 1, zI z), (0, 4, zS { data := #[] }), (0, 5, zV 1), (0, 6, zI (k.1 : Nat)), (1, 0, .vec 1 5 (leB k.1 v).length (nU (leB k.1 v)))], 2, 22⟩) (fun k => z - k.1) ⟨0, Nat.zero_le _⟩ (wk_go [65] rfl (by decide) rfl rfl ⟨⟨_, rfl, ?_⟩, ⟨_, rfl, rfl⟩, ⟨_, rfl, rfl⟩, ⟨_, rfl, rfl⟩, ⟨_, rfl, rfl⟩, ⟨_, rfl, ⟨rfl, rfl, rfl, fun _ hi => absurd hi (Nat.not_lt_zero _)⟩⟩, trivial⟩) ?_
  ·show AV.int .u64 v = AV.int .u64 (v / 256 ^ 0)
   rw [Int.pow_zero, Int.ediv_one]
  rintro ⟨k, hk⟩
  have hk : k ≤ z := hk
  refine evC_seq ?_
  refine evC_go0K (s' := ⟨[(0, 0, zU (v / 256 ^ k)), (0, 1, zI z), (0, 4, zS { data := #[] }), (0, 5, zV 1), (0, 6, zI k), (0, 9, zB (decide ((↑k : Int) < ↑z))), (1, 0, .vec 1 5 (List.length (leB k v)) (nU (leB k v)))], 98, 22⟩) ?_
  refine evC_if (q := decide ((↑k : Int) < (↑z : Int))) (by kernel_rfl) (fun hc => ?_) (fun hc => ?_)
  ·have hlt : k < z := by have := of_decide_eq_true hc; omega
   clear hc
   have h0 : 0 ≤ v / 256 ^ k := Int.ediv_nonneg hv1 (Int.pow_nonneg (by omega))
   have h1 : v / 256 ^ k ≤ v := Int.ediv_le_self _ hv1
   have hlen := leB_len k v
   have hd : (v / 256 ^ k).tdiv 256 = v / 256 ^ (k + 1) := by rw [Int.tdiv_eq_ediv_of_nonneg h0, ediv_pow]
   have hm : IntKind.u8.wrap ((v / 256 ^ k).tmod 256) = v / 256 ^ k % 256 := by
    rw [Int.tmod_eq_emod_of_nonneg h0, IntKind.wrap_u8]
    omega
   have h2 : 0 ≤ v / 256 ^ (k + 1) := Int.ediv_nonneg hv1 (Int.pow_nonneg (by omega))
   have h3 : v / 256 ^ (k + 1) ≤ v := Int.ediv_le_self _ hv1
   refine evC_skip ?_
   refine then_normal ?_
   refine evC_seq ?_
   refine evC_block ?_
   refine evC_goK (ps := [(256 : Int) ≠ 0, (List.length (leB k v) + (1 : Nat)) * 1 ≤ 140737488355328, List.length (leB k v) + (1 : Nat) ≤ maxLen, 1 = 0 ∨ 1 = 1, 1 = 1, 5 = 5]) (s' := ⟨[(0, 0, zU (v / 256 ^ k)), (0, 1, zI z), (0, 4, zS { data := #[] }), (0, 5, zV 258), (0, 6, zI k), (258, 0, .vec 1 5 (List.length (leB k v) + 1) (catF (List.length (leB k v)) (nU (leB k v)) (pget [(0, AV.int IntKind.u8 (IntKind.wrap IntKind.u8 (Int.tmod (v / 256 ^ k) 256)))])))], 322, 22⟩) ?_ ?_
   ·(simp only [All]; (repeat' apply And.intro) <;> (try intro _) <;> (try intro _) <;> (repeat' apply And.intro) <;> (try intro _) <;> (try intro _) <;> first | trivial | assumption | exact .inr trivial | exact .inr rfl | omega | rfl | exact ⟨_, rfl, rfl⟩ | exact ⟨rfl, rfl⟩ | exact ⟨fun _ => rfl, fun _ => rfl⟩ | (unfold maxLen; omega) | (unfold i64R; first | omega | decide) | decide)
   rw [hm]
   refine evC_goLK (ps := [(256 : Int) ≠ 0]) (s' := ⟨[(0, 0, zU (IntKind.wrap IntKind.u64 (Int.tdiv (v / 256 ^ k) 256))), (0, 1, zI z), (0, 4, zS { data := #[] }), (0, 5, zV 258), (0, 6, zI k), (258, 0, .vec 1 5 (List.length (leB k v) + 1) (catF (List.length (leB k v)) (nU (leB k v)) (pget [(0, AV.int IntKind.u8 (v / 256 ^ k % 256))])))], 418, 22⟩) ?_ ?_
   ·exact (by decide : (256 : Int) ≠ 0)
   rw [hd, u64_in (x := v / 256 ^ (k + 1)) (by omega)]
   refine block_normal ?_
   refine then_normal ?_
   refine evC_goL0K (s' := ⟨[(0, 0, zU (v / 256 ^ (k + 1))), (0, 1, zI z), (0, 4, zS { data := #[] }), (0, 5, zV 258), (0, 6, zI (IntKind.i64.wrap ((↑k : Int) + 1))), (258, 0, .vec 1 5 (List.length (leB k v) + 1) (catF (List.length (leB k v)) (nU (leB k v)) (pget [(0, AV.int IntKind.u8 (v / 256 ^ k % 256))])))], 514, 22⟩) ?_
   rw [wrap_add_one hlt (by omega)]
   refine round_normal (⟨k + 1, hlt⟩) (wk_go [258] rfl (by decide) rfl rfl ⟨⟨_, rfl, rfl⟩, ⟨_, rfl, rfl⟩, ⟨_, rfl, rfl⟩, ⟨_, rfl, rfl⟩, ⟨_, rfl, rfl⟩, ⟨_, rfl, ?_⟩, trivial⟩) ?_
   ·refine ⟨rfl, rfl, ?_, fun i hi => ?_⟩
    ·rw [leB_len, leB_len]
    ·show catF (leB k v).length (nU (leB k v)) _ i = nU (leB (k + 1) v) i
     rw [cat_nU (leB k v) [v / 256 ^ k % 256] _ (fun i hi => by simp at hi; subst hi; rfl) i (by rw [leB_len] at hi ⊢; simp at hi ⊢; omega), leB_snoc]
   ·show z - (k + 1) < z - k; omega
  ·have hkz : k = z := by have := of_decide_eq_false hc; omega
   subst hkz
   clear hc
   refine evC_exit ?_
   refine then_exit ?_
   refine round_exit ?_
   refine block_exit ?_
   refine then_normal ?_
   refine evC_goK (ps := [List.length (leB k v) = (0 : Nat) ∨ 1 = 1, ∀ (i : Nat), i < List.length (leB k v) → nU (leB k v) i = AV.int IntKind.u8 (iv (nU (leB k v) i))]) (s' := ⟨[(0, 4, zS (mkStr (List.length (leB k v)) (nU (leB k v))))], 194, 22⟩) ?_ ?_
   ·exact ⟨.inr rfl, fun i hi => rfl⟩
   refine evC_ret ?_
   refine post_ret ?_
   refine ends_flat (vs := [AV.str (mkStr (List.length (leB k v)) (nU (leB k v)))]) (Nat.zero_lt_succ _) (by kernel_rfl) (flat_of _ (by kernel_rfl)) rfl ?_
   rfl
 ·cases e
def sRNum : Spec := fun args _ _ => match args with
 | [.str s] => some ⟨[s.size ≤ 8], .int .u64 (numL (blS s)), [], []⟩
 | _ => none
theorem rnum_ok : SpecOK Try.prog 40 sRNum := by
 refine spec_own (by kernel_rfl) T_ok sget_nil Try.func40 rfl rfl fun args hr nb out e => ?_
 unfold sRNum at e
 split at e
 ·rename_i s
  injection e with e; subst e
  refine ⟨(fun _ h => nomatch h), true, [.str s], rfl, fun hs => ⟨.cons _ _ _ _ (.same _ _ (.str _)) .nil, ?_⟩⟩
  have h8 := hs _ List.mem_cons_self
  clear hs
  have hlen := blS_len s
  have hU := blS_isU s
  refine evC_go0K (s' := ⟨[(0, 0, zS s), (0, 2, zU 0)], 33, 20⟩) ?_
  refine evC_go0K (s' := ⟨[(0, 0, zS s), (0, 2, zU 0), (0, 3, zU 0)], 65, 20⟩) ?_
  refine evC_seq ?_
  refine evC_go0K (s' := ⟨[(0, 0, zS s), (0, 2, zU 0), (0, 3, zU 0), (0, 4, zI (IntKind.i64.wrap ((↑(ByteArray.size s) : Int) - 1)))], 193, 20⟩) ?_
  rw [i64_in ((s.size : Int) - 1) (by omega)]
  refine evC_block ?_
  refine evC_loop (ι := { i : Nat // i ≤ s.size }) (fun i => ⟨[(0, 0, zS s), (0, 2, zU 0), (0, 3, zU (numL ((blS s).drop i.1))), (0, 4, zI ((i.1 : Nat) - 1))], 1, 20⟩) (fun i => i.1) ⟨s.size, Nat.le_refl _⟩ (wk_go [] rfl (by decide) rfl rfl ⟨⟨_, rfl, rfl⟩, ⟨_, rfl, rfl⟩, ⟨_, rfl, ?_⟩, ⟨_, rfl, rfl⟩, trivial⟩) ?_
  ·show AV.int .u64 0 = AV.int .u64 (numL ((blS s).drop s.size))
   rw [List.drop_of_length_le (by omega)]; rfl
  rintro ⟨i, hi⟩
  have hi : i ≤ s.size := hi
  refine evC_seq ?_
  refine evC_go0K (s' := ⟨[(0, 0, zS s), (0, 2, zU 0), (0, 3, zU (numL (List.drop i (blS s)))), (0, 4, zI ((↑i : Int) - 1)), (0, 9, zB (decide ((↑i : Int) - 1 ≥ 0)))], 65, 20⟩) ?_
  refine evC_if (q := decide ((↑i : Int) - 1 ≥ 0)) (by kernel_rfl) (fun hc => ?_) (fun hc => ?_)
  ·have hlt : 0 < i := by have := of_decide_eq_true hc; omega
   clear hc
   obtain ⟨k, rfl⟩ : ∃ k, i = k + 1 := ⟨i - 1, by omega⟩
   refine evC_skip ?_
   refine then_normal ?_
   refine evC_seq ?_
   refine evC_block ?_
   refine evC_goLK (ps := [(0 : Int) ≤ (↑(k + (1 : Nat)) : Int) - (1 : Int), (↑(k + (1 : Nat)) : Int) - (1 : Int) < ↑(ByteArray.size s)]) (s' := ⟨[(0, 0, zS s), (0, 2, zU 0), (0, 3, zU (IntKind.wrap IntKind.u64 (IntKind.wrap IntKind.u64 (numL (List.drop (k + 1) (blS s)) * 256) + IntKind.wrap IntKind.u64 (bt s ((↑(k + 1) : Int) - 1))))), (0, 4, zI ((↑(k + 1) : Int) - 1))], 321, 20⟩) ?_ ?_
   ·exact ⟨by show 0 ≤ ((k + 1 : Nat) : Int) - 1; omega, by show ((k + 1 : Nat) : Int) - 1 < (s.size : Int); omega⟩
   have hlk : k < (blS s).length := by omega
   have hx := hU _ (List.getElem_mem hlk)
   have hdr : (blS s).drop k = (blS s)[k] :: (blS s).drop (k + 1) := List.drop_eq_getElem_cons hlk
   have hg : (blS s).getD k 0 = (blS s)[k] := by simp [hlk]
   have hn : numL ((blS s).drop k) = (blS s)[k] + 256 * numL ((blS s).drop (k + 1)) := by rw [hdr]; rfl
   have r1 := numL_rng (L := (blS s).drop (k + 1)) fun y hy => hU y (List.mem_of_mem_drop hy)
   have r2 : (256 : Int) ^ ((blS s).drop (k + 1)).length ≤ 256 ^ 7 := by
    have h := Nat.pow_le_pow_right (n := 256) (by omega) (show ((blS s).drop (k + 1)).length ≤ 7 by rw [List.length_drop]; omega)
    have e : ∀ n : Nat, (256 : Int) ^ n = ((256 ^ n : Nat) : Int) := fun n => by rw [Int.natCast_pow]; rfl
    rw [e, e]
    exact Int.ofNat_le.2 h
   have r3 : (256 : Int) ^ 7 = 72057594037927936 := by decide
   rw [show ((k + 1 : Nat) : Int) - 1 = (k : Nat) by omega, bt_blS s (by omega), hg, u64_in (x := numL ((blS s).drop (k + 1)) * 256) (by omega), u64_in (x := (blS s)[k]) (by omega), u64_in (x := numL ((blS s).drop (k + 1)) * 256 + (blS s)[k]) (by omega)]
   refine block_normal ?_
   refine then_normal ?_
   refine evC_goL0K (s' := ⟨[(0, 0, zS s), (0, 2, zU 0), (0, 3, zU (numL (List.drop (k + 1) (blS s)) * 256 + (blS s)[k])), (0, 4, zI (IntKind.i64.wrap ((↑k : Int) - 1)))], 417, 20⟩) ?_
   rw [i64_in ((k : Int) - 1) (by omega)]
   refine round_normal (⟨k, by omega⟩) (wk_go [] rfl (by decide) rfl rfl ⟨⟨_, rfl, rfl⟩, ⟨_, rfl, rfl⟩, ⟨_, rfl, ?_⟩, ⟨_, rfl, rfl⟩, trivial⟩) ?_
   ·show AV.int .u64 _ = AV.int .u64 _
    rw [hn]
    congr 1
    omega
   ·exact Nat.lt_succ_self k
  ·have h0 : i = 0 := by have := of_decide_eq_false hc; omega
   subst h0
   rw [List.drop_zero]
   refine evC_exit ?_
   refine then_exit ?_
   refine round_exit ?_
   refine block_exit ?_
   refine then_normal ?_
   refine evC_go0K (s' := ⟨[(0, 2, zU (numL (blS s)))], 129, 20⟩) ?_
   refine evC_ret ?_
   refine post_ret ?_
   refine ends_flat (vs := [AV.int IntKind.u64 (numL (blS s))]) (Nat.zero_lt_succ _) (by kernel_rfl) (flat_of _ (by kernel_rfl)) rfl ?_
   rfl
 ·cases e
end Go.Eng.S25