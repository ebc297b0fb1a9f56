/- Seat 25: messages, walked. -/
import Derived.Test.YtodnecfgiimclaaEngX
import Derived.Test.YtodnecfgiimclaaS25G
set_option linter.unusedSimpArgs false
set_option linter.unusedVariables false
set_option maxHeartbeats 2000000
namespace Go.Eng.S25
open Go.Proofs Go.IntWalk
set_option maxRecDepth 10000
structure OkP (P : Peer) : Prop where
 n : 2 ≤ P.n ∧ P.n ≤ 8
 me : 0 ≤ P.me ∧ P.me < P.n
 hd : ∀ i, i < 8 → 0 ≤ P.hd i ∧ P.hd i ≤ 4294967295
 sets : ∀ x ∈ P.sets, x.2.length ≤ 704 ∧ IsU x.2
 words : ∀ x ∈ P.words, 0 ≤ x.2 ∧ x.2 ≤ 18446744073709551615
def setOf (P : Peer) (t : Int) : List Int := (kget P.sets t P.me).getD []
def wordOf (P : Peer) (t : Int) : Int := (kget P.words t P.me).getD 0
def setsB (P : Peer) : Int → Nat → List Int
 | _, 0 => []
 | t, k + 1 => leB 2 (setOf P t).length ++ setOf P t ++ setsB P (t + 1) k
theorem kget_mem {α : Type} : ∀ {S : List ((Int × Int) × α)} {t p : Int} {v : α}, kget S t p = some v → ((t, p), v) ∈ S
 | [], _, _, _, h => by cases h
 | e :: S, t, p, v, h => by
   simp only [kget] at h
   cases hb : (t == e.1.1 && p == e.1.2) with
   | true =>
     rw [hb] at h
     simp only [Bool.and_eq_true, beq_iff_eq] at hb
     simp only [cond_true, Option.some.injEq] at h
     obtain ⟨⟨a, b⟩, c⟩ := e
     simp only at hb h
     rw [hb.1, hb.2, h]
     exact List.mem_cons_self
   | false =>
     rw [hb] at h
     exact List.mem_cons_of_mem _ (kget_mem h)
theorem setOf_ok {P : Peer} (h : OkP P) (t : Int) : (setOf P t).length ≤ 704 ∧ IsU (setOf P t) := by
 unfold setOf
 cases e : kget P.sets t P.me with
 | none => exact ⟨Nat.zero_le _, fun x hx => by cases hx⟩
 | some L => exact h.sets _ (kget_mem e)
theorem wordOf_ok {P : Peer} (h : OkP P) (t : Int) : 0 ≤ wordOf P t ∧ wordOf P t ≤ 18446744073709551615 := by
 unfold wordOf
 cases e : kget P.words t P.me with
 | none => exact ⟨Int.le_refl _, by show (0 : Int) ≤ _; omega⟩
 | some w => exact h.words _ (kget_mem e)
theorem setsB_ok {P : Peer} (h : OkP P) : ∀ (k : Nat) (t : Int), (setsB P t k).length ≤ 706 * k ∧ IsU (setsB P t k)
 | 0, _ => ⟨Nat.le_refl _, fun x hx => by cases hx⟩
 | k + 1, t => by
   have h1 := setOf_ok h t
   have h2 := setsB_ok h k (t + 1)
   simp only [setsB, List.length_append, leB_len]
   exact ⟨by omega, isU_app (isU_app (leB_isU _ _) h1.2) h2.2⟩
def cntOf (P : Peer) (to : Int) : Int := mx2 0 (P.iss - P.hd to.toNat)
def headB (P : Peer) (to : Int) : List Int := [P.me, to] ++ leB 4 P.turn ++ leB 8 (wordOf P P.turn) ++ leB 4 (P.hd to.toNat) ++ [cntOf P to]
def otherB (P : Peer) (q : Int) : Bool := decide (0 ≤ q) && decide (q < P.n) && !(q == P.me)
def sendE (P : Peer) (to : Int) : Int := bif !otherB P to then 4 else bif decide (cntOf P to > 255) then 5 else 0
def sendB (P : Peer) (to : Int) : List Int := bif sendE P to == 0 then headB P to ++ setsB P (P.hd to.toNat) (cntOf P to).toNat else []
def sSend : Spec := fun args hr nb => match args with
 | [v, .int .i64 to] => withPeer hr v fun n b c P s rd => some ⟨[s, okT P, OkP P], .tup [.vs nb, .int .i64 (sendE P to)], rd, [(nb, 0, .vec 1 5 (sendB P to).length (nU (sendB P to)))]⟩
 | _ => none
theorem headB_ok {P : Peer} (h : OkP P) {to : Int} (ho : otherB P to = true) (hc : cntOf P to ≤ 255) : (headB P to).length = 19 ∧ IsU (headB P to) := by
 unfold headB
 simp only [List.length_append, leB_len, List.length_cons, List.length_nil]
 refine ⟨trivial, isU_app (isU_app (isU_app (isU_app ?_ (leB_isU _ _)) (leB_isU _ _)) (leB_isU _ _)) ?_⟩
 ·have h1 := h.me
  have h2 := h.n
  unfold otherB at ho
  simp only [Bool.and_eq_true, decide_eq_true_eq] at ho
  intro x hx
  simp only [List.mem_cons, List.not_mem_nil, or_false] at hx
  rcases hx with rfl | rfl <;> omega
 ·intro x hx
  rw [List.mem_singleton.1 hx]
  refine ⟨?_, hc⟩
  unfold cntOf mx2
  split <;> omega
theorem setsB_snoc (P : Peer) : ∀ (k : Nat) (t : Int), setsB P t (k + 1) = setsB P t k ++ (leB 2 (setOf P (t + k)).length ++ setOf P (t + k))
 | 0, t => by simp [setsB]
 | k + 1, t => by
   rw [setsB, setsB_snoc P k, setsB]
   have : t + 1 + (k : Int) = t + ((k + 1 : Nat) : Int) := by omega
   rw [this]
   simp only [List.append_assoc]
theorem look_w (W : List ((Int × Int) × Int)) (t p : Int) : (mget (wmap W) [t, p]).getD (.int .u64 0) = .int .u64 ((kget W t p).getD 0) := by
 rw [mget_wmap]
 cases kget W t p <;> rfl
theorem look_s (S : List ((Int × Int) × List Int)) (t p : Int) : ∃ F, AV.rs 1 (rsn ((mget (smap S) [t, p]).getD .nils)) false (rsf ((mget (smap S) [t, p]).getD .nils)) = .rs 1 ((kget S t p).getD []).length false F ∧ (∀ i, i < ((kget S t p).getD []).length → F i = nU ((kget S t p).getD []) i) ∧
 ((∃ b, (mget (smap S) [t, p]).getD .nils = .rs 1 (rsn ((mget (smap S) [t, p]).getD .nils)) b (rsf ((mget (smap S) [t, p]).getD .nils))) ∨ (mget (smap S) [t, p]).getD .nils = .nils) := by
 rw [mget_smap]
 cases kget S t p with
 | none => exact ⟨_, rfl, fun i hi => absurd hi (Nat.not_lt_zero i), .inr rfl⟩
 | some L => exact ⟨nU L, rfl, fun i _ => rfl, .inl ⟨false, rfl⟩⟩
theorem send_ok : SpecOK Try.prog 11 sSend := by
 refine spec_at (by kernel_rfl) T_ok (sget_cons put_ok sget_nil) Try.func11 rfl rfl fun args hr nb out e => ?_
 unfold sSend at e
 split at e
 ·rename_i v to
  obtain ⟨n, b, c, P, s, rd, rfl, e, hrd, hs0, hs1, hs2⟩ := peer_open e
  injection e with e; subst e
  refine ⟨hrd, true, [n, b, c], [.ptr 1 0, .int .i64 to], pcon 1 2 3 P, rfl, fun hs => ?_⟩
  obtain ⟨k1, k2, k3⟩ := hs0 (hs _ List.mem_cons_self)
  have k4 := hs1 (hs _ List.mem_cons_self) [] nb
  obtain ⟨hT1, hT2⟩ := hs _ (List.mem_cons_of_mem _ List.mem_cons_self)
  have hok := hs _ (List.mem_cons_of_mem _ (List.mem_cons_of_mem _ List.mem_cons_self))
  refine ⟨k1, fun z hz => ⟨(k2 z hz).1, (k2 z hz).2 _ fun x hx => hx⟩, .cons _ _ _ _ (.name _ _ _ rfl) (.cons _ _ _ _ (.same _ _ (.int _ _)) .nil), k3 _ _, ?_⟩
  clear hs hs0 hs1 hs2 k1 k2 k3 hrd
  obtain ⟨hn1, hn2⟩ := hok.n
  obtain ⟨hme1, hme2⟩ := hok.me
  have eE : sendE P to = bif !otherB P to then 4 else bif decide (cntOf P to > 255) then 5 else 0 := rfl
  unfold pcon
  refine evC_go0K (s' := ⟨[(0, 0, zP 1), (0, 1, zI to), (0, 4, .cell AV.nils), (0, 5, zI 0), (1, 0, zI P.me), (1, 1, zI P.n), (1, 2, zI P.turn), (1, 3, zI P.iss), (1, 4, .arr 8 (nI P.hd)), (1, 12, zM 2), (1, 13, zM 3), (1, 14, .top), (2, 0, .map 2 (smap P.sets)), (3, 0, .map 2 (wmap P.words))], 68, 112⟩) ?_
  refine evC_seq ?_
  refine evC_go0K (s' := ⟨[(0, 0, zP 1), (0, 1, zI to), (0, 4, .cell AV.nils), (0, 5, zI 0), (0, 28, zB (bif bif decide (to < 0) then true else decide (to ≥ P.n) then true else to == P.me)), (1, 0, zI P.me), (1, 1, zI P.n), (1, 2, zI P.turn), (1, 3, zI P.iss), (1, 4, .arr 8 (nI P.hd)), (1, 12, zM 2), (1, 13, zM 3), (1, 14, .top), (2, 0, .map 2 (smap P.sets)), (3, 0, .map 2 (wmap P.words))], 644, 112⟩) ?_
  have hcond : (bif bif decide (to < 0) then true else decide (to ≥ P.n) then true else to == P.me) = !otherB P to := by
   unfold otherB
   simp only [cond_or]
   by_cases a : 0 ≤ to <;> by_cases b : to < P.n <;> simp [a, b] <;> omega
  rw [hcond]
  refine evC_if (q := !otherB P to) (by kernel_rfl) (fun hc => ?_) (fun hc => ?_)
  ·have hE : sendE P to = 4 := by rw [eE, hc]; rfl
   have hB : sendB P to = [] := by unfold sendB; rw [hE]; rfl
   rw [hE, hB]
   refine evC_go0K (s' := ⟨[(0, 0, zP 1), (0, 1, zI to), (0, 4, .cell AV.nils), (0, 5, zI 4), (1, 0, zI P.me), (1, 1, zI P.n), (1, 2, zI P.turn), (1, 3, zI P.iss), (1, 4, .arr 8 (nI P.hd)), (1, 12, zM 2), (1, 13, zM 3), (1, 14, .top), (2, 0, .map 2 (smap P.sets)), (3, 0, .map 2 (wmap P.words))], 708, 112⟩) ?_
   refine evC_wk _ (.nil 0 4 1 5 (fun _ => .nils) (Nat.le_of_ble_eq_true rfl) rfl) ?_
   refine evC_ret ?_
   refine then_ret ?_
   refine post_ret ?_
   refine ends_go [708] (AV.tup [AV.vs 4, AV.int IntKind.i64 4]) [(1, 0, zI P.me), (1, 1, zI P.n), (1, 2, zI P.turn), (1, 3, zI P.iss), (1, 4, .arr 8 (nI P.hd)), (1, 12, zM 2), (1, 13, zM 3), (1, 14, .top), (2, 0, .map 2 (smap P.sets)), (3, 0, .map 2 (wmap P.words)), (4, 0, .vec 1 5 0 fun x => AV.nils)] rfl (by decide) rfl rfl (has_of _ rfl) rfl ⟨⟨_, rfl, rfl⟩, ⟨_, rfl, rfl⟩, ⟨_, rfl, rfl⟩, ⟨_, rfl, rfl⟩, ⟨_, rfl, ⟨rfl, fun _ _ => rfl⟩⟩, ⟨_, rfl, rfl⟩, ⟨_, rfl, rfl⟩, ⟨_, rfl, trivial⟩, ⟨_, rfl, Go.Eng.S25.cw_smap _⟩, ⟨_, rfl, cw_map (Go.Eng.S25.flat_wmap _)⟩, ⟨_, rfl, ⟨rfl, rfl, rfl, fun _ _ => rfl⟩⟩, trivial⟩ ⟨fun _ => ⟨4, _, rfl, rfl, rfl, ⟨rfl, rfl, rfl, fun _ hi => absurd hi (Nat.not_lt_zero _)⟩⟩, trivial⟩ ?_
   exact k4 _ _ (by simp [pcon, hget])
  ·have ho : otherB P to = true := by simpa using hc
   have ho2 := ho
   unfold otherB at ho2
   simp only [Bool.and_eq_true, decide_eq_true_eq] at ho2
   have hh := hok.hd to.toNat (by omega)
   rw [hc] at eE
   clear hc hcond
   simp only [cond_false] at eE
   refine evC_skip ?_
   refine then_normal ?_
   refine evC_goK (ps := [(0 : Int) ≤ to, to < (↑(8 : Nat) : Int), (0 : Int) ≤ to, to < (↑(8 : Nat) : Int)]) (s' := ⟨[(0, 0, zP 1), (0, 1, zI to), (0, 4, .cell AV.nils), (0, 5, zI 0), (0, 6, zI (P.hd (Int.toNat to))), (1, 0, zI P.me), (1, 1, zI P.n), (1, 2, zI P.turn), (1, 3, zI P.iss), (1, 4, .arr 8 (nI P.hd)), (1, 12, zM 2), (1, 13, zM 3), (1, 14, .top), (2, 0, .map 2 (smap P.sets)), (3, 0, .map 2 (wmap P.words))], 868, 112⟩) ?_ ?_
   ·(simp only [All]; (repeat' apply And.intro) <;> (try intro _) <;> (try intro _) <;> (repeat' apply And.intro) <;> (try intro _) <;> (try intro _) <;> first | trivial | assumption | exact .inr trivial | exact .inr rfl | omega | rfl | exact ⟨_, rfl, rfl⟩ | exact ⟨rfl, rfl⟩ | exact ⟨fun _ => rfl, fun _ => rfl⟩ | (unfold maxLen; omega) | (unfold i64R; first | omega | decide) | decide)
   refine evC_go0K (s' := ⟨[(0, 0, zP 1), (0, 1, zI to), (0, 4, .cell AV.nils), (0, 5, zI 0), (0, 6, zI (P.hd (Int.toNat to))), (0, 7, zI (mx2 0 (IntKind.i64.wrap (P.iss - P.hd (Int.toNat to))))), (1, 0, zI P.me), (1, 1, zI P.n), (1, 2, zI P.turn), (1, 3, zI P.iss), (1, 4, .arr 8 (nI P.hd)), (1, 12, zM 2), (1, 13, zM 3), (1, 14, .top), (2, 0, .map 2 (smap P.sets)), (3, 0, .map 2 (wmap P.words))], 1124, 112⟩) ?_
   rw [i64_in (P.iss - P.hd to.toNat) (by omega)]
   have hC : mx2 0 (P.iss - P.hd to.toNat) = cntOf P to := rfl
   rw [hC]
   have hC0 : 0 ≤ cntOf P to ∧ cntOf P to ≤ 1000000 := by unfold cntOf mx2; split <;> omega
   refine evC_seq ?_
   refine evC_go0K (s' := ⟨[(0, 0, zP 1), (0, 1, zI to), (0, 4, .cell AV.nils), (0, 5, zI 0), (0, 6, zI (P.hd (Int.toNat to))), (0, 7, zI (cntOf P to)), (0, 43, zB (decide (cntOf P to > 255))), (1, 0, zI P.me), (1, 1, zI P.n), (1, 2, zI P.turn), (1, 3, zI P.iss), (1, 4, .arr 8 (nI P.hd)), (1, 12, zM 2), (1, 13, zM 3), (1, 14, .top), (2, 0, .map 2 (smap P.sets)), (3, 0, .map 2 (wmap P.words))], 1188, 112⟩) ?_
   refine evC_if (q := decide (cntOf P to > 255)) (by kernel_rfl) (fun hc => ?_) (fun hc => ?_)
   ·have hE : sendE P to = 5 := by rw [eE, hc]; rfl
    have hB : sendB P to = [] := by unfold sendB; rw [hE]; rfl
    rw [hE, hB]
    refine evC_go0K (s' := ⟨[(0, 0, zP 1), (0, 1, zI to), (0, 4, .cell AV.nils), (0, 5, zI 5), (0, 6, zI (P.hd (Int.toNat to))), (0, 7, zI (cntOf P to)), (1, 0, zI P.me), (1, 1, zI P.n), (1, 2, zI P.turn), (1, 3, zI P.iss), (1, 4, .arr 8 (nI P.hd)), (1, 12, zM 2), (1, 13, zM 3), (1, 14, .top), (2, 0, .map 2 (smap P.sets)), (3, 0, .map 2 (wmap P.words))], 1252, 112⟩) ?_
    refine evC_wk _ (.nil 0 4 1 5 (fun _ => .nils) (Nat.le_of_ble_eq_true rfl) rfl) ?_
    refine evC_ret ?_
    refine then_ret ?_
    refine post_ret ?_
    refine ends_go [1252] (AV.tup [AV.vs 4, AV.int IntKind.i64 5]) [(1, 0, zI P.me), (1, 1, zI P.n), (1, 2, zI P.turn), (1, 3, zI P.iss), (1, 4, .arr 8 (nI P.hd)), (1, 12, zM 2), (1, 13, zM 3), (1, 14, .top), (2, 0, .map 2 (smap P.sets)), (3, 0, .map 2 (wmap P.words)), (4, 0, .vec 1 5 0 fun x => AV.nils)] rfl (by decide) rfl rfl (has_of _ rfl) rfl ⟨⟨_, rfl, rfl⟩, ⟨_, rfl, rfl⟩, ⟨_, rfl, rfl⟩, ⟨_, rfl, rfl⟩, ⟨_, rfl, ⟨rfl, fun _ _ => rfl⟩⟩, ⟨_, rfl, rfl⟩, ⟨_, rfl, rfl⟩, ⟨_, rfl, trivial⟩, ⟨_, rfl, Go.Eng.S25.cw_smap _⟩, ⟨_, rfl, cw_map (Go.Eng.S25.flat_wmap _)⟩, ⟨_, rfl, ⟨rfl, rfl, rfl, fun _ _ => rfl⟩⟩, trivial⟩ ⟨fun _ => ⟨4, _, rfl, rfl, rfl, ⟨rfl, rfl, rfl, fun _ hi => absurd hi (Nat.not_lt_zero _)⟩⟩, trivial⟩ ?_
    exact k4 _ _ (by simp [pcon, hget])
   ·have hE : sendE P to = 0 := by rw [eE, hc]; rfl
    have hB : sendB P to = headB P to ++ setsB P (P.hd to.toNat) (cntOf P to).toNat := by unfold sendB; rw [hE]; rfl
    rw [hE, hB]
    have hc2 : cntOf P to ≤ 255 := by have := of_decide_eq_false hc; omega
    clear hc hE hB eE
    obtain ⟨q1, q2⟩ := headB_ok hok ho hc2
    have hx0 : IsU [P.me, to] := fun x hx => by
     simp only [List.mem_cons, List.not_mem_nil, or_false] at hx
     rcases hx with rfl | rfl <;> omega
    have w1 : IntKind.u8.wrap P.me = P.me := by rw [IntKind.wrap_u8]; omega
    have w2 : IntKind.u8.wrap to = to := by rw [IntKind.wrap_u8]; omega
    have w3 : IntKind.u64.wrap P.turn = P.turn := u64_in (by omega)
    have w4 : IntKind.u64.wrap (P.hd to.toNat) = P.hd to.toNat := u64_in (by omega)
    obtain ⟨X0, hX0⟩ : ∃ X, X = [P.me, to] := ⟨_, rfl⟩
    have l0 : X0.length = 2 := by rw [hX0]; rfl
    rw [← hX0] at hx0
    refine evC_skip ?_
    refine then_normal ?_
    refine evC_go0K (s' := ⟨[(0, 0, zP 1), (0, 4, .cell AV.nils), (0, 5, zI 0), (0, 6, zI (P.hd (Int.toNat to))), (0, 7, zI (cntOf P to)), (0, 8, zV 1412), (1, 0, zI P.me), (1, 1, zI P.n), (1, 2, zI P.turn), (1, 3, zI P.iss), (1, 4, .arr 8 (nI P.hd)), (1, 12, zM 2), (1, 13, zM 3), (1, 14, .top), (2, 0, .map 2 (smap P.sets)), (3, 0, .map 2 (wmap P.words)), (1412, 0, .vec 1 5 2 (pget [(0, AV.int IntKind.u8 (IntKind.wrap IntKind.u8 P.me)), (1, AV.int IntKind.u8 (IntKind.wrap IntKind.u8 to))]))], 1476, 112⟩) ?_
    rw [w1, w2]
    refine evC_wk (s' := ⟨[(0, 0, zP 1), (0, 4, Cont.cell AV.nils), (0, 5, zI 0), (0, 6, zI (P.hd (Int.toNat to))), (0, 7, zI (cntOf P to)), (0, 8, zV 4), (1, 0, zI P.me), (1, 1, zI P.n), (1, 2, zI P.turn), (1, 3, zI P.iss), (1, 4, Cont.arr 8 (nI P.hd)), (1, 12, zM 2), (1, 13, zM 3), (1, 14, Cont.top), (2, 0, Cont.map 2 (smap P.sets)), (3, 0, Cont.map 2 (wmap P.words)), (4, 0, .vec 1 5 X0.length (nU X0))], 5, 112⟩) _ (wk_go [1412] rfl (by decide) rfl rfl ⟨⟨_, rfl, rfl⟩, ⟨_, rfl, rfl⟩, ⟨_, rfl, rfl⟩, ⟨_, rfl, rfl⟩, ⟨_, rfl, rfl⟩, ⟨_, rfl, rfl⟩, ⟨_, rfl, rfl⟩, ⟨_, rfl, rfl⟩, ⟨_, rfl, rfl⟩, ⟨_, rfl, rfl⟩, ⟨_, rfl, rfl, fun _ _ => rfl⟩, ⟨_, rfl, rfl⟩, ⟨_, rfl, rfl⟩, ⟨_, rfl, trivial⟩, ⟨_, rfl, Go.Eng.S25.cw_smap _⟩, ⟨_, rfl, cw_map (Go.Eng.S25.flat_wmap _)⟩, ⟨_, rfl, ?_⟩, trivial⟩) ?_
    ·rw [hX0]
     refine ⟨rfl, rfl, rfl, fun i hi => ?_⟩
     rcases (show i = 0 ∨ i = 1 by have : i < 2 := hi; omega) with rfl | rfl <;> rfl
    obtain ⟨X1, hX1⟩ : ∃ X, X = X0 ++ leB 4 P.turn := ⟨_, rfl⟩
    have l1 : X1.length = 6 := by rw [hX1, List.length_append, leB_len, l0]
    refine evC_goK (ps := [0 < 4, IsB X0.length (nU X0), (0 : Int) ≤ 4 ∧ (4 : Int) ≤ 8, (0 : Int) ≤ IntKind.wrap IntKind.u64 P.turn ∧ IntKind.wrap IntKind.u64 P.turn ≤ (18446744073709551615 : Int), X0.length ≤ (100000000 : Nat)]) (s' := ⟨[(0, 0, zP 1), (0, 4, .cell AV.nils), (0, 5, zI 0), (0, 6, zI (P.hd (Int.toNat to))), (0, 7, zI (cntOf P to)), (0, 8, zV 197), (1, 0, zI P.me), (1, 1, zI P.n), (1, 2, zI P.turn), (1, 3, zI P.iss), (1, 4, .arr 8 (nI P.hd)), (1, 12, zM 2), (1, 13, zM 3), (1, 14, .top), (2, 0, .map 2 (smap P.sets)), (3, 0, .map 2 (wmap P.words)), (197, 0, .vec 1 5 (X0.length + Int.toNat 4) (nU (bytesL X0.length (nU X0) ++ leB (Int.toNat 4) (IntKind.wrap IntKind.u64 P.turn))))], 261, 112⟩) ?_ ?_
    ·refine ⟨by omega, isB hx0, by omega, ?_, ?_⟩
     ·rw [w3]; omega
     ·show X0.length ≤ 100000000; rw [l0]; omega
    refine evC_wk (s' := ⟨[(0, 0, zP 1), (0, 4, Cont.cell AV.nils), (0, 5, zI 0), (0, 6, zI (P.hd (Int.toNat to))), (0, 7, zI (cntOf P to)), (0, 8, zV 4), (1, 0, zI P.me), (1, 1, zI P.n), (1, 2, zI P.turn), (1, 3, zI P.iss), (1, 4, Cont.arr 8 (nI P.hd)), (1, 12, zM 2), (1, 13, zM 3), (1, 14, Cont.top), (2, 0, Cont.map 2 (smap P.sets)), (3, 0, Cont.map 2 (wmap P.words)), (4, 0, .vec 1 5 X1.length (nU X1))], 5, 112⟩) _ (wk_go [197] rfl (by decide) rfl rfl ⟨⟨_, rfl, rfl⟩, ⟨_, rfl, rfl⟩, ⟨_, rfl, rfl⟩, ⟨_, rfl, rfl⟩, ⟨_, rfl, rfl⟩, ⟨_, rfl, rfl⟩, ⟨_, rfl, rfl⟩, ⟨_, rfl, rfl⟩, ⟨_, rfl, rfl⟩, ⟨_, rfl, rfl⟩, ⟨_, rfl, rfl, fun _ _ => rfl⟩, ⟨_, rfl, rfl⟩, ⟨_, rfl, rfl⟩, ⟨_, rfl, trivial⟩, ⟨_, rfl, Go.Eng.S25.cw_smap _⟩, ⟨_, rfl, cw_map (Go.Eng.S25.flat_wmap _)⟩, ⟨_, rfl, ?_⟩, trivial⟩) ?_
    ·refine ⟨rfl, rfl, by rw [hX1, List.length_append, leB_len]; rfl, fun i hi => ?_⟩
     show nU (bytesL X0.length (nU X0) ++ leB (Int.toNat 4) (IntKind.u64.wrap P.turn)) i = nU X1 i
     rw [bytesL_nU, w3, hX1]
     rfl
    have hx1 : IsU X1 := by rw [hX1]; exact isU_app hx0 (leB_isU _ _)
    have hw := wordOf_ok hok P.turn
    have hlw := look_w P.words P.turn P.me
    obtain ⟨X2, hX2⟩ : ∃ X, X = X1 ++ leB 8 (wordOf P P.turn) := ⟨_, rfl⟩
    have l2 : X2.length = 14 := by rw [hX2, List.length_append, leB_len, l1]
    have hx2 : IsU X2 := by rw [hX2]; exact isU_app hx1 (leB_isU _ _)
    have hlw2 : iv ((mget (wmap P.words) [P.turn, P.me]).getD (AV.int .u64 0)) = wordOf P P.turn := by rw [hlw]; rfl
    refine evC_goK (ps := [Option.getD (mget (wmap P.words) [P.turn, P.me]) (AV.int IntKind.u64 (0 : Int)) = AV.int IntKind.u64 (iv (Option.getD (mget (wmap P.words) [P.turn, P.me]) (AV.int IntKind.u64 (0 : Int)))), 0 < 4, IsB X1.length (nU X1), (0 : Int) ≤ 8 ∧ (8 : Int) ≤ 8, (0 : Int) ≤ iv (Option.getD (mget (wmap P.words) [P.turn, P.me]) (AV.int IntKind.u64 (0 : Int))) ∧ iv (Option.getD (mget (wmap P.words) [P.turn, P.me]) (AV.int IntKind.u64 (0 : Int))) ≤ (18446744073709551615 : Int), X1.length ≤ (100000000 : Nat)]) (s' := ⟨[(0, 0, zP 1), (0, 4, .cell AV.nils), (0, 5, zI 0), (0, 6, zI (P.hd (Int.toNat to))), (0, 7, zI (cntOf P to)), (0, 8, zV 485), (1, 0, zI P.me), (1, 1, zI P.n), (1, 2, zI P.turn), (1, 3, zI P.iss), (1, 4, .arr 8 (nI P.hd)), (1, 12, zM 2), (1, 13, zM 3), (1, 14, .top), (2, 0, .map 2 (smap P.sets)), (3, 0, .map 2 (wmap P.words)), (485, 0, .vec 1 5 (X1.length + Int.toNat 8) (nU (bytesL X1.length (nU X1) ++ leB (Int.toNat 8) (iv (Option.getD (mget (wmap P.words) [P.turn, P.me]) (AV.int IntKind.u64 0))))))], 549, 112⟩) ?_ ?_
    ·refine ⟨?_, by omega, isB hx1, by omega, ?_, ?_⟩
     ·rw [hlw2]; exact hlw
     ·rw [hlw2]; exact hw
     ·show X1.length ≤ 100000000; rw [l1]; omega
    rw [hlw2]
    refine evC_wk (s' := ⟨[(0, 0, zP 1), (0, 4, Cont.cell AV.nils), (0, 5, zI 0), (0, 6, zI (P.hd (Int.toNat to))), (0, 7, zI (cntOf P to)), (0, 8, zV 4), (1, 0, zI P.me), (1, 1, zI P.n), (1, 2, zI P.turn), (1, 3, zI P.iss), (1, 4, Cont.arr 8 (nI P.hd)), (1, 12, zM 2), (1, 13, zM 3), (1, 14, Cont.top), (2, 0, Cont.map 2 (smap P.sets)), (3, 0, Cont.map 2 (wmap P.words)), (4, 0, .vec 1 5 X2.length (nU X2))], 5, 112⟩) _ (wk_go [485] rfl (by decide) rfl rfl ⟨⟨_, rfl, rfl⟩, ⟨_, rfl, rfl⟩, ⟨_, rfl, rfl⟩, ⟨_, rfl, rfl⟩, ⟨_, rfl, rfl⟩, ⟨_, rfl, rfl⟩, ⟨_, rfl, rfl⟩, ⟨_, rfl, rfl⟩, ⟨_, rfl, rfl⟩, ⟨_, rfl, rfl⟩, ⟨_, rfl, rfl, fun _ _ => rfl⟩, ⟨_, rfl, rfl⟩, ⟨_, rfl, rfl⟩, ⟨_, rfl, trivial⟩, ⟨_, rfl, Go.Eng.S25.cw_smap _⟩, ⟨_, rfl, cw_map (Go.Eng.S25.flat_wmap _)⟩, ⟨_, rfl, ?_⟩, trivial⟩) ?_
    ·refine ⟨rfl, rfl, by rw [hX2, List.length_append, leB_len]; rfl, fun i hi => ?_⟩
     show nU (bytesL X1.length (nU X1) ++ leB (Int.toNat 8) (wordOf P P.turn)) i = nU X2 i
     rw [bytesL_nU, hX2]
     rfl
    obtain ⟨X3, hX3⟩ : ∃ X, X = X2 ++ leB 4 (P.hd to.toNat) := ⟨_, rfl⟩
    have l3 : X3.length = 18 := by rw [hX3, List.length_append, leB_len, l2]
    have hx3 : IsU X3 := by rw [hX3]; exact isU_app hx2 (leB_isU _ _)
    refine evC_goK (ps := [0 < 4, IsB X2.length (nU X2), (0 : Int) ≤ 4 ∧ (4 : Int) ≤ 8, (0 : Int) ≤ IntKind.wrap IntKind.u64 (P.hd (Int.toNat to)) ∧ IntKind.wrap IntKind.u64 (P.hd (Int.toNat to)) ≤ (18446744073709551615 : Int), X2.length ≤ (100000000 : Nat)]) (s' := ⟨[(0, 0, zP 1), (0, 4, .cell AV.nils), (0, 5, zI 0), (0, 6, zI (P.hd (Int.toNat to))), (0, 7, zI (cntOf P to)), (0, 8, zV 101), (1, 0, zI P.me), (1, 1, zI P.n), (1, 2, zI P.turn), (1, 3, zI P.iss), (1, 4, .arr 8 (nI P.hd)), (1, 12, zM 2), (1, 13, zM 3), (1, 14, .top), (2, 0, .map 2 (smap P.sets)), (3, 0, .map 2 (wmap P.words)), (101, 0, .vec 1 5 (X2.length + Int.toNat 4) (nU (bytesL X2.length (nU X2) ++ leB (Int.toNat 4) (IntKind.wrap IntKind.u64 (P.hd (Int.toNat to))))))], 165, 112⟩) ?_ ?_
    ·refine ⟨by omega, isB hx2, by omega, ?_, ?_⟩
     ·rw [w4]; omega
     ·show X2.length ≤ 100000000; rw [l2]; omega
    rw [w4]
    refine evC_wk (s' := ⟨[(0, 0, zP 1), (0, 4, Cont.cell AV.nils), (0, 5, zI 0), (0, 6, zI (P.hd (Int.toNat to))), (0, 7, zI (cntOf P to)), (0, 8, zV 4), (1, 0, zI P.me), (1, 1, zI P.n), (1, 2, zI P.turn), (1, 3, zI P.iss), (1, 4, Cont.arr 8 (nI P.hd)), (1, 12, zM 2), (1, 13, zM 3), (1, 14, Cont.top), (2, 0, Cont.map 2 (smap P.sets)), (3, 0, Cont.map 2 (wmap P.words)), (4, 0, .vec 1 5 X3.length (nU X3))], 5, 112⟩) _ (wk_go [101] rfl (by decide) rfl rfl ⟨⟨_, rfl, rfl⟩, ⟨_, rfl, rfl⟩, ⟨_, rfl, rfl⟩, ⟨_, rfl, rfl⟩, ⟨_, rfl, rfl⟩, ⟨_, rfl, rfl⟩, ⟨_, rfl, rfl⟩, ⟨_, rfl, rfl⟩, ⟨_, rfl, rfl⟩, ⟨_, rfl, rfl⟩, ⟨_, rfl, rfl, fun _ _ => rfl⟩, ⟨_, rfl, rfl⟩, ⟨_, rfl, rfl⟩, ⟨_, rfl, trivial⟩, ⟨_, rfl, Go.Eng.S25.cw_smap _⟩, ⟨_, rfl, cw_map (Go.Eng.S25.flat_wmap _)⟩, ⟨_, rfl, ?_⟩, trivial⟩) ?_
    ·refine ⟨rfl, rfl, by rw [hX3, List.length_append, leB_len]; rfl, fun i hi => ?_⟩
     show nU (bytesL X2.length (nU X2) ++ leB (Int.toNat 4) (P.hd to.toNat)) i = nU X3 i
     rw [bytesL_nU, hX3]
     rfl
    have w5 : IntKind.u8.wrap (cntOf P to) = cntOf P to := by rw [IntKind.wrap_u8]; omega
    obtain ⟨H, hH⟩ : ∃ X, X = X3 ++ [cntOf P to] := ⟨_, rfl⟩
    have l4 : H.length = 19 := by rw [hH, List.length_append, l3]; rfl
    have hHh : headB P to = H := by rw [hH, hX3, hX2, hX1, hX0]; rfl
    rw [hHh] at q1 q2 ⊢
    refine evC_goK (ps := [(X3.length + (1 : Nat)) * 1 ≤ 140737488355328, X3.length + (1 : Nat) ≤ maxLen, 1 = 0 ∨ 1 = 1, 1 = 1, 5 = 5]) (s' := ⟨[(0, 0, zP 1), (0, 4, .cell AV.nils), (0, 5, zI 0), (0, 6, zI (P.hd (Int.toNat to))), (0, 8, zV 133), (1, 0, zI P.me), (1, 1, zI P.n), (1, 2, zI P.turn), (1, 3, zI P.iss), (1, 4, .arr 8 (nI P.hd)), (1, 12, zM 2), (1, 13, zM 3), (1, 14, .top), (2, 0, .map 2 (smap P.sets)), (3, 0, .map 2 (wmap P.words)), (133, 0, .vec 1 5 (X3.length + 1) (catF X3.length (nU X3) (pget [(0, AV.int IntKind.u8 (IntKind.wrap IntKind.u8 (cntOf P to)))])))], 197, 112⟩) ?_ ?_
    ·rw [l3]
     (simp only [All]; (repeat' apply And.intro) <;> (try intro _) <;> (try intro _) <;> (repeat' apply And.intro) <;> (try intro _) <;> (try intro _) <;> first | trivial | assumption | exact .inr trivial | exact .inr rfl | omega | rfl | exact ⟨_, rfl, rfl⟩ | exact ⟨rfl, rfl⟩ | exact ⟨fun _ => rfl, fun _ => rfl⟩ | (unfold maxLen; omega) | (unfold i64R; first | omega | decide) | decide)
    rw [w5]
    refine evC_wk (s' := ⟨[(0, 0, zP 1), (0, 4, Cont.cell AV.nils), (0, 5, zI 0), (0, 6, zI (P.hd (Int.toNat to))), (0, 8, zV 4), (1, 0, zI P.me), (1, 1, zI P.n), (1, 2, zI P.turn), (1, 3, zI P.iss), (1, 4, Cont.arr 8 (nI P.hd)), (1, 12, zM 2), (1, 13, zM 3), (1, 14, Cont.top), (2, 0, Cont.map 2 (smap P.sets)), (3, 0, Cont.map 2 (wmap P.words)), (4, 0, .vec 1 5 H.length (nU H))], 5, 112⟩) _ (wk_go [133] rfl (by decide) rfl rfl ⟨⟨_, rfl, rfl⟩, ⟨_, rfl, rfl⟩, ⟨_, rfl, rfl⟩, ⟨_, rfl, rfl⟩, ⟨_, rfl, rfl⟩, ⟨_, rfl, rfl⟩, ⟨_, rfl, rfl⟩, ⟨_, rfl, rfl⟩, ⟨_, rfl, rfl⟩, ⟨_, rfl, rfl, fun _ _ => rfl⟩, ⟨_, rfl, rfl⟩, ⟨_, rfl, rfl⟩, ⟨_, rfl, trivial⟩, ⟨_, rfl, Go.Eng.S25.cw_smap _⟩, ⟨_, rfl, cw_map (Go.Eng.S25.flat_wmap _)⟩, ⟨_, rfl, ?_⟩, trivial⟩) ?_
    ·refine ⟨rfl, rfl, by rw [hH, List.length_append]; rfl, fun i hi => ?_⟩
     rw [hH]
     exact cat_nU X3 [cntOf P to] _ (fun i hi => by simp at hi; subst hi; rfl) i (by rw [List.length_singleton]; rw [hH, List.length_append] at hi; exact hi)
    clear hX0 hX1 hX2 hX3 hH l0 l1 l2 l3 hx1 hx2 hx3 hx0 hlw hlw2 hw
    refine evC_seq ?_
    refine evC_go0K (s' := ⟨[(0, 0, zP 1), (0, 4, .cell AV.nils), (0, 5, zI 0), (0, 8, zV 4), (0, 9, zI (P.hd (Int.toNat to))), (1, 0, zI P.me), (1, 1, zI P.n), (1, 2, zI P.turn), (1, 3, zI P.iss), (1, 4, .arr 8 (nI P.hd)), (1, 12, zM 2), (1, 13, zM 3), (1, 14, .top), (2, 0, .map 2 (smap P.sets)), (3, 0, .map 2 (wmap P.words)), (4, 0, .vec 1 5 H.length (nU H))], 69, 112⟩) ?_
    obtain ⟨N, hN⟩ := Int.eq_ofNat_of_zero_le hC0.1
    have hN2 : N ≤ 255 := by omega
    have hNi : ∀ j : Nat, j ≤ N → ((P.hd to.toNat + (j : Int) < P.iss) ↔ j < N) := by
     intro j hj
     have : (N : Int) = mx2 0 (P.iss - P.hd to.toNat) := by rw [← hN]; rfl
     unfold mx2 at this
     split at this <;> omega
    rw [hN, Int.toNat_natCast]
    have hsb : ∀ j, (H ++ setsB P (P.hd to.toNat) j).length ≤ 19 + 706 * j ∧ IsU (H ++ setsB P (P.hd to.toNat) j) := fun j => by
     have := setsB_ok hok j (P.hd to.toNat)
     rw [List.length_append]
     exact ⟨by omega, isU_app q2 this.2⟩
    refine evC_block ?_
    refine evC_loop (ι := { j : Nat // j ≤ N }) (fun j => ⟨[(0, 0, zP 1), (0, 4, Cont.cell AV.nils), (0, 5, zI 0), (0, 8, zV 4), (0, 9, zI (P.hd to.toNat + (j.1 : Nat))), (1, 0, zI P.me), (1, 1, zI P.n), (1, 2, zI P.turn), (1, 3, zI P.iss), (1, 4, Cont.arr 8 (nI P.hd)), (1, 12, zM 2), (1, 13, zM 3), (1, 14, Cont.top), (2, 0, Cont.map 2 (smap P.sets)), (3, 0, Cont.map 2 (wmap P.words)), (4, 0, .vec 1 5 (H ++ setsB P (P.hd to.toNat) j.1).length (nU (H ++ setsB P (P.hd to.toNat) j.1)))], 5, 112⟩) (fun j => N - j.1) ⟨0, Nat.zero_le _⟩ (wk_go [4] rfl (by decide) rfl rfl ⟨⟨_, rfl, rfl⟩, ⟨_, rfl, rfl⟩, ⟨_, rfl, rfl⟩, ⟨_, rfl, rfl⟩, ⟨_, rfl, ?_⟩, ⟨_, rfl, rfl⟩, ⟨_, rfl, rfl⟩, ⟨_, rfl, rfl⟩, ⟨_, rfl, rfl⟩, ⟨_, rfl, rfl, fun _ _ => rfl⟩, ⟨_, rfl, rfl⟩, ⟨_, rfl, rfl⟩, ⟨_, rfl, trivial⟩, ⟨_, rfl, Go.Eng.S25.cw_smap _⟩, ⟨_, rfl, cw_map (Go.Eng.S25.flat_wmap _)⟩, ⟨_, rfl, ?_⟩, trivial⟩) ?_
    ·show AV.int .i64 _ = AV.int .i64 _
     refine congrArg _ ?_
     show P.hd to.toNat = P.hd to.toNat + ((0 : Nat) : Int)
     omega
    ·refine ⟨rfl, rfl, ?_, fun i hi => ?_⟩
     ·show H.length = (H ++ []).length
      rw [List.append_nil]
     ·show nU H i = nU (H ++ []) i
      rw [List.append_nil]
    rintro ⟨j, hj⟩
    obtain ⟨hb1, hb2⟩ := hsb j
    have hji := hNi j hj
    generalize hX : H ++ setsB P (P.hd to.toNat) j = X at hb1 hb2
    refine evC_seq ?_
    refine evC_go0K (s' := ⟨[(0, 0, zP 1), (0, 4, .cell AV.nils), (0, 5, zI 0), (0, 8, zV 4), (0, 9, zI (P.hd (Int.toNat to) + (↑j : Int))), (0, 90, zB (decide (P.hd (Int.toNat to) + (↑j : Int) < P.iss))), (1, 0, zI P.me), (1, 1, zI P.n), (1, 2, zI P.turn), (1, 3, zI P.iss), (1, 4, .arr 8 (nI P.hd)), (1, 12, zM 2), (1, 13, zM 3), (1, 14, .top), (2, 0, .map 2 (smap P.sets)), (3, 0, .map 2 (wmap P.words)), (4, 0, .vec 1 5 X.length (nU X))], 197, 112⟩) ?_
    refine evC_if (q := decide (P.hd (Int.toNat to) + (↑j : Int) < P.iss)) (by kernel_rfl) (fun hc => ?_) (fun hc => ?_)
    ·have hlt : j < N := hji.1 (of_decide_eq_true hc)
     clear hc
     obtain ⟨F, hF1, hF2, hF3⟩ := look_s P.sets (P.hd to.toNat + (j : Int)) P.me
     have hS := setOf_ok hok (P.hd to.toNat + (j : Int))
     rw [show (kget P.sets (P.hd to.toNat + (j : Int)) P.me).getD [] = setOf P (P.hd to.toNat + (j : Int)) from rfl] at hF1 hF2
     have hsn := setsB_snoc P j (P.hd to.toNat)
     generalize setOf P (P.hd to.toNat + (j : Int)) = S at hF1 hF2 hS hsn
     refine evC_skip ?_
     refine then_normal ?_
     refine evC_seq ?_
     refine evC_block ?_
     refine evC_goK (ps := [(∃ b, Option.getD (mget (smap P.sets) [P.hd (Int.toNat to) + (↑j : Int), P.me]) AV.nils = AV.rs (1 : Nat) (rsn (Option.getD (mget (smap P.sets) [P.hd (Int.toNat to) + (↑j : Int), P.me]) AV.nils)) b (rsf (Option.getD (mget (smap P.sets) [P.hd (Int.toNat to) + (↑j : Int), P.me]) AV.nils))) ∨ Option.getD (mget (smap P.sets) [P.hd (Int.toNat to) + (↑j : Int), P.me]) AV.nils = AV.nils]) (s' := ⟨[(0, 0, zP 1), (0, 4, .cell AV.nils), (0, 5, zI 0), (0, 8, zV 4), (0, 9, zI (P.hd (Int.toNat to) + (↑j : Int))), (0, 10, .cell (AV.rs 1 (rsn (Option.getD (mget (smap P.sets) [P.hd (Int.toNat to) + (↑j : Int), P.me]) AV.nils)) false (rsf (Option.getD (mget (smap P.sets) [P.hd (Int.toNat to) + (↑j : Int), P.me]) AV.nils)))), (1, 0, zI P.me), (1, 1, zI P.n), (1, 2, zI P.turn), (1, 3, zI P.iss), (1, 4, .arr 8 (nI P.hd)), (1, 12, zM 2), (1, 13, zM 3), (1, 14, .top), (2, 0, .map 2 (smap P.sets)), (3, 0, .map 2 (wmap P.words)), (4, 0, .vec 1 5 X.length (nU X))], 581, 112⟩) ?_ ?_
     ·exact hF3
     rw [hF1]
     have w6 : IntKind.u64.wrap (S.length : Int) = (S.length : Int) := u64_in (by omega)
     have m1 : X.length ≤ 100000000 := by omega
     have m2 : (X.length + 2 + S.length) * 1 ≤ 140737488355328 := by omega
     have m3 : X.length + 2 + S.length ≤ maxLen := by unfold maxLen; omega
     refine evC_goLK (ps := [0 < 4, IsB X.length (nU X), (0 : Int) ≤ 2 ∧ (2 : Int) ≤ 8, (0 : Int) ≤ IntKind.wrap IntKind.u64 (↑S.length : Int) ∧ IntKind.wrap IntKind.u64 (↑S.length : Int) ≤ (18446744073709551615 : Int), X.length ≤ (100000000 : Nat), (X.length + Int.toNat (2 : Int) + S.length) * 1 ≤ 140737488355328, X.length + Int.toNat (2 : Int) + S.length ≤ maxLen, S.length = (0 : Nat) ∨ 1 = 1, 1 = 1, 5 = 5]) (s' := ⟨[(0, 0, zP 1), (0, 4, .cell AV.nils), (0, 5, zI 0), (0, 8, zV 773), (0, 9, zI (P.hd (Int.toNat to) + (↑j : Int))), (1, 0, zI P.me), (1, 1, zI P.n), (1, 2, zI P.turn), (1, 3, zI P.iss), (1, 4, .arr 8 (nI P.hd)), (1, 12, zM 2), (1, 13, zM 3), (1, 14, .top), (2, 0, .map 2 (smap P.sets)), (3, 0, .map 2 (wmap P.words)), (773, 0, .vec 1 5 (X.length + Int.toNat 2 + S.length) (catF (X.length + Int.toNat 2) (nU (bytesL X.length (nU X) ++ leB (Int.toNat 2) (IntKind.wrap IntKind.u64 (↑S.length : Int)))) F))], 837, 112⟩) ?_ ?_
     ·refine ⟨by omega, isB hb2, by omega, ?_, m1, m2, m3, .inr rfl, rfl, rfl⟩
      rw [w6]
      exact ⟨Int.natCast_nonneg _, by omega⟩
     rw [w6, bytesL_nU]
     refine block_normal ?_
     refine then_normal ?_
     refine evC_goL0K (s' := ⟨[(0, 0, zP 1), (0, 4, .cell AV.nils), (0, 5, zI 0), (0, 8, zV 773), (0, 9, zI (IntKind.i64.wrap (P.hd (Int.toNat to) + (↑j : Int) + 1))), (1, 0, zI P.me), (1, 1, zI P.n), (1, 2, zI P.turn), (1, 3, zI P.iss), (1, 4, .arr 8 (nI P.hd)), (1, 12, zM 2), (1, 13, zM 3), (1, 14, .top), (2, 0, .map 2 (smap P.sets)), (3, 0, .map 2 (wmap P.words)), (773, 0, .vec 1 5 (X.length + Int.toNat 2 + S.length) (catF (X.length + Int.toNat 2) (nU (X ++ leB (Int.toNat 2) (↑S.length : Int))) F))], 933, 112⟩) ?_
     refine round_normal (⟨j + 1, hlt⟩) (wk_go [773] rfl (by decide) rfl rfl ⟨⟨_, rfl, rfl⟩, ⟨_, rfl, rfl⟩, ⟨_, rfl, rfl⟩, ⟨_, rfl, rfl⟩, ⟨_, rfl, ?_⟩, ⟨_, rfl, rfl⟩, ⟨_, rfl, rfl⟩, ⟨_, rfl, rfl⟩, ⟨_, rfl, rfl⟩, ⟨_, rfl, ⟨rfl, fun _ _ => rfl⟩⟩, ⟨_, rfl, rfl⟩, ⟨_, rfl, rfl⟩, ⟨_, rfl, trivial⟩, ⟨_, rfl, Go.Eng.S25.cw_smap _⟩, ⟨_, rfl, cw_map (Go.Eng.S25.flat_wmap _)⟩, ⟨_, rfl, ?_⟩, trivial⟩) ?_
     ·show AV.int .i64 _ = AV.int .i64 _
      rw [i64_in (P.hd to.toNat + (j : Int) + 1) (by omega)]
      refine congrArg _ ?_
      show _ = P.hd to.toNat + ((j + 1 : Nat) : Int)
      omega
     ·have e1 : H ++ setsB P (P.hd to.toNat) (j + 1) = (X ++ leB 2 (S.length : Int)) ++ S := by rw [hsn, ← hX]; simp only [List.append_assoc]
      have e2 : (X ++ leB 2 (S.length : Int)).length = X.length + 2 := by rw [List.length_append, leB_len]
      refine ⟨rfl, rfl, ?_, fun i hi => ?_⟩
      ·show X.length + 2 + S.length = (H ++ setsB P (P.hd to.toNat) (j + 1)).length
       rw [e1, List.length_append, e2]
      ·show catF (X.length + 2) (nU (X ++ leB 2 (S.length : Int))) F i = nU (H ++ setsB P (P.hd to.toNat) (j + 1)) i
       rw [e1, ← e2]
       exact cat_nU _ S F hF2 i (by rw [e2]; have hi : i < (H ++ setsB P (P.hd to.toNat) (j + 1)).length := hi; rw [e1, List.length_append, e2] at hi; exact hi)
     ·show N - (j + 1) < N - j
      omega
    ·have hjN : j = N := by have := of_decide_eq_false hc; omega
     subst hjN
     rw [← hX]
     refine evC_exit ?_
     refine then_exit ?_
     refine round_exit ?_
     refine block_exit ?_
     refine then_normal ?_
     refine evC_go0K (s' := ⟨[(0, 4, zV 4), (0, 5, zI 0), (1, 0, zI P.me), (1, 1, zI P.n), (1, 2, zI P.turn), (1, 3, zI P.iss), (1, 4, .arr 8 (nI P.hd)), (1, 12, zM 2), (1, 13, zM 3), (1, 14, .top), (2, 0, .map 2 (smap P.sets)), (3, 0, .map 2 (wmap P.words)), (4, 0, .vec 1 5 (List.length (H ++ setsB P (P.hd (Int.toNat to)) j)) (nU (H ++ setsB P (P.hd (Int.toNat to)) j)))], 293, 112⟩) ?_
     refine evC_ret ?_
     refine post_ret ?_
     refine ends_go [4] (AV.tup [AV.vs 4, AV.int IntKind.i64 0]) [(1, 0, zI P.me), (1, 1, zI P.n), (1, 2, zI P.turn), (1, 3, zI P.iss), (1, 4, .arr 8 (nI P.hd)), (1, 12, zM 2), (1, 13, zM 3), (1, 14, .top), (2, 0, .map 2 (smap P.sets)), (3, 0, .map 2 (wmap P.words)), (4, 0, .vec 1 5 (List.length (H ++ setsB P (P.hd (Int.toNat to)) j)) (nU (H ++ setsB P (P.hd (Int.toNat to)) j)))] rfl (by decide) rfl rfl (has_of _ rfl) rfl ⟨⟨_, rfl, rfl⟩, ⟨_, rfl, rfl⟩, ⟨_, rfl, rfl⟩, ⟨_, rfl, rfl⟩, ⟨_, rfl, ⟨rfl, fun _ _ => rfl⟩⟩, ⟨_, rfl, rfl⟩, ⟨_, rfl, rfl⟩, ⟨_, rfl, trivial⟩, ⟨_, rfl, Go.Eng.S25.cw_smap _⟩, ⟨_, rfl, cw_map (Go.Eng.S25.flat_wmap _)⟩, ⟨_, rfl, ⟨rfl, rfl, rfl, fun _ _ => rfl⟩⟩, trivial⟩ ⟨fun _ => ⟨4, _, rfl, rfl, rfl, ⟨rfl, rfl, rfl, fun _ _ => ⟨has_of _ rfl, rfl⟩⟩⟩, trivial⟩ ?_
     exact k4 _ _ (by simp [pcon, hget])
 ·cases e
end Go.Eng.S25