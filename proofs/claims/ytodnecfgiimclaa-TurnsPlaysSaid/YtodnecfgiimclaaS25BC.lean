/- Seat 25: a family of peers, of which one is looked at; the number of peers. -/
import Derived.Test.YtodnecfgiimclaaEngX
import Derived.Test.YtodnecfgiimclaaS25V
set_option linter.unusedSimpArgs false
set_option linter.unusedVariables false
set_option maxHeartbeats 2000000
namespace Go.Eng.S25
open Go.Proofs Go.IntWalk
set_option maxRecDepth 10000
def peersI (n : Int) : Int := bif (decide (n < 2) || decide (n > 8)) then 3 else n
theorem peersI_ok (n : Int) : ∃ k : Nat, peersI n = (k : Nat) ∧ 2 ≤ k ∧ k ≤ 8 := by
 unfold peersI
 cases h : decide (n < 2) || decide (n > 8) with
 | true => exact ⟨3, rfl, by decide, by decide⟩
 | false =>
   simp only [Bool.or_eq_false_iff, decide_eq_false_iff_not] at h
   exact ⟨n.toNat, by rw [cond_false]; omega, by omega, by omega⟩
def sPeers : Spec := fun args _ _ => match args with
 | [.int .i64 n] => some ⟨[], .int .i64 (peersI n), [], []⟩
 | _ => none
theorem peers_ok : SpecOK Try.prog 8 sPeers := by
 refine spec_own (by kernel_rfl) T_ok sget_nil Try.func8 rfl rfl fun args hr nb out e => ?_
 unfold sPeers at e
 split at e
 ·rename_i n
  injection e with e; subst e
  refine ⟨(fun _ h => nomatch h), true, [.int .i64 n], rfl, fun hs => ⟨.cons _ _ _ _ (.same _ _ (.int _ _)) .nil, ?_⟩⟩
  refine evC_go0K (s' := ⟨[(0, 0, zI n), (0, 2, zI 0)], 33, 10⟩) ?_
  refine evC_seq ?_
  refine evC_go0K (s' := ⟨[(0, 0, zI n), (0, 2, zI 0), (0, 8, zB (bif decide (n < 2) then true else decide (n > 8)))], 225, 10⟩) ?_
  refine evC_if (q := bif decide (n < 2) then true else decide (n > 8)) (by kernel_rfl) (fun hc => ?_) (fun hc => ?_)
  ·rw [cond_or] at hc
   have e : peersI n = 3 := by unfold peersI; rw [hc]; rfl
   rw [e]
   refine evC_go0K (s' := ⟨[(0, 0, zI n), (0, 2, zI 3)], 257, 10⟩) ?_
   refine evC_ret ?_
   refine then_ret ?_
   refine post_ret ?_
   refine ends_flat (vs := [AV.int IntKind.i64 3]) (Nat.zero_lt_succ _) (by kernel_rfl) (flat_of _ (by kernel_rfl)) rfl ?_
   rfl
  ·rw [cond_or] at hc
   have e : peersI n = n := by unfold peersI; rw [hc]; rfl
   rw [e]
   refine evC_skip ?_
   refine then_normal ?_
   refine evC_go0K (s' := ⟨[(0, 2, zI n)], 289, 10⟩) ?_
   refine evC_ret ?_
   refine post_ret ?_
   refine ends_flat (vs := [AV.int IntKind.i64 n]) (Nat.zero_lt_succ _) (by kernel_rfl) (flat_of _ (by kernel_rfl)) rfl ?_
   rfl
 ·cases e
def SKeep (ks : List Nat) (Q : Exit → St → Prop) : Exit → St → Prop := Q
theorem skeep_at {ks : List Nat} {Q : Exit → St → Prop} {e : Exit} {s : St} (h : Q e s) : SKeep ks Q e s := h
def cpath (c : Code) : List Nat → Code
 | [] => c
 | i :: l => match c with
   | .seq x y => bif i == 0 then cpath x l else cpath y l
   | .block _ b => cpath b l
   | .loop b => cpath b l
   | .cond _ x y => bif i == 3 then cpath x l else cpath y l
   | c => c
variable {n p nx N : Nat} {xs : Nat → Peer} {A C : Heap} {c : Code} {Q : Exit → St → Prop} {s : St}
theorem coreB_of {m : Nat} : ∀ {h : Heap}, (∀ x ∈ h, x.1 = 0 ∨ m ≤ x.1) → coreB m h = true
 | [], _ => rfl
 | (n, o, c) :: h, H => by
   unfold coreB
   rw [coreB_of fun x hx => H x (List.mem_cons_of_mem _ hx), Bool.and_true]
   rcases H _ List.mem_cons_self with h0 | h0
   ·have h0 : n = 0 := h0
    subst h0; rfl
   ·have h0 : m ≤ n := h0
    rw [Nat.ble_eq_true_of_le h0, Bool.or_true]
theorem updF_self (xs : Nat → Peer) (p : Nat) : updF xs p (xs p) = xs := by
 funext i
 by_cases h : i = p
 ·subst h; rw [updF_at]
 ·rw [updF_ne _ _ h]
end Go.Eng.S25
/- Seat 25: acts; at most so many bytes; a peer issues, and what it issued is written down; walked. -/
set_option linter.unusedSimpArgs false
set_option linter.unusedVariables false
set_option maxHeartbeats 2000000
namespace Go.Eng.S25
open Go.Proofs Go.IntWalk
set_option maxRecDepth 10000
def fewN (m : Nat) : Nat := bif Nat.ble m 800 then m else 800
theorem fewN_le (m : Nat) : fewN m ≤ m ∧ fewN m ≤ 800 := by
 unfold fewN
 cases h : Nat.ble m 800 with
 | true => exact ⟨Nat.le_refl _, Nat.le_of_ble_eq_true h⟩
 | false =>
   have : ¬ m ≤ 800 := fun hh => by rw [Nat.ble_eq_true_of_le hh] at h; cases h
   exact ⟨by rw [cond_false]; omega, by rw [cond_false]; exact Nat.le_refl _⟩
def sFew : Spec := fun args _ _ => match args with
 | [.rs 1 m _ f] => some ⟨[IsB m f, m ≤ maxLen], .rs 1 (fewN m) false (nU (bytesL m f)), [], []⟩
 | _ => none
theorem few_ok : SpecOK Try.prog 16 sFew := by
 refine spec_own (by kernel_rfl) T_ok sget_nil Try.func16 rfl rfl fun args hr nb out e => ?_
 unfold sFew at e
 split at e
 ·rename_i m fl f
  injection e with e; subst e
  by_cases hB : IsB m f
  rotate_left
  ·exact ⟨(fun _ h => nomatch h), true, [], rfl, fun hs => absurd (hs _ List.mem_cons_self) hB⟩
  obtain ⟨L, rfl, hL, eL, hf⟩ := hB.list
  refine ⟨(fun _ h => nomatch h), true, [bs L], rfl, fun hs => ⟨.cons _ _ _ _ (.rs _ _ _ _ _ _ fun i hi => ⟨hf i hi, (nU_flat _ i).has⟩) .nil, ?_⟩⟩
  have hm : L.length ≤ maxLen := hs _ (List.mem_cons_of_mem _ List.mem_cons_self)
  rw [eL]
  clear eL hf hs hB
  unfold bs
  refine evC_go0K (s' := ⟨[(0, 0, .cell (AV.rs 1 L.length false (nU L))), (0, 2, .cell AV.nils)], 33, 9⟩) ?_
  refine evC_seq ?_
  refine evC_go0K (s' := ⟨[(0, 0, .cell (AV.rs 1 L.length false (nU L))), (0, 2, .cell AV.nils), (0, 5, zB (decide ((↑L.length : Int) > 800)))], 129, 9⟩) ?_
  refine evC_if (q := decide ((↑(List.length L) : Int) > 800)) (by kernel_rfl) (fun hc => ?_) (fun hc => ?_)
  ·have h8 : 800 < L.length := by have := of_decide_eq_true hc; omega
   have e8 : fewN L.length = 800 := by unfold fewN; rw [show Nat.ble L.length 800 = false by cases h : Nat.ble L.length 800 with | false => rfl | true => exact absurd (Nat.le_of_ble_eq_true h) (by omega)]; rfl
   rw [e8]
   refine evC_goK (ps := [(0 : Int) ≤ 0, (0 : Int) ≤ 800, (800 : Int) ≤ (↑L.length : Int), (800 : Int) = 800, 1 = 1, false = true → true = true]) (s' := ⟨[(0, 0, .cell (AV.rs 1 L.length false (nU L))), (0, 2, .cell (AV.rs 1 800 false fun i => nU L (Int.toNat 0 + i)))], 225, 9⟩) ?_ ?_
   ·exact ⟨by decide, by decide, by omega, rfl, rfl, fun _ => rfl⟩
   rw [show (fun i => nU L (Int.toNat 0 + i)) = nU L from funext fun i => by rw [show Int.toNat 0 = 0 from rfl, Nat.zero_add]]
   refine evC_ret ?_
   refine then_ret ?_
   refine post_ret ?_
   refine ends_go [] (AV.rs 1 800 false (nU L)) [] rfl (by decide) rfl rfl (?_) rfl trivial trivial (kept_nil _)
   exact .rs _ _ _ _ rfl fun i hi => (nU_flat _ i).has
  ·have h8 : ¬ 800 < L.length := by have := of_decide_eq_false hc; omega
   have e8 : fewN L.length = L.length := by unfold fewN; rw [Nat.ble_eq_true_of_le (by omega)]; rfl
   rw [e8]
   refine evC_skip ?_
   refine then_normal ?_
   refine evC_go0K (s' := ⟨[(0, 2, .cell (AV.rs 1 L.length false (nU L)))], 193, 9⟩) ?_
   refine evC_ret ?_
   refine post_ret ?_
   refine ends_go [] (AV.rs 1 (List.length L) false (nU L)) [] rfl (by decide) rfl rfl (?_) rfl trivial trivial (kept_nil _)
   exact .rs _ _ _ _ rfl fun i hi => (nU_flat _ i).has
 ·cases e
structure Act where
 Do : Int
 P : Int
 Q : Int
 K : Int
 W : Int
 B : List Int
def actV (a : Act) : AV := .agg [.int .i64 a.Do, .int .i64 a.P, .int .i64 a.Q, .int .i64 a.K, .int .u64 a.W, .rs 1 a.B.length false (nU a.B)]
theorem few_isU {B : List Int} (h : IsU B) : IsB (fewN B.length) (nU B) := ⟨fun j hj => (isB h).1 j (Nat.lt_of_lt_of_le hj (fewN_le _).1)⟩
theorem IsB.eq {k : Nat} {f : Nat → AV} (h : IsB k f) : ∀ j, j < k → f j = .int .u8 (iv (f j)) := fun j hj => (h.1 j hj).1
end Go.Eng.S25