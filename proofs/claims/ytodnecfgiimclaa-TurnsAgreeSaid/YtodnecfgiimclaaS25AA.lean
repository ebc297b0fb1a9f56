/- Seat 25: a family of peers, of which one is looked at; the number of peers. -/
import Derived.Test.YtodnecfgiimclaaEngX
import Derived.Test.YtodnecfgiimclaaS25V
set_option linter.unusedSimpArgs false
set_option linter.unusedVariables false
namespace Go.Eng.S25
open Go.Proofs Go.IntWalk
set_option maxRecDepth 10000

def peersI (n : Int) : Int := bif (decide (n < 2) || decide (n > 8)) then 3 else n
theorem peersI_ok (n : Int) : ∃ k : Nat, peersI n = (k : Nat) ∧ 2 ≤ k ∧ k ≤ 8 := by
  unfold peersI
  cases h : decide (n < 2) || decide (n > 8) with
  | true => exact ⟨3, rfl, by decide, by decide⟩
  | false =>
    simp only [Bool.or_eq_false_iff, decide_eq_false_iff_not] at h
    exact ⟨n.toNat, by rw [cond_false]; omega, by omega, by omega⟩
def sPeers : Spec := fun args _ _ => match args with
  | [.int .i64 n] => some ⟨[], .int .i64 (peersI n), [], []⟩
  | _ => none
theorem peers_ok : SpecOK Try.prog 8 sPeers := by
  refine spec_own (by kernel_rfl) T_ok sget_nil Try.func8 rfl rfl fun args hr nb out e => ?_
  unfold sPeers at e
  split at e
  · rename_i n
    injection e with e; subst e
    refine ⟨(fun _ h => nomatch h), true, [.int .i64 n], rfl, fun hs => ⟨.cons _ _ _ _ (.same _ _ (.int _ _)) .nil, ?_⟩⟩
    refine evC_go0 (dec := []) (ks := [(0, 0), (0, 2)]) (s' := ⟨[(0, 0, Cont.cell (AV.int IntKind.i64 n)), (0, 2, Cont.cell (AV.int IntKind.i64 0))], 33, 10⟩) (by kernel_rfl) (by kernel_rfl) ?_
    refine evC_seq ?_
    refine evC_go0 (dec := []) (ks := [(0, 0), (0, 2), (0, 8)]) (s' := ⟨[(0, 0, Cont.cell (AV.int IntKind.i64 n)), (0, 2, Cont.cell (AV.int IntKind.i64 0)), (0, 8, Cont.cell (AV.bool (bif decide (n < 2) then true else decide (n > 8))))], 225, 10⟩) (by kernel_rfl) (by kernel_rfl) ?_
    refine evC_if (q := bif decide (n < 2) then true else decide (n > 8)) (by kernel_rfl) (fun hc => ?_) (fun hc => ?_)
    · rw [cond_or] at hc
      have e : peersI n = 3 := by unfold peersI; rw [hc]; rfl
      rw [e]
      refine evC_go0 (dec := []) (ks := [(0, 0), (0, 2)]) (s' := ⟨[(0, 0, Cont.cell (AV.int IntKind.i64 n)), (0, 2, Cont.cell (AV.int IntKind.i64 3))], 257, 10⟩) (by kernel_rfl) (by kernel_rfl) ?_
      refine evC_ret ?_
      refine then_ret ?_
      refine post_ret ?_
      refine ends_flat (vs := [AV.int IntKind.i64 3]) (Nat.zero_lt_succ _) (by kernel_rfl) (flat_of _ (by kernel_rfl)) rfl ?_
      rfl
    · rw [cond_or] at hc
      have e : peersI n = n := by unfold peersI; rw [hc]; rfl
      rw [e]
      refine evC_skip ?_
      refine then_normal ?_
      refine evC_go0 (dec := []) (ks := [(0, 2)]) (s' := ⟨[(0, 2, Cont.cell (AV.int IntKind.i64 n))], 289, 10⟩) (by kernel_rfl) (by kernel_rfl) ?_
      refine evC_ret ?_
      refine post_ret ?_
      refine ends_flat (vs := [AV.int IntKind.i64 n]) (Nat.zero_lt_succ _) (by kernel_rfl) (flat_of _ (by kernel_rfl)) rfl ?_
      rfl
  · cases e
/-- What is owed asks for these slots. -/
def SKeep (ks : List Nat) (Q : Exit → St → Prop) : Exit → St → Prop := Q
theorem skeep_at {ks : List Nat} {Q : Exit → St → Prop} {e : Exit} {s : St} (h : Q e s) : SKeep ks Q e s := h
/-- A piece of code, by the way to it: 0, 1 the parts of a sequence, 2 what a block or a loop holds, 3, 4 what is done if so, if not. -/
def cpath (c : Code) : List Nat → Code
  | [] => c
  | i :: l => match c with
    | .seq x y => bif i == 0 then cpath x l else cpath y l
    | .block _ b => cpath b l
    | .loop b => cpath b l
    | .cond _ x y => bif i == 3 then cpath x l else cpath y l
    | c => c
/-- The pointers to the peers, when the p-th lies under the names from 25 on. -/
def ptS (p i : Nat) : AV := .ptr (swp 3 (1 + 3 * p) 25 (1 + 3 * i)) 0
theorem ptS_at (p : Nat) : ptS p p = .ptr 25 0 := by
  unfold ptS
  have := swp_b (k := 3) (b := 1 + 3 * p) (a := 25) (i := 0) (by decide)
  rw [Nat.add_zero, Nat.add_zero] at this
  rw [this]
variable {n p nx N : Nat} {xs : Nat → Peer} {A C : Heap} {c : Code} {Q : Exit → St → Prop} {s : St}
theorem inF (hn : n ≤ 8) (hc : coreB 25 s.h = true) (h : Sem Try.prog 28 c (SFrame (famP xs n) Q) s) : Sem Try.prog 1 c Q (s.app (famP xs n)) :=
  Sem.frameC (B' := 28) (m := 25) rfl rfl (famP_low hn _ (by decide)) hc (fun x hx => (famP_low hn _ (by decide : 25 ≤ 28) x hx).2.2) h
theorem famX_lowP {n : Nat} (hn : n ≤ 8) {B : Nat} (hB : 25 ≤ B) : ∀ x ∈ famX peerL 3 1 xs p n, 0 < x.1 ∧ x.1 < B ∧ ContLow B x.2.2 :=
  famX_low peerL_lot (by decide) (by omega) fun j hj => peerL_low (by omega) _
/-- What holds of contents that name nothing below 28. -/
def fixS (p : Nat) (h : Heap) : Prop := ConvS (swp 3 (1 + 3 * p) 25) h h
theorem sw28 {m : Nat} (hp : p < 8) (hm : 28 ≤ m) : swp 3 (1 + 3 * p) 25 m = m := swp_ne (by omega) (by omega)
theorem cw_vsS {m : Nat} (hp : p < 8) (hm : 28 ≤ m) : CW (swp 3 (1 + 3 * p) 25) (.cell (.vs m)) (.cell (.vs m)) := by
  show AV.vs m = AV.vs (swp 3 (1 + 3 * p) 25 m)
  rw [sw28 hp hm]
theorem cw_rowS (hn : n ≤ 8) (hp : p < n) : CW (swp 3 (1 + 3 * p) 25) (.vec 1 28 n (ptS p)) (.vec 1 28 n ptF) := by
  refine ⟨rfl, rfl, rfl, fun i hi => ?_⟩
  show AV.ptr (1 + 3 * i) 0 = AV.ptr (swp 3 (1 + 3 * p) 25 (swp 3 (1 + 3 * p) 25 (1 + 3 * i))) 0
  rw [swp_swp (by omega)]
theorem cw_rowP {n p nx : Nat} {l : List Nat} (hn : n ≤ 8) (hp : p < n) : CW (pi 28 nx l) (.vec 1 28 n (ptS p)) (.vec 1 28 n (ptS p)) := by
  refine ⟨rfl, rfl, rfl, fun j hj => ?_⟩
  show AV.ptr _ 0 = AV.ptr (pi 28 nx l (swp 3 (1 + 3 * p) 25 (1 + 3 * j))) 0
  rw [pi_lt]
  by_cases h : j = p
  · subst h
    have := swp_b (k := 3) (b := 1 + 3 * j) (a := 25) (i := 0) (by decide)
    rw [Nat.add_zero, Nat.add_zero] at this
    rw [this]
    decide
  · rw [swp_ne (by omega) (by omega)]
    omega
theorem cw_rowQ {n nx : Nat} {l : List Nat} (hn : n ≤ 8) : CW (pi 28 nx l) (.vec 1 28 n ptF) (.vec 1 28 n ptF) := by
  refine ⟨rfl, rfl, rfl, fun j hj => ?_⟩
  show AV.ptr _ 0 = AV.ptr (pi 28 nx l (1 + 3 * j)) 0
  rw [pi_lt (by omega)]
theorem cw_rowF : CW (swp 3 (1 + 3 * p) 25) (.vec 1 28 n ptF) (.vec 1 28 n (ptS p)) := ⟨rfl, rfl, rfl, fun i hi => rfl⟩
theorem cw_kept {Ms : List (List Int)} {π : Nat → Nat} {k : Nat} : CW π (.vec 1 30 k (nB Ms)) (.vec 1 30 k (nB Ms)) := ⟨rfl, rfl, rfl, fun i hi => rfl⟩
theorem coreB_of {m : Nat} : ∀ {h : Heap}, (∀ x ∈ h, x.1 = 0 ∨ m ≤ x.1) → coreB m h = true
  | [], _ => rfl
  | (n, o, c) :: h, H => by
    unfold coreB
    rw [coreB_of fun x hx => H x (List.mem_cons_of_mem _ hx), Bool.and_true]
    rcases H _ List.mem_cons_self with h0 | h0
    · have h0 : n = 0 := h0
      subst h0; rfl
    · have h0 : m ≤ n := h0
      rw [Nat.ble_eq_true_of_le h0, Bool.or_true]
/-- One peer is looked at, the others are left aside. -/
theorem foc (hn : n ≤ 8) (hp : p < n) (hnx : 28 ≤ nx) (hA : slotsB A = true) (hC : fromB 28 C = true) (cA : fixS p A) (cC : fixS p C)
    (h : Sem Try.prog 28 c (SFrame (famX peerL 3 1 xs p n) Q) ⟨A ++ (peerL 25 (xs p) ++ ((28, 0, .vec 1 28 n (ptS p)) :: C)), nx, N⟩) :
    Sem Try.prog 1 c Q (St.app ⟨A ++ ((28, 0, .vec 1 28 n ptF) :: C), nx, N⟩ (famP xs n)) := by
  refine Sem.wk (focus peerL_lot (p := p) (b := 1) (a := 25) (A' := A) (C := (28, 0, .vec 1 28 n ptF) :: C) (C' := (28, 0, .vec 1 28 n (ptS p)) :: C) hp (by decide) (by omega) hnx hA hA (by show (Nat.ble 28 28 && fromB 28 C) = true; rw [hC]; rfl) (by show (Nat.ble 28 28 && fromB 28 C) = true; rw [hC]; rfl) cA ⟨⟨rfl, rfl, cw_rowS hn hp⟩, cC⟩) ?_
  have hm : coreB 25 (A ++ (peerL 25 (xs p) ++ ((28, 0, .vec 1 28 n (ptS p)) :: C))) = true := by
    refine coreB_of fun x hx => ?_
    rcases List.mem_append.1 hx with hx | hx
    · exact .inl (slotsB_get hA x hx)
    rcases List.mem_append.1 hx with hx | hx
    · exact .inr (peerL_lot.names _ _ _ hx).1
    rcases List.mem_cons.1 hx with rfl | hx
    · exact .inr (by show 25 ≤ 28; decide)
    · exact .inr (by have := fromB_get hC x hx; omega)
  exact Sem.frameC (B' := 28) (m := 25) (s := ⟨A ++ (peerL 25 (xs p) ++ ((28, 0, .vec 1 28 n (ptS p)) :: C)), nx, N⟩) rfl rfl (famX_lowP hn (by decide)) hm (fun x hx => (famX_lowP hn (by decide : 25 ≤ 28) x hx).2.2) h
theorem unfoc {y : Peer} {nx' : Nat} (hn : n ≤ 8) (hp : p < n) (hnx : 28 ≤ nx) (hnx' : nx ≤ nx') (hA : slotsB A = true) (hC : fromB 28 C = true) (cA : fixS p A) (cC : fixS p C) :
    Imp 1 (St.app ⟨A ++ (peerL 25 y ++ ((28, 0, .vec 1 28 n (ptS p)) :: C)), nx, N⟩ (famX peerL 3 1 xs p n)) (St.app ⟨A ++ ((28, 0, .vec 1 28 n ptF) :: C), nx', N⟩ (famP (updF xs p y) n)) := by
  refine Imp.trans (unfocus peerL_lot (p := p) (b := 1) (a := 25) (A' := A) (C := (28, 0, .vec 1 28 n (ptS p)) :: C) (C' := (28, 0, .vec 1 28 n ptF) :: C) hp (by decide) (by omega) hnx hA hA (by show (Nat.ble 28 28 && fromB 28 C) = true; rw [hC]; rfl) (by show (Nat.ble 28 28 && fromB 28 C) = true; rw [hC]; rfl) cA ⟨⟨rfl, rfl, cw_rowF⟩, cC⟩) ?_
  exact Imp.up rfl hnx' rfl
theorem updF_self (xs : Nat → Peer) (p : Nat) : updF xs p (xs p) = xs := by
  funext i
  by_cases h : i = p
  · subst h; rw [updF_at]
  · rw [updF_ne _ _ h]
end Go.Eng.S25
