/- Seat 12: all pairs that are near, walked. -/
import Derived.Test.YtkcigkoocimnlaaEngX
import Derived.Test.YtkcigkoocimnlaaS12J
set_option linter.unusedSimpArgs false
set_option linter.unusedVariables false
namespace Go.Eng.S12
open Go.Proofs Go.IntWalk
set_option maxRecDepth 10000

/-- Pairs of places. -/
def prF (L : List Sp) : Nat → AV := spF L
/-- With whom a spot is near, of those behind it. -/
def prI (l : List Sp) (r : Int) (i : Nat) (W : List Int) : List Sp := (W.filter fun j => decide (j > (i : Int))).map fun j => ((i : Int), j)
theorem prI_snoc (l : List Sp) (r : Int) (i : Nat) (W : List Int) (j : Int) : prI l r i (W ++ [j]) = prI l r i W ++ (bif decide (j > (i : Int)) then [((i : Int), j)] else []) := by
  unfold prI
  rw [List.filter_append, List.map_append]
  cases h : decide (j > (i : Int)) <;> simp [h]
def prN (l : List Sp) (r : Int) : Nat → List Sp
  | 0 => []
  | n + 1 => prN l r n ++ prI l r n (wit l (l.getD n (0, 0)).1 (l.getD n (0, 0)).2 r)
def prO (l : List Sp) (r : Int) : List Sp := bif inb r then prN l r l.length else []
theorem prI_len (l : List Sp) (r : Int) (i : Nat) (W : List Int) : (prI l r i W).length ≤ W.length := by
  unfold prI
  rw [List.length_map]
  exact List.length_filter_le _ _
theorem prN_len (l : List Sp) (r : Int) : ∀ n, (prN l r n).length ≤ n * l.length
  | 0 => by simp [prN]
  | n + 1 => by
    have h1 := prN_len l r n
    have h2 := prI_len l r n (wit l (l.getD n (0, 0)).1 (l.getD n (0, 0)).2 r)
    have h3 := witN_len l (l.getD n (0, 0)).1 (l.getD n (0, 0)).2 r l.length
    show (prN l r n ++ prI l r n (wit l (l.getD n (0, 0)).1 (l.getD n (0, 0)).2 r)).length ≤ _
    rw [List.length_append, Nat.add_mul, Nat.one_mul]
    have h3 : (wit l (l.getD n (0, 0)).1 (l.getD n (0, 0)).2 r).length ≤ l.length := h3
    omega
theorem catF_sp {L : List Sp} {s : Sp} {g : Nat → AV} (h : g 0 = .agg [.int .i64 s.1, .int .i64 s.2]) (j : Nat) (hj : j < L.length + 1) : catF L.length (spF L) g j = spF (L ++ [s]) j := by
  unfold catF spF
  cases hb : Nat.blt j L.length with
  | true =>
    have hb : j < L.length := by simpa [Nat.blt_eq] using hb
    rw [cond_true, List.getD_eq_getElem?_getD, List.getD_eq_getElem?_getD, List.getElem?_append_left hb]
  | false =>
    have hb : ¬ j < L.length := fun hh => by
      have : Nat.blt j L.length = true := by simpa [Nat.blt_eq] using hh
      rw [this] at hb; cases hb
    have : j = L.length := by omega
    subst this
    rw [cond_false, Nat.sub_self, h]
    simp
def sPairs : Spec := fun args hr _ => match args with
  | [v, .int .i64 r] => withIdx hr v fun n b l s rd => some ⟨[s, l.length ≤ 100], .tup [sps (prO l r), .int .i64 (errF (inb r))], rd, []⟩
  | _ => none
theorem prs_has (W : List Sp) (k : IntKind) (n : Int) : Has true true (AV.tup [AV.rs 2 W.length false (spF W), AV.int k n]) := .tup _ fun v hv => by
  rcases List.mem_cons.1 hv with rfl | hv
  · exact sps_has W
  · rw [List.mem_singleton.1 hv]; exact .int _ _
theorem pairs_ok : SpecOK Try.prog 16 sPairs := by
  refine spec_at (by kernel_rfl) T_ok (sget_cons may_ok (sget_cons within_ok sget_nil)) Try.func16 rfl rfl fun args hr nb out e => ?_
  unfold sPairs at e
  split at e
  · rename_i v r
    obtain ⟨n, b, l, s, rd, rfl, e, hrd, hs0, hs1⟩ := idx_open e
    injection e with e; subst e
    refine ⟨hrd, true, [n, b], [.ptr 1 0, .int .i64 r], icon 1 2 l, rfl, fun hs => ?_⟩
    obtain ⟨hl, k1, k2, k3⟩ := hs0 (hs _ List.mem_cons_self)
    have k4 := hs1 (hs _ List.mem_cons_self) [] nb
    have h100 := hs _ (List.mem_cons_of_mem _ List.mem_cons_self)
    refine ⟨k1, fun z hz => ⟨(k2 z hz).1, (k2 z hz).2 _ fun x hx => hx⟩, .cons _ _ _ _ (.name _ _ _ rfl) (.cons _ _ _ _ (.same _ _ (.int _ _)) .nil), k3 _ _, ?_⟩
    clear hs hs0 hs1 k1 k2 k3 hrd
    unfold icon sps
    refine evC_go0 (dec := []) (ks := [(0, 0), (0, 1), (0, 4), (0, 5), (1, 0), (1, 1), (1, 2), (2, 0)]) (s' := ⟨[(0, 0, Cont.cell (AV.ptr 1 0)), (0, 1, Cont.cell (AV.int IntKind.i64 r)), (0, 4, Cont.cell AV.nils), (0, 5, Cont.cell (AV.int IntKind.i64 0)), (1, 0, Cont.cell (AV.rs 2 (List.length l) false (spF l))), (1, 1, Cont.cell (AV.mp 2)), (1, 2, Cont.top), (2, 0, Cont.map 2 (qmap (sqN l (List.length l))))], 67, 55⟩) (by kernel_rfl) (by kernel_rfl) ?_
    refine evC_seq ?_
    refine evC_go (dec := []) (ks := [(0, 0), (0, 1), (0, 4), (0, 5), (0, 16), (1, 0), (1, 1), (1, 2), (2, 0)]) (ps := [(∀ (i : Nat), i < (1 : Nat) → pget [((0 : Nat), AV.int IntKind.i64 r)] i = c1 (pget [((0 : Nat), AV.int IntKind.i64 r)]) i) ∧ (1 : Nat) ≤ (3 : Nat)]) (s' := ⟨[(0, 0, Cont.cell (AV.ptr 1 0)), (0, 1, Cont.cell (AV.int IntKind.i64 r)), (0, 4, Cont.cell AV.nils), (0, 5, Cont.cell (AV.int IntKind.i64 0)), (0, 16, Cont.cell (AV.bool !allIn 1 (pget [(0, AV.int IntKind.i64 r)]))), (1, 0, Cont.cell (AV.rs 2 (List.length l) false (spF l))), (1, 1, Cont.cell (AV.mp 2)), (1, 2, Cont.top), (2, 0, Cont.map 2 (qmap (sqN l (List.length l))))], 195, 55⟩) (by kernel_rfl) (by kernel_rfl) ?_ ?_
    · exact pg1 r
    rw [allIn1]
    refine evC_if (q := !inb r) (by kernel_rfl) (fun hc => ?_) (fun hc => ?_)
    · have hq : inb r = false := by simpa using hc
      have hw : prO l r = [] ∧ errF (inb r) = 1 := by unfold prO; rw [hq]; exact ⟨rfl, rfl⟩
      refine evC_go0 (dec := []) (ks := [(0, 0), (0, 1), (0, 4), (0, 5), (1, 0), (1, 1), (1, 2), (2, 0)]) (s' := ⟨[(0, 0, Cont.cell (AV.ptr 1 0)), (0, 1, Cont.cell (AV.int IntKind.i64 r)), (0, 4, Cont.cell AV.nils), (0, 5, Cont.cell (AV.int IntKind.i64 1)), (1, 0, Cont.cell (AV.rs 2 (List.length l) false (spF l))), (1, 1, Cont.cell (AV.mp 2)), (1, 2, Cont.top), (2, 0, Cont.map 2 (qmap (sqN l (List.length l))))], 259, 55⟩) (by kernel_rfl) (by kernel_rfl) ?_
      refine evC_wk _ (.imp 0 4 _ (sps (prO l r)) rfl ?_) ?_
      · rw [hw.1]; exact vi_nil 2 false (spF [])
      refine evC_ret ?_
      refine then_ret ?_
      refine post_ret ?_
      rw [hw.2]
      refine ends_go [] (AV.tup [AV.rs 2 (List.length (prO l r)) false (spF (prO l r)), AV.int IntKind.i64 1]) [(1, 0, Cont.cell (AV.rs 2 (List.length l) false (spF l))), (1, 1, Cont.cell (AV.mp 2)), (1, 2, Cont.top), (2, 0, Cont.map 2 (qmap (sqN l (List.length l))))] rfl (by decide) rfl rfl (?_) rfl ⟨⟨_, rfl, rfl⟩, ⟨_, rfl, rfl⟩, ⟨_, rfl, trivial⟩, ⟨_, rfl, Go.Eng.S12.cw_qmap _⟩, trivial⟩ trivial ?_
      · exact prs_has _ _ _
      exact k4 _ _ (by simp [icon, hget, sps])
    · have hq : inb r = true := by simpa using hc
      have hr' := inb_iff.1 hq
      have hw : prO l r = prN l r l.length ∧ errF (inb r) = 0 := by unfold prO; rw [hq]; exact ⟨rfl, rfl⟩
      clear hc
      refine evC_skip ?_
      refine then_normal ?_
      refine evC_go0 (dec := []) (ks := [(0, 0), (0, 1), (0, 4), (0, 5), (0, 6), (1, 0), (1, 1), (1, 2), (2, 0)]) (s' := ⟨[(0, 0, Cont.cell (AV.ptr 1 0)), (0, 1, Cont.cell (AV.int IntKind.i64 r)), (0, 4, Cont.cell AV.nils), (0, 5, Cont.cell (AV.int IntKind.i64 0)), (0, 6, Cont.cell AV.nils), (1, 0, Cont.cell (AV.rs 2 (List.length l) false (spF l))), (1, 1, Cont.cell (AV.mp 2)), (1, 2, Cont.top), (2, 0, Cont.map 2 (qmap (sqN l (List.length l))))], 227, 55⟩) (by kernel_rfl) (by kernel_rfl) ?_
      refine evC_seq ?_
      refine evC_go0 (dec := []) (ks := [(0, 0), (0, 1), (0, 4), (0, 5), (0, 6), (0, 20), (0, 21), (0, 22), (1, 0), (1, 1), (1, 2), (2, 0)]) (s' := ⟨[(0, 0, Cont.cell (AV.ptr 1 0)), (0, 1, Cont.cell (AV.int IntKind.i64 r)), (0, 4, Cont.cell AV.nils), (0, 5, Cont.cell (AV.int IntKind.i64 0)), (0, 6, Cont.cell AV.nils), (0, 20, Cont.cell (AV.rs 2 (List.length l) false (spF l))), (0, 21, Cont.cell (AV.int IntKind.i64 (↑(List.length l) : Int))), (0, 22, Cont.cell (AV.int IntKind.i64 0)), (1, 0, Cont.cell (AV.rs 2 (List.length l) false (spF l))), (1, 1, Cont.cell (AV.mp 2)), (1, 2, Cont.top), (2, 0, Cont.map 2 (qmap (sqN l (List.length l))))], 419, 55⟩) (by kernel_rfl) (by kernel_rfl) ?_
      refine evC_wk _ (.nil 0 6 2 47 (fun _ => .nils) (Nat.le_of_ble_eq_true rfl) rfl) ?_
      refine evC_block ?_
      refine evC_loop (ι := { i : Nat // i ≤ l.length }) (fun i => ⟨[(0, 0, Cont.cell (AV.ptr 1 0)), (0, 1, Cont.cell (AV.int IntKind.i64 r)), (0, 4, Cont.cell AV.nils), (0, 5, Cont.cell (AV.int IntKind.i64 0)), (0, 6, Cont.cell (AV.vs 3)), (0, 20, Cont.cell (AV.rs 2 (List.length l) false (spF l))), (0, 21, Cont.cell (AV.int IntKind.i64 (↑(List.length l) : Int))), (0, 22, .cell (.int .i64 (i.1 : Nat))), (1, 0, Cont.cell (AV.rs 2 (List.length l) false (spF l))), (1, 1, Cont.cell (AV.mp 2)), (1, 2, Cont.top), (2, 0, Cont.map 2 (qmap (sqN l (List.length l)))), (3, 0, .vec 2 47 (prN l r i.1).length (spF (prN l r i.1)))], 4, 55⟩) (fun i => l.length - i.1) ⟨0, Nat.zero_le _⟩ (wk_go [419] rfl (by decide) rfl rfl ⟨⟨_, rfl, rfl⟩, ⟨_, rfl, rfl⟩, ⟨_, rfl, rfl⟩, ⟨_, rfl, rfl⟩, ⟨_, rfl, rfl⟩, ⟨_, rfl, rfl⟩, ⟨_, rfl, rfl⟩, ⟨_, rfl, rfl⟩, ⟨_, rfl, rfl⟩, ⟨_, rfl, rfl⟩, ⟨_, rfl, trivial⟩, ⟨_, rfl, Go.Eng.S12.cw_qmap _⟩, ⟨_, rfl, ⟨rfl, rfl, rfl, fun _ hi => absurd hi (Nat.not_lt_zero _)⟩⟩, trivial⟩) ?_
      rintro ⟨i, hi⟩
      have hP := prN_len l r i
      refine evC_go0 (dec := []) (ks := [(0, 0), (0, 1), (0, 4), (0, 5), (0, 6), (0, 20), (0, 21), (0, 22), (0, 23), (1, 0), (1, 1), (1, 2), (2, 0), (3, 0)]) (s' := ⟨[(0, 0, Cont.cell (AV.ptr 1 0)), (0, 1, Cont.cell (AV.int IntKind.i64 r)), (0, 4, Cont.cell AV.nils), (0, 5, Cont.cell (AV.int IntKind.i64 0)), (0, 6, Cont.cell (AV.vs 3)), (0, 20, Cont.cell (AV.rs 2 (List.length l) false (spF l))), (0, 21, Cont.cell (AV.int IntKind.i64 (↑(List.length l) : Int))), (0, 22, Cont.cell (AV.int IntKind.i64 (↑i : Int))), (0, 23, Cont.cell (AV.bool (decide ((↑i : Int) < (↑(List.length l) : Int))))), (1, 0, Cont.cell (AV.rs 2 (List.length l) false (spF l))), (1, 1, Cont.cell (AV.mp 2)), (1, 2, Cont.top), (2, 0, Cont.map 2 (qmap (sqN l (List.length l)))), (3, 0, Cont.vec 2 47 (List.length (prN l r i)) (spF (prN l r i)))], 36, 55⟩) (by kernel_rfl) (by kernel_rfl) ?_
      refine evC_seq ?_
      refine evC_if (q := decide ((↑i : Int) < (↑(List.length l) : Int))) (by kernel_rfl) (fun hc => ?_) (fun hc => ?_)
      · have hlt : i < l.length := by have := of_decide_eq_true hc; omega
        clear hc
        refine evC_skip ?_
        refine then_normal ?_
        refine evC_seq ?_
        refine evC_block ?_
        refine evC_go (dec := []) (ks := [(0, 0), (0, 1), (0, 4), (0, 5), (0, 6), (0, 7), (0, 8), (0, 20), (0, 21), (0, 22), (1, 0), (1, 1), (1, 2), (2, 0), (3, 0), (132, 0), (132, 1), (132, 2)]) (ps := [(0 : Int) ≤ (↑i : Int), (↑i : Int) < (↑(List.length l) : Int), (2 : Nat) = (2 : Nat)]) (s' := ⟨[(0, 0, Cont.cell (AV.ptr 1 0)), (0, 1, Cont.cell (AV.int IntKind.i64 r)), (0, 4, Cont.cell AV.nils), (0, 5, Cont.cell (AV.int IntKind.i64 0)), (0, 6, Cont.cell (AV.vs 3)), (0, 7, Cont.cell (AV.int IntKind.i64 (↑i : Int))), (0, 8, Cont.cell (AV.ptr 132 0)), (0, 20, Cont.cell (AV.rs 2 (List.length l) false (spF l))), (0, 21, Cont.cell (AV.int IntKind.i64 (↑(List.length l) : Int))), (0, 22, Cont.cell (AV.int IntKind.i64 (↑i : Int))), (1, 0, Cont.cell (AV.rs 2 (List.length l) false (spF l))), (1, 1, Cont.cell (AV.mp 2)), (1, 2, Cont.top), (2, 0, Cont.map 2 (qmap (sqN l (List.length l)))), (3, 0, Cont.vec 2 47 (List.length (prN l r i)) (spF (prN l r i))), (132, 0, Cont.cell (AV.int IntKind.i64 (Prod.fst (List.getD l i (0, 0))))), (132, 1, Cont.cell (AV.int IntKind.i64 (Prod.snd (List.getD l i (0, 0))))), (132, 2, Cont.top)], 228, 55⟩) (by kernel_rfl) (by kernel_rfl) ?_ ?_
        · (simp only [All]; (repeat' apply And.intro) <;> (try intro _) <;> (try intro _) <;> (repeat' apply And.intro) <;> (try intro _) <;> (try intro _) <;> first | trivial | assumption | exact .inr trivial | exact .inr rfl | omega | rfl | exact ⟨_, rfl, rfl⟩ | exact ⟨rfl, rfl⟩ | exact ⟨fun _ => rfl, fun _ => rfl⟩ | (unfold maxLen; omega) | (unfold i64R; first | omega | decide) | decide)
        refine evC_go (dec := []) (ks := [(0, 0), (0, 1), (0, 4), (0, 5), (0, 6), (0, 7), (0, 9), (0, 20), (0, 21), (0, 22), (1, 0), (1, 1), (1, 2), (2, 0), (3, 0)]) (ps := [((0 : Nat) < (1 : Nat) ∧ (0 : Nat) < (2 : Nat) ∧ (1 : Nat) ≠ (2 : Nat)) ∧ spF l = spF (spL (List.length l) (spF l)) ∧ qmap (sqN l (List.length l)) = qmap (sqN (spL (List.length l) (spF l)) (List.length (spL (List.length l) (spF l)))) ∧ InL (spL (List.length l) (spF l))]) (s' := ⟨[(0, 0, Cont.cell (AV.ptr 1 0)), (0, 1, Cont.cell (AV.int IntKind.i64 r)), (0, 4, Cont.cell AV.nils), (0, 5, Cont.cell (AV.int IntKind.i64 0)), (0, 6, Cont.cell (AV.vs 3)), (0, 7, Cont.cell (AV.int IntKind.i64 (↑i : Int))), (0, 9, Cont.cell (AV.rs 1 (List.length (witO (spL (List.length l) (spF l)) (Prod.fst (List.getD l i (0, 0))) (Prod.snd (List.getD l i (0, 0))) r)) false (lst (witO (spL (List.length l) (spF l)) (Prod.fst (List.getD l i (0, 0))) (Prod.snd (List.getD l i (0, 0))) r)))), (0, 20, Cont.cell (AV.rs 2 (List.length l) false (spF l))), (0, 21, Cont.cell (AV.int IntKind.i64 (↑(List.length l) : Int))), (0, 22, Cont.cell (AV.int IntKind.i64 (↑i : Int))), (1, 0, Cont.cell (AV.rs 2 (List.length l) false (spF l))), (1, 1, Cont.cell (AV.mp 2)), (1, 2, Cont.top), (2, 0, Cont.map 2 (qmap (sqN l (List.length l)))), (3, 0, Cont.vec 2 47 (List.length (prN l r i)) (spF (prN l r i)))], 612, 55⟩) (by kernel_rfl) (by kernel_rfl) ?_ ?_
        · exact ⟨⟨by decide, by decide, by decide⟩, by rw [idx_eta], by rw [idx_eta], by rw [idx_eta]; exact hl⟩
        rw [idx_eta]
        have hok : okW (l.getD i (0, 0)).1 (l.getD i (0, 0)).2 r = true := by
          have := hl.get hlt
          rw [← inb_iff, ← inb_iff] at this
          unfold okW
          rw [this.1, this.2, hq]; rfl
        have hwi : witO l (l.getD i (0, 0)).1 (l.getD i (0, 0)).2 r = wit l (l.getD i (0, 0)).1 (l.getD i (0, 0)).2 r := by unfold witO; rw [hok]; rfl
        rw [hwi]
        obtain ⟨W, hW⟩ : ∃ W, W = wit l (l.getD i (0, 0)).1 (l.getD i (0, 0)).2 r := ⟨_, rfl⟩
        have hWl : W.length ≤ l.length := by rw [hW]; exact witN_len _ _ _ _ _
        rw [← hW]
        refine evC_go0 (dec := []) (ks := [(0, 0), (0, 1), (0, 4), (0, 5), (0, 6), (0, 7), (0, 20), (0, 21), (0, 22), (0, 37), (0, 38), (0, 39), (1, 0), (1, 1), (1, 2), (2, 0), (3, 0)]) (s' := ⟨[(0, 0, Cont.cell (AV.ptr 1 0)), (0, 1, Cont.cell (AV.int IntKind.i64 r)), (0, 4, Cont.cell AV.nils), (0, 5, Cont.cell (AV.int IntKind.i64 0)), (0, 6, Cont.cell (AV.vs 3)), (0, 7, Cont.cell (AV.int IntKind.i64 (↑i : Int))), (0, 20, Cont.cell (AV.rs 2 (List.length l) false (spF l))), (0, 21, Cont.cell (AV.int IntKind.i64 (↑(List.length l) : Int))), (0, 22, Cont.cell (AV.int IntKind.i64 (↑i : Int))), (0, 37, Cont.cell (AV.rs 1 (List.length W) false (lst W))), (0, 38, Cont.cell (AV.int IntKind.i64 (↑(List.length W) : Int))), (0, 39, Cont.cell (AV.int IntKind.i64 0)), (1, 0, Cont.cell (AV.rs 2 (List.length l) false (spF l))), (1, 1, Cont.cell (AV.mp 2)), (1, 2, Cont.top), (2, 0, Cont.map 2 (qmap (sqN l (List.length l)))), (3, 0, Cont.vec 2 47 (List.length (prN l r i)) (spF (prN l r i)))], 708, 55⟩) (by kernel_rfl) (by kernel_rfl) ?_
        refine evC_block ?_
        refine evC_loop (ι := { j : Nat // j ≤ W.length }) (fun j => ⟨[(0, 0, Cont.cell (AV.ptr 1 0)), (0, 1, Cont.cell (AV.int IntKind.i64 r)), (0, 4, Cont.cell AV.nils), (0, 5, Cont.cell (AV.int IntKind.i64 0)), (0, 6, Cont.cell (AV.vs 3)), (0, 7, Cont.cell (AV.int IntKind.i64 (↑i : Int))), (0, 20, Cont.cell (AV.rs 2 (List.length l) false (spF l))), (0, 21, Cont.cell (AV.int IntKind.i64 (↑(List.length l) : Int))), (0, 22, Cont.cell (AV.int IntKind.i64 (↑i : Int))), (0, 37, Cont.cell (AV.rs 1 (List.length W) false (lst W))), (0, 38, Cont.cell (AV.int IntKind.i64 (↑(List.length W) : Int))), (0, 39, .cell (.int .i64 (j.1 : Nat))), (1, 0, Cont.cell (AV.rs 2 (List.length l) false (spF l))), (1, 1, Cont.cell (AV.mp 2)), (1, 2, Cont.top), (2, 0, Cont.map 2 (qmap (sqN l (List.length l)))), (3, 0, .vec 2 47 (prN l r i ++ prI l r i (W.take j.1)).length (spF (prN l r i ++ prI l r i (W.take j.1))))], 4, 55⟩) (fun j => W.length - j.1) ⟨0, Nat.zero_le _⟩ (wk_go [3] rfl (by decide) rfl rfl ⟨⟨_, rfl, rfl⟩, ⟨_, rfl, rfl⟩, ⟨_, rfl, rfl⟩, ⟨_, rfl, rfl⟩, ⟨_, rfl, rfl⟩, ⟨_, rfl, rfl⟩, ⟨_, rfl, rfl⟩, ⟨_, rfl, rfl⟩, ⟨_, rfl, rfl⟩, ⟨_, rfl, rfl⟩, ⟨_, rfl, rfl⟩, ⟨_, rfl, rfl⟩, ⟨_, rfl, rfl⟩, ⟨_, rfl, rfl⟩, ⟨_, rfl, trivial⟩, ⟨_, rfl, Go.Eng.S12.cw_qmap _⟩, ⟨_, rfl, ?_⟩, trivial⟩) ?_
        · exact ⟨rfl, rfl, by simp [prI], fun k hk => by show spF (prN l r i) k = spF (prN l r i ++ prI l r i (List.take 0 W)) k; simp [prI]⟩
        rintro ⟨j, hj⟩
        have hil : i * l.length ≤ 100 * 100 := Nat.mul_le_mul (by omega) h100
        have hQ := prI_len l r i (W.take j)
        have htl : (W.take j).length = j := by rw [List.length_take]; omega
        refine evC_go0 (dec := []) (ks := [(0, 0), (0, 1), (0, 4), (0, 5), (0, 6), (0, 7), (0, 20), (0, 21), (0, 22), (0, 37), (0, 38), (0, 39), (0, 40), (1, 0), (1, 1), (1, 2), (2, 0), (3, 0)]) (s' := ⟨[(0, 0, Cont.cell (AV.ptr 1 0)), (0, 1, Cont.cell (AV.int IntKind.i64 r)), (0, 4, Cont.cell AV.nils), (0, 5, Cont.cell (AV.int IntKind.i64 0)), (0, 6, Cont.cell (AV.vs 3)), (0, 7, Cont.cell (AV.int IntKind.i64 (↑i : Int))), (0, 20, Cont.cell (AV.rs 2 (List.length l) false (spF l))), (0, 21, Cont.cell (AV.int IntKind.i64 (↑(List.length l) : Int))), (0, 22, Cont.cell (AV.int IntKind.i64 (↑i : Int))), (0, 37, Cont.cell (AV.rs 1 (List.length W) false (lst W))), (0, 38, Cont.cell (AV.int IntKind.i64 (↑(List.length W) : Int))), (0, 39, Cont.cell (AV.int IntKind.i64 (↑j : Int))), (0, 40, Cont.cell (AV.bool (decide ((↑j : Int) < (↑(List.length W) : Int))))), (1, 0, Cont.cell (AV.rs 2 (List.length l) false (spF l))), (1, 1, Cont.cell (AV.mp 2)), (1, 2, Cont.top), (2, 0, Cont.map 2 (qmap (sqN l (List.length l)))), (3, 0, Cont.vec 2 47 (List.length (prN l r i ++ prI l r i (List.take j W))) (spF (prN l r i ++ prI l r i (List.take j W))))], 36, 55⟩) (by kernel_rfl) (by kernel_rfl) ?_
        refine evC_seq ?_
        refine evC_if (q := decide ((↑j : Int) < (↑(List.length W) : Int))) (by kernel_rfl) (fun hc => ?_) (fun hc => ?_)
        · have hjt : j < W.length := by have := of_decide_eq_true hc; omega
          clear hc
          have hsn := prI_snoc l r i (W.take j) (W.getD j 0)
          rw [← take_snoc W hjt] at hsn
          refine evC_skip ?_
          refine then_normal ?_
          refine evC_seq ?_
          refine evC_block ?_
          refine evC_go (dec := []) (ks := [(0, 0), (0, 1), (0, 4), (0, 5), (0, 6), (0, 7), (0, 12), (0, 20), (0, 21), (0, 22), (0, 37), (0, 38), (0, 39), (1, 0), (1, 1), (1, 2), (2, 0), (3, 0)]) (ps := [(0 : Int) ≤ (↑j : Int), (↑j : Int) < (↑(List.length W) : Int), (1 : Nat) = (1 : Nat)]) (s' := ⟨[(0, 0, Cont.cell (AV.ptr 1 0)), (0, 1, Cont.cell (AV.int IntKind.i64 r)), (0, 4, Cont.cell AV.nils), (0, 5, Cont.cell (AV.int IntKind.i64 0)), (0, 6, Cont.cell (AV.vs 3)), (0, 7, Cont.cell (AV.int IntKind.i64 (↑i : Int))), (0, 12, Cont.cell (AV.int IntKind.i64 (List.getD W j 0))), (0, 20, Cont.cell (AV.rs 2 (List.length l) false (spF l))), (0, 21, Cont.cell (AV.int IntKind.i64 (↑(List.length l) : Int))), (0, 22, Cont.cell (AV.int IntKind.i64 (↑i : Int))), (0, 37, Cont.cell (AV.rs 1 (List.length W) false (lst W))), (0, 38, Cont.cell (AV.int IntKind.i64 (↑(List.length W) : Int))), (0, 39, Cont.cell (AV.int IntKind.i64 (↑j : Int))), (1, 0, Cont.cell (AV.rs 2 (List.length l) false (spF l))), (1, 1, Cont.cell (AV.mp 2)), (1, 2, Cont.top), (2, 0, Cont.map 2 (qmap (sqN l (List.length l)))), (3, 0, Cont.vec 2 47 (List.length (prN l r i ++ prI l r i (List.take j W))) (spF (prN l r i ++ prI l r i (List.take j W))))], 132, 55⟩) (by kernel_rfl) (by kernel_rfl) ?_ ?_
          · (simp only [All]; (repeat' apply And.intro) <;> (try intro _) <;> (try intro _) <;> (repeat' apply And.intro) <;> (try intro _) <;> (try intro _) <;> first | trivial | assumption | exact .inr trivial | exact .inr rfl | omega | rfl | exact ⟨_, rfl, rfl⟩ | exact ⟨rfl, rfl⟩ | exact ⟨fun _ => rfl, fun _ => rfl⟩ | (unfold maxLen; omega) | (unfold i64R; first | omega | decide) | decide)
          refine evC_go0 (dec := []) (ks := [(0, 0), (0, 1), (0, 4), (0, 5), (0, 6), (0, 7), (0, 12), (0, 20), (0, 21), (0, 22), (0, 37), (0, 38), (0, 39), (0, 45), (1, 0), (1, 1), (1, 2), (2, 0), (3, 0)]) (s' := ⟨[(0, 0, Cont.cell (AV.ptr 1 0)), (0, 1, Cont.cell (AV.int IntKind.i64 r)), (0, 4, Cont.cell AV.nils), (0, 5, Cont.cell (AV.int IntKind.i64 0)), (0, 6, Cont.cell (AV.vs 3)), (0, 7, Cont.cell (AV.int IntKind.i64 (↑i : Int))), (0, 12, Cont.cell (AV.int IntKind.i64 (List.getD W j 0))), (0, 20, Cont.cell (AV.rs 2 (List.length l) false (spF l))), (0, 21, Cont.cell (AV.int IntKind.i64 (↑(List.length l) : Int))), (0, 22, Cont.cell (AV.int IntKind.i64 (↑i : Int))), (0, 37, Cont.cell (AV.rs 1 (List.length W) false (lst W))), (0, 38, Cont.cell (AV.int IntKind.i64 (↑(List.length W) : Int))), (0, 39, Cont.cell (AV.int IntKind.i64 (↑j : Int))), (0, 45, Cont.cell (AV.bool (decide (List.getD W j 0 > (↑i : Int))))), (1, 0, Cont.cell (AV.rs 2 (List.length l) false (spF l))), (1, 1, Cont.cell (AV.mp 2)), (1, 2, Cont.top), (2, 0, Cont.map 2 (qmap (sqN l (List.length l)))), (3, 0, Cont.vec 2 47 (List.length (prN l r i ++ prI l r i (List.take j W))) (spF (prN l r i ++ prI l r i (List.take j W))))], 228, 55⟩) (by kernel_rfl) (by kernel_rfl) ?_
          refine evC_if (q := decide (List.getD W j 0 > (↑i : Int))) (by kernel_rfl) (fun hc => ?_) (fun hc => ?_)
          · rw [hc, cond_true] at hsn
            refine evC_goL (dec := []) (ks := [(0, 0), (0, 1), (0, 4), (0, 5), (0, 6), (0, 7), (0, 20), (0, 21), (0, 22), (0, 37), (0, 38), (0, 39), (1, 0), (1, 1), (1, 2), (2, 0), (388, 0)]) (ps := [(List.length (prN l r i ++ prI l r i (List.take j W)) + (1 : Nat)) * (16 : Nat) ≤ (140737488355328 : Nat), List.length (prN l r i ++ prI l r i (List.take j W)) + (1 : Nat) ≤ maxLen, (1 : Nat) = (0 : Nat) ∨ (2 : Nat) = (2 : Nat), (2 : Nat) = (2 : Nat), (47 : Nat) = (47 : Nat)]) (s' := ⟨[(0, 0, Cont.cell (AV.ptr 1 0)), (0, 1, Cont.cell (AV.int IntKind.i64 r)), (0, 4, Cont.cell AV.nils), (0, 5, Cont.cell (AV.int IntKind.i64 0)), (0, 6, Cont.cell (AV.vs 388)), (0, 7, Cont.cell (AV.int IntKind.i64 (↑i : Int))), (0, 20, Cont.cell (AV.rs 2 (List.length l) false (spF l))), (0, 21, Cont.cell (AV.int IntKind.i64 (↑(List.length l) : Int))), (0, 22, Cont.cell (AV.int IntKind.i64 (↑i : Int))), (0, 37, Cont.cell (AV.rs 1 (List.length W) false (lst W))), (0, 38, Cont.cell (AV.int IntKind.i64 (↑(List.length W) : Int))), (0, 39, Cont.cell (AV.int IntKind.i64 (↑j : Int))), (1, 0, Cont.cell (AV.rs 2 (List.length l) false (spF l))), (1, 1, Cont.cell (AV.mp 2)), (1, 2, Cont.top), (2, 0, Cont.map 2 (qmap (sqN l (List.length l)))), (388, 0, Cont.vec 2 47 (List.length (prN l r i ++ prI l r i (List.take j W)) + 1) (catF (List.length (prN l r i ++ prI l r i (List.take j W))) (spF (prN l r i ++ prI l r i (List.take j W))) (pget [(0, AV.agg ([AV.int IntKind.i64 (↑i : Int)] ++ AV.cells (AV.int IntKind.i64 (List.getD W j 0)) ++ []))])))], 452, 55⟩) (by kernel_rfl) (by kernel_rfl) ?_ ?_
            · rw [List.length_append]
              (simp only [All]; (repeat' apply And.intro) <;> (try intro _) <;> (try intro _) <;> (repeat' apply And.intro) <;> (try intro _) <;> (try intro _) <;> first | trivial | assumption | exact .inr trivial | exact .inr rfl | omega | rfl | exact ⟨_, rfl, rfl⟩ | exact ⟨rfl, rfl⟩ | exact ⟨fun _ => rfl, fun _ => rfl⟩ | (unfold maxLen; omega) | (unfold i64R; first | omega | decide) | decide)
            refine block_normal ?_
            refine then_normal ?_
            refine evC_goL0 (dec := []) (ks := [(0, 0), (0, 1), (0, 4), (0, 5), (0, 6), (0, 7), (0, 20), (0, 21), (0, 22), (0, 37), (0, 38), (0, 39), (1, 0), (1, 1), (1, 2), (2, 0), (388, 0)]) (s' := ⟨[(0, 0, Cont.cell (AV.ptr 1 0)), (0, 1, Cont.cell (AV.int IntKind.i64 r)), (0, 4, Cont.cell AV.nils), (0, 5, Cont.cell (AV.int IntKind.i64 0)), (0, 6, Cont.cell (AV.vs 388)), (0, 7, Cont.cell (AV.int IntKind.i64 (↑i : Int))), (0, 20, Cont.cell (AV.rs 2 (List.length l) false (spF l))), (0, 21, Cont.cell (AV.int IntKind.i64 (↑(List.length l) : Int))), (0, 22, Cont.cell (AV.int IntKind.i64 (↑i : Int))), (0, 37, Cont.cell (AV.rs 1 (List.length W) false (lst W))), (0, 38, Cont.cell (AV.int IntKind.i64 (↑(List.length W) : Int))), (0, 39, Cont.cell (AV.int IntKind.i64 (IntKind.i64.wrap ((↑j : Int) + 1)))), (1, 0, Cont.cell (AV.rs 2 (List.length l) false (spF l))), (1, 1, Cont.cell (AV.mp 2)), (1, 2, Cont.top), (2, 0, Cont.map 2 (qmap (sqN l (List.length l)))), (388, 0, Cont.vec 2 47 (List.length (prN l r i ++ prI l r i (List.take j W)) + 1) (catF (List.length (prN l r i ++ prI l r i (List.take j W))) (spF (prN l r i ++ prI l r i (List.take j W))) (pget [(0, AV.agg ([AV.int IntKind.i64 (↑i : Int)] ++ AV.cells (AV.int IntKind.i64 (List.getD W j 0)) ++ []))])))], 516, 55⟩) (by kernel_rfl) (by kernel_rfl) ?_
            rw [wrap_add_one hjt (by omega)]
            refine round_normal (⟨j + 1, hjt⟩) (wk_go [388] rfl (by decide) rfl rfl ⟨⟨_, rfl, rfl⟩, ⟨_, rfl, rfl⟩, ⟨_, rfl, rfl⟩, ⟨_, rfl, rfl⟩, ⟨_, rfl, rfl⟩, ⟨_, rfl, rfl⟩, ⟨_, rfl, rfl⟩, ⟨_, rfl, rfl⟩, ⟨_, rfl, rfl⟩, ⟨_, rfl, rfl⟩, ⟨_, rfl, rfl⟩, ⟨_, rfl, rfl⟩, ⟨_, rfl, rfl⟩, ⟨_, rfl, rfl⟩, ⟨_, rfl, trivial⟩, ⟨_, rfl, Go.Eng.S12.cw_qmap _⟩, ⟨_, rfl, ?_⟩, trivial⟩) ?_
            · rw [hsn, ← List.append_assoc]
              refine ⟨rfl, rfl, by simp [Nat.add_assoc], fun k hk => ?_⟩
              have hk : k < (prN l r i ++ prI l r i (W.take j) ++ [((i : Int), W.getD j 0)]).length := hk
              rw [List.length_append] at hk
              show catF _ _ _ k = (spF _ k).ren _
              rw [catF_sp (s := ((i : Int), W.getD j 0)) rfl k hk]
              rfl
            · show W.length - (j + 1) < W.length - j; omega
          · rw [hc, cond_false, List.append_nil] at hsn
            refine evC_skip ?_
            refine block_normal ?_
            refine then_normal ?_
            refine evC_goL0 (dec := []) (ks := [(0, 0), (0, 1), (0, 4), (0, 5), (0, 6), (0, 7), (0, 20), (0, 21), (0, 22), (0, 37), (0, 38), (0, 39), (1, 0), (1, 1), (1, 2), (2, 0), (3, 0)]) (s' := ⟨[(0, 0, Cont.cell (AV.ptr 1 0)), (0, 1, Cont.cell (AV.int IntKind.i64 r)), (0, 4, Cont.cell AV.nils), (0, 5, Cont.cell (AV.int IntKind.i64 0)), (0, 6, Cont.cell (AV.vs 3)), (0, 7, Cont.cell (AV.int IntKind.i64 (↑i : Int))), (0, 20, Cont.cell (AV.rs 2 (List.length l) false (spF l))), (0, 21, Cont.cell (AV.int IntKind.i64 (↑(List.length l) : Int))), (0, 22, Cont.cell (AV.int IntKind.i64 (↑i : Int))), (0, 37, Cont.cell (AV.rs 1 (List.length W) false (lst W))), (0, 38, Cont.cell (AV.int IntKind.i64 (↑(List.length W) : Int))), (0, 39, Cont.cell (AV.int IntKind.i64 (IntKind.i64.wrap ((↑j : Int) + 1)))), (1, 0, Cont.cell (AV.rs 2 (List.length l) false (spF l))), (1, 1, Cont.cell (AV.mp 2)), (1, 2, Cont.top), (2, 0, Cont.map 2 (qmap (sqN l (List.length l)))), (3, 0, Cont.vec 2 47 (List.length (prN l r i ++ prI l r i (List.take j W))) (spF (prN l r i ++ prI l r i (List.take j W))))], 292, 55⟩) (by kernel_rfl) (by kernel_rfl) ?_
            rw [wrap_add_one hjt (by omega)]
            refine round_normal (⟨j + 1, hjt⟩) (wk_go [3] rfl (by decide) rfl rfl ⟨⟨_, rfl, rfl⟩, ⟨_, rfl, rfl⟩, ⟨_, rfl, rfl⟩, ⟨_, rfl, rfl⟩, ⟨_, rfl, rfl⟩, ⟨_, rfl, rfl⟩, ⟨_, rfl, rfl⟩, ⟨_, rfl, rfl⟩, ⟨_, rfl, rfl⟩, ⟨_, rfl, rfl⟩, ⟨_, rfl, rfl⟩, ⟨_, rfl, rfl⟩, ⟨_, rfl, rfl⟩, ⟨_, rfl, rfl⟩, ⟨_, rfl, trivial⟩, ⟨_, rfl, Go.Eng.S12.cw_qmap _⟩, ⟨_, rfl, ?_⟩, trivial⟩) ?_
            · rw [hsn]
              exact ⟨rfl, rfl, rfl, fun k hk => rfl⟩
            · show W.length - (j + 1) < W.length - j; omega
        · have hjn : j = W.length := by have := of_decide_eq_false hc; omega
          subst hjn
          clear hc
          rw [List.take_length]
          refine evC_exit ?_
          refine then_exit ?_
          refine round_exit ?_
          refine block_exit ?_
          refine block_normal ?_
          refine then_normal ?_
          refine evC_goL0 (dec := []) (ks := [(0, 0), (0, 1), (0, 4), (0, 5), (0, 6), (0, 20), (0, 21), (0, 22), (1, 0), (1, 1), (1, 2), (2, 0), (3, 0)]) (s' := ⟨[(0, 0, Cont.cell (AV.ptr 1 0)), (0, 1, Cont.cell (AV.int IntKind.i64 r)), (0, 4, Cont.cell AV.nils), (0, 5, Cont.cell (AV.int IntKind.i64 0)), (0, 6, Cont.cell (AV.vs 3)), (0, 20, Cont.cell (AV.rs 2 (List.length l) false (spF l))), (0, 21, Cont.cell (AV.int IntKind.i64 (↑(List.length l) : Int))), (0, 22, Cont.cell (AV.int IntKind.i64 (IntKind.i64.wrap ((↑i : Int) + 1)))), (1, 0, Cont.cell (AV.rs 2 (List.length l) false (spF l))), (1, 1, Cont.cell (AV.mp 2)), (1, 2, Cont.top), (2, 0, Cont.map 2 (qmap (sqN l (List.length l)))), (3, 0, Cont.vec 2 47 (List.length (prN l r i ++ prI l r i W)) (spF (prN l r i ++ prI l r i W)))], 100, 55⟩) (by kernel_rfl) (by kernel_rfl) ?_
          rw [wrap_add_one hlt (by omega)]
          refine round_normal (⟨i + 1, hlt⟩) (wk_go [3] rfl (by decide) rfl rfl ⟨⟨_, rfl, rfl⟩, ⟨_, rfl, rfl⟩, ⟨_, rfl, rfl⟩, ⟨_, rfl, rfl⟩, ⟨_, rfl, rfl⟩, ⟨_, rfl, rfl⟩, ⟨_, rfl, rfl⟩, ⟨_, rfl, rfl⟩, ⟨_, rfl, rfl⟩, ⟨_, rfl, rfl⟩, ⟨_, rfl, trivial⟩, ⟨_, rfl, Go.Eng.S12.cw_qmap _⟩, ⟨_, rfl, ?_⟩, trivial⟩) ?_
          · have : prN l r (i + 1) = prN l r i ++ prI l r i W := by rw [hW]; rfl
            rw [this]
            exact ⟨rfl, rfl, rfl, fun k hk => rfl⟩
          · show l.length - (i + 1) < l.length - i; omega
      · have hin : i = l.length := by have := of_decide_eq_false hc; omega
        subst hin
        clear hc
        refine evC_exit ?_
        refine then_exit ?_
        refine round_exit ?_
        refine block_exit ?_
        refine then_normal ?_
        refine evC_go0 (dec := []) (ks := [(0, 4), (0, 5), (1, 0), (1, 1), (1, 2), (2, 0), (3, 0)]) (s' := ⟨[(0, 4, Cont.cell (AV.vs 3)), (0, 5, Cont.cell (AV.int IntKind.i64 0)), (1, 0, Cont.cell (AV.rs 2 (List.length l) false (spF l))), (1, 1, Cont.cell (AV.mp 2)), (1, 2, Cont.top), (2, 0, Cont.map 2 (qmap (sqN l (List.length l)))), (3, 0, Cont.vec 2 47 (List.length (prN l r (List.length l))) (spF (prN l r (List.length l))))], 132, 55⟩) (by kernel_rfl) (by kernel_rfl) ?_
        refine evC_ret ?_
        refine post_ret ?_
        refine ends_wk (s' := ⟨[(0, 4, .cell (sps (prN l r l.length))), (0, 5, .cell (.int .i64 0)), (1, 0, .cell (.rs 2 l.length false (spF l))), (1, 1, .cell (.mp 2)), (1, 2, .top), (2, 0, .map 2 (qmap (sqN l l.length)))], 3, 55⟩) (.trans (.frz 3 2 47 (prN l r l.length).length (spF (prN l r l.length)) (Nat.le_of_ble_eq_true rfl) rfl) (wk_go [] rfl (by decide) rfl rfl ⟨⟨_, rfl, rfl⟩, ⟨_, rfl, rfl⟩, ⟨_, rfl, rfl⟩, ⟨_, rfl, rfl⟩, ⟨_, rfl, trivial⟩, ⟨_, rfl, cw_qfrz _⟩, trivial⟩)) ?_
        rw [hw.1, hw.2]
        unfold sps
        refine ends_go [] (AV.tup [AV.rs 2 (List.length (prN l r (List.length l))) false (spF (prN l r (List.length l))), AV.int IntKind.i64 0]) [(1, 0, Cont.cell (AV.rs 2 (List.length l) false (spF l))), (1, 1, Cont.cell (AV.mp 2)), (1, 2, Cont.top), (2, 0, Cont.map 2 (qmap (sqN l (List.length l))))] rfl (by decide) rfl rfl (?_) rfl ⟨⟨_, rfl, rfl⟩, ⟨_, rfl, rfl⟩, ⟨_, rfl, trivial⟩, ⟨_, rfl, Go.Eng.S12.cw_qmap _⟩, trivial⟩ trivial ?_
        · exact prs_has _ _ _
        exact k4 _ _ (by simp [icon, hget, sps])
  · cases e
end Go.Eng.S12
