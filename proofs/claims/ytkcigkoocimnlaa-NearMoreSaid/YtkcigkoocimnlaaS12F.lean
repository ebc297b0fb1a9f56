/- Seat 12: the closure that looks at one square, walked. -/
import Derived.Test.YtkcigkoocimnlaaEngX
import Derived.Test.YtkcigkoocimnlaaS12E
set_option linter.unusedSimpArgs false
set_option linter.unusedVariables false
namespace Go.Eng.S12
open Go.Proofs Go.IntWalk
set_option maxRecDepth 10000

/-- Who of some is within a distance. -/
def sel (l : List Sp) (x y r : Int) (L : List Int) : List Int := L.filter fun i => near l x y r i.toNat
theorem sel_snoc (l : List Sp) (x y r : Int) (L : List Int) (i : Int) : sel l x y r (L ++ [i]) = sel l x y r L ++ (bif near l x y r i.toNat then [i] else []) := by
  unfold sel
  rw [List.filter_append]
  cases h : near l x y r i.toNat <;> simp [h]
theorem sel_len (l : List Sp) (x y r : Int) (L : List Int) : (sel l x y r L).length ≤ L.length := List.length_filter_le _ _
theorem take_snoc (L : List Int) {i : Nat} (h : i < L.length) : L.take (i + 1) = L.take i ++ [L.getD i 0] := by
  rw [List.take_add_one, List.getElem?_eq_getElem h, List.getD_eq_getElem?_getD, List.getElem?_eq_getElem h]
  rfl
theorem lst_intsL {n : Nat} {f : Nat → AV} (h : ∀ i, i < n → f i = c1 f i) {i : Nat} (hi : i < n) : f i = lst (intsL n f) i := by
  rw [h i hi]
  show AV.int .i64 (iv (f i)) = AV.int .i64 ((intsL n f).getD i 0)
  rw [List.getD_eq_getElem?_getD, intsL_get n f hi]
  rfl
def sLook : Spec := fun args hr nb => match args with
  | [.rs 1 q false g, .ptr a 0, .ptr xb 0, .ptr yb 0, .ptr rb 0, .ptr o 0] => match hr a 0, hr a 1, hr xb 0, hr xb 1, hr yb 0, hr yb 1, hr rb 0, hr rb 1, hr o 0, hr o 1 with
    | some (.cell (.ptr n0 0)), some .top, some (.cell (.int .i64 x)), some .top, some (.cell (.int .i64 y)), some .top, some (.cell (.int .i64 r)), some .top, some (.cell (.vs m)), some .top => match hr m 0 with
      | some (.vec 1 3 k f) => withIdxC hr (.ptr n0 0) fun n b l s rd => some ⟨[s, [n, b, a, xb, yb, rb, o, m].Nodup ∧ (0 < a ∧ 0 < xb ∧ 0 < yb ∧ 0 < rb ∧ 0 < o ∧ 0 < m), (∀ i, i < q → g i = c1 g i ∧ 0 ≤ iv (g i) ∧ iv (g i) < l.length) ∧ q ≤ 300, (∀ i, i < k → f i = c1 f i) ∧ k ≤ 100000, InB x ∧ InB y ∧ InB r], .tup [],
          [(a, 0, .cell (.ptr n0 0)), (a, 1, .top), (xb, 0, .cell (.int .i64 x)), (xb, 1, .top), (yb, 0, .cell (.int .i64 y)), (yb, 1, .top), (rb, 0, .cell (.int .i64 r)), (rb, 1, .top), (o, 0, .cell (.vs m)), (o, 1, .top), (m, 0, .vec 1 3 k f)] ++ rd,
          [(o, 0, .cell (.vs nb)), (m, 0, .dead), (nb, 0, .vec 1 3 (intsL k f ++ sel l x y r (intsL q g)).length (lst (intsL k f ++ sel l x y r (intsL q g))))]⟩
      | _ => none
    | _, _, _, _, _, _, _, _, _, _ => none
  | _ => none
theorem look_ok : SpecOK Try.prog 21 sLook := by
  refine spec_at (by kernel_rfl) T_ok (sget_cons far_ok sget_nil) Try.func21 rfl rfl fun args hr nb out e => ?_
  unfold sLook at e
  split at e
  · rename_i q g a xb yb rb o
    split at e
    · rename_i n0 x y r m a0 a1 x0 x1 y0 y1 r0 r1 o0 o1
      split at e
      · rename_i k f m0
        obtain ⟨n, b, l, c, s, rd, hv, e, hrd, hs0, hs1⟩ := idxC_open e
        injection hv with hv _
        subst hv
        injection e with e; subst e
        refine ⟨?_, true, [n0, b, a, xb, yb, rb, o, m], [is1 (intsL q g), .ptr 3 0, .ptr 4 0, .ptr 5 0, .ptr 6 0, .ptr 7 0], iconC 1 2 l c ++ [(3, 0, .cell (.ptr 1 0)), (3, 1, .top), (4, 0, .cell (.int .i64 x)), (4, 1, .top), (5, 0, .cell (.int .i64 y)), (5, 1, .top), (6, 0, .cell (.int .i64 r)), (6, 1, .top), (7, 0, .cell (.vs 8)), (7, 1, .top), (8, 0, .vec 1 3 k (lst (intsL k f)))], rfl, fun hs => ?_⟩
        · intro z hz
          rcases List.mem_append.1 hz with hz | hz
          · simp only [List.mem_cons, List.not_mem_nil, or_false] at hz
            rcases hz with rfl | rfl | rfl | rfl | rfl | rfl | rfl | rfl | rfl | rfl | rfl <;> assumption
          · exact hrd z hz
        obtain ⟨⟨hcc, hl⟩, k1, k2, k3⟩ := hs0 (hs _ List.mem_cons_self)
        have k4 := hs1 (hs _ List.mem_cons_self) [a, xb, yb, rb, o, m] nb
        obtain ⟨hnd, p1, p2, p3, p4, p5, p6⟩ := hs _ (List.mem_cons_of_mem _ List.mem_cons_self)
        obtain ⟨hg, hq⟩ := hs _ (List.mem_cons_of_mem _ (List.mem_cons_of_mem _ List.mem_cons_self))
        obtain ⟨hf, hk⟩ := hs _ (List.mem_cons_of_mem _ (List.mem_cons_of_mem _ (List.mem_cons_of_mem _ List.mem_cons_self)))
        obtain ⟨hx, hy, hr'⟩ := hs _ (List.mem_cons_of_mem _ (List.mem_cons_of_mem _ (List.mem_cons_of_mem _ (List.mem_cons_of_mem _ List.mem_cons_self))))
        refine ⟨hnd, fun z hz => ?_, ?_, ?_, ?_⟩
        · simp only [List.mem_cons, List.not_mem_nil, or_false] at hz
          rcases hz with rfl | rfl | rfl | rfl | rfl | rfl | rfl | rfl
          · exact ⟨(k2 _ (by simp)).1, (k2 _ (by simp)).2 _ fun x hx => List.mem_append_right _ hx⟩
          · exact ⟨(k2 _ (by simp)).1, (k2 _ (by simp)).2 _ fun x hx => List.mem_append_right _ hx⟩
          · exact ⟨p1, whole_laid [.cell (.ptr n0 0)] rfl (by simp [laid, Cont.wd])⟩
          · exact ⟨p2, whole_laid [.cell (.int .i64 x)] rfl (by simp [laid, Cont.wd])⟩
          · exact ⟨p3, whole_laid [.cell (.int .i64 y)] rfl (by simp [laid, Cont.wd])⟩
          · exact ⟨p4, whole_laid [.cell (.int .i64 r)] rfl (by simp [laid, Cont.wd])⟩
          · exact ⟨p5, whole_laid [.cell (.vs m)] rfl (by simp [laid, Cont.wd])⟩
          · exact ⟨p6, .vec 1 3 k f (by simp)⟩
        · have hw : Pass hr ([(a, 0, .cell (.ptr n0 0)), (a, 1, .top), (xb, 0, .cell (.int .i64 x)), (xb, 1, .top), (yb, 0, .cell (.int .i64 y)), (yb, 1, .top), (rb, 0, .cell (.int .i64 r)), (rb, 1, .top), (o, 0, .cell (.vs m)), (o, 1, .top), (m, 0, .vec 1 3 k f)] ++ rd) [n0, b, a, xb, yb, rb, o, m] nb true (.rs 1 q false g) (is1 (intsL q g)) := by
            unfold is1
            rw [intsL_len]
            exact .rs _ _ _ _ _ _ fun i hi => ⟨lst_intsL (fun i hi => (hg i hi).1) hi, (lst_flat _ i).has⟩
          exact .cons _ _ _ _ hw (.cons _ _ _ _ (.name _ _ _ rfl) (.cons _ _ _ _ (.name _ _ _ rfl) (.cons _ _ _ _ (.name _ _ _ rfl) (.cons _ _ _ _ (.name _ _ _ rfl) (.cons _ _ _ _ (.name _ _ _ rfl) .nil)))))
        · intro z hz
          rcases List.mem_append.1 hz with hz | hz
          · obtain ⟨i, m', c', q1, q2, q3, q4⟩ := k3 [a, xb, yb, rb, o, m] nb z hz
            exact ⟨i, m', c', q1, q2, List.mem_append_right _ q3, q4⟩
          · have hI : InitH [n0, b, a, xb, yb, rb, o, m] nb ([(a, 0, .cell (.ptr n0 0)), (a, 1, .top), (xb, 0, .cell (.int .i64 x)), (xb, 1, .top), (yb, 0, .cell (.int .i64 y)), (yb, 1, .top), (rb, 0, .cell (.int .i64 r)), (rb, 1, .top), (o, 0, .cell (.vs m)), (o, 1, .top), (m, 0, .vec 1 3 k f)] ++ rd) [(3, 0, .cell (.ptr 1 0)), (3, 1, .top), (4, 0, .cell (.int .i64 x)), (4, 1, .top), (5, 0, .cell (.int .i64 y)), (5, 1, .top), (6, 0, .cell (.int .i64 r)), (6, 1, .top), (7, 0, .cell (.vs 8)), (7, 1, .top), (8, 0, .vec 1 3 k (lst (intsL k f)))] := ⟨⟨2, 0, _, _, rfl, rfl, rfl, rfl⟩, ⟨2, 1, _, _, rfl, rfl, rfl, trivial⟩, ⟨3, 2, _, _, rfl, rfl, rfl, rfl⟩, ⟨3, 3, _, _, rfl, rfl, rfl, trivial⟩, ⟨4, 4, _, _, rfl, rfl, rfl, rfl⟩, ⟨4, 5, _, _, rfl, rfl, rfl, trivial⟩, ⟨5, 6, _, _, rfl, rfl, rfl, rfl⟩, ⟨5, 7, _, _, rfl, rfl, rfl, trivial⟩, ⟨6, 8, _, _, rfl, rfl, rfl, rfl⟩, ⟨6, 9, _, _, rfl, rfl, rfl, trivial⟩, ⟨7, 10, _, _, rfl, rfl, rfl, rfl, rfl, rfl, fun i hi => lst_intsL hf hi⟩, trivial⟩
            exact hI.get z hz
        have hM : (intsL k f).length = k := intsL_len _ _
        have hL : (intsL q g).length = q := intsL_len _ _
        have hLr : ∀ i, i < q → 0 ≤ (intsL q g).getD i 0 ∧ (intsL q g).getD i 0 < l.length := fun i hi => by
          rw [List.getD_eq_getElem?_getD, intsL_get q g hi]
          exact (hg i hi).2
        clear hs hs0 hs1 k1 k2 k3 hrd hg hf
        obtain ⟨L, eL⟩ : ∃ L, L = intsL q g := ⟨_, rfl⟩
        obtain ⟨M, eM⟩ : ∃ M, M = intsL k f := ⟨_, rfl⟩
        rw [← eL] at hL hLr ⊢
        rw [← eM] at hM ⊢
        subst hL
        subst hM
        unfold is1
        refine evC_go0 (dec := []) (ks := [(0, 1), (0, 2), (0, 3), (0, 4), (0, 5), (0, 9), (0, 10), (0, 11), (1, 0), (1, 1), (1, 2), (2, 0), (3, 0), (3, 1), (4, 0), (4, 1), (5, 0), (5, 1), (6, 0), (6, 1), (7, 0), (7, 1), (8, 0)]) (s' := ⟨[(0, 1, Cont.cell (AV.ptr 3 0)), (0, 2, Cont.cell (AV.ptr 4 0)), (0, 3, Cont.cell (AV.ptr 5 0)), (0, 4, Cont.cell (AV.ptr 6 0)), (0, 5, Cont.cell (AV.ptr 7 0)), (0, 9, Cont.cell (AV.rs 1 (List.length L) false (lst L))), (0, 10, Cont.cell (AV.int IntKind.i64 (↑(List.length L) : Int))), (0, 11, Cont.cell (AV.int IntKind.i64 0)), (1, 0, Cont.cell (AV.rs 2 (List.length l) false (spF l))), (1, 1, Cont.cell (AV.mp 2)), (1, 2, Cont.top), (2, 0, c), (3, 0, Cont.cell (AV.ptr 1 0)), (3, 1, Cont.top), (4, 0, Cont.cell (AV.int IntKind.i64 x)), (4, 1, Cont.top), (5, 0, Cont.cell (AV.int IntKind.i64 y)), (5, 1, Cont.top), (6, 0, Cont.cell (AV.int IntKind.i64 r)), (6, 1, Cont.top), (7, 0, Cont.cell (AV.vs 8)), (7, 1, Cont.top), (8, 0, Cont.vec 1 3 (List.length M) (lst M))], 105, 29⟩) (by kernel_rfl) (by kernel_rfl) ?_
        refine evC_wk (s' := ⟨[(0, 1, Cont.cell (AV.ptr 3 0)), (0, 2, Cont.cell (AV.ptr 4 0)), (0, 3, Cont.cell (AV.ptr 5 0)), (0, 4, Cont.cell (AV.ptr 6 0)), (0, 5, Cont.cell (AV.ptr 7 0)), (0, 9, Cont.cell (AV.rs 1 (List.length L) false (lst L))), (0, 10, Cont.cell (AV.int IntKind.i64 (↑(List.length L) : Int))), (0, 11, Cont.cell (AV.int IntKind.i64 0)), (1, 0, Cont.cell (AV.rs 2 (List.length l) false (spF l))), (1, 1, Cont.cell (AV.mp 2)), (1, 2, Cont.top), (2, 0, c), (3, 0, Cont.cell (AV.ptr 1 0)), (3, 1, Cont.top), (4, 0, Cont.cell (AV.int IntKind.i64 x)), (4, 1, Cont.top), (5, 0, Cont.cell (AV.int IntKind.i64 y)), (5, 1, Cont.top), (6, 0, Cont.cell (AV.int IntKind.i64 r)), (6, 1, Cont.top), (7, 0, Cont.cell (AV.vs 105)), (7, 1, Cont.top), (105, 0, Cont.vec 1 3 (List.length M) (lst M))], 106, 29⟩) _ (wk_take 8 rfl rfl rfl ⟨⟨_, rfl, rfl⟩, ⟨_, rfl, rfl⟩, ⟨_, rfl, rfl⟩, ⟨_, rfl, rfl⟩, ⟨_, rfl, rfl⟩, ⟨_, rfl, rfl⟩, ⟨_, rfl, rfl⟩, ⟨_, rfl, rfl⟩, ⟨_, rfl, rfl⟩, ⟨_, rfl, rfl⟩, ⟨_, rfl, trivial⟩, ⟨_, rfl, Go.Eng.S12.cw_idx (by assumption)⟩, ⟨_, rfl, rfl⟩, ⟨_, rfl, trivial⟩, ⟨_, rfl, rfl⟩, ⟨_, rfl, trivial⟩, ⟨_, rfl, rfl⟩, ⟨_, rfl, trivial⟩, ⟨_, rfl, rfl⟩, ⟨_, rfl, trivial⟩, ⟨_, rfl, rfl⟩, ⟨_, rfl, trivial⟩, ⟨_, rfl, rfl, rfl, rfl, fun _ _ => rfl⟩, trivial⟩) ?_
        refine evC_block ?_
        refine evC_loop (ι := { i : Nat // i ≤ L.length }) (fun i => ⟨[(0, 1, Cont.cell (AV.ptr 3 0)), (0, 2, Cont.cell (AV.ptr 4 0)), (0, 3, Cont.cell (AV.ptr 5 0)), (0, 4, Cont.cell (AV.ptr 6 0)), (0, 5, Cont.cell (AV.ptr 7 0)), (0, 9, Cont.cell (AV.rs 1 (List.length L) false (lst L))), (0, 10, Cont.cell (AV.int IntKind.i64 (↑(List.length L) : Int))), (0, 11, .cell (.int .i64 (i.1 : Nat))), (1, 0, Cont.cell (AV.rs 2 (List.length l) false (spF l))), (1, 1, Cont.cell (AV.mp 2)), (1, 2, Cont.top), (2, 0, c), (3, 0, Cont.cell (AV.ptr 1 0)), (3, 1, Cont.top), (4, 0, Cont.cell (AV.int IntKind.i64 x)), (4, 1, Cont.top), (5, 0, Cont.cell (AV.int IntKind.i64 y)), (5, 1, Cont.top), (6, 0, Cont.cell (AV.int IntKind.i64 r)), (6, 1, Cont.top), (7, 0, Cont.cell (AV.vs 9)), (7, 1, Cont.top), (9, 0, .vec 1 3 (M ++ sel l x y r (L.take i.1)).length (lst (M ++ sel l x y r (L.take i.1))))], 10, 29⟩) (fun i => L.length - i.1) ⟨0, Nat.zero_le _⟩ (wk_go [105] rfl (by decide) rfl rfl ⟨⟨_, rfl, rfl⟩, ⟨_, rfl, rfl⟩, ⟨_, rfl, rfl⟩, ⟨_, rfl, rfl⟩, ⟨_, rfl, rfl⟩, ⟨_, rfl, rfl⟩, ⟨_, rfl, rfl⟩, ⟨_, rfl, rfl⟩, ⟨_, rfl, rfl⟩, ⟨_, rfl, rfl⟩, ⟨_, rfl, trivial⟩, ⟨_, rfl, Go.Eng.S12.cw_idx (by assumption)⟩, ⟨_, rfl, rfl⟩, ⟨_, rfl, trivial⟩, ⟨_, rfl, rfl⟩, ⟨_, rfl, trivial⟩, ⟨_, rfl, rfl⟩, ⟨_, rfl, trivial⟩, ⟨_, rfl, rfl⟩, ⟨_, rfl, trivial⟩, ⟨_, rfl, rfl⟩, ⟨_, rfl, trivial⟩, ⟨_, rfl, ?_⟩, trivial⟩) ?_
        · exact ⟨rfl, rfl, by simp [sel], fun i hi => by show lst M i = lst (M ++ []) i; rw [List.append_nil]⟩
        rintro ⟨i, hi⟩
        refine evC_go0 (dec := []) (ks := [(0, 1), (0, 2), (0, 3), (0, 4), (0, 5), (0, 9), (0, 10), (0, 11), (0, 12), (1, 0), (1, 1), (1, 2), (2, 0), (3, 0), (3, 1), (4, 0), (4, 1), (5, 0), (5, 1), (6, 0), (6, 1), (7, 0), (7, 1), (9, 0)]) (s' := ⟨[(0, 1, Cont.cell (AV.ptr 3 0)), (0, 2, Cont.cell (AV.ptr 4 0)), (0, 3, Cont.cell (AV.ptr 5 0)), (0, 4, Cont.cell (AV.ptr 6 0)), (0, 5, Cont.cell (AV.ptr 7 0)), (0, 9, Cont.cell (AV.rs 1 (List.length L) false (lst L))), (0, 10, Cont.cell (AV.int IntKind.i64 (↑(List.length L) : Int))), (0, 11, Cont.cell (AV.int IntKind.i64 (↑i : Int))), (0, 12, Cont.cell (AV.bool (decide ((↑i : Int) < (↑(List.length L) : Int))))), (1, 0, Cont.cell (AV.rs 2 (List.length l) false (spF l))), (1, 1, Cont.cell (AV.mp 2)), (1, 2, Cont.top), (2, 0, c), (3, 0, Cont.cell (AV.ptr 1 0)), (3, 1, Cont.top), (4, 0, Cont.cell (AV.int IntKind.i64 x)), (4, 1, Cont.top), (5, 0, Cont.cell (AV.int IntKind.i64 y)), (5, 1, Cont.top), (6, 0, Cont.cell (AV.int IntKind.i64 r)), (6, 1, Cont.top), (7, 0, Cont.cell (AV.vs 9)), (7, 1, Cont.top), (9, 0, Cont.vec 1 3 (List.length (M ++ sel l x y r (List.take i L))) (lst (M ++ sel l x y r (List.take i L))))], 42, 29⟩) (by kernel_rfl) (by kernel_rfl) ?_
        refine evC_seq ?_
        refine evC_if (q := decide ((↑i : Int) < (↑(List.length L) : Int))) (by kernel_rfl) (fun hc => ?_) (fun hc => ?_)
        · have hlt : i < L.length := by have := of_decide_eq_true hc; omega
          clear hc
          have hLi := hLr i hlt
          refine evC_skip ?_
          refine then_normal ?_
          refine evC_seq ?_
          refine evC_block ?_
          refine evC_go (dec := []) (ks := [(0, 1), (0, 2), (0, 3), (0, 4), (0, 5), (0, 8), (0, 9), (0, 10), (0, 11), (1, 0), (1, 1), (1, 2), (2, 0), (3, 0), (3, 1), (4, 0), (4, 1), (5, 0), (5, 1), (6, 0), (6, 1), (7, 0), (7, 1), (9, 0)]) (ps := [(0 : Int) ≤ (↑i : Int), (↑i : Int) < (↑(List.length L) : Int), (1 : Nat) = (1 : Nat)]) (s' := ⟨[(0, 1, Cont.cell (AV.ptr 3 0)), (0, 2, Cont.cell (AV.ptr 4 0)), (0, 3, Cont.cell (AV.ptr 5 0)), (0, 4, Cont.cell (AV.ptr 6 0)), (0, 5, Cont.cell (AV.ptr 7 0)), (0, 8, Cont.cell (AV.int IntKind.i64 (List.getD L i 0))), (0, 9, Cont.cell (AV.rs 1 (List.length L) false (lst L))), (0, 10, Cont.cell (AV.int IntKind.i64 (↑(List.length L) : Int))), (0, 11, Cont.cell (AV.int IntKind.i64 (↑i : Int))), (1, 0, Cont.cell (AV.rs 2 (List.length l) false (spF l))), (1, 1, Cont.cell (AV.mp 2)), (1, 2, Cont.top), (2, 0, c), (3, 0, Cont.cell (AV.ptr 1 0)), (3, 1, Cont.top), (4, 0, Cont.cell (AV.int IntKind.i64 x)), (4, 1, Cont.top), (5, 0, Cont.cell (AV.int IntKind.i64 y)), (5, 1, Cont.top), (6, 0, Cont.cell (AV.int IntKind.i64 r)), (6, 1, Cont.top), (7, 0, Cont.cell (AV.vs 9)), (7, 1, Cont.top), (9, 0, Cont.vec 1 3 (List.length (M ++ sel l x y r (List.take i L))) (lst (M ++ sel l x y r (List.take i L))))], 138, 29⟩) (by kernel_rfl) (by kernel_rfl) ?_ ?_
          · (simp only [All]; (repeat' apply And.intro) <;> (try intro _) <;> (try intro _) <;> (repeat' apply And.intro) <;> (try intro _) <;> (try intro _) <;> first | trivial | assumption | exact .inr trivial | exact .inr rfl | omega | rfl | exact ⟨_, rfl, rfl⟩ | exact ⟨rfl, rfl⟩ | exact ⟨fun _ => rfl, fun _ => rfl⟩ | (unfold maxLen; omega) | (unfold i64R; first | omega | decide) | decide)
          refine evC_go (dec := []) (ks := [(0, 1), (0, 2), (0, 3), (0, 4), (0, 5), (0, 8), (0, 9), (0, 10), (0, 11), (0, 23), (1, 0), (1, 1), (1, 2), (2, 0), (3, 0), (3, 1), (4, 0), (4, 1), (5, 0), (5, 1), (6, 0), (6, 1), (7, 0), (7, 1), (9, 0)]) (ps := [((0 : Nat) < (1 : Nat) ∧ (0 : Nat) < (2 : Nat) ∧ (1 : Nat) ≠ (2 : Nat)) ∧ spF l = spF (spL (List.length l) (spF l)) ∧ IdxC (spL (List.length l) (spF l)) c ∧ InL (spL (List.length l) (spF l)), (0 : Int) ≤ List.getD L i (0 : Int) ∧ List.getD L i (0 : Int) < (↑(List.length (spL (List.length l) (spF l))) : Int)]) (s' := ⟨[(0, 1, Cont.cell (AV.ptr 3 0)), (0, 2, Cont.cell (AV.ptr 4 0)), (0, 3, Cont.cell (AV.ptr 5 0)), (0, 4, Cont.cell (AV.ptr 6 0)), (0, 5, Cont.cell (AV.ptr 7 0)), (0, 8, Cont.cell (AV.int IntKind.i64 (List.getD L i 0))), (0, 9, Cont.cell (AV.rs 1 (List.length L) false (lst L))), (0, 10, Cont.cell (AV.int IntKind.i64 (↑(List.length L) : Int))), (0, 11, Cont.cell (AV.int IntKind.i64 (↑i : Int))), (0, 23, Cont.cell (AV.bool (decide (farW (List.getD (spL (List.length l) (spF l)) (Int.toNat (List.getD L i 0)) (0, 0)) x y ≤ IntKind.i64.wrap (r * r))))), (1, 0, Cont.cell (AV.rs 2 (List.length l) false (spF l))), (1, 1, Cont.cell (AV.mp 2)), (1, 2, Cont.top), (2, 0, c), (3, 0, Cont.cell (AV.ptr 1 0)), (3, 1, Cont.top), (4, 0, Cont.cell (AV.int IntKind.i64 x)), (4, 1, Cont.top), (5, 0, Cont.cell (AV.int IntKind.i64 y)), (5, 1, Cont.top), (6, 0, Cont.cell (AV.int IntKind.i64 r)), (6, 1, Cont.top), (7, 0, Cont.cell (AV.vs 9)), (7, 1, Cont.top), (9, 0, Cont.vec 1 3 (List.length (M ++ sel l x y r (List.take i L))) (lst (M ++ sel l x y r (List.take i L))))], 426, 29⟩) (by kernel_rfl) (by kernel_rfl) ?_ ?_
          · rw [idx_eta]
            exact ⟨⟨⟨by decide, by decide, by decide⟩, rfl, hcc, hl⟩, hLi⟩
          rw [idx_eta]
          have hLn : (L.getD i 0).toNat < l.length := by omega
          have hb : decide (farW (List.getD l (Int.toNat (List.getD L i 0)) (0, 0)) x y ≤ IntKind.i64.wrap (r * r)) = near l x y r (L.getD i 0).toNat := by
            rw [far_in hl hx hy hLn, sq_in hr']; rfl
          rw [hb]
          have hsl := sel_len l x y r (L.take i)
          have htl : (L.take i).length = i := by rw [List.length_take]; omega
          have hsn := sel_snoc l x y r (L.take i) (L.getD i 0)
          rw [← take_snoc L hlt] at hsn
          refine evC_if (q := near l x y r (Int.toNat (List.getD L i 0))) (by kernel_rfl) (fun hc => ?_) (fun hc => ?_)
          · rw [hc, cond_true] at hsn
            refine evC_goL (dec := []) (ks := [(0, 1), (0, 2), (0, 3), (0, 4), (0, 5), (0, 9), (0, 10), (0, 11), (1, 0), (1, 1), (1, 2), (2, 0), (3, 0), (3, 1), (4, 0), (4, 1), (5, 0), (5, 1), (6, 0), (6, 1), (7, 0), (7, 1), (522, 0)]) (ps := [(List.length (M ++ sel l x y r (List.take i L)) + (1 : Nat)) * (8 : Nat) ≤ (140737488355328 : Nat), List.length (M ++ sel l x y r (List.take i L)) + (1 : Nat) ≤ maxLen, (1 : Nat) = (0 : Nat) ∨ (1 : Nat) = (1 : Nat), (1 : Nat) = (1 : Nat), (3 : Nat) = (3 : Nat)]) (s' := ⟨[(0, 1, Cont.cell (AV.ptr 3 0)), (0, 2, Cont.cell (AV.ptr 4 0)), (0, 3, Cont.cell (AV.ptr 5 0)), (0, 4, Cont.cell (AV.ptr 6 0)), (0, 5, Cont.cell (AV.ptr 7 0)), (0, 9, Cont.cell (AV.rs 1 (List.length L) false (lst L))), (0, 10, Cont.cell (AV.int IntKind.i64 (↑(List.length L) : Int))), (0, 11, Cont.cell (AV.int IntKind.i64 (↑i : Int))), (1, 0, Cont.cell (AV.rs 2 (List.length l) false (spF l))), (1, 1, Cont.cell (AV.mp 2)), (1, 2, Cont.top), (2, 0, c), (3, 0, Cont.cell (AV.ptr 1 0)), (3, 1, Cont.top), (4, 0, Cont.cell (AV.int IntKind.i64 x)), (4, 1, Cont.top), (5, 0, Cont.cell (AV.int IntKind.i64 y)), (5, 1, Cont.top), (6, 0, Cont.cell (AV.int IntKind.i64 r)), (6, 1, Cont.top), (7, 0, Cont.cell (AV.vs 522)), (7, 1, Cont.top), (522, 0, Cont.vec 1 3 (List.length (M ++ sel l x y r (List.take i L)) + 1) (catF (List.length (M ++ sel l x y r (List.take i L))) (lst (M ++ sel l x y r (List.take i L))) (pget [(0, AV.int IntKind.i64 (List.getD L i 0))])))], 586, 29⟩) (by kernel_rfl) (by kernel_rfl) ?_ ?_
            · rw [List.length_append]
              (simp only [All]; (repeat' apply And.intro) <;> (try intro _) <;> (try intro _) <;> (repeat' apply And.intro) <;> (try intro _) <;> (try intro _) <;> first | trivial | assumption | exact .inr trivial | exact .inr rfl | omega | rfl | exact ⟨_, rfl, rfl⟩ | exact ⟨rfl, rfl⟩ | exact ⟨fun _ => rfl, fun _ => rfl⟩ | (unfold maxLen; omega) | (unfold i64R; first | omega | decide) | decide)
            refine block_normal ?_
            refine then_normal ?_
            refine evC_goL0 (dec := []) (ks := [(0, 1), (0, 2), (0, 3), (0, 4), (0, 5), (0, 9), (0, 10), (0, 11), (1, 0), (1, 1), (1, 2), (2, 0), (3, 0), (3, 1), (4, 0), (4, 1), (5, 0), (5, 1), (6, 0), (6, 1), (7, 0), (7, 1), (522, 0)]) (s' := ⟨[(0, 1, Cont.cell (AV.ptr 3 0)), (0, 2, Cont.cell (AV.ptr 4 0)), (0, 3, Cont.cell (AV.ptr 5 0)), (0, 4, Cont.cell (AV.ptr 6 0)), (0, 5, Cont.cell (AV.ptr 7 0)), (0, 9, Cont.cell (AV.rs 1 (List.length L) false (lst L))), (0, 10, Cont.cell (AV.int IntKind.i64 (↑(List.length L) : Int))), (0, 11, Cont.cell (AV.int IntKind.i64 (IntKind.i64.wrap ((↑i : Int) + 1)))), (1, 0, Cont.cell (AV.rs 2 (List.length l) false (spF l))), (1, 1, Cont.cell (AV.mp 2)), (1, 2, Cont.top), (2, 0, c), (3, 0, Cont.cell (AV.ptr 1 0)), (3, 1, Cont.top), (4, 0, Cont.cell (AV.int IntKind.i64 x)), (4, 1, Cont.top), (5, 0, Cont.cell (AV.int IntKind.i64 y)), (5, 1, Cont.top), (6, 0, Cont.cell (AV.int IntKind.i64 r)), (6, 1, Cont.top), (7, 0, Cont.cell (AV.vs 522)), (7, 1, Cont.top), (522, 0, Cont.vec 1 3 (List.length (M ++ sel l x y r (List.take i L)) + 1) (catF (List.length (M ++ sel l x y r (List.take i L))) (lst (M ++ sel l x y r (List.take i L))) (pget [(0, AV.int IntKind.i64 (List.getD L i 0))])))], 650, 29⟩) (by kernel_rfl) (by kernel_rfl) ?_
            rw [wrap_add_one hlt (by omega)]
            refine round_normal (⟨i + 1, hlt⟩) (wk_go [522] rfl (by decide) rfl rfl ⟨⟨_, rfl, rfl⟩, ⟨_, rfl, rfl⟩, ⟨_, rfl, rfl⟩, ⟨_, rfl, rfl⟩, ⟨_, rfl, rfl⟩, ⟨_, rfl, rfl⟩, ⟨_, rfl, rfl⟩, ⟨_, rfl, rfl⟩, ⟨_, rfl, rfl⟩, ⟨_, rfl, rfl⟩, ⟨_, rfl, trivial⟩, ⟨_, rfl, Go.Eng.S12.cw_idx (by assumption)⟩, ⟨_, rfl, rfl⟩, ⟨_, rfl, trivial⟩, ⟨_, rfl, rfl⟩, ⟨_, rfl, trivial⟩, ⟨_, rfl, rfl⟩, ⟨_, rfl, trivial⟩, ⟨_, rfl, rfl⟩, ⟨_, rfl, trivial⟩, ⟨_, rfl, rfl⟩, ⟨_, rfl, trivial⟩, ⟨_, rfl, ?_⟩, trivial⟩) ?_
            · rw [hsn, ← List.append_assoc]
              refine ⟨rfl, rfl, by simp [Nat.add_assoc], fun j hj => ?_⟩
              have hj : j < (M ++ sel l x y r (L.take i) ++ [L.getD i 0]).length := hj
              rw [List.length_append] at hj
              show catF _ _ _ j = (lst _ j).ren _
              rw [catF_lst rfl j hj]
              rfl
            · show L.length - (i + 1) < L.length - i; omega
          · rw [hc, cond_false, List.append_nil] at hsn
            refine evC_skip ?_
            refine block_normal ?_
            refine then_normal ?_
            refine evC_goL0 (dec := []) (ks := [(0, 1), (0, 2), (0, 3), (0, 4), (0, 5), (0, 9), (0, 10), (0, 11), (1, 0), (1, 1), (1, 2), (2, 0), (3, 0), (3, 1), (4, 0), (4, 1), (5, 0), (5, 1), (6, 0), (6, 1), (7, 0), (7, 1), (9, 0)]) (s' := ⟨[(0, 1, Cont.cell (AV.ptr 3 0)), (0, 2, Cont.cell (AV.ptr 4 0)), (0, 3, Cont.cell (AV.ptr 5 0)), (0, 4, Cont.cell (AV.ptr 6 0)), (0, 5, Cont.cell (AV.ptr 7 0)), (0, 9, Cont.cell (AV.rs 1 (List.length L) false (lst L))), (0, 10, Cont.cell (AV.int IntKind.i64 (↑(List.length L) : Int))), (0, 11, Cont.cell (AV.int IntKind.i64 (IntKind.i64.wrap ((↑i : Int) + 1)))), (1, 0, Cont.cell (AV.rs 2 (List.length l) false (spF l))), (1, 1, Cont.cell (AV.mp 2)), (1, 2, Cont.top), (2, 0, c), (3, 0, Cont.cell (AV.ptr 1 0)), (3, 1, Cont.top), (4, 0, Cont.cell (AV.int IntKind.i64 x)), (4, 1, Cont.top), (5, 0, Cont.cell (AV.int IntKind.i64 y)), (5, 1, Cont.top), (6, 0, Cont.cell (AV.int IntKind.i64 r)), (6, 1, Cont.top), (7, 0, Cont.cell (AV.vs 9)), (7, 1, Cont.top), (9, 0, Cont.vec 1 3 (List.length (M ++ sel l x y r (List.take i L))) (lst (M ++ sel l x y r (List.take i L))))], 490, 29⟩) (by kernel_rfl) (by kernel_rfl) ?_
            rw [wrap_add_one hlt (by omega)]
            refine round_normal (⟨i + 1, hlt⟩) (wk_go [9] rfl (by decide) rfl rfl ⟨⟨_, rfl, rfl⟩, ⟨_, rfl, rfl⟩, ⟨_, rfl, rfl⟩, ⟨_, rfl, rfl⟩, ⟨_, rfl, rfl⟩, ⟨_, rfl, rfl⟩, ⟨_, rfl, rfl⟩, ⟨_, rfl, rfl⟩, ⟨_, rfl, rfl⟩, ⟨_, rfl, rfl⟩, ⟨_, rfl, trivial⟩, ⟨_, rfl, Go.Eng.S12.cw_idx (by assumption)⟩, ⟨_, rfl, rfl⟩, ⟨_, rfl, trivial⟩, ⟨_, rfl, rfl⟩, ⟨_, rfl, trivial⟩, ⟨_, rfl, rfl⟩, ⟨_, rfl, trivial⟩, ⟨_, rfl, rfl⟩, ⟨_, rfl, trivial⟩, ⟨_, rfl, rfl⟩, ⟨_, rfl, trivial⟩, ⟨_, rfl, ?_⟩, trivial⟩) ?_
            · rw [hsn]
              exact ⟨rfl, rfl, rfl, fun j hj => rfl⟩
            · show L.length - (i + 1) < L.length - i; omega
        · have hin : i = L.length := by have := of_decide_eq_false hc; omega
          subst hin
          clear hc
          rw [List.take_length]
          refine evC_exit ?_
          refine then_exit ?_
          refine round_exit ?_
          refine block_exit ?_
          refine post_normal ?_
          refine ends_go [9] (AV.tup []) [(1, 0, Cont.cell (AV.rs 2 (List.length l) false (spF l))), (1, 1, Cont.cell (AV.mp 2)), (1, 2, Cont.top), (2, 0, c), (3, 0, Cont.cell (AV.ptr 1 0)), (3, 1, Cont.top), (4, 0, Cont.cell (AV.int IntKind.i64 x)), (4, 1, Cont.top), (5, 0, Cont.cell (AV.int IntKind.i64 y)), (5, 1, Cont.top), (6, 0, Cont.cell (AV.int IntKind.i64 r)), (6, 1, Cont.top), (7, 0, Cont.cell (AV.vs 9)), (7, 1, Cont.top), (9, 0, Cont.vec 1 3 (List.length (M ++ sel l x y r L)) (lst (M ++ sel l x y r L)))] rfl (by decide) rfl rfl (has_of _ rfl) rfl ⟨⟨_, rfl, rfl⟩, ⟨_, rfl, rfl⟩, ⟨_, rfl, trivial⟩, ⟨_, rfl, Go.Eng.S12.cw_idx (by assumption)⟩, ⟨_, rfl, rfl⟩, ⟨_, rfl, trivial⟩, ⟨_, rfl, rfl⟩, ⟨_, rfl, trivial⟩, ⟨_, rfl, rfl⟩, ⟨_, rfl, trivial⟩, ⟨_, rfl, rfl⟩, ⟨_, rfl, trivial⟩, ⟨_, rfl, rfl⟩, ⟨_, rfl, trivial⟩, ⟨_, rfl, ⟨rfl, rfl, rfl, fun _ _ => rfl⟩⟩, trivial⟩ ⟨fun _ => ⟨7, _, rfl, rfl, rfl, ⟨has_of _ rfl, rfl⟩⟩, fun h => False.elim h, fun _ => ⟨9, _, rfl, rfl, rfl, ⟨rfl, rfl, rfl, fun _ _ => ⟨has_of _ rfl, rfl⟩⟩⟩, trivial⟩ ⟨fun _ => .inr ⟨2, _, rfl, rfl, ⟨has_of _ rfl, rfl⟩⟩, fun _ => .inr ⟨2, _, rfl, rfl, trivial⟩, fun _ => .inr ⟨3, _, rfl, rfl, ⟨has_of _ rfl, rfl⟩⟩, fun _ => .inr ⟨3, _, rfl, rfl, trivial⟩, fun _ => .inr ⟨4, _, rfl, rfl, ⟨has_of _ rfl, rfl⟩⟩, fun _ => .inr ⟨4, _, rfl, rfl, trivial⟩, fun _ => .inr ⟨5, _, rfl, rfl, ⟨has_of _ rfl, rfl⟩⟩, fun _ => .inr ⟨5, _, rfl, rfl, trivial⟩, fun _ => .inl ⟨by simp [keyIn, upKeys], fun sz h => by simp at h⟩, fun _ => .inr ⟨6, _, rfl, rfl, trivial⟩, fun _ => .inl ⟨by simp [keyIn, upKeys], fun sz h => by simp at h⟩, ?_⟩
          exact k4 _ _ (by simp [iconC, hget, sps])
      · cases e
    · cases e
  · cases e
end Go.Eng.S12
