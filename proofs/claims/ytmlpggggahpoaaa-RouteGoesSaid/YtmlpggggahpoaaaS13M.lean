/- Seat 13: the way, walked. -/
import Derived.Test.YtmlpggggahpoaaaEngX
import Derived.Test.YtmlpggggahpoaaaS13H
import Derived.Test.YtmlpggggahpoaaaS13L
set_option linter.unusedSimpArgs false
set_option linter.unusedVariables false
namespace Go.Eng.S13
open Go.Proofs Go.IntWalk
set_option maxRecDepth 10000

def errW (W H : Int) (g : Nat → Bool) (n : Nat) (k t m : Int) : Int := bif costE W H g n k t != 0 then costE W H g n k t else bif decide (costV W H g n k t > m) then 10 else 0
def wayL (W H : Int) (g : Nat → Bool) (n : Nat) (k t : Int) : List Int := wayR W H g (costs W H g n t.toNat) t.toNat ((costs W H g n t.toNat k.toNat).toNat + 1) k.toNat [k]
def wayA (W H : Int) (g : Nat → Bool) (n : Nat) (k t m : Int) : List Int := bif costE W H g n k t != 0 then [] else bif decide (costV W H g n k t > m) then [] else wayL W H g n k t
def nL (l : List Int) : Nat → AV := fun i => .int .i64 (l.getD i 0)
def sWhole : Spec := fun args hr nb => match args with
  | [.agg [.int .i64 W, .int .i64 H, v], .int .i64 k, .int .i64 t, .int .i64 m] => match sl 1 hr v with
    | some (n, f, rd) => some ⟨[IsB n f], .tup [.vs nb, .int .i64 (errW W H (Bf f) n k t m)], rd, [(nb, 0, .vec 1 3 (wayA W H (Bf f) n k t m).length (nL (wayA W H (Bf f) n k t m)))]⟩
    | none => none
  | _ => none
theorem costE_zero {W H : Int} {g : Nat → Bool} {n : Nat} {k t : Int} (h : costE W H g n k t = 0) : errC W H n t = 0 ∧ (errC W H n t = 0 ∧ lenC W H n t = n ∧ mayL W H n = true ∧ 0 ≤ t ∧ t < n) ∧ (0 ≤ k ∧ k < n) ∧ 0 ≤ costs W H g n t k.toNat := by
  unfold costE at h
  cases h1 : (errC W H n t != 0) with
  | true => rw [h1] at h; simp at h1; exact absurd h h1
  | false =>
    have h0 := err_zero h1
    rw [h1] at h
    cases h2 : (decide (k < 0) || decide (k ≥ (n : Int))) with
    | true => rw [h2] at h; simp at h
    | false =>
      rw [h2] at h
      simp only [Bool.or_eq_false_iff, decide_eq_false_iff_not] at h2
      cases h3 : decide (costs W H g n t k.toNat < 0) with
      | true => rw [h3] at h; simp at h
      | false => exact ⟨h0.1, h0, by omega, by have := of_decide_eq_false h3; omega⟩
theorem rlx_bd {P : Int × Int → Prop} {W H : Int} {g : Nat → Bool} {o : Nat → Int} {c v : Int} : ∀ (f s : Nat) (p : Ws × Nat), allP P p.1 p.2 → (∀ s', rlxC W H g o c s' = true → P (gs W H g c s', v + prc s')) → allP P (rlx W H g o c v f s p).1 (rlx W H g o c v f s p).2
  | 0, _, _, h, _ => h
  | f + 1, s, p, h, hP => by
    rw [rlx_step]
    refine rlx_bd f (s + 1) _ ?_ hP
    cases e : rlxC W H g o c s with
    | true => exact push_all h (hP s e)
    | false => exact h
theorem runD_bd {W H : Int} {g : Nat → Bool} {n : Nat} (hm : mayL W H n = true) : ∀ (f : Nat) {o : Nat → Int} {w : Ws} {l : Nat}, allP (PW n (3 * (cnt o n : Int))) w l → (∀ k, k < n → -1 ≤ o k ∧ o k ≤ 3 * (n : Int)) → ∀ k, k < n → -1 ≤ runD W H g f o w l k ∧ runD W H g f o w l k ≤ 3 * (n : Int)
  | 0, _, _, _, _, h2 => h2
  | f + 1, o, w, 0, _, h2 => h2
  | f + 1, o, w, l + 1, h1, h2 => by
    have hpa := pop_all h1
    obtain ⟨x0, x1, x2, x3⟩ := h1 0 (by omega)
    cases hs : decide (0 ≤ o (w 0).1.toNat) with
    | true => rw [runD_skip hs]; exact runD_bd hm f hpa h2
    | false =>
      have hneg : o (w 0).1.toNat < 0 := by have := of_decide_eq_false hs; omega
      rw [runD_take hs]
      have hcs := cnt_set (v := (w 0).2) hneg x2 (n := n) (by omega)
      have hcl := cnt_le o n
      refine runD_bd hm f (rlx_bd 8 0 _ (fun k hk => ⟨(hpa k hk).p0, (hpa k hk).p1, (hpa k hk).p2, Int.le_trans (hpa k hk).p3 (by omega)⟩) fun s' hr => ?_) fun k hk => ?_
      · unfold rlxC at hr
        simp only [Bool.and_eq_true, decide_eq_true_eq] at hr
        have hpr := prc_rng s'
        exact ⟨hr.1, (gs_rng hm ⟨x0, x1⟩).2, by show 0 ≤ (w 0).2 + prc s'; omega, by show (w 0).2 + prc s' ≤ _; omega⟩
      · unfold setO
        cases k == (w 0).1.toNat with
        | true => show -1 ≤ (w 0).2 ∧ (w 0).2 ≤ _; omega
        | false => exact h2 k hk
theorem costs_bd {W H : Int} {g : Nat → Bool} {n : Nat} {t : Int} (hm : mayL W H n = true) (ht : 0 ≤ t ∧ t < n) (q : Nat) (hq : q < n) : -1 ≤ costs W H g n t q ∧ costs W H g n t q ≤ 100000 := by
  obtain ⟨hW, hH, hn, hn1, hn2⟩ := may_get hm
  unfold costs
  cases g t.toNat with
  | false => exact ⟨Int.le_refl _, by show (-1 : Int) ≤ 100000; omega⟩
  | true =>
    have := runD_bd (g := g) hm (9 * n + 1) (o := fun _ => -1) (w := fun _ => (t, 0)) (l := 1) (fun k _ => ⟨ht.1, ht.2, Int.le_refl _, by show (0 : Int) ≤ 3 * ((cnt (fun _ => -1) n : Nat) : Int); omega⟩) (fun k _ => ⟨Int.le_refl _, by show (-1 : Int) ≤ 3 * (n : Int); omega⟩) q hq
    exact ⟨this.1, by have := this.2; show runD W H g (9 * n + 1) (fun _ => -1) (fun _ => (t, 0)) 1 q ≤ 100000; omega⟩
theorem whole_ok : SpecOK Try.prog 15 sWhole := by
  refine spec_own (by kernel_rfl) T_ok (sget_cons costs_ok (sget_cons cost_one_ok (sget_cons steps_ok (sget_cons goes_ok sget_nil)))) Try.func15 rfl rfl fun args hr nb out e => ?_
  unfold sWhole at e
  split at e
  · rename_i W H v k t m
    split at e
    · rename_i n f rd hs1
      injection e with e; subst e
      refine ⟨fun x hx => sl_rd hs1 x hx, false, [ld W H n (Bf f), .int .i64 k, .int .i64 t, .int .i64 m], rfl, fun hs => ?_⟩
      have h1 := hs _ List.mem_cons_self
      refine ⟨land_pass hs1 (fun y hy => ⟨hy, by simp⟩) h1 (.cons _ _ _ _ (.same _ _ (.int _ _)) (.cons _ _ _ _ (.same _ _ (.int _ _)) (.cons _ _ _ _ (.same _ _ (.int _ _)) .nil))), ?_⟩
      clear hs h1
      generalize Bf f = g
      have i1 := isB n g
      have eE : errW W H g n k t m = bif costE W H g n k t != 0 then costE W H g n k t else bif decide (costV W H g n k t > m) then 10 else 0 := rfl
      have eL : wayA W H g n k t m = bif costE W H g n k t != 0 then [] else bif decide (costV W H g n k t > m) then [] else wayL W H g n k t := rfl
      rw [eE, eL]
      unfold ld
      refine evC_go0 (dec := []) (ks := [(0, 1), (0, 2), (0, 3), (0, 4), (0, 8), (0, 9), (1, 0), (1, 1), (1, 2), (1, 3)]) (s' := ⟨[(0, 1, Cont.cell (AV.int IntKind.i64 k)), (0, 2, Cont.cell (AV.int IntKind.i64 t)), (0, 3, Cont.cell (AV.int IntKind.i64 m)), (0, 4, Cont.cell (AV.ptr 1 0)), (0, 8, Cont.cell AV.nils), (0, 9, Cont.cell (AV.int IntKind.i64 0)), (1, 0, Cont.cell (AV.int IntKind.i64 W)), (1, 1, Cont.cell (AV.int IntKind.i64 H)), (1, 2, Cont.cell (AV.rs 1 n false (nB g))), (1, 3, Cont.top)], 25, 75⟩) (by kernel_rfl) (by kernel_rfl) ?_
      refine evC_scope ?_
      refine evC_go (dec := []) (ks := [(0, 1), (0, 2), (0, 3), (0, 4), (0, 8), (0, 9), (0, 10), (0, 11), (1, 0), (1, 1), (1, 2), (1, 3)]) (ps := [IsB n (nB g)]) (s' := ⟨[(0, 1, Cont.cell (AV.int IntKind.i64 k)), (0, 2, Cont.cell (AV.int IntKind.i64 t)), (0, 3, Cont.cell (AV.int IntKind.i64 m)), (0, 4, Cont.cell (AV.ptr 1 0)), (0, 8, Cont.cell AV.nils), (0, 9, Cont.cell (AV.int IntKind.i64 0)), (0, 10, Cont.cell (AV.int IntKind.i64 (costV W H (Bf (nB g)) n k t))), (0, 11, Cont.cell (AV.int IntKind.i64 (costE W H (Bf (nB g)) n k t))), (1, 0, Cont.cell (AV.int IntKind.i64 W)), (1, 1, Cont.cell (AV.int IntKind.i64 H)), (1, 2, Cont.cell (AV.rs 1 n false (nB g))), (1, 3, Cont.top)], 97, 75⟩) (by kernel_rfl) (by kernel_rfl) ?_ ?_
      · exact i1
      rw [Bf_nB]
      refine evC_seq ?_
      refine evC_go0 (dec := []) (ks := [(0, 1), (0, 2), (0, 3), (0, 4), (0, 8), (0, 9), (0, 10), (0, 11), (0, 27), (1, 0), (1, 1), (1, 2), (1, 3)]) (s' := ⟨[(0, 1, Cont.cell (AV.int IntKind.i64 k)), (0, 2, Cont.cell (AV.int IntKind.i64 t)), (0, 3, Cont.cell (AV.int IntKind.i64 m)), (0, 4, Cont.cell (AV.ptr 1 0)), (0, 8, Cont.cell AV.nils), (0, 9, Cont.cell (AV.int IntKind.i64 0)), (0, 10, Cont.cell (AV.int IntKind.i64 (costV W H g n k t))), (0, 11, Cont.cell (AV.int IntKind.i64 (costE W H g n k t))), (0, 27, Cont.cell (AV.bool (costE W H g n k t != 0))), (1, 0, Cont.cell (AV.int IntKind.i64 W)), (1, 1, Cont.cell (AV.int IntKind.i64 H)), (1, 2, Cont.cell (AV.rs 1 n false (nB g))), (1, 3, Cont.top)], 113, 75⟩) (by kernel_rfl) (by kernel_rfl) ?_
      refine evC_if (q := costE W H g n k t != 0) (by kernel_rfl) (fun hc => ?_) (fun hc => ?_)
      · rw [hc]
        simp only [cond_true]
        refine evC_go0 (dec := []) (ks := [(0, 1), (0, 2), (0, 3), (0, 4), (0, 8), (0, 9), (0, 10), (1, 0), (1, 1), (1, 2), (1, 3)]) (s' := ⟨[(0, 1, Cont.cell (AV.int IntKind.i64 k)), (0, 2, Cont.cell (AV.int IntKind.i64 t)), (0, 3, Cont.cell (AV.int IntKind.i64 m)), (0, 4, Cont.cell (AV.ptr 1 0)), (0, 8, Cont.cell AV.nils), (0, 9, Cont.cell (AV.int IntKind.i64 (costE W H g n k t))), (0, 10, Cont.cell (AV.int IntKind.i64 (costV W H g n k t))), (1, 0, Cont.cell (AV.int IntKind.i64 W)), (1, 1, Cont.cell (AV.int IntKind.i64 H)), (1, 2, Cont.cell (AV.rs 1 n false (nB g))), (1, 3, Cont.top)], 137, 75⟩) (by kernel_rfl) (by kernel_rfl) ?_
        refine evC_wk _ (.nil 0 8 1 3 (fun _ => .nils) (Nat.le_of_ble_eq_true rfl) rfl) ?_
        refine evC_ret ?_
        refine then_ret ?_
        refine post_ret ?_
        refine ends_go [137] (AV.tup [AV.vs 1, AV.int IntKind.i64 (costE W H g n k t)]) [(1, 0, Cont.vec 1 3 0 fun x => AV.nils)] rfl (by decide) rfl rfl (has_of _ rfl) rfl ⟨⟨_, rfl, ⟨rfl, rfl, rfl, fun _ _ => rfl⟩⟩, trivial⟩ ⟨fun _ => ⟨1, _, rfl, rfl, rfl, ⟨rfl, rfl, rfl, fun _ hi => absurd hi (Nat.not_lt_zero _)⟩⟩, trivial⟩ (kept_nil _)
      · rw [hc]
        simp only [cond_false]
        refine evC_skip ?_
        refine then_normal ?_
        refine evC_seq ?_
        refine evC_go0 (dec := []) (ks := [(0, 1), (0, 2), (0, 4), (0, 8), (0, 9), (0, 31), (1, 0), (1, 1), (1, 2), (1, 3)]) (s' := ⟨[(0, 1, Cont.cell (AV.int IntKind.i64 k)), (0, 2, Cont.cell (AV.int IntKind.i64 t)), (0, 4, Cont.cell (AV.ptr 1 0)), (0, 8, Cont.cell AV.nils), (0, 9, Cont.cell (AV.int IntKind.i64 0)), (0, 31, Cont.cell (AV.bool (decide (costV W H g n k t > m)))), (1, 0, Cont.cell (AV.int IntKind.i64 W)), (1, 1, Cont.cell (AV.int IntKind.i64 H)), (1, 2, Cont.cell (AV.rs 1 n false (nB g))), (1, 3, Cont.top)], 137, 75⟩) (by kernel_rfl) (by kernel_rfl) ?_
        refine evC_if (q := decide (costV W H g n k t > m)) (by kernel_rfl) (fun hc => ?_) (fun hc => ?_)
        · rw [hc]
          simp only [cond_true]
          refine evC_go0 (dec := []) (ks := [(0, 1), (0, 2), (0, 4), (0, 8), (0, 9), (1, 0), (1, 1), (1, 2), (1, 3)]) (s' := ⟨[(0, 1, Cont.cell (AV.int IntKind.i64 k)), (0, 2, Cont.cell (AV.int IntKind.i64 t)), (0, 4, Cont.cell (AV.ptr 1 0)), (0, 8, Cont.cell AV.nils), (0, 9, Cont.cell (AV.int IntKind.i64 10)), (1, 0, Cont.cell (AV.int IntKind.i64 W)), (1, 1, Cont.cell (AV.int IntKind.i64 H)), (1, 2, Cont.cell (AV.rs 1 n false (nB g))), (1, 3, Cont.top)], 153, 75⟩) (by kernel_rfl) (by kernel_rfl) ?_
          refine evC_wk _ (.nil 0 8 1 3 (fun _ => .nils) (Nat.le_of_ble_eq_true rfl) rfl) ?_
          refine evC_ret ?_
          refine then_ret ?_
          refine post_ret ?_
          refine ends_go [153] (AV.tup [AV.vs 1, AV.int IntKind.i64 10]) [(1, 0, Cont.vec 1 3 0 fun x => AV.nils)] rfl (by decide) rfl rfl (has_of _ rfl) rfl ⟨⟨_, rfl, ⟨rfl, rfl, rfl, fun _ _ => rfl⟩⟩, trivial⟩ ⟨fun _ => ⟨1, _, rfl, rfl, rfl, ⟨rfl, rfl, rfl, fun _ hi => absurd hi (Nat.not_lt_zero _)⟩⟩, trivial⟩ (kept_nil _)
        · rw [hc]
          simp only [cond_false]
          have hE : costE W H g n k t = 0 := by simpa using ‹(costE W H g n k t != 0) = false›
          obtain ⟨z1, z2, z3, z4⟩ := costE_zero hE
          clear eE eL
          refine evC_skip ?_
          refine then_normal ?_
          refine evC_go (dec := []) (ks := [(0, 1), (0, 2), (0, 4), (0, 8), (0, 9), (0, 12), (1, 0), (1, 1), (1, 2), (1, 3), (153, 0)]) (ps := [IsB n (nB g)]) (s' := ⟨[(0, 1, Cont.cell (AV.int IntKind.i64 k)), (0, 2, Cont.cell (AV.int IntKind.i64 t)), (0, 4, Cont.cell (AV.ptr 1 0)), (0, 8, Cont.cell AV.nils), (0, 9, Cont.cell (AV.int IntKind.i64 0)), (0, 12, Cont.cell (AV.vs 153)), (1, 0, Cont.cell (AV.int IntKind.i64 W)), (1, 1, Cont.cell (AV.int IntKind.i64 H)), (1, 2, Cont.cell (AV.rs 1 n false (nB g))), (1, 3, Cont.top), (153, 0, Cont.vec 1 3 (lenC W H n t) (nI (costs W H (Bf (nB g)) n t)))], 201, 75⟩) (by kernel_rfl) (by kernel_rfl) ?_ ?_
          · exact i1
          rw [Bf_nB, z2.2.1]
          obtain ⟨k, rfl⟩ := Int.eq_ofNat_of_zero_le z3.1
          obtain ⟨t, rfl⟩ := Int.eq_ofNat_of_zero_le z2.2.2.2.1
          unfold wayL
          simp only [Int.toNat_natCast] at z4 ⊢
          have hm := z2.2.2.1
          obtain ⟨hW, hH, hn, hn1, hn2⟩ := may_get hm
          refine evC_go0 (dec := []) (ks := [(0, 1), (0, 2), (0, 4), (0, 8), (0, 9), (0, 12), (0, 14), (1, 0), (1, 1), (1, 2), (1, 3), (153, 0), (209, 0)]) (s' := ⟨[(0, 1, Cont.cell (AV.int IntKind.i64 (↑k : Int))), (0, 2, Cont.cell (AV.int IntKind.i64 (↑t : Int))), (0, 4, Cont.cell (AV.ptr 1 0)), (0, 8, Cont.cell AV.nils), (0, 9, Cont.cell (AV.int IntKind.i64 0)), (0, 12, Cont.cell (AV.vs 153)), (0, 14, Cont.cell (AV.vs 209)), (1, 0, Cont.cell (AV.int IntKind.i64 W)), (1, 1, Cont.cell (AV.int IntKind.i64 H)), (1, 2, Cont.cell (AV.rs 1 n false (nB g))), (1, 3, Cont.top), (153, 0, Cont.vec 1 3 n (nI (costs W H g n (↑t : Int)))), (209, 0, Cont.vec 1 3 1 (pget [(0, AV.int IntKind.i64 (↑k : Int))]))], 225, 75⟩) (by kernel_rfl) (by kernel_rfl) ?_
          refine evC_seq ?_
          refine evC_label ?_
          refine then_normal ?_
          refine evC_seq ?_
          refine evC_go0 (dec := []) (ks := [(0, 2), (0, 4), (0, 8), (0, 9), (0, 12), (0, 14), (0, 15), (1, 0), (1, 1), (1, 2), (1, 3), (153, 0), (209, 0)]) (s' := ⟨[(0, 2, Cont.cell (AV.int IntKind.i64 (↑t : Int))), (0, 4, Cont.cell (AV.ptr 1 0)), (0, 8, Cont.cell AV.nils), (0, 9, Cont.cell (AV.int IntKind.i64 0)), (0, 12, Cont.cell (AV.vs 153)), (0, 14, Cont.cell (AV.vs 209)), (0, 15, Cont.cell (AV.int IntKind.i64 (↑k : Int))), (1, 0, Cont.cell (AV.int IntKind.i64 W)), (1, 1, Cont.cell (AV.int IntKind.i64 H)), (1, 2, Cont.cell (AV.rs 1 n false (nB g))), (1, 3, Cont.top), (153, 0, Cont.vec 1 3 n (nI (costs W H g n (↑t : Int)))), (209, 0, Cont.vec 1 3 1 (pget [(0, AV.int IntKind.i64 (↑k : Int))]))], 241, 75⟩) (by kernel_rfl) (by kernel_rfl) ?_
          generalize hC : costs W H g n t = C at z4
          have hb : ∀ q, q < n → -1 ≤ C q ∧ C q ≤ 100000 := fun q hq => by rw [← hC]; exact costs_bd hm z2.2.2.2 q hq
          generalize hL : wayR W H g C t ((C k).toNat + 1) k [(k : Int)] = L
          refine evC_wk (s' := ⟨[(0, 2, Cont.cell (AV.int IntKind.i64 (↑t : Int))), (0, 4, Cont.cell (AV.ptr 1 0)), (0, 8, Cont.cell AV.nils), (0, 9, Cont.cell (AV.int IntKind.i64 0)), (0, 12, Cont.cell (AV.vs 2)), (0, 14, Cont.cell (AV.vs 3)), (0, 15, Cont.cell (AV.int IntKind.i64 (↑k : Int))), (1, 0, Cont.cell (AV.int IntKind.i64 W)), (1, 1, Cont.cell (AV.int IntKind.i64 H)), (1, 2, Cont.cell (AV.rs 1 n false (nB g))), (1, 3, Cont.top), (2, 0, Cont.vec 1 3 n (nI C)), (3, 0, .vec 1 3 1 (nL [(k : Int)]))], 4, 75⟩) _ (wk_go [1, 153, 209] rfl (by decide) rfl rfl ⟨⟨_, rfl, rfl⟩, ⟨_, rfl, rfl⟩, ⟨_, rfl, rfl⟩, ⟨_, rfl, rfl⟩, ⟨_, rfl, rfl⟩, ⟨_, rfl, rfl⟩, ⟨_, rfl, rfl⟩, ⟨_, rfl, rfl⟩, ⟨_, rfl, rfl⟩, ⟨_, rfl, rfl⟩, ⟨_, rfl, trivial⟩, ⟨_, rfl, rfl, rfl, rfl, fun _ _ => rfl⟩, ⟨_, rfl, ?_⟩, trivial⟩) ?_
          · refine ⟨rfl, rfl, rfl, fun j hj => ?_⟩
            have : j = 0 := by omega
            subst this
            rfl
          refine evC_block ?_
          refine evC_loop (ι := { s : Nat × List Int × Nat // s.1 < n ∧ 0 ≤ C s.1 ∧ C s.1 < s.2.2 ∧ s.2.1.length + C s.1 ≤ 200000 ∧ wayR W H g C t s.2.2 s.1 s.2.1 = L }) (fun s => ⟨[(0, 2, Cont.cell (AV.int IntKind.i64 (↑t : Int))), (0, 4, Cont.cell (AV.ptr 1 0)), (0, 8, Cont.cell AV.nils), (0, 9, Cont.cell (AV.int IntKind.i64 0)), (0, 12, Cont.cell (AV.vs 2)), (0, 14, Cont.cell (AV.vs 3)), (0, 15, .cell (.int .i64 (s.1.1 : Nat))), (1, 0, Cont.cell (AV.int IntKind.i64 W)), (1, 1, Cont.cell (AV.int IntKind.i64 H)), (1, 2, Cont.cell (AV.rs 1 n false (nB g))), (1, 3, Cont.top), (2, 0, Cont.vec 1 3 n (nI C)), (3, 0, .vec 1 3 s.1.2.1.length (nL s.1.2.1))], 4, 75⟩) (fun s => s.1.2.2) ⟨(k, [(k : Int)], (C k).toNat + 1), by show k < n; omega, z4, by show C k < ((C k).toNat + 1 : Nat); omega, by show (1 : Int) + C k ≤ 200000; have := hb k (by omega); omega, hL⟩ (wk_go [1, 2, 3] rfl (by decide) rfl rfl ⟨⟨_, rfl, rfl⟩, ⟨_, rfl, rfl⟩, ⟨_, rfl, rfl⟩, ⟨_, rfl, rfl⟩, ⟨_, rfl, rfl⟩, ⟨_, rfl, rfl⟩, ⟨_, rfl, rfl⟩, ⟨_, rfl, rfl⟩, ⟨_, rfl, rfl⟩, ⟨_, rfl, rfl⟩, ⟨_, rfl, trivial⟩, ⟨_, rfl, rfl, rfl, rfl, fun _ _ => rfl⟩, ⟨_, rfl, ⟨rfl, rfl, rfl, fun _ _ => rfl⟩⟩, trivial⟩) ?_
          rintro ⟨⟨c, acc, fu⟩, h1, h2, h3, h4, h5⟩
          simp only at h1 h2 h3 h4 h5
          refine evC_seq ?_
          refine evC_go0 (dec := []) (ks := [(0, 2), (0, 4), (0, 8), (0, 9), (0, 12), (0, 14), (0, 15), (0, 43), (1, 0), (1, 1), (1, 2), (1, 3), (2, 0), (3, 0)]) (s' := ⟨[(0, 2, Cont.cell (AV.int IntKind.i64 (↑t : Int))), (0, 4, Cont.cell (AV.ptr 1 0)), (0, 8, Cont.cell AV.nils), (0, 9, Cont.cell (AV.int IntKind.i64 0)), (0, 12, Cont.cell (AV.vs 2)), (0, 14, Cont.cell (AV.vs 3)), (0, 15, Cont.cell (AV.int IntKind.i64 (↑c : Int))), (0, 43, Cont.cell (AV.bool ((↑c : Int) != (↑t : Int)))), (1, 0, Cont.cell (AV.int IntKind.i64 W)), (1, 1, Cont.cell (AV.int IntKind.i64 H)), (1, 2, Cont.cell (AV.rs 1 n false (nB g))), (1, 3, Cont.top), (2, 0, Cont.vec 1 3 n (nI C)), (3, 0, Cont.vec 1 3 (List.length acc) (nL acc))], 28, 75⟩) (by kernel_rfl) (by kernel_rfl) ?_
          refine evC_if (q := (↑c : Int) != (↑t : Int)) (by kernel_rfl) (fun hc => ?_) (fun hc => ?_)
          · have hct : c ≠ t := by
              simp only [bne_iff_ne, ne_eq] at hc
              omega
            clear hc
            have hg : g t = true := by
              cases h : g t with
              | true => rfl
              | false =>
                have : C k = -1 := by rw [← hC]; unfold costs; rw [Int.toNat_natCast, h]; rfl
                omega
            have hx := nxt_ok hm (by omega) hg h1 hct (by rw [hC]; exact h2)
            rw [hC] at hx
            obtain ⟨x1, x2, x3, x4, x5⟩ := hx
            refine evC_skip ?_
            refine then_normal ?_
            refine evC_block ?_
            refine evC_go0 (dec := []) (ks := [(0, 2), (0, 4), (0, 8), (0, 9), (0, 12), (0, 14), (0, 15), (0, 44), (0, 45), (1, 0), (1, 1), (1, 2), (1, 3), (2, 0), (3, 0)]) (s' := ⟨[(0, 2, Cont.cell (AV.int IntKind.i64 (↑t : Int))), (0, 4, Cont.cell (AV.ptr 1 0)), (0, 8, Cont.cell AV.nils), (0, 9, Cont.cell (AV.int IntKind.i64 0)), (0, 12, Cont.cell (AV.vs 2)), (0, 14, Cont.cell (AV.vs 3)), (0, 15, Cont.cell (AV.int IntKind.i64 (↑c : Int))), (0, 44, Cont.cell (AV.agg [AV.int IntKind.i64 1, AV.int IntKind.i64 0, AV.int IntKind.i64 2, AV.int IntKind.i64 1, AV.int IntKind.i64 1, AV.int IntKind.i64 3, AV.int IntKind.i64 0, AV.int IntKind.i64 1, AV.int IntKind.i64 2, AV.int IntKind.i64 (-1), AV.int IntKind.i64 1, AV.int IntKind.i64 3, AV.int IntKind.i64 (-1), AV.int IntKind.i64 0, AV.int IntKind.i64 2, AV.int IntKind.i64 (-1), AV.int IntKind.i64 (-1), AV.int IntKind.i64 3, AV.int IntKind.i64 0, AV.int IntKind.i64 (-1), AV.int IntKind.i64 2, AV.int IntKind.i64 1, AV.int IntKind.i64 (-1), AV.int IntKind.i64 3])), (0, 45, Cont.cell (AV.int IntKind.i64 0)), (1, 0, Cont.cell (AV.int IntKind.i64 W)), (1, 1, Cont.cell (AV.int IntKind.i64 H)), (1, 2, Cont.cell (AV.rs 1 n false (nB g))), (1, 3, Cont.top), (2, 0, Cont.vec 1 3 n (nI C)), (3, 0, Cont.vec 1 3 (List.length acc) (nL acc))], 44, 75⟩) (by kernel_rfl) (by kernel_rfl) ?_
            refine evC_block ?_
            refine evC_loop (ι := { s : Nat // s ≤ 8 ∧ ∀ q, q < s → onW W H g C c q = false }) (fun s => ⟨[(0, 2, Cont.cell (AV.int IntKind.i64 (↑t : Int))), (0, 4, Cont.cell (AV.ptr 1 0)), (0, 8, Cont.cell AV.nils), (0, 9, Cont.cell (AV.int IntKind.i64 0)), (0, 12, Cont.cell (AV.vs 2)), (0, 14, Cont.cell (AV.vs 3)), (0, 15, Cont.cell (AV.int IntKind.i64 (↑c : Int))), (0, 44, Cont.cell (AV.agg [AV.int IntKind.i64 1, AV.int IntKind.i64 0, AV.int IntKind.i64 2, AV.int IntKind.i64 1, AV.int IntKind.i64 1, AV.int IntKind.i64 3, AV.int IntKind.i64 0, AV.int IntKind.i64 1, AV.int IntKind.i64 2, AV.int IntKind.i64 (-1), AV.int IntKind.i64 1, AV.int IntKind.i64 3, AV.int IntKind.i64 (-1), AV.int IntKind.i64 0, AV.int IntKind.i64 2, AV.int IntKind.i64 (-1), AV.int IntKind.i64 (-1), AV.int IntKind.i64 3, AV.int IntKind.i64 0, AV.int IntKind.i64 (-1), AV.int IntKind.i64 2, AV.int IntKind.i64 1, AV.int IntKind.i64 (-1), AV.int IntKind.i64 3])), (0, 45, .cell (.int .i64 (s.1 : Nat))), (1, 0, Cont.cell (AV.int IntKind.i64 W)), (1, 1, Cont.cell (AV.int IntKind.i64 H)), (1, 2, Cont.cell (AV.rs 1 n false (nB g))), (1, 3, Cont.top), (2, 0, Cont.vec 1 3 n (nI C)), (3, 0, Cont.vec 1 3 (List.length acc) (nL acc))], 4, 75⟩) (fun s => 8 - s.1) ⟨0, Nat.zero_le _, fun _ h => absurd h (Nat.not_lt_zero _)⟩ (wk_go [1, 2, 3] rfl (by decide) rfl rfl ⟨⟨_, rfl, rfl⟩, ⟨_, rfl, rfl⟩, ⟨_, rfl, rfl⟩, ⟨_, rfl, rfl⟩, ⟨_, rfl, rfl⟩, ⟨_, rfl, rfl⟩, ⟨_, rfl, rfl⟩, ⟨_, rfl, rfl⟩, ⟨_, rfl, rfl⟩, ⟨_, rfl, rfl⟩, ⟨_, rfl, rfl⟩, ⟨_, rfl, rfl⟩, ⟨_, rfl, trivial⟩, ⟨_, rfl, rfl, rfl, rfl, fun _ _ => rfl⟩, ⟨_, rfl, rfl, rfl, rfl, fun _ _ => rfl⟩, trivial⟩) ?_
            rintro ⟨s, j1, j2⟩
            refine evC_go0 (dec := []) (ks := [(0, 2), (0, 4), (0, 8), (0, 9), (0, 12), (0, 14), (0, 15), (0, 44), (0, 45), (0, 46), (1, 0), (1, 1), (1, 2), (1, 3), (2, 0), (3, 0)]) (s' := ⟨[(0, 2, Cont.cell (AV.int IntKind.i64 (↑t : Int))), (0, 4, Cont.cell (AV.ptr 1 0)), (0, 8, Cont.cell AV.nils), (0, 9, Cont.cell (AV.int IntKind.i64 0)), (0, 12, Cont.cell (AV.vs 2)), (0, 14, Cont.cell (AV.vs 3)), (0, 15, Cont.cell (AV.int IntKind.i64 (↑c : Int))), (0, 44, Cont.cell (AV.agg [AV.int IntKind.i64 1, AV.int IntKind.i64 0, AV.int IntKind.i64 2, AV.int IntKind.i64 1, AV.int IntKind.i64 1, AV.int IntKind.i64 3, AV.int IntKind.i64 0, AV.int IntKind.i64 1, AV.int IntKind.i64 2, AV.int IntKind.i64 (-1), AV.int IntKind.i64 1, AV.int IntKind.i64 3, AV.int IntKind.i64 (-1), AV.int IntKind.i64 0, AV.int IntKind.i64 2, AV.int IntKind.i64 (-1), AV.int IntKind.i64 (-1), AV.int IntKind.i64 3, AV.int IntKind.i64 0, AV.int IntKind.i64 (-1), AV.int IntKind.i64 2, AV.int IntKind.i64 1, AV.int IntKind.i64 (-1), AV.int IntKind.i64 3])), (0, 45, Cont.cell (AV.int IntKind.i64 (↑s : Int))), (0, 46, Cont.cell (AV.bool (decide ((↑s : Int) < 8)))), (1, 0, Cont.cell (AV.int IntKind.i64 W)), (1, 1, Cont.cell (AV.int IntKind.i64 H)), (1, 2, Cont.cell (AV.rs 1 n false (nB g))), (1, 3, Cont.top), (2, 0, Cont.vec 1 3 n (nI C)), (3, 0, Cont.vec 1 3 (List.length acc) (nL acc))], 12, 75⟩) (by kernel_rfl) (by kernel_rfl) ?_
            refine evC_seq ?_
            refine evC_if (q := decide ((↑s : Int) < 8)) (by kernel_rfl) (fun hc => ?_) (fun hc => ?_)
            · have hs8 : s < 8 := by have := of_decide_eq_true hc; omega
              clear hc
              refine evC_skip ?_
              refine then_normal ?_
              refine evC_seq ?_
              refine evC_block ?_
              have hd := d_rng hs8
              refine evC_cutTo (ι := Unit) (fun _ => ⟨[(0, 2, Cont.cell (AV.int IntKind.i64 (↑t : Int))), (0, 4, Cont.cell (AV.ptr 1 0)), (0, 8, Cont.cell AV.nils), (0, 9, Cont.cell (AV.int IntKind.i64 0)), (0, 12, Cont.cell (AV.vs 2)), (0, 14, Cont.cell (AV.vs 3)), (0, 15, Cont.cell (AV.int IntKind.i64 (↑c : Int))), (0, 44, Cont.cell (AV.agg [AV.int IntKind.i64 1, AV.int IntKind.i64 0, AV.int IntKind.i64 2, AV.int IntKind.i64 1, AV.int IntKind.i64 1, AV.int IntKind.i64 3, AV.int IntKind.i64 0, AV.int IntKind.i64 1, AV.int IntKind.i64 2, AV.int IntKind.i64 (-1), AV.int IntKind.i64 1, AV.int IntKind.i64 3, AV.int IntKind.i64 (-1), AV.int IntKind.i64 0, AV.int IntKind.i64 2, AV.int IntKind.i64 (-1), AV.int IntKind.i64 (-1), AV.int IntKind.i64 3, AV.int IntKind.i64 0, AV.int IntKind.i64 (-1), AV.int IntKind.i64 2, AV.int IntKind.i64 1, AV.int IntKind.i64 (-1), AV.int IntKind.i64 3])), (0, 45, Cont.cell (AV.int IntKind.i64 (↑s : Int))), (0, 46, Cont.cell (AV.bool (decide ((↑s : Int) < 8)))), (1, 0, Cont.cell (AV.int IntKind.i64 W)), (1, 1, Cont.cell (AV.int IntKind.i64 H)), (1, 2, Cont.cell (AV.rs 1 n false (nB g))), (1, 3, Cont.top), (2, 0, Cont.vec 1 3 n (nI C)), (3, 0, Cont.vec 1 3 (List.length acc) (nL acc)), (0, 17, .cell (.ptr 4 0)), (4, 0, .cell (.int .i64 (dI s))), (4, 1, .cell (.int .i64 (dJ s))), (4, 2, .cell (.int .i64 (prc s))), (4, 3, .top)], 5, 75⟩) ?_ ?_
              · rcases (by omega : s = 0 ∨ s = 1 ∨ s = 2 ∨ s = 3 ∨ s = 4 ∨ s = 5 ∨ s = 6 ∨ s = 7) with rfl | rfl | rfl | rfl | rfl | rfl | rfl | rfl
                · refine evC_goL (dec := []) (ks := [(0, 2), (0, 4), (0, 8), (0, 9), (0, 12), (0, 14), (0, 15), (0, 17), (0, 44), (0, 45), (0, 46), (1, 0), (1, 1), (1, 2), (1, 3), (2, 0), (3, 0), (20, 0), (20, 1), (20, 2), (20, 3)]) (ps := [(0 : Int) ≤ (↑(0 : Nat) : Int), (↑(0 : Nat) : Int) < (↑(8 : Nat) : Int)]) (s' := ⟨[(0, 2, Cont.cell (AV.int IntKind.i64 (↑t : Int))), (0, 4, Cont.cell (AV.ptr 1 0)), (0, 8, Cont.cell AV.nils), (0, 9, Cont.cell (AV.int IntKind.i64 0)), (0, 12, Cont.cell (AV.vs 2)), (0, 14, Cont.cell (AV.vs 3)), (0, 15, Cont.cell (AV.int IntKind.i64 (↑c : Int))), (0, 17, Cont.cell (AV.ptr 20 0)), (0, 44, Cont.cell (AV.agg [AV.int IntKind.i64 1, AV.int IntKind.i64 0, AV.int IntKind.i64 2, AV.int IntKind.i64 1, AV.int IntKind.i64 1, AV.int IntKind.i64 3, AV.int IntKind.i64 0, AV.int IntKind.i64 1, AV.int IntKind.i64 2, AV.int IntKind.i64 (-1), AV.int IntKind.i64 1, AV.int IntKind.i64 3, AV.int IntKind.i64 (-1), AV.int IntKind.i64 0, AV.int IntKind.i64 2, AV.int IntKind.i64 (-1), AV.int IntKind.i64 (-1), AV.int IntKind.i64 3, AV.int IntKind.i64 0, AV.int IntKind.i64 (-1), AV.int IntKind.i64 2, AV.int IntKind.i64 1, AV.int IntKind.i64 (-1), AV.int IntKind.i64 3])), (0, 45, Cont.cell (AV.int IntKind.i64 (↑0 : Int))), (0, 46, Cont.cell (AV.bool true)), (1, 0, Cont.cell (AV.int IntKind.i64 W)), (1, 1, Cont.cell (AV.int IntKind.i64 H)), (1, 2, Cont.cell (AV.rs 1 n false (nB g))), (1, 3, Cont.top), (2, 0, Cont.vec 1 3 n (nI C)), (3, 0, Cont.vec 1 3 (List.length acc) (nL acc)), (20, 0, Cont.cell (AV.int IntKind.i64 1)), (20, 1, Cont.cell (AV.int IntKind.i64 0)), (20, 2, Cont.cell (AV.int IntKind.i64 2)), (20, 3, Cont.top)], 36, 75⟩) (by kernel_rfl) (by kernel_rfl) ?_ ?_
                  · (simp only [All]; (repeat' apply And.intro) <;> (try intro _) <;> (try intro _) <;> (repeat' apply And.intro) <;> (try intro _) <;> (try intro _) <;> first | trivial | assumption | exact .inr trivial | exact .inr rfl | omega | rfl | exact ⟨_, rfl, rfl⟩ | exact ⟨rfl, rfl⟩ | exact ⟨fun _ => rfl, fun _ => rfl⟩ | (unfold maxLen; omega) | (unfold i64R; first | omega | decide) | decide)
                  refine cut_normal (()) (wk_go [1, 2, 3, 20] rfl (by decide) rfl rfl ⟨⟨_, rfl, rfl⟩, ⟨_, rfl, rfl⟩, ⟨_, rfl, rfl⟩, ⟨_, rfl, rfl⟩, ⟨_, rfl, rfl⟩, ⟨_, rfl, rfl⟩, ⟨_, rfl, rfl⟩, ⟨_, rfl, rfl⟩, ⟨_, rfl, rfl⟩, ⟨_, rfl, rfl⟩, ⟨_, rfl, rfl⟩, ⟨_, rfl, rfl⟩, ⟨_, rfl, rfl⟩, ⟨_, rfl, trivial⟩, ⟨_, rfl, ⟨rfl, rfl, rfl, fun _ _ => rfl⟩⟩, ⟨_, rfl, ⟨rfl, rfl, rfl, fun _ _ => rfl⟩⟩, ⟨_, rfl, rfl⟩, ⟨_, rfl, rfl⟩, ⟨_, rfl, rfl⟩, ⟨_, rfl, rfl⟩, ⟨_, rfl, trivial⟩, trivial⟩)
                · refine evC_goL (dec := []) (ks := [(0, 2), (0, 4), (0, 8), (0, 9), (0, 12), (0, 14), (0, 15), (0, 17), (0, 44), (0, 45), (0, 46), (1, 0), (1, 1), (1, 2), (1, 3), (2, 0), (3, 0), (20, 0), (20, 1), (20, 2), (20, 3)]) (ps := [(0 : Int) ≤ (↑(1 : Nat) : Int), (↑(1 : Nat) : Int) < (↑(8 : Nat) : Int)]) (s' := ⟨[(0, 2, Cont.cell (AV.int IntKind.i64 (↑t : Int))), (0, 4, Cont.cell (AV.ptr 1 0)), (0, 8, Cont.cell AV.nils), (0, 9, Cont.cell (AV.int IntKind.i64 0)), (0, 12, Cont.cell (AV.vs 2)), (0, 14, Cont.cell (AV.vs 3)), (0, 15, Cont.cell (AV.int IntKind.i64 (↑c : Int))), (0, 17, Cont.cell (AV.ptr 20 0)), (0, 44, Cont.cell (AV.agg [AV.int IntKind.i64 1, AV.int IntKind.i64 0, AV.int IntKind.i64 2, AV.int IntKind.i64 1, AV.int IntKind.i64 1, AV.int IntKind.i64 3, AV.int IntKind.i64 0, AV.int IntKind.i64 1, AV.int IntKind.i64 2, AV.int IntKind.i64 (-1), AV.int IntKind.i64 1, AV.int IntKind.i64 3, AV.int IntKind.i64 (-1), AV.int IntKind.i64 0, AV.int IntKind.i64 2, AV.int IntKind.i64 (-1), AV.int IntKind.i64 (-1), AV.int IntKind.i64 3, AV.int IntKind.i64 0, AV.int IntKind.i64 (-1), AV.int IntKind.i64 2, AV.int IntKind.i64 1, AV.int IntKind.i64 (-1), AV.int IntKind.i64 3])), (0, 45, Cont.cell (AV.int IntKind.i64 (↑1 : Int))), (0, 46, Cont.cell (AV.bool true)), (1, 0, Cont.cell (AV.int IntKind.i64 W)), (1, 1, Cont.cell (AV.int IntKind.i64 H)), (1, 2, Cont.cell (AV.rs 1 n false (nB g))), (1, 3, Cont.top), (2, 0, Cont.vec 1 3 n (nI C)), (3, 0, Cont.vec 1 3 (List.length acc) (nL acc)), (20, 0, Cont.cell (AV.int IntKind.i64 1)), (20, 1, Cont.cell (AV.int IntKind.i64 1)), (20, 2, Cont.cell (AV.int IntKind.i64 3)), (20, 3, Cont.top)], 36, 75⟩) (by kernel_rfl) (by kernel_rfl) ?_ ?_
                  · (simp only [All]; (repeat' apply And.intro) <;> (try intro _) <;> (try intro _) <;> (repeat' apply And.intro) <;> (try intro _) <;> (try intro _) <;> first | trivial | assumption | exact .inr trivial | exact .inr rfl | omega | rfl | exact ⟨_, rfl, rfl⟩ | exact ⟨rfl, rfl⟩ | exact ⟨fun _ => rfl, fun _ => rfl⟩ | (unfold maxLen; omega) | (unfold i64R; first | omega | decide) | decide)
                  refine cut_normal (()) (wk_go [1, 2, 3, 20] rfl (by decide) rfl rfl ⟨⟨_, rfl, rfl⟩, ⟨_, rfl, rfl⟩, ⟨_, rfl, rfl⟩, ⟨_, rfl, rfl⟩, ⟨_, rfl, rfl⟩, ⟨_, rfl, rfl⟩, ⟨_, rfl, rfl⟩, ⟨_, rfl, rfl⟩, ⟨_, rfl, rfl⟩, ⟨_, rfl, rfl⟩, ⟨_, rfl, rfl⟩, ⟨_, rfl, rfl⟩, ⟨_, rfl, rfl⟩, ⟨_, rfl, trivial⟩, ⟨_, rfl, ⟨rfl, rfl, rfl, fun _ _ => rfl⟩⟩, ⟨_, rfl, ⟨rfl, rfl, rfl, fun _ _ => rfl⟩⟩, ⟨_, rfl, rfl⟩, ⟨_, rfl, rfl⟩, ⟨_, rfl, rfl⟩, ⟨_, rfl, rfl⟩, ⟨_, rfl, trivial⟩, trivial⟩)
                · refine evC_goL (dec := []) (ks := [(0, 2), (0, 4), (0, 8), (0, 9), (0, 12), (0, 14), (0, 15), (0, 17), (0, 44), (0, 45), (0, 46), (1, 0), (1, 1), (1, 2), (1, 3), (2, 0), (3, 0), (20, 0), (20, 1), (20, 2), (20, 3)]) (ps := [(0 : Int) ≤ (↑(2 : Nat) : Int), (↑(2 : Nat) : Int) < (↑(8 : Nat) : Int)]) (s' := ⟨[(0, 2, Cont.cell (AV.int IntKind.i64 (↑t : Int))), (0, 4, Cont.cell (AV.ptr 1 0)), (0, 8, Cont.cell AV.nils), (0, 9, Cont.cell (AV.int IntKind.i64 0)), (0, 12, Cont.cell (AV.vs 2)), (0, 14, Cont.cell (AV.vs 3)), (0, 15, Cont.cell (AV.int IntKind.i64 (↑c : Int))), (0, 17, Cont.cell (AV.ptr 20 0)), (0, 44, Cont.cell (AV.agg [AV.int IntKind.i64 1, AV.int IntKind.i64 0, AV.int IntKind.i64 2, AV.int IntKind.i64 1, AV.int IntKind.i64 1, AV.int IntKind.i64 3, AV.int IntKind.i64 0, AV.int IntKind.i64 1, AV.int IntKind.i64 2, AV.int IntKind.i64 (-1), AV.int IntKind.i64 1, AV.int IntKind.i64 3, AV.int IntKind.i64 (-1), AV.int IntKind.i64 0, AV.int IntKind.i64 2, AV.int IntKind.i64 (-1), AV.int IntKind.i64 (-1), AV.int IntKind.i64 3, AV.int IntKind.i64 0, AV.int IntKind.i64 (-1), AV.int IntKind.i64 2, AV.int IntKind.i64 1, AV.int IntKind.i64 (-1), AV.int IntKind.i64 3])), (0, 45, Cont.cell (AV.int IntKind.i64 (↑2 : Int))), (0, 46, Cont.cell (AV.bool true)), (1, 0, Cont.cell (AV.int IntKind.i64 W)), (1, 1, Cont.cell (AV.int IntKind.i64 H)), (1, 2, Cont.cell (AV.rs 1 n false (nB g))), (1, 3, Cont.top), (2, 0, Cont.vec 1 3 n (nI C)), (3, 0, Cont.vec 1 3 (List.length acc) (nL acc)), (20, 0, Cont.cell (AV.int IntKind.i64 0)), (20, 1, Cont.cell (AV.int IntKind.i64 1)), (20, 2, Cont.cell (AV.int IntKind.i64 2)), (20, 3, Cont.top)], 36, 75⟩) (by kernel_rfl) (by kernel_rfl) ?_ ?_
                  · (simp only [All]; (repeat' apply And.intro) <;> (try intro _) <;> (try intro _) <;> (repeat' apply And.intro) <;> (try intro _) <;> (try intro _) <;> first | trivial | assumption | exact .inr trivial | exact .inr rfl | omega | rfl | exact ⟨_, rfl, rfl⟩ | exact ⟨rfl, rfl⟩ | exact ⟨fun _ => rfl, fun _ => rfl⟩ | (unfold maxLen; omega) | (unfold i64R; first | omega | decide) | decide)
                  refine cut_normal (()) (wk_go [1, 2, 3, 20] rfl (by decide) rfl rfl ⟨⟨_, rfl, rfl⟩, ⟨_, rfl, rfl⟩, ⟨_, rfl, rfl⟩, ⟨_, rfl, rfl⟩, ⟨_, rfl, rfl⟩, ⟨_, rfl, rfl⟩, ⟨_, rfl, rfl⟩, ⟨_, rfl, rfl⟩, ⟨_, rfl, rfl⟩, ⟨_, rfl, rfl⟩, ⟨_, rfl, rfl⟩, ⟨_, rfl, rfl⟩, ⟨_, rfl, rfl⟩, ⟨_, rfl, trivial⟩, ⟨_, rfl, ⟨rfl, rfl, rfl, fun _ _ => rfl⟩⟩, ⟨_, rfl, ⟨rfl, rfl, rfl, fun _ _ => rfl⟩⟩, ⟨_, rfl, rfl⟩, ⟨_, rfl, rfl⟩, ⟨_, rfl, rfl⟩, ⟨_, rfl, rfl⟩, ⟨_, rfl, trivial⟩, trivial⟩)
                · refine evC_goL (dec := []) (ks := [(0, 2), (0, 4), (0, 8), (0, 9), (0, 12), (0, 14), (0, 15), (0, 17), (0, 44), (0, 45), (0, 46), (1, 0), (1, 1), (1, 2), (1, 3), (2, 0), (3, 0), (20, 0), (20, 1), (20, 2), (20, 3)]) (ps := [(0 : Int) ≤ (↑(3 : Nat) : Int), (↑(3 : Nat) : Int) < (↑(8 : Nat) : Int)]) (s' := ⟨[(0, 2, Cont.cell (AV.int IntKind.i64 (↑t : Int))), (0, 4, Cont.cell (AV.ptr 1 0)), (0, 8, Cont.cell AV.nils), (0, 9, Cont.cell (AV.int IntKind.i64 0)), (0, 12, Cont.cell (AV.vs 2)), (0, 14, Cont.cell (AV.vs 3)), (0, 15, Cont.cell (AV.int IntKind.i64 (↑c : Int))), (0, 17, Cont.cell (AV.ptr 20 0)), (0, 44, Cont.cell (AV.agg [AV.int IntKind.i64 1, AV.int IntKind.i64 0, AV.int IntKind.i64 2, AV.int IntKind.i64 1, AV.int IntKind.i64 1, AV.int IntKind.i64 3, AV.int IntKind.i64 0, AV.int IntKind.i64 1, AV.int IntKind.i64 2, AV.int IntKind.i64 (-1), AV.int IntKind.i64 1, AV.int IntKind.i64 3, AV.int IntKind.i64 (-1), AV.int IntKind.i64 0, AV.int IntKind.i64 2, AV.int IntKind.i64 (-1), AV.int IntKind.i64 (-1), AV.int IntKind.i64 3, AV.int IntKind.i64 0, AV.int IntKind.i64 (-1), AV.int IntKind.i64 2, AV.int IntKind.i64 1, AV.int IntKind.i64 (-1), AV.int IntKind.i64 3])), (0, 45, Cont.cell (AV.int IntKind.i64 (↑3 : Int))), (0, 46, Cont.cell (AV.bool true)), (1, 0, Cont.cell (AV.int IntKind.i64 W)), (1, 1, Cont.cell (AV.int IntKind.i64 H)), (1, 2, Cont.cell (AV.rs 1 n false (nB g))), (1, 3, Cont.top), (2, 0, Cont.vec 1 3 n (nI C)), (3, 0, Cont.vec 1 3 (List.length acc) (nL acc)), (20, 0, Cont.cell (AV.int IntKind.i64 (-1))), (20, 1, Cont.cell (AV.int IntKind.i64 1)), (20, 2, Cont.cell (AV.int IntKind.i64 3)), (20, 3, Cont.top)], 36, 75⟩) (by kernel_rfl) (by kernel_rfl) ?_ ?_
                  · (simp only [All]; (repeat' apply And.intro) <;> (try intro _) <;> (try intro _) <;> (repeat' apply And.intro) <;> (try intro _) <;> (try intro _) <;> first | trivial | assumption | exact .inr trivial | exact .inr rfl | omega | rfl | exact ⟨_, rfl, rfl⟩ | exact ⟨rfl, rfl⟩ | exact ⟨fun _ => rfl, fun _ => rfl⟩ | (unfold maxLen; omega) | (unfold i64R; first | omega | decide) | decide)
                  refine cut_normal (()) (wk_go [1, 2, 3, 20] rfl (by decide) rfl rfl ⟨⟨_, rfl, rfl⟩, ⟨_, rfl, rfl⟩, ⟨_, rfl, rfl⟩, ⟨_, rfl, rfl⟩, ⟨_, rfl, rfl⟩, ⟨_, rfl, rfl⟩, ⟨_, rfl, rfl⟩, ⟨_, rfl, rfl⟩, ⟨_, rfl, rfl⟩, ⟨_, rfl, rfl⟩, ⟨_, rfl, rfl⟩, ⟨_, rfl, rfl⟩, ⟨_, rfl, rfl⟩, ⟨_, rfl, trivial⟩, ⟨_, rfl, ⟨rfl, rfl, rfl, fun _ _ => rfl⟩⟩, ⟨_, rfl, ⟨rfl, rfl, rfl, fun _ _ => rfl⟩⟩, ⟨_, rfl, rfl⟩, ⟨_, rfl, rfl⟩, ⟨_, rfl, rfl⟩, ⟨_, rfl, rfl⟩, ⟨_, rfl, trivial⟩, trivial⟩)
                · refine evC_goL (dec := []) (ks := [(0, 2), (0, 4), (0, 8), (0, 9), (0, 12), (0, 14), (0, 15), (0, 17), (0, 44), (0, 45), (0, 46), (1, 0), (1, 1), (1, 2), (1, 3), (2, 0), (3, 0), (20, 0), (20, 1), (20, 2), (20, 3)]) (ps := [(0 : Int) ≤ (↑(4 : Nat) : Int), (↑(4 : Nat) : Int) < (↑(8 : Nat) : Int)]) (s' := ⟨[(0, 2, Cont.cell (AV.int IntKind.i64 (↑t : Int))), (0, 4, Cont.cell (AV.ptr 1 0)), (0, 8, Cont.cell AV.nils), (0, 9, Cont.cell (AV.int IntKind.i64 0)), (0, 12, Cont.cell (AV.vs 2)), (0, 14, Cont.cell (AV.vs 3)), (0, 15, Cont.cell (AV.int IntKind.i64 (↑c : Int))), (0, 17, Cont.cell (AV.ptr 20 0)), (0, 44, Cont.cell (AV.agg [AV.int IntKind.i64 1, AV.int IntKind.i64 0, AV.int IntKind.i64 2, AV.int IntKind.i64 1, AV.int IntKind.i64 1, AV.int IntKind.i64 3, AV.int IntKind.i64 0, AV.int IntKind.i64 1, AV.int IntKind.i64 2, AV.int IntKind.i64 (-1), AV.int IntKind.i64 1, AV.int IntKind.i64 3, AV.int IntKind.i64 (-1), AV.int IntKind.i64 0, AV.int IntKind.i64 2, AV.int IntKind.i64 (-1), AV.int IntKind.i64 (-1), AV.int IntKind.i64 3, AV.int IntKind.i64 0, AV.int IntKind.i64 (-1), AV.int IntKind.i64 2, AV.int IntKind.i64 1, AV.int IntKind.i64 (-1), AV.int IntKind.i64 3])), (0, 45, Cont.cell (AV.int IntKind.i64 (↑4 : Int))), (0, 46, Cont.cell (AV.bool true)), (1, 0, Cont.cell (AV.int IntKind.i64 W)), (1, 1, Cont.cell (AV.int IntKind.i64 H)), (1, 2, Cont.cell (AV.rs 1 n false (nB g))), (1, 3, Cont.top), (2, 0, Cont.vec 1 3 n (nI C)), (3, 0, Cont.vec 1 3 (List.length acc) (nL acc)), (20, 0, Cont.cell (AV.int IntKind.i64 (-1))), (20, 1, Cont.cell (AV.int IntKind.i64 0)), (20, 2, Cont.cell (AV.int IntKind.i64 2)), (20, 3, Cont.top)], 36, 75⟩) (by kernel_rfl) (by kernel_rfl) ?_ ?_
                  · (simp only [All]; (repeat' apply And.intro) <;> (try intro _) <;> (try intro _) <;> (repeat' apply And.intro) <;> (try intro _) <;> (try intro _) <;> first | trivial | assumption | exact .inr trivial | exact .inr rfl | omega | rfl | exact ⟨_, rfl, rfl⟩ | exact ⟨rfl, rfl⟩ | exact ⟨fun _ => rfl, fun _ => rfl⟩ | (unfold maxLen; omega) | (unfold i64R; first | omega | decide) | decide)
                  refine cut_normal (()) (wk_go [1, 2, 3, 20] rfl (by decide) rfl rfl ⟨⟨_, rfl, rfl⟩, ⟨_, rfl, rfl⟩, ⟨_, rfl, rfl⟩, ⟨_, rfl, rfl⟩, ⟨_, rfl, rfl⟩, ⟨_, rfl, rfl⟩, ⟨_, rfl, rfl⟩, ⟨_, rfl, rfl⟩, ⟨_, rfl, rfl⟩, ⟨_, rfl, rfl⟩, ⟨_, rfl, rfl⟩, ⟨_, rfl, rfl⟩, ⟨_, rfl, rfl⟩, ⟨_, rfl, trivial⟩, ⟨_, rfl, ⟨rfl, rfl, rfl, fun _ _ => rfl⟩⟩, ⟨_, rfl, ⟨rfl, rfl, rfl, fun _ _ => rfl⟩⟩, ⟨_, rfl, rfl⟩, ⟨_, rfl, rfl⟩, ⟨_, rfl, rfl⟩, ⟨_, rfl, rfl⟩, ⟨_, rfl, trivial⟩, trivial⟩)
                · refine evC_goL (dec := []) (ks := [(0, 2), (0, 4), (0, 8), (0, 9), (0, 12), (0, 14), (0, 15), (0, 17), (0, 44), (0, 45), (0, 46), (1, 0), (1, 1), (1, 2), (1, 3), (2, 0), (3, 0), (20, 0), (20, 1), (20, 2), (20, 3)]) (ps := [(0 : Int) ≤ (↑(5 : Nat) : Int), (↑(5 : Nat) : Int) < (↑(8 : Nat) : Int)]) (s' := ⟨[(0, 2, Cont.cell (AV.int IntKind.i64 (↑t : Int))), (0, 4, Cont.cell (AV.ptr 1 0)), (0, 8, Cont.cell AV.nils), (0, 9, Cont.cell (AV.int IntKind.i64 0)), (0, 12, Cont.cell (AV.vs 2)), (0, 14, Cont.cell (AV.vs 3)), (0, 15, Cont.cell (AV.int IntKind.i64 (↑c : Int))), (0, 17, Cont.cell (AV.ptr 20 0)), (0, 44, Cont.cell (AV.agg [AV.int IntKind.i64 1, AV.int IntKind.i64 0, AV.int IntKind.i64 2, AV.int IntKind.i64 1, AV.int IntKind.i64 1, AV.int IntKind.i64 3, AV.int IntKind.i64 0, AV.int IntKind.i64 1, AV.int IntKind.i64 2, AV.int IntKind.i64 (-1), AV.int IntKind.i64 1, AV.int IntKind.i64 3, AV.int IntKind.i64 (-1), AV.int IntKind.i64 0, AV.int IntKind.i64 2, AV.int IntKind.i64 (-1), AV.int IntKind.i64 (-1), AV.int IntKind.i64 3, AV.int IntKind.i64 0, AV.int IntKind.i64 (-1), AV.int IntKind.i64 2, AV.int IntKind.i64 1, AV.int IntKind.i64 (-1), AV.int IntKind.i64 3])), (0, 45, Cont.cell (AV.int IntKind.i64 (↑5 : Int))), (0, 46, Cont.cell (AV.bool true)), (1, 0, Cont.cell (AV.int IntKind.i64 W)), (1, 1, Cont.cell (AV.int IntKind.i64 H)), (1, 2, Cont.cell (AV.rs 1 n false (nB g))), (1, 3, Cont.top), (2, 0, Cont.vec 1 3 n (nI C)), (3, 0, Cont.vec 1 3 (List.length acc) (nL acc)), (20, 0, Cont.cell (AV.int IntKind.i64 (-1))), (20, 1, Cont.cell (AV.int IntKind.i64 (-1))), (20, 2, Cont.cell (AV.int IntKind.i64 3)), (20, 3, Cont.top)], 36, 75⟩) (by kernel_rfl) (by kernel_rfl) ?_ ?_
                  · (simp only [All]; (repeat' apply And.intro) <;> (try intro _) <;> (try intro _) <;> (repeat' apply And.intro) <;> (try intro _) <;> (try intro _) <;> first | trivial | assumption | exact .inr trivial | exact .inr rfl | omega | rfl | exact ⟨_, rfl, rfl⟩ | exact ⟨rfl, rfl⟩ | exact ⟨fun _ => rfl, fun _ => rfl⟩ | (unfold maxLen; omega) | (unfold i64R; first | omega | decide) | decide)
                  refine cut_normal (()) (wk_go [1, 2, 3, 20] rfl (by decide) rfl rfl ⟨⟨_, rfl, rfl⟩, ⟨_, rfl, rfl⟩, ⟨_, rfl, rfl⟩, ⟨_, rfl, rfl⟩, ⟨_, rfl, rfl⟩, ⟨_, rfl, rfl⟩, ⟨_, rfl, rfl⟩, ⟨_, rfl, rfl⟩, ⟨_, rfl, rfl⟩, ⟨_, rfl, rfl⟩, ⟨_, rfl, rfl⟩, ⟨_, rfl, rfl⟩, ⟨_, rfl, rfl⟩, ⟨_, rfl, trivial⟩, ⟨_, rfl, ⟨rfl, rfl, rfl, fun _ _ => rfl⟩⟩, ⟨_, rfl, ⟨rfl, rfl, rfl, fun _ _ => rfl⟩⟩, ⟨_, rfl, rfl⟩, ⟨_, rfl, rfl⟩, ⟨_, rfl, rfl⟩, ⟨_, rfl, rfl⟩, ⟨_, rfl, trivial⟩, trivial⟩)
                · refine evC_goL (dec := []) (ks := [(0, 2), (0, 4), (0, 8), (0, 9), (0, 12), (0, 14), (0, 15), (0, 17), (0, 44), (0, 45), (0, 46), (1, 0), (1, 1), (1, 2), (1, 3), (2, 0), (3, 0), (20, 0), (20, 1), (20, 2), (20, 3)]) (ps := [(0 : Int) ≤ (↑(6 : Nat) : Int), (↑(6 : Nat) : Int) < (↑(8 : Nat) : Int)]) (s' := ⟨[(0, 2, Cont.cell (AV.int IntKind.i64 (↑t : Int))), (0, 4, Cont.cell (AV.ptr 1 0)), (0, 8, Cont.cell AV.nils), (0, 9, Cont.cell (AV.int IntKind.i64 0)), (0, 12, Cont.cell (AV.vs 2)), (0, 14, Cont.cell (AV.vs 3)), (0, 15, Cont.cell (AV.int IntKind.i64 (↑c : Int))), (0, 17, Cont.cell (AV.ptr 20 0)), (0, 44, Cont.cell (AV.agg [AV.int IntKind.i64 1, AV.int IntKind.i64 0, AV.int IntKind.i64 2, AV.int IntKind.i64 1, AV.int IntKind.i64 1, AV.int IntKind.i64 3, AV.int IntKind.i64 0, AV.int IntKind.i64 1, AV.int IntKind.i64 2, AV.int IntKind.i64 (-1), AV.int IntKind.i64 1, AV.int IntKind.i64 3, AV.int IntKind.i64 (-1), AV.int IntKind.i64 0, AV.int IntKind.i64 2, AV.int IntKind.i64 (-1), AV.int IntKind.i64 (-1), AV.int IntKind.i64 3, AV.int IntKind.i64 0, AV.int IntKind.i64 (-1), AV.int IntKind.i64 2, AV.int IntKind.i64 1, AV.int IntKind.i64 (-1), AV.int IntKind.i64 3])), (0, 45, Cont.cell (AV.int IntKind.i64 (↑6 : Int))), (0, 46, Cont.cell (AV.bool true)), (1, 0, Cont.cell (AV.int IntKind.i64 W)), (1, 1, Cont.cell (AV.int IntKind.i64 H)), (1, 2, Cont.cell (AV.rs 1 n false (nB g))), (1, 3, Cont.top), (2, 0, Cont.vec 1 3 n (nI C)), (3, 0, Cont.vec 1 3 (List.length acc) (nL acc)), (20, 0, Cont.cell (AV.int IntKind.i64 0)), (20, 1, Cont.cell (AV.int IntKind.i64 (-1))), (20, 2, Cont.cell (AV.int IntKind.i64 2)), (20, 3, Cont.top)], 36, 75⟩) (by kernel_rfl) (by kernel_rfl) ?_ ?_
                  · (simp only [All]; (repeat' apply And.intro) <;> (try intro _) <;> (try intro _) <;> (repeat' apply And.intro) <;> (try intro _) <;> (try intro _) <;> first | trivial | assumption | exact .inr trivial | exact .inr rfl | omega | rfl | exact ⟨_, rfl, rfl⟩ | exact ⟨rfl, rfl⟩ | exact ⟨fun _ => rfl, fun _ => rfl⟩ | (unfold maxLen; omega) | (unfold i64R; first | omega | decide) | decide)
                  refine cut_normal (()) (wk_go [1, 2, 3, 20] rfl (by decide) rfl rfl ⟨⟨_, rfl, rfl⟩, ⟨_, rfl, rfl⟩, ⟨_, rfl, rfl⟩, ⟨_, rfl, rfl⟩, ⟨_, rfl, rfl⟩, ⟨_, rfl, rfl⟩, ⟨_, rfl, rfl⟩, ⟨_, rfl, rfl⟩, ⟨_, rfl, rfl⟩, ⟨_, rfl, rfl⟩, ⟨_, rfl, rfl⟩, ⟨_, rfl, rfl⟩, ⟨_, rfl, rfl⟩, ⟨_, rfl, trivial⟩, ⟨_, rfl, ⟨rfl, rfl, rfl, fun _ _ => rfl⟩⟩, ⟨_, rfl, ⟨rfl, rfl, rfl, fun _ _ => rfl⟩⟩, ⟨_, rfl, rfl⟩, ⟨_, rfl, rfl⟩, ⟨_, rfl, rfl⟩, ⟨_, rfl, rfl⟩, ⟨_, rfl, trivial⟩, trivial⟩)
                · refine evC_goL (dec := []) (ks := [(0, 2), (0, 4), (0, 8), (0, 9), (0, 12), (0, 14), (0, 15), (0, 17), (0, 44), (0, 45), (0, 46), (1, 0), (1, 1), (1, 2), (1, 3), (2, 0), (3, 0), (20, 0), (20, 1), (20, 2), (20, 3)]) (ps := [(0 : Int) ≤ (↑(7 : Nat) : Int), (↑(7 : Nat) : Int) < (↑(8 : Nat) : Int)]) (s' := ⟨[(0, 2, Cont.cell (AV.int IntKind.i64 (↑t : Int))), (0, 4, Cont.cell (AV.ptr 1 0)), (0, 8, Cont.cell AV.nils), (0, 9, Cont.cell (AV.int IntKind.i64 0)), (0, 12, Cont.cell (AV.vs 2)), (0, 14, Cont.cell (AV.vs 3)), (0, 15, Cont.cell (AV.int IntKind.i64 (↑c : Int))), (0, 17, Cont.cell (AV.ptr 20 0)), (0, 44, Cont.cell (AV.agg [AV.int IntKind.i64 1, AV.int IntKind.i64 0, AV.int IntKind.i64 2, AV.int IntKind.i64 1, AV.int IntKind.i64 1, AV.int IntKind.i64 3, AV.int IntKind.i64 0, AV.int IntKind.i64 1, AV.int IntKind.i64 2, AV.int IntKind.i64 (-1), AV.int IntKind.i64 1, AV.int IntKind.i64 3, AV.int IntKind.i64 (-1), AV.int IntKind.i64 0, AV.int IntKind.i64 2, AV.int IntKind.i64 (-1), AV.int IntKind.i64 (-1), AV.int IntKind.i64 3, AV.int IntKind.i64 0, AV.int IntKind.i64 (-1), AV.int IntKind.i64 2, AV.int IntKind.i64 1, AV.int IntKind.i64 (-1), AV.int IntKind.i64 3])), (0, 45, Cont.cell (AV.int IntKind.i64 (↑7 : Int))), (0, 46, Cont.cell (AV.bool true)), (1, 0, Cont.cell (AV.int IntKind.i64 W)), (1, 1, Cont.cell (AV.int IntKind.i64 H)), (1, 2, Cont.cell (AV.rs 1 n false (nB g))), (1, 3, Cont.top), (2, 0, Cont.vec 1 3 n (nI C)), (3, 0, Cont.vec 1 3 (List.length acc) (nL acc)), (20, 0, Cont.cell (AV.int IntKind.i64 1)), (20, 1, Cont.cell (AV.int IntKind.i64 (-1))), (20, 2, Cont.cell (AV.int IntKind.i64 3)), (20, 3, Cont.top)], 36, 75⟩) (by kernel_rfl) (by kernel_rfl) ?_ ?_
                  · (simp only [All]; (repeat' apply And.intro) <;> (try intro _) <;> (try intro _) <;> (repeat' apply And.intro) <;> (try intro _) <;> (try intro _) <;> first | trivial | assumption | exact .inr trivial | exact .inr rfl | omega | rfl | exact ⟨_, rfl, rfl⟩ | exact ⟨rfl, rfl⟩ | exact ⟨fun _ => rfl, fun _ => rfl⟩ | (unfold maxLen; omega) | (unfold i64R; first | omega | decide) | decide)
                  refine cut_normal (()) (wk_go [1, 2, 3, 20] rfl (by decide) rfl rfl ⟨⟨_, rfl, rfl⟩, ⟨_, rfl, rfl⟩, ⟨_, rfl, rfl⟩, ⟨_, rfl, rfl⟩, ⟨_, rfl, rfl⟩, ⟨_, rfl, rfl⟩, ⟨_, rfl, rfl⟩, ⟨_, rfl, rfl⟩, ⟨_, rfl, rfl⟩, ⟨_, rfl, rfl⟩, ⟨_, rfl, rfl⟩, ⟨_, rfl, rfl⟩, ⟨_, rfl, rfl⟩, ⟨_, rfl, trivial⟩, ⟨_, rfl, ⟨rfl, rfl, rfl, fun _ _ => rfl⟩⟩, ⟨_, rfl, ⟨rfl, rfl, rfl, fun _ _ => rfl⟩⟩, ⟨_, rfl, rfl⟩, ⟨_, rfl, rfl⟩, ⟨_, rfl, rfl⟩, ⟨_, rfl, rfl⟩, ⟨_, rfl, trivial⟩, trivial⟩)
              intro _
              refine evC_go (dec := []) (ks := [(0, 2), (0, 4), (0, 8), (0, 9), (0, 12), (0, 14), (0, 15), (0, 17), (0, 18), (0, 44), (0, 45), (1, 0), (1, 1), (1, 2), (1, 3), (2, 0), (3, 0), (4, 0), (4, 1), (4, 2), (4, 3)]) (ps := [IsB n (nB g), mayL W H n = true, ((0 : Int) ≤ (↑c : Int) ∧ (↑c : Int) < (↑n : Int)) ∧ ((-1 : Int) ≤ dI s ∧ dI s ≤ (1 : Int)) ∧ (-1 : Int) ≤ dJ s ∧ dJ s ≤ (1 : Int)]) (s' := ⟨[(0, 2, Cont.cell (AV.int IntKind.i64 (↑t : Int))), (0, 4, Cont.cell (AV.ptr 1 0)), (0, 8, Cont.cell AV.nils), (0, 9, Cont.cell (AV.int IntKind.i64 0)), (0, 12, Cont.cell (AV.vs 2)), (0, 14, Cont.cell (AV.vs 3)), (0, 15, Cont.cell (AV.int IntKind.i64 (↑c : Int))), (0, 17, Cont.cell (AV.ptr 4 0)), (0, 18, Cont.cell (AV.int IntKind.i64 (goF W H (Bf (nB g)) (↑c : Int) (dI s) (dJ s)))), (0, 44, Cont.cell (AV.agg [AV.int IntKind.i64 1, AV.int IntKind.i64 0, AV.int IntKind.i64 2, AV.int IntKind.i64 1, AV.int IntKind.i64 1, AV.int IntKind.i64 3, AV.int IntKind.i64 0, AV.int IntKind.i64 1, AV.int IntKind.i64 2, AV.int IntKind.i64 (-1), AV.int IntKind.i64 1, AV.int IntKind.i64 3, AV.int IntKind.i64 (-1), AV.int IntKind.i64 0, AV.int IntKind.i64 2, AV.int IntKind.i64 (-1), AV.int IntKind.i64 (-1), AV.int IntKind.i64 3, AV.int IntKind.i64 0, AV.int IntKind.i64 (-1), AV.int IntKind.i64 2, AV.int IntKind.i64 1, AV.int IntKind.i64 (-1), AV.int IntKind.i64 3])), (0, 45, Cont.cell (AV.int IntKind.i64 (↑s : Int))), (1, 0, Cont.cell (AV.int IntKind.i64 W)), (1, 1, Cont.cell (AV.int IntKind.i64 H)), (1, 2, Cont.cell (AV.rs 1 n false (nB g))), (1, 3, Cont.top), (2, 0, Cont.vec 1 3 n (nI C)), (3, 0, Cont.vec 1 3 (List.length acc) (nL acc)), (4, 0, Cont.cell (AV.int IntKind.i64 (dI s))), (4, 1, Cont.cell (AV.int IntKind.i64 (dJ s))), (4, 2, Cont.cell (AV.int IntKind.i64 (prc s))), (4, 3, Cont.top)], 45, 75⟩) (by kernel_rfl) (by kernel_rfl) ?_ ?_
              · exact ⟨i1, hm, ⟨by omega, by omega⟩, hd⟩
              have hgr := gs_rng (g := g) (s := s) hm (c := (c : Int)) ⟨by omega, by omega⟩
              have hgs : goF W H (Bf (nB g)) c (dI s) (dJ s) = gs W H g c s := rfl
              rw [hgs]
              have hpr := prc_rng s
              refine evC_go (dec := []) (ks := [(0, 2), (0, 4), (0, 8), (0, 9), (0, 12), (0, 14), (0, 15), (0, 18), (0, 44), (0, 45), (0, 67), (1, 0), (1, 1), (1, 2), (1, 3), (2, 0), (3, 0)]) (ps := [List.all [decide (gs W H g (↑c : Int) s ≥ (0 : Int))] id = true → (0 : Int) ≤ gs W H g (↑c : Int) s, List.all [decide (gs W H g (↑c : Int) s ≥ (0 : Int))] id = true → gs W H g (↑c : Int) s < (↑n : Int), List.all [decide (gs W H g (↑c : Int) s ≥ (0 : Int))] id = true → (1 : Nat) = (1 : Nat), List.all [decide (gs W H g (↑c : Int) s ≥ (0 : Int))] id = true → (0 : Int) ≤ gs W H g (↑c : Int) s, List.all [decide (gs W H g (↑c : Int) s ≥ (0 : Int))] id = true → gs W H g (↑c : Int) s < (↑n : Int), List.all [decide (gs W H g (↑c : Int) s ≥ (0 : Int))] id = true → (1 : Nat) = (1 : Nat), List.all [decide (gs W H g (↑c : Int) s ≥ (0 : Int))] id = true → (0 : Int) ≤ (↑c : Int), List.all [decide (gs W H g (↑c : Int) s ≥ (0 : Int))] id = true → (↑c : Int) < (↑n : Int), List.all [decide (gs W H g (↑c : Int) s ≥ (0 : Int))] id = true → (1 : Nat) = (1 : Nat), List.all [decide (gs W H g (↑c : Int) s ≥ (0 : Int))] id = true → (0 : Int) ≤ (↑c : Int), List.all [decide (gs W H g (↑c : Int) s ≥ (0 : Int))] id = true → (↑c : Int) < (↑n : Int), List.all [decide (gs W H g (↑c : Int) s ≥ (0 : Int))] id = true → (1 : Nat) = (1 : Nat)]) (s' := ⟨[(0, 2, Cont.cell (AV.int IntKind.i64 (↑t : Int))), (0, 4, Cont.cell (AV.ptr 1 0)), (0, 8, Cont.cell AV.nils), (0, 9, Cont.cell (AV.int IntKind.i64 0)), (0, 12, Cont.cell (AV.vs 2)), (0, 14, Cont.cell (AV.vs 3)), (0, 15, Cont.cell (AV.int IntKind.i64 (↑c : Int))), (0, 18, Cont.cell (AV.int IntKind.i64 (gs W H g (↑c : Int) s))), (0, 44, Cont.cell (AV.agg [AV.int IntKind.i64 1, AV.int IntKind.i64 0, AV.int IntKind.i64 2, AV.int IntKind.i64 1, AV.int IntKind.i64 1, AV.int IntKind.i64 3, AV.int IntKind.i64 0, AV.int IntKind.i64 1, AV.int IntKind.i64 2, AV.int IntKind.i64 (-1), AV.int IntKind.i64 1, AV.int IntKind.i64 3, AV.int IntKind.i64 (-1), AV.int IntKind.i64 0, AV.int IntKind.i64 2, AV.int IntKind.i64 (-1), AV.int IntKind.i64 (-1), AV.int IntKind.i64 3, AV.int IntKind.i64 0, AV.int IntKind.i64 (-1), AV.int IntKind.i64 2, AV.int IntKind.i64 1, AV.int IntKind.i64 (-1), AV.int IntKind.i64 3])), (0, 45, Cont.cell (AV.int IntKind.i64 (↑s : Int))), (0, 67, Cont.cell (AV.bool (bif decide (gs W H g (↑c : Int) s ≥ 0) then IntKind.i64.wrap (C (Int.toNat (gs W H g (↑c : Int) s)) + prc s) == C c else false))), (1, 0, Cont.cell (AV.int IntKind.i64 W)), (1, 1, Cont.cell (AV.int IntKind.i64 H)), (1, 2, Cont.cell (AV.rs 1 n false (nB g))), (1, 3, Cont.top), (2, 0, Cont.vec 1 3 n (nI C)), (3, 0, Cont.vec 1 3 (List.length acc) (nL acc))], 173, 75⟩) (by kernel_rfl) (by kernel_rfl) ?_ ?_
              · simp only [All]
                repeat' apply And.intro
                all_goals (intro h; simp only [id_one, decide_eq_true_eq] at h; first | exact h | exact hgr.2 | trivial | omega)
              have hcond : (bif decide (gs W H g c s ≥ 0) then (IntKind.i64.wrap (C (gs W H g c s).toNat + prc s) == C c) else false) = onW W H g C c s := by
                unfold onW
                cases e1 : decide (gs W H g c s ≥ 0) with
                | false => rfl
                | true =>
                  have h1 : 0 ≤ gs W H g c s := of_decide_eq_true e1
                  have := hb (gs W H g c s).toNat (by omega)
                  rw [i64_in _ (by omega)]; rfl
              rw [hcond]
              clear hcond
              refine evC_if (q := onW W H g C c s) (by kernel_rfl) (fun hc => ?_) (fun hc => ?_)
              · have hF : fstN (onW W H g C c) 8 = s := by
                  rcases fst_spec (onW W H g C c) 8 with ⟨q1, q2⟩ | ⟨q1, q2, q3⟩
                  · exact absurd q1 (by omega)
                  · rcases Nat.lt_trichotomy (fstN (onW W H g C c) 8) s with h | h | h
                    · rw [j2 _ h] at q2; cases q2
                    · exact h
                    · rw [q3 _ h] at hc; cases hc
                clear hc
                rw [hF] at x2 x5
                generalize hq : nxt W H g C c = q at x2 x3 x4 x5
                rw [x2]
                obtain ⟨fu, rfl⟩ : ∃ f', fu = f' + 1 := ⟨fu - 1, by omega⟩
                have h5' : wayR W H g C t fu q (acc ++ [(q : Int)]) = L := by
                  rw [← h5]
                  show _ = bif c == t then acc else wayR W H g C t fu (nxt W H g C c) (acc ++ [(nxt W H g C c : Int)])
                  rw [hq, (by simpa using hct : (c == t) = false)]; rfl
                refine evC_go (dec := []) (ks := [(0, 2), (0, 4), (0, 8), (0, 9), (0, 12), (0, 14), (0, 15), (0, 18), (0, 44), (0, 45), (1, 0), (1, 1), (1, 2), (1, 3), (2, 0), (197, 0)]) (ps := [(List.length acc + (1 : Nat)) * (8 : Nat) ≤ (140737488355328 : Nat), List.length acc + (1 : Nat) ≤ maxLen, (1 : Nat) = (0 : Nat) ∨ (1 : Nat) = (1 : Nat), (1 : Nat) = (1 : Nat), (3 : Nat) = (3 : Nat)]) (s' := ⟨[(0, 2, Cont.cell (AV.int IntKind.i64 (↑t : Int))), (0, 4, Cont.cell (AV.ptr 1 0)), (0, 8, Cont.cell AV.nils), (0, 9, Cont.cell (AV.int IntKind.i64 0)), (0, 12, Cont.cell (AV.vs 2)), (0, 14, Cont.cell (AV.vs 197)), (0, 15, Cont.cell (AV.int IntKind.i64 (↑c : Int))), (0, 18, Cont.cell (AV.int IntKind.i64 (↑q : Int))), (0, 44, Cont.cell (AV.agg [AV.int IntKind.i64 1, AV.int IntKind.i64 0, AV.int IntKind.i64 2, AV.int IntKind.i64 1, AV.int IntKind.i64 1, AV.int IntKind.i64 3, AV.int IntKind.i64 0, AV.int IntKind.i64 1, AV.int IntKind.i64 2, AV.int IntKind.i64 (-1), AV.int IntKind.i64 1, AV.int IntKind.i64 3, AV.int IntKind.i64 (-1), AV.int IntKind.i64 0, AV.int IntKind.i64 2, AV.int IntKind.i64 (-1), AV.int IntKind.i64 (-1), AV.int IntKind.i64 3, AV.int IntKind.i64 0, AV.int IntKind.i64 (-1), AV.int IntKind.i64 2, AV.int IntKind.i64 1, AV.int IntKind.i64 (-1), AV.int IntKind.i64 3])), (0, 45, Cont.cell (AV.int IntKind.i64 (↑s : Int))), (1, 0, Cont.cell (AV.int IntKind.i64 W)), (1, 1, Cont.cell (AV.int IntKind.i64 H)), (1, 2, Cont.cell (AV.rs 1 n false (nB g))), (1, 3, Cont.top), (2, 0, Cont.vec 1 3 n (nI C)), (197, 0, Cont.vec 1 3 (List.length acc + 1) (catF (List.length acc) (nL acc) (pget [(0, AV.int IntKind.i64 (↑q : Int))])))], 213, 75⟩) (by kernel_rfl) (by kernel_rfl) ?_ ?_
                · have : acc.length + C c ≤ 200000 := h4
                  refine ⟨by omega, by unfold maxLen; omega, .inr rfl, rfl, rfl⟩
                refine evC_go0 (dec := []) (ks := [(0, 2), (0, 4), (0, 8), (0, 9), (0, 12), (0, 14), (0, 15), (0, 44), (0, 45), (1, 0), (1, 1), (1, 2), (1, 3), (2, 0), (197, 0)]) (s' := ⟨[(0, 2, Cont.cell (AV.int IntKind.i64 (↑t : Int))), (0, 4, Cont.cell (AV.ptr 1 0)), (0, 8, Cont.cell AV.nils), (0, 9, Cont.cell (AV.int IntKind.i64 0)), (0, 12, Cont.cell (AV.vs 2)), (0, 14, Cont.cell (AV.vs 197)), (0, 15, Cont.cell (AV.int IntKind.i64 (↑q : Int))), (0, 44, Cont.cell (AV.agg [AV.int IntKind.i64 1, AV.int IntKind.i64 0, AV.int IntKind.i64 2, AV.int IntKind.i64 1, AV.int IntKind.i64 1, AV.int IntKind.i64 3, AV.int IntKind.i64 0, AV.int IntKind.i64 1, AV.int IntKind.i64 2, AV.int IntKind.i64 (-1), AV.int IntKind.i64 1, AV.int IntKind.i64 3, AV.int IntKind.i64 (-1), AV.int IntKind.i64 0, AV.int IntKind.i64 2, AV.int IntKind.i64 (-1), AV.int IntKind.i64 (-1), AV.int IntKind.i64 3, AV.int IntKind.i64 0, AV.int IntKind.i64 (-1), AV.int IntKind.i64 2, AV.int IntKind.i64 1, AV.int IntKind.i64 (-1), AV.int IntKind.i64 3])), (0, 45, Cont.cell (AV.int IntKind.i64 (↑s : Int))), (1, 0, Cont.cell (AV.int IntKind.i64 W)), (1, 1, Cont.cell (AV.int IntKind.i64 H)), (1, 2, Cont.cell (AV.rs 1 n false (nB g))), (1, 3, Cont.top), (2, 0, Cont.vec 1 3 n (nI C)), (197, 0, Cont.vec 1 3 (List.length acc + 1) (catF (List.length acc) (nL acc) (pget [(0, AV.int IntKind.i64 (↑q : Int))])))], 229, 75⟩) (by kernel_rfl) (by kernel_rfl) ?_
                refine evC_exit ?_
                refine block_other rfl ?_
                refine then_exit ?_
                refine round_exit ?_
                refine block_other rfl ?_
                refine block_exit ?_
                refine round_normal (⟨(q, acc ++ [(q : Int)], fu), x3, x4, by show C q < (fu : Int); have := prc_rng s; have : C c < ((fu + 1 : Nat) : Int) := h3; omega, by show ((acc ++ [(q : Int)]).length : Int) + C q ≤ 200000; have := prc_rng s; rw [List.length_append]; show ((acc.length + 1 : Nat) : Int) + C q ≤ 200000; omega, h5'⟩) (wk_go [1, 2, 197] rfl (by decide) rfl rfl ⟨⟨_, rfl, rfl⟩, ⟨_, rfl, rfl⟩, ⟨_, rfl, rfl⟩, ⟨_, rfl, rfl⟩, ⟨_, rfl, rfl⟩, ⟨_, rfl, rfl⟩, ⟨_, rfl, rfl⟩, ⟨_, rfl, rfl⟩, ⟨_, rfl, rfl⟩, ⟨_, rfl, rfl⟩, ⟨_, rfl, trivial⟩, ⟨_, rfl, ⟨rfl, rfl, rfl, fun _ _ => rfl⟩⟩, ⟨_, rfl, ?_⟩, trivial⟩) ?_
                · refine ⟨rfl, rfl, by simp, fun j hj => ?_⟩
                  have hj' : j < acc.length + 1 := by simpa using hj
                  show catF acc.length (nL acc) (pget [(0, AV.int .i64 (q : Int))]) j = nL (acc ++ [(q : Int)]) j
                  unfold catF nL
                  rcases Nat.lt_or_ge j acc.length with h | h
                  · rw [nblt_yes h]
                    simp [List.getD_eq_getElem?_getD, List.getElem?_append_left h]
                  · have : j = acc.length := by omega
                    subst this
                    rw [nblt_no (Nat.lt_irrefl _)]
                    simp [pget]
                · show fu < fu + 1
                  omega
              · refine evC_skip ?_
                refine block_normal ?_
                refine then_normal ?_
                refine evC_goL0 (dec := []) (ks := [(0, 2), (0, 4), (0, 8), (0, 9), (0, 12), (0, 14), (0, 15), (0, 44), (0, 45), (1, 0), (1, 1), (1, 2), (1, 3), (2, 0), (3, 0)]) (s' := ⟨[(0, 2, Cont.cell (AV.int IntKind.i64 (↑t : Int))), (0, 4, Cont.cell (AV.ptr 1 0)), (0, 8, Cont.cell AV.nils), (0, 9, Cont.cell (AV.int IntKind.i64 0)), (0, 12, Cont.cell (AV.vs 2)), (0, 14, Cont.cell (AV.vs 3)), (0, 15, Cont.cell (AV.int IntKind.i64 (↑c : Int))), (0, 44, Cont.cell (AV.agg [AV.int IntKind.i64 1, AV.int IntKind.i64 0, AV.int IntKind.i64 2, AV.int IntKind.i64 1, AV.int IntKind.i64 1, AV.int IntKind.i64 3, AV.int IntKind.i64 0, AV.int IntKind.i64 1, AV.int IntKind.i64 2, AV.int IntKind.i64 (-1), AV.int IntKind.i64 1, AV.int IntKind.i64 3, AV.int IntKind.i64 (-1), AV.int IntKind.i64 0, AV.int IntKind.i64 2, AV.int IntKind.i64 (-1), AV.int IntKind.i64 (-1), AV.int IntKind.i64 3, AV.int IntKind.i64 0, AV.int IntKind.i64 (-1), AV.int IntKind.i64 2, AV.int IntKind.i64 1, AV.int IntKind.i64 (-1), AV.int IntKind.i64 3])), (0, 45, Cont.cell (AV.int IntKind.i64 (IntKind.i64.wrap ((↑s : Int) + 1)))), (1, 0, Cont.cell (AV.int IntKind.i64 W)), (1, 1, Cont.cell (AV.int IntKind.i64 H)), (1, 2, Cont.cell (AV.rs 1 n false (nB g))), (1, 3, Cont.top), (2, 0, Cont.vec 1 3 n (nI C)), (3, 0, Cont.vec 1 3 (List.length acc) (nL acc))], 189, 75⟩) (by kernel_rfl) (by kernel_rfl) ?_
                rw [wrap_add_one hs8 (by omega)]
                refine round_normal (⟨s + 1, hs8, fun q h => by rcases Nat.lt_succ_iff_lt_or_eq.1 h with h | h; exact j2 q h; rw [h]; exact hc⟩) (wk_go [1, 2, 3] rfl (by decide) rfl rfl ⟨⟨_, rfl, rfl⟩, ⟨_, rfl, rfl⟩, ⟨_, rfl, rfl⟩, ⟨_, rfl, rfl⟩, ⟨_, rfl, rfl⟩, ⟨_, rfl, rfl⟩, ⟨_, rfl, rfl⟩, ⟨_, rfl, rfl⟩, ⟨_, rfl, rfl⟩, ⟨_, rfl, rfl⟩, ⟨_, rfl, rfl⟩, ⟨_, rfl, rfl⟩, ⟨_, rfl, trivial⟩, ⟨_, rfl, ⟨rfl, rfl, rfl, fun _ _ => rfl⟩⟩, ⟨_, rfl, ⟨rfl, rfl, rfl, fun _ _ => rfl⟩⟩, trivial⟩) ?_
                · show 8 - (s + 1) < 8 - s
                  omega
            · have hs8 : s = 8 := by have := of_decide_eq_false hc; omega
              subst hs8
              have := j2 _ x1
              rcases fst_spec (onW W H g C c) 8 with ⟨q1, q2⟩ | ⟨q1, q2, q3⟩
              · exact absurd q1 (by omega)
              · rw [this] at q2; cases q2
          · have hct : c = t := by
              simp only [bne_eq_false_iff_eq] at hc
              omega
            subst hct
            obtain ⟨fu, rfl⟩ : ∃ f', fu = f' + 1 := ⟨fu - 1, by omega⟩
            have : acc = L := by
              rw [← h5]
              show acc = bif c == c then acc else _
              simp
            subst this
            refine evC_exit ?_
            refine then_exit ?_
            refine round_exit ?_
            refine block_exit ?_
            refine then_normal ?_
            refine evC_go0 (dec := []) (ks := [(0, 8), (0, 9), (3, 0)]) (s' := ⟨[(0, 8, Cont.cell (AV.vs 3)), (0, 9, Cont.cell (AV.int IntKind.i64 0)), (3, 0, Cont.vec 1 3 (List.length acc) (nL acc))], 52, 75⟩) (by kernel_rfl) (by kernel_rfl) ?_
            refine evC_ret ?_
            refine post_ret ?_
            refine ends_go [3] (AV.tup [AV.vs 1, AV.int IntKind.i64 0]) [(1, 0, Cont.vec 1 3 (List.length acc) (nL acc))] rfl (by decide) rfl rfl (has_of _ rfl) rfl ⟨⟨_, rfl, ⟨rfl, rfl, rfl, fun _ _ => rfl⟩⟩, trivial⟩ ⟨fun _ => ⟨1, _, rfl, rfl, rfl, ⟨rfl, rfl, rfl, fun _ _ => ⟨has_of _ rfl, rfl⟩⟩⟩, trivial⟩ (kept_nil _)
    · cases e
  · cases e
end Go.Eng.S13
