/- Seat 12: a new index of a row of the caller's own, walked. -/
import Derived.Test.YtkcigkoocimnlaaEngX
import Derived.Test.YtkcigkoocimnlaaS12J
set_option linter.unusedSimpArgs false
set_option linter.unusedVariables false
namespace Go.Eng.S12
open Go.Proofs Go.IntWalk
set_option maxRecDepth 10000

/-- A row of one's own, held against nil: either answer; nil has no element. -/
theorem Sem.isNilV {P : Program} {B : Nat} {Q : Exit → St → Prop} {s : St} {id a d1 d2 sz el n j t t' e : Nat} {f : Nat → AV} {op1 op2 : Oper} (h1 : op1.op = .move (.tmp a)) (g1 : op1.guard = none) (e1 : op1.dst = some d1)
    (h2 : op2.op = .binOp .eql t (.tmp d1) (.const (.slice none 0 0)) t') (g2 : op2.guard = none) (e2 : op2.dst = some d2) (hd1 : d1 < s.N) (hd2 : d2 < s.N) (ht : P.underlying t = some (.slice e)) (ha : hget s.h 0 a = some (.cell (.vs j))) (hj : hget s.h j 0 = some (.vec sz el n f))
    (next : ∀ q : Bool, (q = true → n = 0) → Q .normal ⟨(0, d2, .cell (.bool q)) :: (0, d1, .cell (.vs j)) :: s.h, s.nx, s.N⟩) : Sem P B (.region id #[op1, op2] false) Q s := by
  intro mine ρ ro ac w K mm H hK
  have S := H.ok.sim
  obtain ⟨u, hu1, hu2⟩ := H.ok.slots a _ ha
  have hu2' := hu2
  cases hu2 with
  | vs _ _ hjr hsl =>
  obtain ⟨ad, len, cap, rfl⟩ := hsl
  obtain ⟨_, x', xs, q1, q2, q3, _⟩ := S.cont j 0 _ (name_pos S hjr) hj
  rw [hjr] at q1
  injection q1 with q1
  subst q1
  have hev : ac.eval (.tmp a) = .slice ad len cap := by simp [Act.eval, hu1]
  have hq : ad.isNone = true → n = 0 := by
    intro hnone
    rcases q3.2 with ⟨_, h⟩ | ⟨g, cap', cur, hx, _⟩
    · exact h
    · injection hx with hx _ _
      rw [hx] at hnone; cases hnone
  have hd1' : d1 < ac.tmps.size := by rw [H.ok.size]; exact hd1
  refine wpIn_region_list ?_
  show wpListIn (fenceR none) mm P #[op1, op2] K [op1, op2] ac w
  refine wpListIn_plain g1 fun K1 hK1 => oper_in (fun c hc => by rw [h1] at hc; cases hc) (wp_value (x := .slice ad len cap) (w' := w) (by simp [execOp, h1, hev]) (hK1 _ _ ?_))
  have hev2 : (ac.put op1.dst (.slice ad len cap)).eval (.tmp d1) = .slice ad len cap := by
    rw [e1]; simp [Act.eval, Act.put, hd1']
  have hev3 : (ac.put op1.dst (.slice ad len cap)).eval (.const (.slice none 0 0)) = .slice none 0 0 := rfl
  refine wpListIn_plain g2 fun K2 hK2 => oper_in (fun c hc => by rw [h2] at hc; cases hc) (wp_value (x := .bool ad.isNone) (w' := w) ?_ (hK2 _ _ (wpListIn_nil ?_)))
  · have hb := run_eql_slice_nil (P := P) w t e ad len cap ht
    simp [execOp, h2, hev2, hev3, eqGuard, hb]
  · have k1 := H.ok.dst (d := some d1) (v := .vs j) (x := .slice ad len cap) (by simpa [dstOK, Nat.blt_eq] using hd1) hu2'
    have k2 := k1.dst (d := some d2) (v := .bool ad.isNone) (x := .bool ad.isNone) (by simpa [dstOK, Nat.blt_eq] using hd2) (.bool _)
    rw [e1, e2]
    exact hK _ _ ρ ro _ _ (next ad.isNone hq) (.refl _ _ _ _ _) ⟨k2, H.fresh, H.pos⟩
def sCloneV : Spec := fun args hr _ => match args with
  | [.vs j] => match hr j 0 with
    | some (.vec 2 46 n f) => some ⟨[0 < j, (∀ i, i < n → f i = spF (spL n f) i) ∧ n ≤ 300], sps (spL n f), [(j, 0, .vec 2 46 n f)], []⟩
    | _ => none
  | _ => none
theorem cloneV_ok : SpecOK Try.prog 24 sCloneV := by
  have hm : Try.prog.follows .mixedOrders = true := by kernel_rfl
  have hΓ : SpecsOK Try.prog [] := sget_nil
  refine spec_atS hm T_ok hΓ Try.func24 rfl rfl fun args hr nb out e => ?_
  unfold sCloneV at e
  split at e
  · rename_i j
    split at e
    · rename_i n f hj
      injection e with e; subst e
      refine ⟨fun x hx => by rw [List.mem_singleton.1 hx]; exact hj, true, [j], [.vs 1], [(1, 0, .vec 2 46 n (spF (spL n f)))], rfl, fun hs => ?_⟩
      have h0 := hs _ List.mem_cons_self
      obtain ⟨h1, h2⟩ := hs _ (List.mem_cons_of_mem _ List.mem_cons_self)
      refine ⟨by simp, fun z hz => ?_, .cons _ _ _ _ (.name _ _ _ rfl) .nil, fun x hx => ?_, ?_⟩
      · rw [List.mem_singleton.1 hz]; exact ⟨h0, .vec 2 46 n f List.mem_cons_self⟩
      · rw [List.mem_singleton.1 hx]; exact ⟨0, j, _, rfl, rfl, List.mem_cons_self, rfl, rfl, rfl, fun i hi => h1 i hi⟩
      clear hs
      have hn := spL_len n f
      generalize spL n f = l at *
      subst hn
      refine Sem.seq ?_
      refine Sem.of_evC hm T_ok hΓ rfl ?_
      refine evC_goL0 (dec := []) (ks := [(0, 0), (0, 2), (1, 0)]) (s' := ⟨[(0, 0, Cont.cell (AV.vs 1)), (0, 2, Cont.cell AV.nils), (1, 0, Cont.vec 2 46 (List.length l) (spF l))], 34, 8⟩) (by kernel_rfl) (by kernel_rfl) ?_
      refine sthen_normal ?_
      refine Sem.seq ?_
      refine Sem.seq ?_
      refine Sem.isNilV (e := 46) rfl rfl rfl rfl rfl rfl (Nat.le_of_ble_eq_true rfl) (Nat.le_of_ble_eq_true rfl) (by kernel_rfl) rfl rfl fun q hq => ?_
      refine sthen_normal ?_
      refine sem_if (q := q) (by kernel_rfl) (fun hc => ?_) (fun hc => ?_)
      · have h0 : l = [] := List.eq_nil_of_length_eq_zero (hq hc)
        subst h0
        refine Sem.seq ?_
        refine Sem.of_evC hm T_ok hΓ rfl ?_
        refine evC_goL0 (dec := []) (ks := [(0, 0), (0, 2), (1, 0)]) (s' := ⟨[(0, 0, Cont.cell (AV.vs 1)), (0, 2, Cont.cell AV.nils), (1, 0, Cont.vec 2 46 0 (spF []))], 66, 8⟩) (by kernel_rfl) (by kernel_rfl) ?_
        refine sthen_normal ?_
        refine Sem.ret ?_
        refine sthen_ret ?_
        refine post_ret ?_
        refine ends_wk (.imp 0 2 _ (sps []) rfl ?_) ?_
        · exact vi_nil 2 false (spF [])
        skip
        refine ends_go [] (AV.rs 2 0 false (spF [])) [(1, 0, Cont.vec 2 46 0 (spF []))] rfl (by decide) rfl rfl (?_) rfl ⟨⟨_, rfl, ⟨rfl, rfl, rfl, fun _ _ => rfl⟩⟩, trivial⟩ trivial ⟨fun _ => .inr ⟨0, _, rfl, rfl, ⟨rfl, rfl, rfl, fun _ hi => absurd hi (Nat.not_lt_zero _)⟩⟩, trivial⟩
        exact sps_has []
      · refine Sem.skip ?_
        refine sthen_normal ?_
        refine Sem.seq ?_
        refine Sem.of_evC hm T_ok hΓ rfl ?_
        refine evC_goL (dec := []) (ks := [(0, 2), (1, 0), (98, 0)]) (ps := [((0 : Nat) + List.length l) * (16 : Nat) ≤ (140737488355328 : Nat), (0 : Nat) + List.length l ≤ maxLen, List.length l = (0 : Nat) ∨ (2 : Nat) = (2 : Nat), (2 : Nat) = (2 : Nat), (46 : Nat) = (46 : Nat)]) (s' := ⟨[(0, 2, Cont.cell (AV.vs 98)), (1, 0, Cont.vec 2 46 (List.length l) (spF l)), (98, 0, Cont.vec 2 46 (0 + List.length l) (catF 0 (pget []) (spF l)))], 162, 8⟩) (by kernel_rfl) (by kernel_rfl) ?_ ?_
        · (simp only [All]; (repeat' apply And.intro) <;> (try intro _) <;> (try intro _) <;> (repeat' apply And.intro) <;> (try intro _) <;> (try intro _) <;> first | trivial | assumption | exact .inr trivial | exact .inr rfl | omega | rfl | exact ⟨_, rfl, rfl⟩ | exact ⟨rfl, rfl⟩ | exact ⟨fun _ => rfl, fun _ => rfl⟩ | (unfold maxLen; omega) | (unfold i64R; first | omega | decide) | decide)
        refine sthen_normal ?_
        refine Sem.ret ?_
        refine post_ret ?_
        refine ends_wk (s' := ⟨[(0, 2, .cell (.vs 2)), (1, 0, .vec 2 46 l.length (spF l)), (2, 0, .vec 2 46 l.length (spF l))], 3, 8⟩) (wk_go [98] rfl (by decide) rfl rfl ⟨⟨_, rfl, rfl⟩, ⟨_, rfl, rfl, rfl, rfl, fun i hi => rfl⟩, ⟨_, rfl, ⟨rfl, rfl, Nat.zero_add _, fun i hi => rfl⟩⟩, trivial⟩) ?_
        refine ends_wk (s' := ⟨[(0, 2, .cell (sps l)), (1, 0, .vec 2 46 l.length (spF l))], 2, 8⟩) (.trans (.frz 2 2 46 l.length (spF l) (Nat.le_of_ble_eq_true rfl) rfl) (wk_go [] rfl (by decide) rfl rfl ⟨⟨_, rfl, rfl⟩, ⟨_, rfl, rfl, rfl, rfl, fun i hi => rfl⟩, trivial⟩)) ?_
        exact ends_go [] (sps l) [(1, 0, .vec 2 46 l.length (spF l))] rfl (by decide) rfl rfl (sps_has l) rfl ⟨⟨_, rfl, rfl, rfl, rfl, fun _ _ => rfl⟩, trivial⟩ trivial ⟨fun _ => .inr ⟨0, _, rfl, rfl, rfl, rfl, rfl, fun i hi => ⟨(spF_flat l i).has, h1 i hi⟩⟩, trivial⟩
    · cases e
  · cases e
theorem new_semV {l : List Sp} (hl : l.length ≤ 300) {nb : Nat} {out : Out} {jj : Nat} (hB : mayB l = false → ∀ s : St, 2 < s.nx → hget s.h 1 0 = some (.vec 2 46 l.length (spF l)) → evRVs T s.h Try.f18.results.toList = some ([.nilp, .int .i64 1], []) → Ends T Try.f18 [jj] nb out true s)
    (hG : mayB l = true → Ends T Try.f18 [jj] nb out true ⟨[(0, 2, .cell (.ptr 300 0)), (0, 3, .cell (.int .i64 0)), (1, 0, .vec 2 46 l.length (spF l)), (300, 0, .cell (sps l)), (300, 1, .cell (.mp 301)), (300, 2, .top), (301, 0, .map 2 (qmap (sqN l l.length)))], 430, 50⟩) : Sem Try.prog 2 (Try.f18.body.getD .skip) (Post T Try.f18 [jj] nb out true) ⟨slots0 0 [.vs 1] ++ [(1, 0, .vec 2 46 l.length (spF l))], 2, Try.f18.ntmps⟩ := by
  have hm : Try.prog.follows .mixedOrders = true := by kernel_rfl
  have hΓ : SpecsOK Try.prog [(20, sMay), (24, sCloneV)] := sget_cons may_ok (sget_cons cloneV_ok sget_nil)
  refine Sem.wk (Imp.up (nx' := 300) rfl (Nat.le_of_ble_eq_true rfl) rfl) ?_
  refine Sem.seq ?_
  refine Sem.of_evC hm T_ok hΓ rfl ?_
  refine evC_goL0 (dec := []) (ks := [(0, 0), (0, 2), (0, 3), (1, 0)]) (s' := ⟨[(0, 0, Cont.cell (AV.vs 1)), (0, 2, Cont.cell AV.nilp), (0, 3, Cont.cell (AV.int IntKind.i64 0)), (1, 0, Cont.vec 2 46 (List.length l) (spF l))], 364, 50⟩) (by kernel_rfl) (by kernel_rfl) ?_
  refine sthen_normal ?_
  refine Sem.seq ?_
  refine Sem.seq ?_
  refine Sem.of_evC hm T_ok hΓ rfl ?_
  refine evC_goL0 (dec := []) (ks := [(0, 0), (0, 2), (0, 3), (0, 10), (1, 0)]) (s' := ⟨[(0, 0, Cont.cell (AV.vs 1)), (0, 2, Cont.cell AV.nilp), (0, 3, Cont.cell (AV.int IntKind.i64 0)), (0, 10, Cont.cell (AV.bool (decide ((↑(List.length l) : Int) > 256)))), (1, 0, Cont.vec 2 46 (List.length l) (spF l))], 460, 50⟩) (by kernel_rfl) (by kernel_rfl) ?_
  refine sthen_normal ?_
  refine sem_if (q := decide ((↑(List.length l) : Int) > 256)) (by kernel_rfl) (fun hc => ?_) (fun hc => ?_)
  refine Sem.seq ?_
  · have hbig : mayB l = false := by
      rw [mayB_not]
      intro h
      have h1 := of_decide_eq_true hc
      have := h.1
      omega
    skip
    refine Sem.of_evC hm T_ok hΓ rfl ?_
    refine evC_goL0 (dec := []) (ks := [(0, 0), (0, 2), (0, 3), (1, 0)]) (s' := ⟨[(0, 0, Cont.cell (AV.vs 1)), (0, 2, Cont.cell AV.nilp), (0, 3, Cont.cell (AV.int IntKind.i64 1)), (1, 0, Cont.vec 2 46 (List.length l) (spF l))], 524, 50⟩) (by kernel_rfl) (by kernel_rfl) ?_
    refine sthen_normal ?_
    refine Sem.ret ?_
    refine sthen_ret ?_
    refine post_ret ?_
    exact hB hbig _ (Nat.le_of_ble_eq_true rfl) rfl rfl
  · have h256 : l.length ≤ 256 := by have := of_decide_eq_false hc; omega
    clear hc
    refine Sem.skip ?_
    refine sthen_normal ?_
    refine Sem.seq ?_
    refine Sem.of_evC hm T_ok hΓ rfl ?_
    refine evC_goL (dec := []) (ks := [(0, 0), (0, 2), (0, 3), (0, 4), (1, 0), (524, 0), (588, 0), (588, 1), (588, 2)]) (ps := [(0 : Nat) < (1 : Nat), (∀ (i : Nat), i < List.length l → spF l i = spF (spL (List.length l) (spF l)) i) ∧ List.length l ≤ (300 : Nat)]) (s' := ⟨[(0, 0, Cont.cell (AV.vs 1)), (0, 2, Cont.cell AV.nilp), (0, 3, Cont.cell (AV.int IntKind.i64 0)), (0, 4, Cont.cell (AV.ptr 588 0)), (1, 0, Cont.vec 2 46 (List.length l) (spF l)), (524, 0, Cont.map 2 []), (588, 0, Cont.cell (AV.rs 2 (List.length (spL (List.length l) (spF l))) false (spF (spL (List.length l) (spF l))))), (588, 1, Cont.cell (AV.mp 524)), (588, 2, Cont.top)], 652, 50⟩) (by kernel_rfl) (by kernel_rfl) ?_ ?_
    · exact ⟨by decide, fun i hi => by rw [spL_spF], hl⟩
    rw [spL_spF]
    refine sthen_normal ?_
    refine Sem.seq ?_
    refine Sem.seq ?_
    refine Sem.of_evC hm T_ok hΓ rfl ?_
    refine evC_goL0 (dec := []) (ks := [(0, 2), (0, 3), (0, 4), (0, 16), (0, 17), (0, 18), (1, 0), (524, 0), (588, 0), (588, 1), (588, 2)]) (s' := ⟨[(0, 2, Cont.cell AV.nilp), (0, 3, Cont.cell (AV.int IntKind.i64 0)), (0, 4, Cont.cell (AV.ptr 588 0)), (0, 16, Cont.cell (AV.vs 1)), (0, 17, Cont.cell (AV.int IntKind.i64 (↑(List.length l) : Int))), (0, 18, Cont.cell (AV.int IntKind.i64 0)), (1, 0, Cont.vec 2 46 (List.length l) (spF l)), (524, 0, Cont.map 2 []), (588, 0, Cont.cell (AV.rs 2 (List.length l) false (spF l))), (588, 1, Cont.cell (AV.mp 524)), (588, 2, Cont.top)], 748, 50⟩) (by kernel_rfl) (by kernel_rfl) ?_
    refine sthen_normal ?_
    refine Sem.block ?_
    refine Sem.loop (ι := { i : Nat // i ≤ l.length ∧ ∀ j, j < i → (inb (l.getD j (0, 0)).1 && inb (l.getD j (0, 0)).2) = true }) (fun i => St.app ⟨slN true l i.1 ++ obN true l 301 (vrow (sqN l i.1)), 302, 50⟩ (famQ (sqN l i.1))) (fun i => l.length - i.1) ⟨0, Nat.zero_le _, fun j hj => absurd hj (Nat.not_lt_zero j)⟩ (Imp.lower (B' := 300) (by decide) (Wk.imp' (wk_go [588, 524] rfl (by decide) rfl rfl ⟨⟨_, rfl, rfl⟩, ⟨_, rfl, rfl⟩, ⟨_, rfl, rfl⟩, ⟨_, rfl, rfl⟩, ⟨_, rfl, rfl⟩, ⟨_, rfl, rfl⟩, ⟨_, rfl, rfl, rfl, rfl, fun _ _ => rfl⟩, ⟨_, rfl, rfl⟩, ⟨_, rfl, rfl⟩, ⟨_, rfl, trivial⟩, ⟨_, rfl, ⟨rfl, rfl, fun i x hx => nomatch hx⟩⟩, trivial⟩))) ?_
    rintro ⟨i, hi, hok⟩
    have hSi := sqN_len l i
    have hSl : (sqN l i).length ≤ 256 := by omega
    refine Sem.seq ?_
    refine inQ hSl (by decide) rfl ?_
    refine Sem.of_evC hm T_ok hΓ rfl ?_
    refine evC_goL0 (dec := []) (ks := [(0, 2), (0, 3), (0, 4), (0, 16), (0, 17), (0, 18), (0, 19), (1, 0), (300, 0), (300, 1), (300, 2), (301, 0)]) (s' := ⟨[(0, 2, Cont.cell AV.nilp), (0, 3, Cont.cell (AV.int IntKind.i64 0)), (0, 4, Cont.cell (AV.ptr 300 0)), (0, 16, Cont.cell (AV.vs 1)), (0, 17, Cont.cell (AV.int IntKind.i64 (↑(List.length l) : Int))), (0, 18, Cont.cell (AV.int IntKind.i64 (↑i : Int))), (0, 19, Cont.cell (AV.bool (decide ((↑i : Int) < (↑(List.length l) : Int))))), (1, 0, Cont.vec 2 46 (List.length l) (spF l)), (300, 0, Cont.cell (AV.rs 2 (List.length l) false (spF l))), (300, 1, Cont.cell (AV.mp 301)), (300, 2, Cont.top), (301, 0, Cont.map 2 (vrow (sqN l i)))], 334, 50⟩) (by kernel_rfl) (by kernel_rfl) ?_
    refine swk_refl ?_
    refine sframe_at ?_
    refine sthen_normal ?_
    refine Sem.seq ?_
    refine sem_if (q := decide ((↑i : Int) < (↑(List.length l) : Int))) (by kernel_rfl) (fun hc => ?_) (fun hc => ?_)
    refine Sem.skip ?_
    refine sthen_normal ?_
    refine Sem.seq ?_
    refine Sem.block ?_
    refine Sem.seq ?_
    · have hlt : i < l.length := by have := of_decide_eq_true hc; omega
      clear hc
      skip
      refine inQ hSl (by decide) rfl ?_
      refine Sem.of_evC hm T_ok hΓ rfl ?_
      refine evC_goL (dec := []) (ks := [(0, 2), (0, 3), (0, 4), (0, 5), (0, 6), (0, 16), (0, 17), (0, 18), (1, 0), (300, 0), (300, 1), (300, 2), (301, 0), (430, 0), (430, 1), (430, 2)]) (ps := [(0 : Int) ≤ (↑i : Int), (↑i : Int) < (↑(List.length l) : Int), (2 : Nat) = (2 : Nat), (0 : Int) ≤ (↑i : Int), (↑i : Int) < (↑(List.length l) : Int), (2 : Nat) = (2 : Nat)]) (s' := ⟨[(0, 2, Cont.cell AV.nilp), (0, 3, Cont.cell (AV.int IntKind.i64 0)), (0, 4, Cont.cell (AV.ptr 300 0)), (0, 5, Cont.cell (AV.int IntKind.i64 (↑i : Int))), (0, 6, Cont.cell (AV.ptr 430 0)), (0, 16, Cont.cell (AV.vs 1)), (0, 17, Cont.cell (AV.int IntKind.i64 (↑(List.length l) : Int))), (0, 18, Cont.cell (AV.int IntKind.i64 (↑i : Int))), (1, 0, Cont.vec 2 46 (List.length l) (spF l)), (300, 0, Cont.cell (AV.rs 2 (List.length l) false (spF l))), (300, 1, Cont.cell (AV.mp 301)), (300, 2, Cont.top), (301, 0, Cont.map 2 (vrow (sqN l i))), (430, 0, Cont.cell (AV.int IntKind.i64 (Prod.fst (List.getD l i (0, 0))))), (430, 1, Cont.cell (AV.int IntKind.i64 (Prod.snd (List.getD l i (0, 0))))), (430, 2, Cont.top)], 526, 50⟩) (by kernel_rfl) (by kernel_rfl) ?_ ?_
      · (simp only [All]; (repeat' apply And.intro) <;> (try intro _) <;> (try intro _) <;> (repeat' apply And.intro) <;> (try intro _) <;> (try intro _) <;> first | trivial | assumption | exact .inr trivial | exact .inr rfl | omega | rfl | exact ⟨_, rfl, rfl⟩ | exact ⟨rfl, rfl⟩ | exact ⟨fun _ => rfl, fun _ => rfl⟩ | (unfold maxLen; omega) | (unfold i64R; first | omega | decide) | decide)
      refine swk_refl ?_
      refine sframe_at ?_
      refine sthen_normal ?_
      refine Sem.seq ?_
      refine Sem.seq ?_
      refine inQ hSl (by decide) rfl ?_
      refine Sem.of_evC hm T_ok hΓ rfl ?_
      refine evC_goL (dec := []) (ks := [(0, 2), (0, 3), (0, 4), (0, 5), (0, 6), (0, 16), (0, 17), (0, 18), (0, 29), (1, 0), (300, 0), (300, 1), (300, 2), (301, 0), (430, 0), (430, 1), (430, 2)]) (ps := [(∀ (i_1 : Nat), i_1 < (2 : Nat) → pget [((0 : Nat), AV.int IntKind.i64 (Prod.fst (List.getD l i ((0 : Int), (0 : Int))))), ((1 : Nat), AV.int IntKind.i64 (Prod.snd (List.getD l i ((0 : Int), (0 : Int)))))] i_1 = c1 (pget [((0 : Nat), AV.int IntKind.i64 (Prod.fst (List.getD l i ((0 : Int), (0 : Int))))), ((1 : Nat), AV.int IntKind.i64 (Prod.snd (List.getD l i ((0 : Int), (0 : Int)))))]) i_1) ∧ (2 : Nat) ≤ (3 : Nat)]) (s' := ⟨[(0, 2, Cont.cell AV.nilp), (0, 3, Cont.cell (AV.int IntKind.i64 0)), (0, 4, Cont.cell (AV.ptr 300 0)), (0, 5, Cont.cell (AV.int IntKind.i64 (↑i : Int))), (0, 6, Cont.cell (AV.ptr 430 0)), (0, 16, Cont.cell (AV.vs 1)), (0, 17, Cont.cell (AV.int IntKind.i64 (↑(List.length l) : Int))), (0, 18, Cont.cell (AV.int IntKind.i64 (↑i : Int))), (0, 29, Cont.cell (AV.bool !allIn 2 (pget [(0, AV.int IntKind.i64 (Prod.fst (List.getD l i (0, 0)))), (1, AV.int IntKind.i64 (Prod.snd (List.getD l i (0, 0))))]))), (1, 0, Cont.vec 2 46 (List.length l) (spF l)), (300, 0, Cont.cell (AV.rs 2 (List.length l) false (spF l))), (300, 1, Cont.cell (AV.mp 301)), (300, 2, Cont.top), (301, 0, Cont.map 2 (vrow (sqN l i))), (430, 0, Cont.cell (AV.int IntKind.i64 (Prod.fst (List.getD l i (0, 0))))), (430, 1, Cont.cell (AV.int IntKind.i64 (Prod.snd (List.getD l i (0, 0))))), (430, 2, Cont.top)], 750, 50⟩) (by kernel_rfl) (by kernel_rfl) ?_ ?_
      · exact pg2 _ _
      rw [allIn2]
      refine swk_refl ?_
      refine sframe_at ?_
      refine sthen_normal ?_
      refine sem_if (q := !(inb (Prod.fst (List.getD l i (0, 0))) && inb (Prod.snd (List.getD l i (0, 0))))) (by kernel_rfl) (fun hc => ?_) (fun hc => ?_)
      refine Sem.seq ?_
      · have hbad : mayB l = false := by
          rw [mayB_not]
          intro h
          have := h.get hlt
          rw [← inb_iff, ← inb_iff] at this
          rw [this.1, this.2] at hc
          cases hc
        skip
        refine inQ hSl (by decide) rfl ?_
        refine Sem.of_evC hm T_ok hΓ rfl ?_
        refine evC_goL0 (dec := []) (ks := [(0, 2), (0, 3), (0, 4), (0, 5), (0, 6), (0, 16), (0, 17), (0, 18), (1, 0), (300, 0), (300, 1), (300, 2), (301, 0), (430, 0), (430, 1), (430, 2)]) (s' := ⟨[(0, 2, Cont.cell AV.nilp), (0, 3, Cont.cell (AV.int IntKind.i64 1)), (0, 4, Cont.cell (AV.ptr 300 0)), (0, 5, Cont.cell (AV.int IntKind.i64 (↑i : Int))), (0, 6, Cont.cell (AV.ptr 430 0)), (0, 16, Cont.cell (AV.vs 1)), (0, 17, Cont.cell (AV.int IntKind.i64 (↑(List.length l) : Int))), (0, 18, Cont.cell (AV.int IntKind.i64 (↑i : Int))), (1, 0, Cont.vec 2 46 (List.length l) (spF l)), (300, 0, Cont.cell (AV.rs 2 (List.length l) false (spF l))), (300, 1, Cont.cell (AV.mp 301)), (300, 2, Cont.top), (301, 0, Cont.map 2 (vrow (sqN l i))), (430, 0, Cont.cell (AV.int IntKind.i64 (Prod.fst (List.getD l i (0, 0))))), (430, 1, Cont.cell (AV.int IntKind.i64 (Prod.snd (List.getD l i (0, 0))))), (430, 2, Cont.top)], 814, 50⟩) (by kernel_rfl) (by kernel_rfl) ?_
        refine swk_refl ?_
        refine sframe_at ?_
        refine sthen_normal ?_
        refine Sem.ret ?_
        refine sthen_ret ?_
        refine block_ret ?_
        refine sthen_ret ?_
        refine sround_ret ?_
        refine block_ret ?_
        refine sthen_ret ?_
        refine post_ret ?_
        exact hB hbad _ (Nat.le_of_ble_eq_true rfl) rfl rfl
      · have hin : (inb (l.getD i (0, 0)).1 && inb (l.getD i (0, 0)).2) = true := by simpa using hc
        clear hc
        refine Sem.skip ?_
        refine sthen_normal ?_
        refine Sem.seq ?_
        refine inQ hSl (by decide) rfl ?_
        refine Sem.of_evC hm T_ok hΓ rfl ?_
        refine evC_goL (dec := []) (ks := [(0, 2), (0, 3), (0, 4), (0, 5), (0, 7), (0, 16), (0, 17), (0, 18), (1, 0), (300, 0), (300, 1), (300, 2), (301, 0), (974, 0), (974, 1), (974, 2)]) (ps := [(0 : Int) ≤ (18 : Int), (0 : Int) ≤ (18 : Int)]) (s' := ⟨[(0, 2, Cont.cell AV.nilp), (0, 3, Cont.cell (AV.int IntKind.i64 0)), (0, 4, Cont.cell (AV.ptr 300 0)), (0, 5, Cont.cell (AV.int IntKind.i64 (↑i : Int))), (0, 7, Cont.cell (AV.ptr 974 0)), (0, 16, Cont.cell (AV.vs 1)), (0, 17, Cont.cell (AV.int IntKind.i64 (↑(List.length l) : Int))), (0, 18, Cont.cell (AV.int IntKind.i64 (↑i : Int))), (1, 0, Cont.vec 2 46 (List.length l) (spF l)), (300, 0, Cont.cell (AV.rs 2 (List.length l) false (spF l))), (300, 1, Cont.cell (AV.mp 301)), (300, 2, Cont.top), (301, 0, Cont.map 2 (vrow (sqN l i))), (974, 0, Cont.cell (AV.int IntKind.i64 (Int.fdiv (Prod.fst (List.getD l i (0, 0))) (2 ^ min (Int.toNat 18) (IntKind.bits IntKind.i64))))), (974, 1, Cont.cell (AV.int IntKind.i64 (Int.fdiv (Prod.snd (List.getD l i (0, 0))) (2 ^ min (Int.toNat 18) (IntKind.bits IntKind.i64))))), (974, 2, Cont.top)], 1038, 50⟩) (by kernel_rfl) (by kernel_rfl) ?_ ?_
        · show (0 : Int) ≤ 18 ∧ (0 : Int) ≤ 18; decide
        have hok2 : ∀ j, j < i + 1 → (inb (l.getD j (0, 0)).1 && inb (l.getD j (0, 0)).2) = true := fun j hj => by
          rcases Nat.lt_or_ge j i with h | h
          · exact hok j h
          · have : j = i := by omega
            subst this; exact hin
        have hSi1 := sqN_len l (i + 1)
        obtain ⟨a, ha⟩ : ∃ a, a = ky (l.getD i (0, 0)).1 := ⟨_, rfl⟩
        obtain ⟨b, hb⟩ : ∃ b, b = ky (l.getD i (0, 0)).2 := ⟨_, rfl⟩
        obtain ⟨S, hS⟩ : ∃ S, S = sqN l i := ⟨_, rfl⟩
        have hS1 : sqN l (i + 1) = kput S a b (((kget S a b).getD []) ++ [(i : Int)]) := by rw [ha, hb, hS]; rfl
        have hKN : KN S := by rw [hS]; exact sqN_KN l i
        rw [← hS] at hSl ⊢
        refine swk_to ⟨slP true l i ++ obP true l a b (vrow S), 303, 50⟩ (Wk.imp' (wk_go [300, 974, 301] rfl (by decide) rfl rfl ⟨⟨_, rfl, rfl⟩, ⟨_, rfl, rfl⟩, ⟨_, rfl, rfl⟩, ⟨_, rfl, rfl⟩, ⟨_, rfl, rfl⟩, ⟨_, rfl, rfl⟩, ⟨_, rfl, rfl⟩, ⟨_, rfl, rfl⟩, ⟨_, rfl, rfl, rfl, rfl, fun _ _ => rfl⟩, ⟨_, rfl, rfl⟩, ⟨_, rfl, rfl⟩, ⟨_, rfl, trivial⟩, ⟨_, rfl, by rw [ha]; rfl⟩, ⟨_, rfl, by rw [hb]; rfl⟩, ⟨_, rfl, trivial⟩, ⟨_, rfl, cw_vrow hSl⟩, trivial⟩)) ?_
        refine sframe_at ?_
        refine sthen_normal ?_
        refine Sem.wk (Imp.up (nx' := 304) rfl (Nat.le_of_ble_eq_true rfl) rfl) ?_
        cases hk : kget S a b with
        | none =>
          have hS255 : S.length ≤ 255 := by rw [hS]; omega
          have hS2 : sqN l (i + 1) = S ++ [((a, b), [(i : Int)])] := by rw [hS1, hk, kput_none hk]; rfl
          refine Sem.stamps (m := 302) (ar := 2) (es := vrow S) (by decide) rfl fun bs ck hlb hnd hck hka => ?_
          refine inQ (s := ⟨(302, 0, .maps 2 (vrow S) bs ck) :: (slP true l i ++ obP true l a b (vrow S)), 304, 50⟩) hSl (by decide) rfl ?_
          refine Sem.of_evC hm (modeT_ok T_ok false 56) hΓ rfl ?_
          have hnd2 : (bs ++ [ck]).Nodup := by
            rw [List.nodup_append]
            exact ⟨hnd, by simp, fun x hx y hy e => by rw [List.mem_singleton.1 hy] at e; have := hck x hx; omega⟩
          have hnew := fun v => new_at (k := [a, b]) (z := .nils) (v := v) hlb hnd2
          refine evC_goL (dec := []) (ks := [(0, 2), (0, 3), (0, 4), (0, 16), (0, 17), (0, 18), (1, 0), (300, 0), (300, 1), (300, 2), (301, 0), (301, 1), (301, 2), (302, 0), (592, 0)]) (ps := [mget (vrow S) [a, b] = none, (1 : Nat) * TI.bytes (bif (3 : Nat) == (56 : Nat) then { cells := (1 : Nat), bytes := (8 : Nat), und := modeU false (Und.int IntKind.i64), zero := [AV.int IntKind.i64 (0 : Int)] } else { cells := (1 : Nat), bytes := (8 : Nat), und := Und.int IntKind.i64, zero := [AV.int IntKind.i64 (0 : Int)] }) ≤ (140737488355328 : Nat), (1 : Nat) ≤ maxLen, (1 : Nat) = (0 : Nat) ∨ TI.cells (bif (3 : Nat) == (56 : Nat) then { cells := (1 : Nat), bytes := (8 : Nat), und := modeU false (Und.int IntKind.i64), zero := [AV.int IntKind.i64 (0 : Int)] } else { cells := (1 : Nat), bytes := (8 : Nat), und := Und.int IntKind.i64, zero := [AV.int IntKind.i64 (0 : Int)] }) = TI.cells (bif (3 : Nat) == (56 : Nat) then { cells := (1 : Nat), bytes := (8 : Nat), und := modeU false (Und.int IntKind.i64), zero := [AV.int IntKind.i64 (0 : Int)] } else { cells := (1 : Nat), bytes := (8 : Nat), und := Und.int IntKind.i64, zero := [AV.int IntKind.i64 (0 : Int)] }), ∃ b, b ∈ bs ++ [ck] ∧ (↑b : Int) = (↑ck : Int)]) (s' := ⟨[(0, 2, Cont.cell AV.nilp), (0, 3, Cont.cell (AV.int IntKind.i64 0)), (0, 4, Cont.cell (AV.ptr 300 0)), (0, 16, Cont.cell (AV.vs 1)), (0, 17, Cont.cell (AV.int IntKind.i64 (↑(List.length l) : Int))), (0, 18, Cont.cell (AV.int IntKind.i64 (↑i : Int))), (1, 0, Cont.vec 2 46 (List.length l) (spF l)), (300, 0, Cont.cell (AV.rs 2 (List.length l) false (spF l))), (300, 1, Cont.cell (AV.mp 302)), (300, 2, Cont.top), (301, 0, Cont.cell (AV.int IntKind.i64 a)), (301, 1, Cont.cell (AV.int IntKind.i64 b)), (301, 2, Cont.top), (302, 0, Cont.maps 2 (setS (vrow S ++ [([a, b], AV.nils)]) (bs ++ [ck]) (↑ck : Int) (AV.vs 592)) (bs ++ [ck]) (ck + 1)), (592, 0, Cont.vec 1 3 1 (pget [(0, AV.int IntKind.i64 (↑i : Int))]))], 688, 50⟩) (by kernel_rfl) (by kernel_rfl) ?_ ?_
          · exact ⟨none_at hk, by decide, by decide, .inr rfl, (hnew .nils).1⟩
          rw [(hnew (.vs 592)).2]
          refine swk_to ⟨slN true l i ++ (obN true l 301 (vrow S ++ [([a, b], .vs 302)]) ++ rowL 302 [(i : Int)]), 303, 50⟩ (Imp.trans (Imp.unstamp (m := 302) (by decide) rfl) (Wk.imp' (wk_go [300, 302, 592] rfl (by decide) rfl rfl ⟨⟨_, rfl, rfl⟩, ⟨_, rfl, rfl⟩, ⟨_, rfl, rfl⟩, ⟨_, rfl, rfl⟩, ⟨_, rfl, rfl⟩, ⟨_, rfl, rfl⟩, ⟨_, rfl, rfl, rfl, rfl, fun _ _ => rfl⟩, ⟨_, rfl, rfl⟩, ⟨_, rfl, rfl⟩, ⟨_, rfl, trivial⟩, ⟨_, rfl, cw_vnew hSl rfl⟩, ⟨_, rfl, rfl, rfl, rfl, fun j hj => by
            have : j = 0 := by
              have : j < 1 := hj
              omega
            subst this; rfl⟩, trivial⟩))) ?_
          refine sframe_at ?_
          refine block_normal ?_
          refine sthen_normal ?_
          refine Sem.wk (Imp.lower (by decide) <| join_sq true l i hS255 a b [(i : Int)]) ?_
          rw [← hS2]
          refine inQ (by omega) (by decide) rfl ?_
          refine Sem.of_evC hm T_ok hΓ rfl ?_
          refine evC_goL0 (dec := []) (ks := [(0, 2), (0, 3), (0, 4), (0, 16), (0, 17), (0, 18), (1, 0), (300, 0), (300, 1), (300, 2), (301, 0)]) (s' := ⟨[(0, 2, Cont.cell AV.nilp), (0, 3, Cont.cell (AV.int IntKind.i64 0)), (0, 4, Cont.cell (AV.ptr 300 0)), (0, 16, Cont.cell (AV.vs 1)), (0, 17, Cont.cell (AV.int IntKind.i64 (↑(List.length l) : Int))), (0, 18, Cont.cell (AV.int IntKind.i64 (IntKind.i64.wrap ((↑i : Int) + 1)))), (1, 0, Cont.vec 2 46 (List.length l) (spF l)), (300, 0, Cont.cell (AV.rs 2 (List.length l) false (spF l))), (300, 1, Cont.cell (AV.mp 301)), (300, 2, Cont.top), (301, 0, Cont.map 2 (vrow (sqN l (i + 1))))], 366, 50⟩) (by kernel_rfl) (by kernel_rfl) ?_
          rw [wrap_add_one hlt (by omega)]
          refine swk_to ⟨slN true l (i + 1) ++ obN true l 301 (vrow (sqN l (i + 1))), 302, 50⟩ (Wk.imp' (wk_go [300, 301] rfl (by decide) rfl rfl ⟨⟨_, rfl, rfl⟩, ⟨_, rfl, rfl⟩, ⟨_, rfl, rfl⟩, ⟨_, rfl, rfl⟩, ⟨_, rfl, rfl⟩, ⟨_, rfl, rfl⟩, ⟨_, rfl, rfl, rfl, rfl, fun _ _ => rfl⟩, ⟨_, rfl, rfl⟩, ⟨_, rfl, rfl⟩, ⟨_, rfl, trivial⟩, ⟨_, rfl, cw_vrow (by omega)⟩, trivial⟩)) ?_
          refine sframe_at ?_
          exact sround_normal ⟨i + 1, hlt, hok2⟩ (Imp.refl _ _) (by show l.length - (i + 1) < l.length - i; omega)
        | some L =>
          obtain ⟨p, hp⟩ := kget_idx hk
          have hpl : p < S.length := (List.getElem?_eq_some_iff.1 hp).1
          have hS2 : sqN l (i + 1) = S.set p ((a, b), L ++ [(i : Int)]) := by rw [hS1, hk, kput_at hKN hp]; rfl
          have hrow : rowsF S p = L := by simp [rowsF, hp]
          refine Sem.wk (Imp.lower (by decide) <| take_sq true l i hSl hpl a b) ?_
          rw [hrow]
          refine Sem.stamps (m := 302) (ar := 2) (es := frow S p) (by decide) rfl fun bs ck hlb hnd hck hka => ?_
          refine inX (s := ⟨(302, 0, .maps 2 (frow S p) bs ck) :: (slP true l i ++ (rowL 303 L ++ obP true l a b (frow S p))), 304, 50⟩) hSl (by decide) rfl ?_
          refine Sem.of_evC hm (modeT_ok T_ok true 56) hΓ rfl ?_
          obtain ⟨f1, f2⟩ := found_at hKN hp
          have hf := f2 bs hnd hlb
          have hL : L.length ≤ i := by
            have := sqN_get l a b i
            rw [← hS, hk] at this
            have this : L = sqL l i a b := this
            rw [this]; exact sqL_len
          refine evC_goL (dec := []) (ks := [(0, 2), (0, 3), (0, 4), (0, 16), (0, 17), (0, 18), (1, 0), (300, 0), (300, 1), (300, 2), (301, 0), (301, 1), (301, 2), (302, 0), (592, 0)]) (ps := [mget (frow S p) [a, b] = some (AV.vs (303 : Nat)), (List.length L + (1 : Nat)) * TI.bytes (bif (3 : Nat) == (56 : Nat) then { cells := (1 : Nat), bytes := (8 : Nat), und := modeU true (Und.int IntKind.i64), zero := [AV.int IntKind.i64 (0 : Int)] } else { cells := (1 : Nat), bytes := (8 : Nat), und := Und.int IntKind.i64, zero := [AV.int IntKind.i64 (0 : Int)] }) ≤ (140737488355328 : Nat), List.length L + (1 : Nat) ≤ maxLen, (1 : Nat) = (0 : Nat) ∨ TI.cells (bif (3 : Nat) == (56 : Nat) then { cells := (1 : Nat), bytes := (8 : Nat), und := modeU true (Und.int IntKind.i64), zero := [AV.int IntKind.i64 (0 : Int)] } else { cells := (1 : Nat), bytes := (8 : Nat), und := Und.int IntKind.i64, zero := [AV.int IntKind.i64 (0 : Int)] }) = TI.cells (bif (3 : Nat) == (56 : Nat) then { cells := (1 : Nat), bytes := (8 : Nat), und := modeU true (Und.int IntKind.i64), zero := [AV.int IntKind.i64 (0 : Int)] } else { cells := (1 : Nat), bytes := (8 : Nat), und := Und.int IntKind.i64, zero := [AV.int IntKind.i64 (0 : Int)] }), (1 : Nat) = TI.cells (bif (3 : Nat) == (56 : Nat) then { cells := (1 : Nat), bytes := (8 : Nat), und := modeU true (Und.int IntKind.i64), zero := [AV.int IntKind.i64 (0 : Int)] } else { cells := (1 : Nat), bytes := (8 : Nat), und := Und.int IntKind.i64, zero := [AV.int IntKind.i64 (0 : Int)] }), (3 : Nat) = (3 : Nat), ∃ b_1, b_1 ∈ bs ∧ (↑b_1 : Int) = stampOf (frow S p) bs [a, b]]) (s' := ⟨[(0, 2, Cont.cell AV.nilp), (0, 3, Cont.cell (AV.int IntKind.i64 0)), (0, 4, Cont.cell (AV.ptr 300 0)), (0, 16, Cont.cell (AV.vs 1)), (0, 17, Cont.cell (AV.int IntKind.i64 (↑(List.length l) : Int))), (0, 18, Cont.cell (AV.int IntKind.i64 (↑i : Int))), (1, 0, Cont.vec 2 46 (List.length l) (spF l)), (300, 0, Cont.cell (AV.rs 2 (List.length l) false (spF l))), (300, 1, Cont.cell (AV.mp 302)), (300, 2, Cont.top), (301, 0, Cont.cell (AV.int IntKind.i64 a)), (301, 1, Cont.cell (AV.int IntKind.i64 b)), (301, 2, Cont.top), (302, 0, Cont.maps 2 (setS (frow S p) bs (stampOf (frow S p) bs [a, b]) (AV.vs 592)) bs ck), (592, 0, Cont.vec 1 3 (List.length L + 1) (catF (List.length L) (lst L) (pget [(0, AV.int IntKind.i64 (↑i : Int))])))], 688, 50⟩) (by kernel_rfl) (by kernel_rfl) ?_ ?_
          · exact ⟨f1, by show (L.length + 1) * 8 ≤ 140737488355328; omega, by unfold maxLen; omega, .inr rfl, rfl, rfl, (hf .nils).1⟩
          rw [(hf (.vs 592)).2]
          refine swk_to ⟨slN true l i ++ (rowL 302 (L ++ [(i : Int)]) ++ obN true l 301 ((frow S p).set p ([a, b], .vs 302))), 303, 50⟩ (Imp.trans (Imp.unstamp (m := 302) (by decide) rfl) (Wk.imp' (wk_go [300, 302, 592] rfl (by decide) rfl rfl ⟨⟨_, rfl, rfl⟩, ⟨_, rfl, rfl⟩, ⟨_, rfl, rfl⟩, ⟨_, rfl, rfl⟩, ⟨_, rfl, rfl⟩, ⟨_, rfl, rfl⟩, ⟨_, rfl, rfl, rfl, by rw [List.length_append]; rfl, fun j hj => by
            have hj : j < (L ++ [(i : Int)]).length := hj
            rw [List.length_append] at hj
            show catF _ _ _ j = (lst _ j).ren _
            rw [catF_lst rfl j hj]
            rfl⟩, ⟨_, rfl, rfl, rfl, rfl, fun _ _ => rfl⟩, ⟨_, rfl, rfl⟩, ⟨_, rfl, rfl⟩, ⟨_, rfl, trivial⟩, ⟨_, rfl, cw_fset hSl hpl rfl⟩, trivial⟩))) ?_
          refine sframe_at ?_
          refine block_normal ?_
          refine sthen_normal ?_
          refine Sem.wk (Imp.lower (by decide) <| back_sq true l i hSl hpl a b (L ++ [(i : Int)])) ?_
          rw [← hS2]
          refine inQ (by omega) (by decide) rfl ?_
          refine Sem.of_evC hm T_ok hΓ rfl ?_
          refine evC_goL0 (dec := []) (ks := [(0, 2), (0, 3), (0, 4), (0, 16), (0, 17), (0, 18), (1, 0), (300, 0), (300, 1), (300, 2), (301, 0)]) (s' := ⟨[(0, 2, Cont.cell AV.nilp), (0, 3, Cont.cell (AV.int IntKind.i64 0)), (0, 4, Cont.cell (AV.ptr 300 0)), (0, 16, Cont.cell (AV.vs 1)), (0, 17, Cont.cell (AV.int IntKind.i64 (↑(List.length l) : Int))), (0, 18, Cont.cell (AV.int IntKind.i64 (IntKind.i64.wrap ((↑i : Int) + 1)))), (1, 0, Cont.vec 2 46 (List.length l) (spF l)), (300, 0, Cont.cell (AV.rs 2 (List.length l) false (spF l))), (300, 1, Cont.cell (AV.mp 301)), (300, 2, Cont.top), (301, 0, Cont.map 2 (vrow (sqN l (i + 1))))], 367, 50⟩) (by kernel_rfl) (by kernel_rfl) ?_
          rw [wrap_add_one hlt (by omega)]
          refine swk_to ⟨slN true l (i + 1) ++ obN true l 301 (vrow (sqN l (i + 1))), 302, 50⟩ (Wk.imp' (wk_go [300, 301] rfl (by decide) rfl rfl ⟨⟨_, rfl, rfl⟩, ⟨_, rfl, rfl⟩, ⟨_, rfl, rfl⟩, ⟨_, rfl, rfl⟩, ⟨_, rfl, rfl⟩, ⟨_, rfl, rfl⟩, ⟨_, rfl, rfl, rfl, rfl, fun _ _ => rfl⟩, ⟨_, rfl, rfl⟩, ⟨_, rfl, rfl⟩, ⟨_, rfl, trivial⟩, ⟨_, rfl, cw_vrow (by omega)⟩, trivial⟩)) ?_
          refine sframe_at ?_
          exact sround_normal ⟨i + 1, hlt, hok2⟩ (Imp.refl _ _) (by show l.length - (i + 1) < l.length - i; omega)
    · have hin : i = l.length := by have := of_decide_eq_false hc; omega
      subst hin
      clear hc
      have hmay : mayB l = true := mayB_iff.2 ⟨h256, fun s hs => by
        obtain ⟨j, hj, rfl⟩ := List.mem_iff_getElem.1 hs
        have := hok j hj
        rw [List.getD_eq_getElem?_getD, List.getElem?_eq_getElem hj, Bool.and_eq_true, inb_iff, inb_iff] at this
        exact this⟩
      refine Sem.exit ?_
      refine sthen_exit ?_
      refine sround_exit ?_
      refine block_exit ?_
      refine sthen_normal ?_
      refine Sem.seq ?_
      refine Sem.wk (Imp.trans (imp_sub (s' := ⟨([(0, 2, .cell .nilp), (0, 3, .cell (.int .i64 0)), (0, 4, .cell (.ptr 300 0)), (1, 0, .vec 2 46 l.length (spF l)), (300, 0, .cell (.rs 2 l.length false (spF l))), (300, 1, .cell (.mp 301)), (300, 2, .top)] ++ [(301, 0, .map 2 (mrow (sqN l l.length) (sqN l l.length).length))]) ++ famH rowL 1 2 (rowsF (sqN l l.length)) (sqN l l.length).length, 334, 50⟩) rfl (Nat.succ_pos _) (Nat.le_refl _) fun n o c' e => ?_) (freeze_all (by omega) ?_ (Nat.succ_pos _) _ (Nat.le_refl _))) ?_
      · rcases app_or e with e | e
        · have he := hget_in e
          simp only [List.mem_append, List.mem_cons, List.not_mem_nil, or_false, Prod.mk.injEq] at he
          rcases he with (⟨rfl, rfl, rfl⟩ | ⟨rfl, rfl, rfl⟩ | ⟨rfl, rfl, rfl⟩ | ⟨rfl, rfl, rfl⟩ | ⟨rfl, rfl, rfl⟩ | ⟨rfl, rfl, rfl⟩ | ⟨rfl, rfl, rfl⟩) | ⟨rfl, rfl, rfl⟩
          · exact ⟨_, rfl, rfl⟩
          · exact ⟨_, rfl, rfl⟩
          · exact ⟨_, rfl, rfl⟩
          · exact ⟨_, rfl, rfl, rfl, rfl, fun _ _ => rfl⟩
          · exact ⟨_, rfl, rfl⟩
          · exact ⟨_, rfl, rfl⟩
          · exact ⟨_, rfl, trivial⟩
          · refine ⟨_, rfl, rfl, by rw [mrow_len, vrow_len], fun i x hx => ?_⟩
            rw [mrow_all] at hx
            rw [hx, ren_id]
        · obtain ⟨j, hj, q⟩ := famH_of e
          have hm' := List.mem_singleton.1 (hget_in q)
          simp only [Prod.mk.injEq] at hm'
          obtain ⟨rfl, rfl, rfl⟩ := hm'
          refine ⟨_, app_get e fun x hx => ?_, rfl, rfl, rfl, fun _ _ => rfl⟩
          simp only [List.mem_cons, List.not_mem_nil, or_false] at hx
          rcases hx with rfl | rfl | rfl | rfl | rfl | rfl | rfl | rfl | rfl | rfl | rfl | rfl <;> simp <;> omega
      · intro x hx
        simp only [List.mem_cons, List.not_mem_nil, or_false] at hx
        rcases hx with rfl | rfl | rfl | rfl | rfl | rfl | rfl
        · exact ⟨.inl rfl, by decide, fun _ _ _ _ _ => rfl⟩
        · exact ⟨.inl rfl, by decide, fun _ _ _ _ _ => rfl⟩
        · exact ⟨.inl rfl, by decide, fun _ _ _ _ _ => rfl⟩
        · exact ⟨.inr (.inl rfl), by show (1 : Nat) ≠ 301; decide, fun _ _ _ _ _ => ⟨rfl, rfl, rfl, fun _ _ => rfl⟩⟩
        · exact ⟨.inr (.inr (Nat.le_refl _)), by show (300 : Nat) ≠ 301; decide, fun _ _ _ _ _ => rfl⟩
        · exact ⟨.inr (.inr (Nat.le_refl _)), by show (300 : Nat) ≠ 301; decide, fun _ _ _ _ _ => rfl⟩
        · exact ⟨.inr (.inr (Nat.le_refl _)), by show (300 : Nat) ≠ 301; decide, fun _ _ _ _ _ => trivial⟩
      rw [mrow_zero]
      refine Sem.of_evC hm T_ok hΓ rfl ?_
      refine evC_goL0 (dec := []) (ks := [(0, 2), (0, 3), (1, 0), (300, 0), (300, 1), (300, 2), (301, 0)]) (s' := ⟨[(0, 2, Cont.cell (AV.ptr 300 0)), (0, 3, Cont.cell (AV.int IntKind.i64 0)), (1, 0, Cont.vec 2 46 (List.length l) (spF l)), (300, 0, Cont.cell (AV.rs 2 (List.length l) false (spF l))), (300, 1, Cont.cell (AV.mp 301)), (300, 2, Cont.top), (301, 0, Cont.map 2 (qmap (sqN l (List.length l))))], 430, 50⟩) (by kernel_rfl) (by kernel_rfl) ?_
      refine sthen_normal ?_
      refine Sem.ret ?_
      refine post_ret ?_
      exact hG hmay
def sNewVG : Spec := fun args hr nb => match args with
  | [.vs j] => match hr j 0 with
    | some (.vec 2 46 n f) => some ⟨[0 < j, (∀ i, i < n → f i = spF (spL n f) i) ∧ n ≤ 300, mayB (spL n f) = true], .tup [.ptr nb 0, .int .i64 0], [(j, 0, .vec 2 46 n f)], icon nb (nb + 1) (spL n f)⟩
    | _ => none
  | _ => none
def sNewVB : Spec := fun args hr nb => match args with
  | [.vs j] => match hr j 0 with
    | some (.vec 2 46 n f) => some ⟨[0 < j, (∀ i, i < n → f i = spF (spL n f) i) ∧ n ≤ 300, mayB (spL n f) = false], .tup [.nilp, .int .i64 1], [(j, 0, .vec 2 46 n f)], []⟩
    | _ => none
  | _ => none
theorem newVG_ok : SpecOK Try.prog 18 sNewVG := by
  refine spec_atS (by kernel_rfl) T_ok sget_nil Try.func18 rfl rfl fun args hr nb out e => ?_
  unfold sNewVG at e
  split at e
  · rename_i j
    split at e
    · rename_i n f hj
      injection e with e; subst e
      refine ⟨fun x hx => by rw [List.mem_singleton.1 hx]; exact hj, true, [j], [.vs 1], [(1, 0, .vec 2 46 n (spF (spL n f)))], rfl, fun hs => ?_⟩
      have h0 := hs _ List.mem_cons_self
      obtain ⟨h1, h2⟩ := hs _ (List.mem_cons_of_mem _ List.mem_cons_self)
      have h3 := hs _ (List.mem_cons_of_mem _ (List.mem_cons_of_mem _ List.mem_cons_self))
      refine ⟨by simp, fun z hz => ?_, .cons _ _ _ _ (.name _ _ _ rfl) .nil, fun x hx => ?_, ?_⟩
      · rw [List.mem_singleton.1 hz]; exact ⟨h0, .vec 2 46 n f List.mem_cons_self⟩
      · rw [List.mem_singleton.1 hx]; exact ⟨0, j, _, rfl, rfl, List.mem_cons_self, rfl, rfl, rfl, fun i hi => h1 i hi⟩
      clear hs
      have hn := spL_len n f
      generalize spL n f = l at *
      subst hn
      refine new_semV h2 (fun h => by rw [h3] at h; cases h) fun _ => ?_
      exact ends_go [300, 301] (.tup [.ptr 2 0, .int .i64 0]) [(1, 0, .vec 2 46 l.length (spF l)), (2, 0, .cell (sps l)), (2, 1, .cell (.mp 3)), (2, 2, .top), (3, 0, .map 2 (qmap (sqN l l.length)))] rfl (by decide) rfl rfl (has_of _ rfl) rfl ⟨⟨_, rfl, rfl, rfl, rfl, fun _ _ => rfl⟩, ⟨_, rfl, rfl⟩, ⟨_, rfl, rfl⟩, ⟨_, rfl, trivial⟩, ⟨_, rfl, cw_qmap _⟩, trivial⟩ ⟨fun _ => ⟨2, _, rfl, rfl, rfl, sps_has l, rfl⟩, fun _ => ⟨2, _, rfl, rfl, rfl, .mp _ rfl, rfl⟩, fun _ => ⟨2, _, rfl, rfl, rfl, trivial⟩, fun _ => ⟨3, _, rfl, rfl, rfl, cf_qmap _⟩, trivial⟩ ⟨fun _ => .inr ⟨0, _, rfl, rfl, rfl, rfl, rfl, fun i hi => ⟨(spF_flat l i).has, h1 i hi⟩⟩, trivial⟩
    · cases e
  · cases e
theorem newVB_ok : SpecOK Try.prog 18 sNewVB := by
  refine spec_atS (by kernel_rfl) T_ok sget_nil Try.func18 rfl rfl fun args hr nb out e => ?_
  unfold sNewVB at e
  split at e
  · rename_i j
    split at e
    · rename_i n f hj
      injection e with e; subst e
      refine ⟨fun x hx => by rw [List.mem_singleton.1 hx]; exact hj, true, [j], [.vs 1], [(1, 0, .vec 2 46 n (spF (spL n f)))], rfl, fun hs => ?_⟩
      have h0 := hs _ List.mem_cons_self
      obtain ⟨h1, h2⟩ := hs _ (List.mem_cons_of_mem _ List.mem_cons_self)
      have h3 := hs _ (List.mem_cons_of_mem _ (List.mem_cons_of_mem _ List.mem_cons_self))
      refine ⟨by simp, fun z hz => ?_, .cons _ _ _ _ (.name _ _ _ rfl) .nil, fun x hx => ?_, ?_⟩
      · rw [List.mem_singleton.1 hz]; exact ⟨h0, .vec 2 46 n f List.mem_cons_self⟩
      · rw [List.mem_singleton.1 hx]; exact ⟨0, j, _, rfl, rfl, List.mem_cons_self, rfl, rfl, rfl, fun i hi => h1 i hi⟩
      clear hs
      have hn := spL_len n f
      generalize spL n f = l at *
      subst hn
      refine new_semV h2 (fun _ s h0 hv hN => ?_) fun h => by rw [h3] at h; cases h
      refine ends_go [] (.tup [.nilp, .int .i64 1]) [(1, 0, .vec 2 46 l.length (spF l))] ?_ List.nodup_nil hN rfl (flat_of _ rfl).has rfl ⟨⟨_, hv, rfl, rfl, rfl, fun i hi => rfl⟩, trivial⟩ trivial ⟨fun _ => .inr ⟨0, _, rfl, rfl, rfl, rfl, rfl, fun i hi => ⟨(spF_flat l i).has, h1 i hi⟩⟩, trivial⟩
      have : Nat.blt 1 s.nx = true := by simpa [Nat.blt_eq] using Nat.lt_of_succ_lt h0
      simp [this]
    · cases e
  · cases e
end Go.Eng.S12
