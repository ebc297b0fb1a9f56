/- Seat 12: is a row nil; slices.Clone, walked. -/
import Derived.Test.YtkcigkoocimnlaaEngX
import Derived.Test.YtkcigkoocimnlaaS12C
import Derived.Lib.LazyBuf
set_option linter.unusedSimpArgs false
set_option linter.unusedVariables false
namespace Go.Eng.S12
open Go.Proofs Go.IntWalk
set_option maxRecDepth 10000

/-- A row that is only read, held against nil: either answer; nil has no element. -/
theorem Sem.isNil {P : Program} {B : Nat} {Q : Exit → St → Prop} {s : St} {id a d1 d2 sz n t t' e : Nat} {full : Bool} {f : Nat → AV} {op1 op2 : Oper} (h1 : op1.op = .move (.tmp a)) (g1 : op1.guard = none) (e1 : op1.dst = some d1)
    (h2 : op2.op = .binOp .eql t (.tmp d1) (.const (.slice none 0 0)) t') (g2 : op2.guard = none) (e2 : op2.dst = some d2) (hd1 : d1 < s.N) (hd2 : d2 < s.N) (ht : P.underlying t = some (.slice e)) (ha : hget s.h 0 a = some (.cell (.rs sz n full f)))
    (next : ∀ q : Bool, (q = true → n = 0) → Q .normal ⟨(0, d2, .cell (.bool q)) :: (0, d1, .cell (.rs sz n full f)) :: s.h, s.nx, s.N⟩) : Sem P B (.region id #[op1, op2] false) Q s := by
  intro mine ρ ro ac w K mm H hK
  have S := H.ok.sim
  obtain ⟨u, hu1, hu2⟩ := H.ok.slots a _ ha
  have hu2' := hu2
  cases hu2 with
  | rs _ _ cap _ _ ad vals hn hm hfull hal hl hc =>
  have hev : ac.eval (.tmp a) = .slice ad n cap := by simp [Act.eval, hu1]
  have hq : ad.isNone = true → n = 0 := by
    intro hnone
    rcases Nat.eq_zero_or_pos n with h0 | h0
    · exact h0
    · obtain ⟨x, hx, _⟩ := hal h0
      rw [hx] at hnone; cases hnone
  have hd1' : d1 < ac.tmps.size := by rw [H.ok.size]; exact hd1
  refine wpIn_region_list ?_
  show wpListIn (fenceR none) mm P #[op1, op2] K [op1, op2] ac w
  refine wpListIn_plain g1 fun K1 hK1 => oper_in (fun c hc => by rw [h1] at hc; cases hc) (wp_value (x := .slice ad n cap) (w' := w) (by simp [execOp, h1, hev]) (hK1 _ _ ?_))
  have hev2 : (ac.put op1.dst (.slice ad n cap)).eval (.tmp d1) = .slice ad n cap := by
    rw [e1]; simp [Act.eval, Act.put, hd1']
  have hev3 : (ac.put op1.dst (.slice ad n cap)).eval (.const (.slice none 0 0)) = .slice none 0 0 := rfl
  refine wpListIn_plain g2 fun K2 hK2 => oper_in (fun c hc => by rw [h2] at hc; cases hc) (wp_value (x := .bool ad.isNone) (w' := w) ?_ (hK2 _ _ (wpListIn_nil ?_)))
  · have hb := run_eql_slice_nil (P := P) w t e ad n cap ht
    simp [execOp, h2, hev2, hev3, eqGuard, hb]
  · have k1 := H.ok.dst (d := some d1) (v := .rs sz n full f) (x := .slice ad n cap) (by simpa [dstOK, Nat.blt_eq] using hd1) hu2'
    have k2 := k1.dst (d := some d2) (v := .bool ad.isNone) (x := .bool ad.isNone) (by simpa [dstOK, Nat.blt_eq] using hd2) (.bool _)
    rw [e1, e2]
    exact hK _ _ ρ ro _ _ (next ad.isNone hq) (.refl _ _ _ _ _) ⟨k2, H.fresh, H.pos⟩
def sClone : Spec := fun args hr _ => match args with
  | [.rs 2 n false f] => some ⟨[(∀ i, i < n → f i = spF (spL n f) i) ∧ n ≤ 300], sps (spL n f), [], []⟩
  | _ => none
theorem clone_ok : SpecOK Try.prog 24 sClone := by
  have hm : Try.prog.follows .mixedOrders = true := by kernel_rfl
  have hΓ : SpecsOK Try.prog [] := sget_nil
  refine spec_ownS hm T_ok hΓ Try.func24 rfl rfl fun args hr nb out e => ?_
  unfold sClone at e
  split at e
  · rename_i n f
    injection e with e; subst e
    refine ⟨(fun _ h => nomatch h), true, [.rs 2 n false (spF (spL n f))], rfl, fun hs => ?_⟩
    obtain ⟨h1, h2⟩ := hs _ List.mem_cons_self
    refine ⟨.cons _ _ _ _ (.rs _ _ _ _ _ _ fun i hi => ⟨h1 i hi, (spF_flat _ i).has⟩) .nil, ?_⟩
    clear hs
    obtain ⟨l, hl⟩ : ∃ l, l = spL n f := ⟨_, rfl⟩
    have hn : l.length = n := by rw [hl, spL_len]
    rw [← hl]
    clear hl h1
    subst hn
    have fin : ∀ (sd : List Prop) (s : St) (h0 : 0 < s.nx) (hN : evRVs T s.h Try.f24.results.toList = some ([sps l], [])), Ends T Try.f24 [] nb ⟨sd, sps l, [], []⟩ true s := fun sd s h0 hN =>
      ends_go [] (sps l) [] (by have : Nat.blt 0 s.nx = true := by simpa [Nat.blt_eq] using h0
                                simp [this]) List.nodup_nil hN rfl (sps_has _) rfl trivial trivial (kept_nil _)
    refine Sem.seq ?_
    refine Sem.of_evC hm T_ok hΓ rfl ?_
    refine evC_goL0 (dec := []) (ks := [(0, 0), (0, 2)]) (s' := ⟨[(0, 0, Cont.cell (AV.rs 2 (List.length l) false (spF l))), (0, 2, Cont.cell AV.nils)], 33, 8⟩) (by kernel_rfl) (by kernel_rfl) ?_
    refine sthen_normal ?_
    refine Sem.seq ?_
    refine Sem.seq ?_
    refine Sem.isNil (e := 46) rfl rfl rfl rfl rfl rfl (Nat.le_of_ble_eq_true rfl) (Nat.le_of_ble_eq_true rfl) (by kernel_rfl) rfl fun q hq => ?_
    refine sthen_normal ?_
    refine sem_if (q := q) (by kernel_rfl) (fun hc => ?_) (fun hc => ?_)
    · have h0 : l = [] := List.eq_nil_of_length_eq_zero (hq hc)
      subst h0
      refine Sem.seq ?_
      refine Sem.of_evC hm T_ok hΓ rfl ?_
      refine evC_goL0 (dec := []) (ks := [(0, 0), (0, 2)]) (s' := ⟨[(0, 0, Cont.cell (AV.rs 2 0 false (spF []))), (0, 2, Cont.cell AV.nils)], 65, 8⟩) (by kernel_rfl) (by kernel_rfl) ?_
      refine sthen_normal ?_
      refine Sem.ret ?_
      refine sthen_ret ?_
      refine post_ret ?_
      refine ends_wk (.imp 0 2 _ (sps []) rfl ?_) ?_
      · exact vi_nil 2 false (spF [])
      skip
      exact fin _ _ (Nat.succ_pos _) rfl
    · refine Sem.skip ?_
      refine sthen_normal ?_
      refine Sem.seq ?_
      refine Sem.of_evC hm T_ok hΓ rfl ?_
      refine evC_goL (dec := []) (ks := [(0, 2), (97, 0)]) (ps := [((0 : Nat) + List.length l) * (16 : Nat) ≤ (140737488355328 : Nat), (0 : Nat) + List.length l ≤ maxLen, List.length l = (0 : Nat) ∨ (2 : Nat) = (2 : Nat), (2 : Nat) = (2 : Nat), (46 : Nat) = (46 : Nat)]) (s' := ⟨[(0, 2, Cont.cell (AV.vs 97)), (97, 0, Cont.vec 2 46 (0 + List.length l) (catF 0 (pget []) (spF l)))], 161, 8⟩) (by kernel_rfl) (by kernel_rfl) ?_ ?_
      · (simp only [All]; (repeat' apply And.intro) <;> (try intro _) <;> (try intro _) <;> (repeat' apply And.intro) <;> (try intro _) <;> (try intro _) <;> first | trivial | assumption | exact .inr trivial | exact .inr rfl | omega | rfl | exact ⟨_, rfl, rfl⟩ | exact ⟨rfl, rfl⟩ | exact ⟨fun _ => rfl, fun _ => rfl⟩ | (unfold maxLen; omega) | (unfold i64R; first | omega | decide) | decide)
      refine sthen_normal ?_
      refine Sem.ret ?_
      refine post_ret ?_
      refine ends_wk (s' := ⟨[(0, 2, .cell (.vs 1)), (1, 0, .vec 2 46 l.length (spF l))], 2, 8⟩) (wk_go [97] rfl (by decide) rfl rfl ⟨⟨_, rfl, rfl⟩, ⟨_, rfl, ⟨rfl, rfl, Nat.zero_add _, fun i hi => rfl⟩⟩, trivial⟩) ?_
      refine ends_wk (s' := ⟨[(0, 2, .cell (sps l))], 1, 8⟩) (.trans (.frz 1 2 46 l.length (spF l) (Nat.le_of_ble_eq_true rfl) rfl) (wk_go [] rfl (by decide) rfl rfl ⟨⟨_, rfl, rfl⟩, trivial⟩)) ?_
      exact fin _ _ (Nat.succ_pos _) rfl
  · cases e
/-- A function that answers what is only read. -/
theorem ends_rd {T : Tab} {fn : Func} {nb : Nat} {sd : List Prop} {vs : List AV} {v : AV} {rd : List (Nat × Nat × Cont)} {s : St} (h0 : 0 < s.nx) (hN : evRVs T s.h fn.results.toList = some (vs, [])) (hv : v = oneAV vs) (hh : Has true true v) (hr : ∀ π, v.ren π = v) : Ends T fn [] nb ⟨sd, v, rd, []⟩ true s := by
  subst hv
  exact ends_go [] (oneAV vs) [] (by have : Nat.blt 0 s.nx = true := by simpa [Nat.blt_eq] using h0
                                     simp [this]) List.nodup_nil hN (hr _).symm hh (hr _).symm trivial trivial (kept_nil _)
end Go.Eng.S12
