/- Seat 12: who is within a distance, walked. -/
import Derived.Test.YtkcigkoocimnlaaEngX
import Derived.Test.YtkcigkoocimnlaaEngSB
import Derived.Test.YtkcigkoocimnlaaS12G
set_option linter.unusedSimpArgs false
set_option linter.unusedVariables false
namespace Go.Eng.S12
open Go.Proofs Go.IntWalk
set_option maxRecDepth 10000

theorem ky_mono {a b : Int} (h : a ≤ b) : ky a ≤ ky b := by
  unfold ky
  rw [Int.fdiv_eq_ediv_of_nonneg _ (by decide), Int.fdiv_eq_ediv_of_nonneg _ (by decide)]
  exact Int.ediv_le_ediv (by decide) h
theorem ky_rng {a : Int} (h : -134217728 ≤ a ∧ a ≤ 134217728) : -512 ≤ ky a ∧ ky a ≤ 512 := by
  have h1 := ky_mono h.1
  have h2 := ky_mono h.2
  have e1 : ky (-134217728) = -512 := by decide
  have e2 : ky 134217728 = 512 := by decide
  omega
theorem sq_le {d r : Int} (hr : 0 ≤ r) (h : d * d ≤ r * r) : -r ≤ d ∧ d ≤ r := by
  have h1 : d * d = d.natAbs * d.natAbs := (Int.natAbs_mul_self).symm
  have h2 : r * r = r.natAbs * r.natAbs := (Int.natAbs_mul_self).symm
  have h3 : d.natAbs * d.natAbs ≤ r.natAbs * r.natAbs := by
    rw [h1, h2] at h
    exact_mod_cast h
  have h4 : d.natAbs ≤ r.natAbs := by
    rcases Nat.lt_or_ge r.natAbs d.natAbs with hlt | hge
    · have : r.natAbs * r.natAbs < d.natAbs * d.natAbs := Nat.mul_lt_mul_of_lt_of_le hlt (Nat.le_of_lt hlt) (by omega)
      omega
    · exact hge
  omega
theorem sq_nn (d : Int) : 0 ≤ d * d := by
  have h1 : d * d = d.natAbs * d.natAbs := (Int.natAbs_mul_self).symm
  rw [h1]
  exact_mod_cast Nat.zero_le _
theorem near_box {l : List Sp} {x y r : Int} {i : Nat} (hr : 0 ≤ r) (h : near l x y r i = true) : (ky (x - r) ≤ ky (l.getD i (0, 0)).1 ∧ ky (l.getD i (0, 0)).1 ≤ ky (x + r)) ∧ ky (y - r) ≤ ky (l.getD i (0, 0)).2 ∧ ky (l.getD i (0, 0)).2 ≤ ky (y + r) := by
  have h := of_decide_eq_true h
  unfold farI at h
  have a := sq_nn ((l.getD i (0, 0)).1 - x)
  have b := sq_nn ((l.getD i (0, 0)).2 - y)
  have c := sq_le hr (d := (l.getD i (0, 0)).1 - x) (by omega)
  have d := sq_le hr (d := (l.getD i (0, 0)).2 - y) (by omega)
  exact ⟨⟨ky_mono (by omega), ky_mono (by omega)⟩, ky_mono (by omega), ky_mono (by omega)⟩
def okW (x y r : Int) : Bool := inb x && inb y && inb r
def witO (l : List Sp) (x y r : Int) : List Int := bif okW x y r then wit l x y r else []
def keyS (ks : List Int) : AV := .agg [.int .i64 (ks.getD 0 0), .int .i64 (ks.getD 1 0)]
theorem keyS_ok (ks : List Int) (h : ks.length = 2) : keyOf (keyS ks) = some ks := by
  obtain ⟨a, b, rfl⟩ := two h
  rfl
/-- The squares that were looked at in a range. -/
def VM (l : List Sp) (bs seen : List Nat) (i : Nat) : Prop := ∃ (j b : Nat) (e : Sp × List Int), bs[j]? = some b ∧ b ∈ seen ∧ (sqN l l.length)[j]? = some e ∧ e.1 = (ky (l.getD i (0, 0)).1, ky (l.getD i (0, 0)).2)
theorem nodup_at {l : List Nat} (h : l.Nodup) {i j b : Nat} (hi : l[i]? = some b) (hj : l[j]? = some b) : i = j := by
  obtain ⟨h1, e1⟩ := List.getElem?_eq_some_iff.1 hi
  obtain ⟨h2, e2⟩ := List.getElem?_eq_some_iff.1 hj
  rcases Nat.lt_trichotomy i j with hlt | heq | hgt
  · exact absurd (e1.trans e2.symm) (List.pairwise_iff_getElem.1 h _ _ h1 h2 hlt)
  · exact heq
  · exact absurd (e2.trans e1.symm) (List.pairwise_iff_getElem.1 h _ _ h2 h1 hgt)
theorem nodup_le : ∀ {l m : List Nat}, l.Nodup → (∀ b ∈ l, b ∈ m) → l.length ≤ m.length
  | [], _, _, _ => Nat.zero_le _
  | a :: l, m, h, hs => by
    rw [List.nodup_cons] at h
    have ha := hs a List.mem_cons_self
    have h1 := nodup_le (m := m.erase a) h.2 fun b hb => (List.mem_erase_of_ne (fun e : b = a => h.1 (e ▸ hb))).2 (hs b (List.mem_cons_of_mem _ hb))
    rw [List.length_erase_of_mem ha] at h1
    have := List.length_pos_of_mem ha
    rw [List.length_cons]
    omega
structure MI (l : List Sp) (x y r : Int) (bs seen : List Nat) (M : List Int) : Prop where
  nd : seen.Nodup
  sub : ∀ b ∈ seen, b ∈ bs
  inv : Inv l x y r (VM l bs seen) M
theorem MI.start (l : List Sp) (x y r : Int) (bs : List Nat) : MI l x y r bs [] [] :=
  ⟨List.nodup_nil, (fun _ h => nomatch h), Inv.start fun i _ _ ⟨j, b, e, _, h, _⟩ => nomatch h⟩
theorem MI.step {l : List Sp} {x y r : Int} {bs seen : List Nat} {M : List Int} (I : MI l x y r bs seen M) (hnd : bs.Nodup) {j b : Nat} {e : Sp × List Int} (hb : bs[j]? = some b) (hns : ¬ b ∈ seen) (he : (sqN l l.length)[j]? = some e) :
    MI l x y r bs (seen ++ [b]) (M ++ sel l x y r e.2) := by
  refine ⟨?_, fun c hc => ?_, ?_⟩
  · rw [List.nodup_append]
    exact ⟨I.nd, by simp, fun a ha c hc e => by rw [List.mem_singleton.1 hc] at e; exact hns (e ▸ ha)⟩
  · rcases List.mem_append.1 hc with hc | hc
    · exact I.sub c hc
    · rw [List.mem_singleton.1 hc]; exact List.mem_iff_getElem?.2 ⟨j, hb⟩
  · rw [sqN_at he]
    refine I.inv.step (fun i _ _ hk ⟨j', b', e', h1, h2, h3, h4⟩ => ?_) fun i _ _ => ⟨fun ⟨j', b', e', h1, h2, h3, h4⟩ => ?_, fun h => ?_⟩
    · have : e.1 = e'.1 := by rw [h4]; exact Prod.ext hk.1.symm hk.2.symm
      have := (sqN_KN l l.length).same he h3 this
      subst this
      rw [hb] at h1
      injection h1 with h1
      subst h1
      exact hns h2
    · rcases List.mem_append.1 h2 with h2 | h2
      · exact .inl ⟨j', b', e', h1, h2, h3, h4⟩
      · rw [List.mem_singleton.1 h2] at h1
        have := nodup_at hnd h1 hb
        subst this
        rw [he] at h3
        injection h3 with h3
        subst h3
        right
        rw [h4]
        exact ⟨rfl, rfl⟩
    · rcases h with ⟨j', b', e', h1, h2, h3, h4⟩ | h
      · exact ⟨j', b', e', h1, List.mem_append_left _ h2, h3, h4⟩
      · exact ⟨j, b, e, hb, List.mem_append_right _ List.mem_cons_self, he, Prod.ext h.1.symm h.2.symm⟩
theorem MI.done {l : List Sp} {x y r : Int} {bs seen : List Nat} {M : List Int} (I : MI l x y r bs seen M) (hl : bs.length = (sqN l l.length).length) (hall : ∀ b ∈ bs, b ∈ seen) : sortI M = wit l x y r :=
  I.inv.done fun i hi _ => by
    obtain ⟨j, e, h1, h2⟩ := sqN_has hi
    have hj : j < bs.length := by rw [hl]; exact (List.getElem?_eq_some_iff.1 h1).1
    exact ⟨j, bs[j], e, List.getElem?_eq_getElem hj, hall _ (List.getElem_mem hj), h1, h2⟩
theorem MI.less {l : List Sp} {x y r : Int} {bs seen : List Nat} {M : List Int} (I : MI l x y r bs seen M) : seen.length ≤ bs.length := nodup_le I.nd I.sub
/-- The squares that were looked at, line by line. -/
def VG (l : List Sp) (J I : Int) (i : Nat) : Prop := ky (l.getD i (0, 0)).2 < J ∨ (ky (l.getD i (0, 0)).2 = J ∧ ky (l.getD i (0, 0)).1 < I)
def VR (l : List Sp) (J : Int) (i : Nat) : Prop := ky (l.getD i (0, 0)).2 < J
def sWithin : Spec := fun args hr _ => match args with
  | [v, .int .i64 x, .int .i64 y, .int .i64 r] => withIdx hr v fun n b l s rd => some ⟨[s], .tup [is1 (witO l x y r), .int .i64 (errF (okW x y r))], rd, []⟩
  | _ => none
/-- What is looked up of a square. -/
structure LookV (v : AV) (L : List Int) : Prop where
  form : (∃ b, v = .rs 1 (rsn v) b (rsf v)) ∨ v = .nils
  len : rsn v = L.length
  get : ∀ i, i < rsn v → rsf v i = lst L i
theorem look_v (l : List Sp) (i j : Int) : LookV ((mget (qmap (sqN l l.length)) [i, j]).getD .nils) (sqL l l.length i j) := by
  rw [mget_qmap, ← sqN_get]
  cases kget (sqN l l.length) i j with
  | none => exact ⟨.inr rfl, rfl, fun i hi => absurd hi (Nat.not_lt_zero _)⟩
  | some L => exact ⟨.inl ⟨false, rfl⟩, rfl, fun i hi => rfl⟩
theorem LookV.ints {v : AV} {L : List Int} (h : LookV v L) : intsL (rsn v) (rsf v) = L := by
  refine List.ext_getElem (by rw [intsL_len, h.len]) fun i h1 h2 => ?_
  rw [intsL_len] at h1
  have := intsL_get (rsn v) (rsf v) h1
  rw [List.getElem?_eq_getElem (by rw [intsL_len]; exact h1), h.get i h1] at this
  simp only [lst, iv, List.getD_eq_getElem?_getD, List.getElem?_eq_getElem h2, Option.getD_some, Option.some.injEq] at this
  exact this
theorem res_has (W : List Int) (k : IntKind) (n : Int) : Has true true (AV.tup [AV.rs 1 W.length false (lst W), AV.int k n]) := .tup _ fun v hv => by
  rcases List.mem_cons.1 hv with rfl | hv
  · exact is1_has W
  · rw [List.mem_singleton.1 hv]; exact .int _ _
theorem okW_not {x y r : Int} (h : (!(inb x && inb y && inb r)) = true) : okW x y r = false := by
  unfold okW
  revert h
  cases inb x && inb y && inb r <;> simp
theorem scut_imp {ι : Type} {B : Nat} {S : ι → St} {Q : Exit → St → Prop} {s s' : St} (h : Imp B s s') (k : SCut B S Q .normal s') : SCut B S Q .normal s := by
  obtain ⟨i, hi⟩ := k
  exact ⟨i, h.trans hi⟩
theorem within_ok : SpecOK Try.prog 10 sWithin := by
  have hm : Try.prog.follows .mixedOrders = true := by kernel_rfl
  have hΓ : SpecsOK Try.prog [(20, sMay), (21, sLook), (23, sSort)] := sget_cons may_ok (sget_cons look_ok (sget_cons sort_ok sget_nil))
  refine spec_atS hm T_ok hΓ Try.func10 rfl rfl fun args hr nb out e => ?_
  unfold sWithin at e
  split at e
  · rename_i v x y r
    obtain ⟨n, b, l, s, rd, rfl, e, hrd, hs0, hs1⟩ := idx_open e
    injection e with e; subst e
    refine ⟨hrd, true, [n, b], [.ptr 1 0, .int .i64 x, .int .i64 y, .int .i64 r], icon 1 2 l, rfl, fun hs => ?_⟩
    obtain ⟨hl, k1, k2, k3⟩ := hs0 (hs _ List.mem_cons_self)
    have k4 := hs1 (hs _ List.mem_cons_self) [] nb
    refine ⟨k1, fun z hz => ⟨(k2 z hz).1, (k2 z hz).2 _ fun x hx => hx⟩, .cons _ _ _ _ (.name _ _ _ rfl) (.cons _ _ _ _ (.same _ _ (.int _ _)) (.cons _ _ _ _ (.same _ _ (.int _ _)) (.cons _ _ _ _ (.same _ _ (.int _ _)) .nil))), k3 _ _, ?_⟩
    clear hs hs0 hs1 k1 k2 k3 hrd
    have hl256 := hl.1
    unfold icon sps
    refine Sem.seq ?_
    refine Sem.of_evC hm T_ok hΓ rfl ?_
    refine evC_goL0 (dec := []) (ks := [(0, 4), (0, 5), (0, 6), (0, 7), (0, 8), (0, 9), (1, 0), (1, 1), (1, 2), (2, 0), (3, 0), (3, 1), (35, 0), (35, 1), (67, 0), (67, 1), (99, 0), (99, 1)]) (s' := ⟨[(0, 4, Cont.cell (AV.ptr 3 0)), (0, 5, Cont.cell (AV.ptr 35 0)), (0, 6, Cont.cell (AV.ptr 67 0)), (0, 7, Cont.cell (AV.ptr 99 0)), (0, 8, Cont.cell AV.nils), (0, 9, Cont.cell (AV.int IntKind.i64 0)), (1, 0, Cont.cell (AV.rs 2 (List.length l) false (spF l))), (1, 1, Cont.cell (AV.mp 2)), (1, 2, Cont.top), (2, 0, Cont.map 2 (qmap (sqN l (List.length l)))), (3, 0, Cont.cell (AV.ptr 1 0)), (3, 1, Cont.top), (35, 0, Cont.cell (AV.int IntKind.i64 x)), (35, 1, Cont.top), (67, 0, Cont.cell (AV.int IntKind.i64 y)), (67, 1, Cont.top), (99, 0, Cont.cell (AV.int IntKind.i64 r)), (99, 1, Cont.top)], 195, 75⟩) (by kernel_rfl) (by kernel_rfl) ?_
    refine sthen_normal ?_
    refine Sem.seq ?_
    refine Sem.seq ?_
    refine Sem.of_evC hm T_ok hΓ rfl ?_
    refine evC_goL (dec := []) (ks := [(0, 4), (0, 5), (0, 6), (0, 7), (0, 8), (0, 9), (0, 21), (1, 0), (1, 1), (1, 2), (2, 0), (3, 0), (3, 1), (35, 0), (35, 1), (67, 0), (67, 1), (99, 0), (99, 1)]) (ps := [(∀ (i : Nat), i < (3 : Nat) → pget [((0 : Nat), AV.int IntKind.i64 x), ((1 : Nat), AV.int IntKind.i64 y), ((2 : Nat), AV.int IntKind.i64 r)] i = c1 (pget [((0 : Nat), AV.int IntKind.i64 x), ((1 : Nat), AV.int IntKind.i64 y), ((2 : Nat), AV.int IntKind.i64 r)]) i) ∧ (3 : Nat) ≤ (3 : Nat)]) (s' := ⟨[(0, 4, Cont.cell (AV.ptr 3 0)), (0, 5, Cont.cell (AV.ptr 35 0)), (0, 6, Cont.cell (AV.ptr 67 0)), (0, 7, Cont.cell (AV.ptr 99 0)), (0, 8, Cont.cell AV.nils), (0, 9, Cont.cell (AV.int IntKind.i64 0)), (0, 21, Cont.cell (AV.bool !allIn 3 (pget [(0, AV.int IntKind.i64 x), (1, AV.int IntKind.i64 y), (2, AV.int IntKind.i64 r)]))), (1, 0, Cont.cell (AV.rs 2 (List.length l) false (spF l))), (1, 1, Cont.cell (AV.mp 2)), (1, 2, Cont.top), (2, 0, Cont.map 2 (qmap (sqN l (List.length l)))), (3, 0, Cont.cell (AV.ptr 1 0)), (3, 1, Cont.top), (35, 0, Cont.cell (AV.int IntKind.i64 x)), (35, 1, Cont.top), (67, 0, Cont.cell (AV.int IntKind.i64 y)), (67, 1, Cont.top), (99, 0, Cont.cell (AV.int IntKind.i64 r)), (99, 1, Cont.top)], 387, 75⟩) (by kernel_rfl) (by kernel_rfl) ?_ ?_
    · exact pg3 x y r
    rw [allIn3]
    refine sthen_normal ?_
    refine sem_if (q := !(inb x && inb y && inb r)) (by kernel_rfl) (fun hc => ?_) (fun hc => ?_)
    · have hq : okW x y r = false := okW_not hc
      have hw : witO l x y r = [] ∧ errF (okW x y r) = 1 := by unfold witO; rw [hq]; exact ⟨rfl, rfl⟩
      refine Sem.seq ?_
      refine Sem.of_evC hm T_ok hΓ rfl ?_
      refine evC_goL0 (dec := []) (ks := [(0, 4), (0, 5), (0, 6), (0, 7), (0, 8), (0, 9), (1, 0), (1, 1), (1, 2), (2, 0), (3, 0), (3, 1), (35, 0), (35, 1), (67, 0), (67, 1), (99, 0), (99, 1)]) (s' := ⟨[(0, 4, Cont.cell (AV.ptr 3 0)), (0, 5, Cont.cell (AV.ptr 35 0)), (0, 6, Cont.cell (AV.ptr 67 0)), (0, 7, Cont.cell (AV.ptr 99 0)), (0, 8, Cont.cell AV.nils), (0, 9, Cont.cell (AV.int IntKind.i64 1)), (1, 0, Cont.cell (AV.rs 2 (List.length l) false (spF l))), (1, 1, Cont.cell (AV.mp 2)), (1, 2, Cont.top), (2, 0, Cont.map 2 (qmap (sqN l (List.length l)))), (3, 0, Cont.cell (AV.ptr 1 0)), (3, 1, Cont.top), (35, 0, Cont.cell (AV.int IntKind.i64 x)), (35, 1, Cont.top), (67, 0, Cont.cell (AV.int IntKind.i64 y)), (67, 1, Cont.top), (99, 0, Cont.cell (AV.int IntKind.i64 r)), (99, 1, Cont.top)], 451, 75⟩) (by kernel_rfl) (by kernel_rfl) ?_
      refine sthen_normal ?_
      refine Sem.ret ?_
      refine sthen_ret ?_
      refine post_ret ?_
      refine ends_wk (.imp 0 8 _ (is1 (witO l x y r)) rfl ?_) ?_
      · rw [hw.1]; exact vi_nil 1 false (lst [])
      skip
      rw [hw.2]
      refine ends_go [] (AV.tup [AV.rs 1 (List.length (witO l x y r)) false (lst (witO l x y r)), AV.int IntKind.i64 1]) [(1, 0, Cont.cell (AV.rs 2 (List.length l) false (spF l))), (1, 1, Cont.cell (AV.mp 2)), (1, 2, Cont.top), (2, 0, Cont.map 2 (qmap (sqN l (List.length l))))] rfl (by decide) rfl rfl (?_) rfl ⟨⟨_, rfl, rfl⟩, ⟨_, rfl, rfl⟩, ⟨_, rfl, trivial⟩, ⟨_, rfl, Go.Eng.S12.cw_qmap _⟩, trivial⟩ trivial ?_
      · exact res_has _ _ _
      exact k4 _ _ (by simp [icon, hget, sps])
    · have hq : okW x y r = true := by simpa [okW] using hc
      have hin : InB x ∧ InB y ∧ InB r := by simpa [okW, inb_iff, and_assoc] using hq
      obtain ⟨hx, hy, hr'⟩ := hin
      have hw : witO l x y r = wit l x y r ∧ errF (okW x y r) = 0 := by unfold witO; rw [hq]; exact ⟨rfl, rfl⟩
      clear hc
      refine Sem.skip ?_
      refine sthen_normal ?_
      refine Sem.seq ?_
      refine Sem.of_evC hm T_ok hΓ rfl ?_
      refine evC_goL0 (dec := []) (ks := [(0, 4), (0, 5), (0, 6), (0, 7), (0, 8), (0, 9), (0, 10), (1, 0), (1, 1), (1, 2), (2, 0), (3, 0), (3, 1), (35, 0), (35, 1), (67, 0), (67, 1), (99, 0), (99, 1), (387, 0), (387, 1)]) (s' := ⟨[(0, 4, Cont.cell (AV.ptr 3 0)), (0, 5, Cont.cell (AV.ptr 35 0)), (0, 6, Cont.cell (AV.ptr 67 0)), (0, 7, Cont.cell (AV.ptr 99 0)), (0, 8, Cont.cell AV.nils), (0, 9, Cont.cell (AV.int IntKind.i64 0)), (0, 10, Cont.cell (AV.ptr 387 0)), (1, 0, Cont.cell (AV.rs 2 (List.length l) false (spF l))), (1, 1, Cont.cell (AV.mp 2)), (1, 2, Cont.top), (2, 0, Cont.map 2 (qmap (sqN l (List.length l)))), (3, 0, Cont.cell (AV.ptr 1 0)), (3, 1, Cont.top), (35, 0, Cont.cell (AV.int IntKind.i64 x)), (35, 1, Cont.top), (67, 0, Cont.cell (AV.int IntKind.i64 y)), (67, 1, Cont.top), (99, 0, Cont.cell (AV.int IntKind.i64 r)), (99, 1, Cont.top), (387, 0, Cont.cell AV.nils), (387, 1, Cont.top)], 419, 75⟩) (by kernel_rfl) (by kernel_rfl) ?_
      refine sthen_normal ?_
      refine Sem.seq ?_
      refine Sem.of_evC hm T_ok hΓ rfl ?_
      refine evC_goL0 (dec := []) (ks := [(0, 4), (0, 5), (0, 6), (0, 7), (0, 8), (0, 9), (0, 10), (0, 11), (1, 0), (1, 1), (1, 2), (2, 0), (3, 0), (3, 1), (35, 0), (35, 1), (67, 0), (67, 1), (99, 0), (99, 1), (387, 0), (387, 1)]) (s' := ⟨[(0, 4, Cont.cell (AV.ptr 3 0)), (0, 5, Cont.cell (AV.ptr 35 0)), (0, 6, Cont.cell (AV.ptr 67 0)), (0, 7, Cont.cell (AV.ptr 99 0)), (0, 8, Cont.cell AV.nils), (0, 9, Cont.cell (AV.int IntKind.i64 0)), (0, 10, Cont.cell (AV.ptr 387 0)), (0, 11, Cont.cell (AV.fn 21 [AV.ptr 3 0, AV.ptr 35 0, AV.ptr 67 0, AV.ptr 99 0, AV.ptr 387 0])), (1, 0, Cont.cell (AV.rs 2 (List.length l) false (spF l))), (1, 1, Cont.cell (AV.mp 2)), (1, 2, Cont.top), (2, 0, Cont.map 2 (qmap (sqN l (List.length l)))), (3, 0, Cont.cell (AV.ptr 1 0)), (3, 1, Cont.top), (35, 0, Cont.cell (AV.int IntKind.i64 x)), (35, 1, Cont.top), (67, 0, Cont.cell (AV.int IntKind.i64 y)), (67, 1, Cont.top), (99, 0, Cont.cell (AV.int IntKind.i64 r)), (99, 1, Cont.top), (387, 0, Cont.cell AV.nils), (387, 1, Cont.top)], 483, 75⟩) (by kernel_rfl) (by kernel_rfl) ?_
      refine sthen_normal ?_
      refine Sem.seq ?_
      refine Sem.seq ?_
      refine Sem.of_evC hm T_ok hΓ rfl ?_
      refine evC_wk _ (.nil 387 0 1 3 (fun _ => .nils) (Nat.le_of_ble_eq_true rfl) rfl) ?_
      refine evC_goL (dec := []) (ks := [(0, 4), (0, 5), (0, 6), (0, 7), (0, 8), (0, 9), (0, 10), (0, 11), (0, 25), (1, 0), (1, 1), (1, 2), (2, 0), (3, 0), (3, 1), (35, 0), (35, 1), (67, 0), (67, 1), (99, 0), (99, 1), (387, 0), (387, 1), (483, 0)]) (ps := [(0 : Int) ≤ (18 : Int)]) (s' := ⟨[(0, 4, Cont.cell (AV.ptr 3 0)), (0, 5, Cont.cell (AV.ptr 35 0)), (0, 6, Cont.cell (AV.ptr 67 0)), (0, 7, Cont.cell (AV.ptr 99 0)), (0, 8, Cont.cell AV.nils), (0, 9, Cont.cell (AV.int IntKind.i64 0)), (0, 10, Cont.cell (AV.ptr 387 0)), (0, 11, Cont.cell (AV.fn 21 [AV.ptr 3 0, AV.ptr 35 0, AV.ptr 67 0, AV.ptr 99 0, AV.ptr 387 0])), (0, 25, Cont.cell (AV.bool (decide (Int.fdiv r (2 ^ min (Int.toNat 18) (IntKind.bits IntKind.i64)) > 8)))), (1, 0, Cont.cell (AV.rs 2 (List.length l) false (spF l))), (1, 1, Cont.cell (AV.mp 2)), (1, 2, Cont.top), (2, 0, Cont.map 2 (qmap (sqN l (List.length l)))), (3, 0, Cont.cell (AV.ptr 1 0)), (3, 1, Cont.top), (35, 0, Cont.cell (AV.int IntKind.i64 x)), (35, 1, Cont.top), (67, 0, Cont.cell (AV.int IntKind.i64 y)), (67, 1, Cont.top), (99, 0, Cont.cell (AV.int IntKind.i64 r)), (99, 1, Cont.top), (387, 0, Cont.cell (AV.vs 483)), (387, 1, Cont.top), (483, 0, Cont.vec 1 3 0 fun x => AV.nils)], 580, 75⟩) (by kernel_rfl) (by kernel_rfl) ?_ ?_
      · show (0 : Int) ≤ 18; decide
      refine sthen_normal ?_
      refine sem_cutS (ι := { M : List Int // M.length ≤ 300 ∧ sortI M = wit l x y r }) (fun M => ⟨[(0, 8, .cell .nils), (0, 9, .cell (.int .i64 0)), (0, 10, .cell (.ptr 3 0)), (1, 0, .cell (.rs 2 l.length false (spF l))), (1, 1, .cell (.mp 2)), (1, 2, .top), (2, 0, .map 2 (qmap (sqN l l.length))), (3, 0, .cell (.vs 4)), (3, 1, .top), (4, 0, .vec 1 3 M.1.length (lst M.1))], 5, 75⟩) ?_ ?_
      · refine sem_if (q := decide (Int.fdiv r (2 ^ min (Int.toNat 18) (IntKind.bits IntKind.i64)) > 8)) (by kernel_rfl) (fun hc => ?_) (fun hc => ?_)
        · clear hc
          refine Sem.stamps (m := 2) (ar := 2) (es := qmap (sqN l l.length)) (by decide) rfl fun bs ck hlb hnd hck hka => ?_
          refine Sem.seq ?_
          refine Sem.of_evC hm T_ok hΓ rfl ?_
          refine evC_goL0 (dec := []) (ks := [(0, 8), (0, 9), (0, 10), (0, 11), (0, 30), (1, 0), (1, 1), (1, 2), (2, 0), (3, 0), (3, 1), (35, 0), (35, 1), (67, 0), (67, 1), (99, 0), (99, 1), (387, 0), (387, 1), (483, 0), (708, 0)]) (s' := ⟨[(0, 8, Cont.cell AV.nils), (0, 9, Cont.cell (AV.int IntKind.i64 0)), (0, 10, Cont.cell (AV.ptr 387 0)), (0, 11, Cont.cell (AV.fn 21 [AV.ptr 3 0, AV.ptr 35 0, AV.ptr 67 0, AV.ptr 99 0, AV.ptr 387 0])), (0, 30, Cont.cell (AV.it 708)), (1, 0, Cont.cell (AV.rs 2 (List.length l) false (spF l))), (1, 1, Cont.cell (AV.mp 2)), (1, 2, Cont.top), (2, 0, Cont.maps 2 (qmap (sqN l (List.length l))) bs ck), (3, 0, Cont.cell (AV.ptr 1 0)), (3, 1, Cont.top), (35, 0, Cont.cell (AV.int IntKind.i64 x)), (35, 1, Cont.top), (67, 0, Cont.cell (AV.int IntKind.i64 y)), (67, 1, Cont.top), (99, 0, Cont.cell (AV.int IntKind.i64 r)), (99, 1, Cont.top), (387, 0, Cont.cell (AV.vs 483)), (387, 1, Cont.top), (483, 0, Cont.vec 1 3 0 fun x => AV.nils), (708, 0, Cont.iter 2 ck [] ck AV.nilp AV.nilp)], 740, 75⟩) (by kernel_rfl) (by kernel_rfl) ?_
          refine sthen_normal ?_
          refine Sem.block ?_
          refine Sem.loop (ι := { q : List Nat × List Int × AV × AV // MI l x y r bs q.1 q.2.1 }) (fun q => ⟨[(0, 8, Cont.cell AV.nils), (0, 9, Cont.cell (AV.int IntKind.i64 0)), (0, 10, Cont.cell (AV.ptr 3 0)), (0, 11, Cont.cell (AV.fn 21 [AV.ptr 4 0, AV.ptr 5 0, AV.ptr 6 0, AV.ptr 7 0, AV.ptr 3 0])), (0, 30, Cont.cell (AV.it 8)), (1, 0, Cont.cell (AV.rs 2 (List.length l) false (spF l))), (1, 1, Cont.cell (AV.mp 2)), (1, 2, Cont.top), (2, 0, Cont.maps 2 (qmap (sqN l (List.length l))) bs ck), (3, 0, Cont.cell (AV.vs 9)), (3, 1, Cont.top), (4, 0, Cont.cell (AV.ptr 1 0)), (4, 1, Cont.top), (5, 0, Cont.cell (AV.int IntKind.i64 x)), (5, 1, Cont.top), (6, 0, Cont.cell (AV.int IntKind.i64 y)), (6, 1, Cont.top), (7, 0, Cont.cell (AV.int IntKind.i64 r)), (7, 1, Cont.top), (8, 0, .iter 2 ck q.1.1 ck q.1.2.2.1 q.1.2.2.2), (9, 0, .vec 1 3 q.1.2.1.length (lst q.1.2.1))], 10, 75⟩) (fun q => bs.length - q.1.1.length) ⟨([], [], .nilp, .nilp), MI.start l x y r bs⟩ (Wk.imp' (wk_go [387, 3, 35, 67, 99, 708, 483] rfl (by decide) rfl rfl ⟨⟨_, rfl, rfl⟩, ⟨_, rfl, rfl⟩, ⟨_, rfl, rfl⟩, ⟨_, rfl, rfl⟩, ⟨_, rfl, rfl⟩, ⟨_, rfl, rfl⟩, ⟨_, rfl, rfl⟩, ⟨_, rfl, trivial⟩, ⟨_, rfl, Go.Eng.S12.cw_qmaps _⟩, ⟨_, rfl, rfl⟩, ⟨_, rfl, trivial⟩, ⟨_, rfl, rfl⟩, ⟨_, rfl, trivial⟩, ⟨_, rfl, rfl⟩, ⟨_, rfl, trivial⟩, ⟨_, rfl, rfl⟩, ⟨_, rfl, trivial⟩, ⟨_, rfl, rfl⟩, ⟨_, rfl, trivial⟩, ⟨_, rfl, ⟨rfl, rfl, rfl, rfl⟩⟩, ⟨_, rfl, ⟨rfl, rfl, rfl, fun _ hi => absurd hi (Nat.not_lt_zero _)⟩⟩, trivial⟩)) ?_
          rintro ⟨⟨seen, M, kv, v⟩, hI⟩
          have hI : MI l x y r bs seen M := hI
          have hMl : M.length ≤ l.length := hI.inv.len
          refine Sem.seq ?_
          refine Sem.next keyS keyS_ok rfl rfl rfl rfl rfl rfl (Nat.le_of_ble_eq_true rfl) (Nat.le_of_ble_eq_true rfl) rfl rfl rfl hck (Nat.le_refl _) (fun hall => ?_) (fun j ks v b he hb hns hk => ?_)
          · refine sthen_normal ?_
            refine Sem.seq ?_
            refine sem_if (q := false) (by kernel_rfl) (fun hc => ?_) (fun hc => ?_)
            · cases hc
            refine Sem.exit ?_
            refine sthen_exit ?_
            refine sround_exit ?_
            refine block_exit ?_
            refine scut_imp (Imp.unstamp (m := 2) (by decide) rfl) ?_
            refine scut_normal (⟨M, by omega, hI.done (by rw [hlb]; simp [qmap]) hall⟩) (Wk.imp' (wk_go [3, 9] rfl (by decide) rfl rfl ⟨⟨_, rfl, rfl⟩, ⟨_, rfl, rfl⟩, ⟨_, rfl, rfl⟩, ⟨_, rfl, rfl⟩, ⟨_, rfl, rfl⟩, ⟨_, rfl, trivial⟩, ⟨_, rfl, Go.Eng.S12.cw_qmap _⟩, ⟨_, rfl, rfl⟩, ⟨_, rfl, trivial⟩, ⟨_, rfl, ⟨rfl, rfl, rfl, fun _ _ => rfl⟩⟩, trivial⟩))
          · obtain ⟨e, hye, rfl, rfl⟩ : ∃ e : Sp × List Int, (sqN l l.length)[j]? = some e ∧ ks = [e.1.1, e.1.2] ∧ v = is1 e.2 := by
              simp only [qmap, List.getElem?_map, Option.map_eq_some_iff, Prod.mk.injEq] at he
              obtain ⟨y, h1, h2, h3⟩ := he
              exact ⟨y, h1, h2.symm, h3.symm⟩
            have hrg : ∀ i, i < e.2.length → 0 ≤ e.2.getD i 0 ∧ e.2.getD i 0 < l.length := by
              rw [sqN_at hye]
              exact fun i hi => sqL_rng hi
            have hel : e.2.length ≤ l.length := by
              rw [sqN_at hye]
              exact sqL_len
            refine sthen_normal ?_
            refine Sem.seq ?_
            refine sem_if (q := true) (by kernel_rfl) (fun hc => ?_) (fun hc => ?_)
            rotate_left
            · cases hc
            refine Sem.skip ?_
            refine sthen_normal ?_
            refine Sem.block ?_
            refine Sem.seq ?_
            refine Sem.of_evC hm T_ok hΓ rfl ?_
            refine evC_goL (dec := []) (ks := [(0, 8), (0, 9), (0, 10), (0, 11), (0, 13), (0, 30), (1, 0), (1, 1), (1, 2), (2, 0), (3, 0), (3, 1), (4, 0), (4, 1), (5, 0), (5, 1), (6, 0), (6, 1), (7, 0), (7, 1), (8, 0), (9, 0)]) (ps := [EntryOK (keyS [Prod.fst (Prod.fst e), Prod.snd (Prod.fst e)]) (is1 (Prod.snd e)) (seen ++ [b]) bs (qmap (sqN l (List.length l))), ck = ck, List.Nodup bs]) (s' := ⟨[(0, 8, Cont.cell AV.nils), (0, 9, Cont.cell (AV.int IntKind.i64 0)), (0, 10, Cont.cell (AV.ptr 3 0)), (0, 11, Cont.cell (AV.fn 21 [AV.ptr 4 0, AV.ptr 5 0, AV.ptr 6 0, AV.ptr 7 0, AV.ptr 3 0])), (0, 13, Cont.cell (AV.rs 1 (List.length (Prod.snd e)) false (lst (Prod.snd e)))), (0, 30, Cont.cell (AV.it 8)), (1, 0, Cont.cell (AV.rs 2 (List.length l) false (spF l))), (1, 1, Cont.cell (AV.mp 2)), (1, 2, Cont.top), (2, 0, Cont.maps 2 (qmap (sqN l (List.length l))) bs ck), (3, 0, Cont.cell (AV.vs 9)), (3, 1, Cont.top), (4, 0, Cont.cell (AV.ptr 1 0)), (4, 1, Cont.top), (5, 0, Cont.cell (AV.int IntKind.i64 x)), (5, 1, Cont.top), (6, 0, Cont.cell (AV.int IntKind.i64 y)), (6, 1, Cont.top), (7, 0, Cont.cell (AV.int IntKind.i64 r)), (7, 1, Cont.top), (8, 0, Cont.iter 2 ck (seen ++ [b]) ck (AV.agg [AV.int IntKind.i64 (List.getD [Prod.fst (Prod.fst e), Prod.snd (Prod.fst e)] 0 0), AV.int IntKind.i64 (List.getD [Prod.fst (Prod.fst e), Prod.snd (Prod.fst e)] 1 0)]) (AV.rs 1 (List.length (Prod.snd e)) false (lst (Prod.snd e)))), (9, 0, Cont.vec 1 3 (List.length M) (lst M))], 106, 75⟩) (by kernel_rfl) (by kernel_rfl) ?_ ?_
            · exact ⟨⟨j, _, rfl, he, by rw [hb]; simp⟩, rfl, hnd⟩
            refine sthen_normal ?_
            refine Sem.of_evC hm T_ok hΓ rfl ?_
            refine evC_goL (dec := []) (ks := [(0, 8), (0, 9), (0, 10), (0, 11), (0, 30), (1, 0), (1, 1), (1, 2), (2, 0), (3, 0), (3, 1), (4, 0), (4, 1), (5, 0), (5, 1), (6, 0), (6, 1), (7, 0), (7, 1), (8, 0), (170, 0)]) (ps := [((0 : Nat) < (1 : Nat) ∧ (0 : Nat) < (2 : Nat) ∧ (1 : Nat) ≠ (2 : Nat)) ∧ spF l = spF (spL (List.length l) (spF l)) ∧ IdxC (spL (List.length l) (spF l)) (Cont.maps (2 : Nat) (qmap (sqN l (List.length l))) bs ck) ∧ InL (spL (List.length l) (spF l)), List.Nodup [(1 : Nat), (2 : Nat), (4 : Nat), (5 : Nat), (6 : Nat), (7 : Nat), (3 : Nat), (9 : Nat)] ∧ (0 : Nat) < (4 : Nat) ∧ (0 : Nat) < (5 : Nat) ∧ (0 : Nat) < (6 : Nat) ∧ (0 : Nat) < (7 : Nat) ∧ (0 : Nat) < (3 : Nat) ∧ (0 : Nat) < (9 : Nat), (∀ (i : Nat), i < List.length (Prod.snd e) → lst (Prod.snd e) i = c1 (lst (Prod.snd e)) i ∧ (0 : Int) ≤ iv (lst (Prod.snd e) i) ∧ iv (lst (Prod.snd e) i) < (↑(List.length (spL (List.length l) (spF l))) : Int)) ∧ List.length (Prod.snd e) ≤ (300 : Nat), (∀ (i : Nat), i < List.length M → lst M i = c1 (lst M) i) ∧ List.length M ≤ (100000 : Nat), InB x ∧ InB y ∧ InB r]) (s' := ⟨[(0, 8, Cont.cell AV.nils), (0, 9, Cont.cell (AV.int IntKind.i64 0)), (0, 10, Cont.cell (AV.ptr 3 0)), (0, 11, Cont.cell (AV.fn 21 [AV.ptr 4 0, AV.ptr 5 0, AV.ptr 6 0, AV.ptr 7 0, AV.ptr 3 0])), (0, 30, Cont.cell (AV.it 8)), (1, 0, Cont.cell (AV.rs 2 (List.length l) false (spF l))), (1, 1, Cont.cell (AV.mp 2)), (1, 2, Cont.top), (2, 0, Cont.maps 2 (qmap (sqN l (List.length l))) bs ck), (3, 0, Cont.cell (AV.vs 170)), (3, 1, Cont.top), (4, 0, Cont.cell (AV.ptr 1 0)), (4, 1, Cont.top), (5, 0, Cont.cell (AV.int IntKind.i64 x)), (5, 1, Cont.top), (6, 0, Cont.cell (AV.int IntKind.i64 y)), (6, 1, Cont.top), (7, 0, Cont.cell (AV.int IntKind.i64 r)), (7, 1, Cont.top), (8, 0, Cont.iter 2 ck (seen ++ [b]) ck (AV.agg [AV.int IntKind.i64 (List.getD [Prod.fst (Prod.fst e), Prod.snd (Prod.fst e)] 0 0), AV.int IntKind.i64 (List.getD [Prod.fst (Prod.fst e), Prod.snd (Prod.fst e)] 1 0)]) (AV.rs 1 (List.length (Prod.snd e)) false (lst (Prod.snd e)))), (170, 0, Cont.vec 1 3 (List.length (intsL (List.length M) (lst M) ++ sel (spL (List.length l) (spF l)) x y r (intsL (List.length (Prod.snd e)) (lst (Prod.snd e))))) (lst (intsL (List.length M) (lst M) ++ sel (spL (List.length l) (spF l)) x y r (intsL (List.length (Prod.snd e)) (lst (Prod.snd e))))))], 202, 75⟩) (by kernel_rfl) (by kernel_rfl) ?_ ?_
            · rw [idx_eta]
              exact ⟨⟨⟨by decide, by decide, by decide⟩, rfl, .inr ⟨bs, ck, rfl⟩, hl⟩, ⟨by decide, by decide⟩, ⟨fun i hi => ⟨rfl, hrg i hi⟩, by omega⟩, ⟨fun i hi => rfl, by omega⟩, hx, hy, hr'⟩
            rw [idx_eta, intsL_lst, intsL_lst]
            have hst := hI.step hnd hb hns hye
            have hlt := hst.less
            refine block_normal ?_
            refine sround_normal (⟨(seen ++ [b], M ++ sel l x y r e.2, .agg [.int .i64 ([e.1.1, e.1.2].getD 0 0), .int .i64 ([e.1.1, e.1.2].getD 1 0)], .rs 1 e.2.length false (lst e.2)), hst⟩) (Wk.imp' (wk_go [3, 4, 5, 6, 7, 8, 170] rfl (by decide) rfl rfl ⟨⟨_, rfl, rfl⟩, ⟨_, rfl, rfl⟩, ⟨_, rfl, rfl⟩, ⟨_, rfl, rfl⟩, ⟨_, rfl, rfl⟩, ⟨_, rfl, rfl⟩, ⟨_, rfl, rfl⟩, ⟨_, rfl, trivial⟩, ⟨_, rfl, Go.Eng.S12.cw_qmaps _⟩, ⟨_, rfl, rfl⟩, ⟨_, rfl, trivial⟩, ⟨_, rfl, rfl⟩, ⟨_, rfl, trivial⟩, ⟨_, rfl, rfl⟩, ⟨_, rfl, trivial⟩, ⟨_, rfl, rfl⟩, ⟨_, rfl, trivial⟩, ⟨_, rfl, rfl⟩, ⟨_, rfl, trivial⟩, ⟨_, rfl, ⟨rfl, rfl, rfl, rfl⟩⟩, ⟨_, rfl, ⟨rfl, rfl, rfl, fun _ _ => rfl⟩⟩, trivial⟩)) ?_
            · show bs.length - (seen ++ [b]).length < bs.length - seen.length
              rw [List.length_append, List.length_singleton] at hlt ⊢
              omega
        · have hr8 : ky r ≤ 8 := by
            have : ¬ (ky r > 8) := of_decide_eq_false hc
            omega
          clear hc
          have hx' := hx
          have hy' := hy
          have hr'' := hr'
          unfold InB at hx' hy' hr''
          have bx0 := ky_rng (a := x - r) (by omega)
          have bx1 := ky_rng (a := x + r) (by omega)
          have by0 := ky_rng (a := y - r) (by omega)
          have by1 := ky_rng (a := y + r) (by omega)
          have mx := ky_mono (a := x - r) (b := x + r) (by omega)
          have my := ky_mono (a := y - r) (b := y + r) (by omega)
          have e0 : Int.fdiv (IntKind.i64.wrap (y - r)) (2 ^ min (Int.toNat 18) (IntKind.bits IntKind.i64)) = ky (y - r) := by rw [i64_in (n := y - r) (by omega)]; rfl
          have e1 : Int.fdiv (IntKind.i64.wrap (y + r)) (2 ^ min (Int.toNat 18) (IntKind.bits IntKind.i64)) = ky (y + r) := by rw [i64_in (n := y + r) (by omega)]; rfl
          have e2 : Int.fdiv (IntKind.i64.wrap (x - r)) (2 ^ min (Int.toNat 18) (IntKind.bits IntKind.i64)) = ky (x - r) := by rw [i64_in (n := x - r) (by omega)]; rfl
          have e3 : Int.fdiv (IntKind.i64.wrap (x + r)) (2 ^ min (Int.toNat 18) (IntKind.bits IntKind.i64)) = ky (x + r) := by rw [i64_in (n := x + r) (by omega)]; rfl
          refine Sem.of_evC hm T_ok hΓ rfl ?_
          refine evC_go (dec := []) (ks := [(0, 4), (0, 5), (0, 6), (0, 7), (0, 8), (0, 9), (0, 10), (0, 11), (0, 14), (1, 0), (1, 1), (1, 2), (2, 0), (3, 0), (3, 1), (35, 0), (35, 1), (67, 0), (67, 1), (99, 0), (99, 1), (387, 0), (387, 1), (483, 0)]) (ps := [(0 : Int) ≤ (18 : Int)]) (s' := ⟨[(0, 4, Cont.cell (AV.ptr 3 0)), (0, 5, Cont.cell (AV.ptr 35 0)), (0, 6, Cont.cell (AV.ptr 67 0)), (0, 7, Cont.cell (AV.ptr 99 0)), (0, 8, Cont.cell AV.nils), (0, 9, Cont.cell (AV.int IntKind.i64 0)), (0, 10, Cont.cell (AV.ptr 387 0)), (0, 11, Cont.cell (AV.fn 21 [AV.ptr 3 0, AV.ptr 35 0, AV.ptr 67 0, AV.ptr 99 0, AV.ptr 387 0])), (0, 14, Cont.cell (AV.int IntKind.i64 (Int.fdiv (IntKind.i64.wrap (y - r)) (2 ^ min (Int.toNat 18) (IntKind.bits IntKind.i64))))), (1, 0, Cont.cell (AV.rs 2 (List.length l) false (spF l))), (1, 1, Cont.cell (AV.mp 2)), (1, 2, Cont.top), (2, 0, Cont.map 2 (qmap (sqN l (List.length l)))), (3, 0, Cont.cell (AV.ptr 1 0)), (3, 1, Cont.top), (35, 0, Cont.cell (AV.int IntKind.i64 x)), (35, 1, Cont.top), (67, 0, Cont.cell (AV.int IntKind.i64 y)), (67, 1, Cont.top), (99, 0, Cont.cell (AV.int IntKind.i64 r)), (99, 1, Cont.top), (387, 0, Cont.cell (AV.vs 483)), (387, 1, Cont.top), (483, 0, Cont.vec 1 3 0 fun x => AV.nils)], 740, 75⟩) (by kernel_rfl) (by kernel_rfl) ?_ ?_
          · show (0 : Int) ≤ 18; decide
          rw [e0]
          refine evC_block ?_
          refine evC_loop (ι := { q : Int × List Int // (ky (y - r) ≤ q.1 ∧ q.1 ≤ ky (y + r) + 1) ∧ Inv l x y r (VR l q.1) q.2 }) (fun q => ⟨[(0, 4, Cont.cell (AV.ptr 3 0)), (0, 5, Cont.cell (AV.ptr 4 0)), (0, 6, Cont.cell (AV.ptr 5 0)), (0, 7, Cont.cell (AV.ptr 6 0)), (0, 8, Cont.cell AV.nils), (0, 9, Cont.cell (AV.int IntKind.i64 0)), (0, 10, Cont.cell (AV.ptr 7 0)), (0, 11, Cont.cell (AV.fn 21 [AV.ptr 3 0, AV.ptr 4 0, AV.ptr 5 0, AV.ptr 6 0, AV.ptr 7 0])), (0, 14, .cell (.int .i64 q.1.1)), (1, 0, Cont.cell (AV.rs 2 (List.length l) false (spF l))), (1, 1, Cont.cell (AV.mp 2)), (1, 2, Cont.top), (2, 0, Cont.map 2 (qmap (sqN l (List.length l)))), (3, 0, Cont.cell (AV.ptr 1 0)), (3, 1, Cont.top), (4, 0, Cont.cell (AV.int IntKind.i64 x)), (4, 1, Cont.top), (5, 0, Cont.cell (AV.int IntKind.i64 y)), (5, 1, Cont.top), (6, 0, Cont.cell (AV.int IntKind.i64 r)), (6, 1, Cont.top), (7, 0, Cont.cell (AV.vs 8)), (7, 1, Cont.top), (8, 0, .vec 1 3 q.1.2.length (lst q.1.2))], 9, 75⟩) (fun q => (ky (y + r) + 1 - q.1.1).toNat) ⟨(ky (y - r), []), ⟨Int.le_refl _, by omega⟩, Inv.start fun i hi hn hv => by have := (near_box hr''.1 hn).2.1; unfold VR at hv; omega⟩ (wk_go [3, 35, 67, 99, 387, 483] rfl (by decide) rfl rfl ⟨⟨_, rfl, rfl⟩, ⟨_, rfl, rfl⟩, ⟨_, rfl, rfl⟩, ⟨_, rfl, rfl⟩, ⟨_, rfl, rfl⟩, ⟨_, rfl, rfl⟩, ⟨_, rfl, rfl⟩, ⟨_, rfl, rfl⟩, ⟨_, rfl, rfl⟩, ⟨_, rfl, rfl⟩, ⟨_, rfl, rfl⟩, ⟨_, rfl, trivial⟩, ⟨_, rfl, Go.Eng.S12.cw_qmap _⟩, ⟨_, rfl, rfl⟩, ⟨_, rfl, trivial⟩, ⟨_, rfl, rfl⟩, ⟨_, rfl, trivial⟩, ⟨_, rfl, rfl⟩, ⟨_, rfl, trivial⟩, ⟨_, rfl, rfl⟩, ⟨_, rfl, trivial⟩, ⟨_, rfl, rfl⟩, ⟨_, rfl, trivial⟩, ⟨_, rfl, ⟨rfl, rfl, rfl, fun _ hi => absurd hi (Nat.not_lt_zero _)⟩⟩, trivial⟩) ?_
          rintro ⟨⟨J, M⟩, ⟨hJ0, hJ1⟩, hI⟩
          have hJ0 : ky (y - r) ≤ J := hJ0
          have hJ1 : J ≤ ky (y + r) + 1 := hJ1
          have hI : Inv l x y r (VR l J) M := hI
          have hMl : M.length ≤ l.length := hI.len
          refine evC_seq ?_
          refine evC_go (dec := []) (ks := [(0, 4), (0, 5), (0, 6), (0, 7), (0, 8), (0, 9), (0, 10), (0, 11), (0, 14), (0, 47), (1, 0), (1, 1), (1, 2), (2, 0), (3, 0), (3, 1), (4, 0), (4, 1), (5, 0), (5, 1), (6, 0), (6, 1), (7, 0), (7, 1), (8, 0)]) (ps := [(0 : Int) ≤ (18 : Int)]) (s' := ⟨[(0, 4, Cont.cell (AV.ptr 3 0)), (0, 5, Cont.cell (AV.ptr 4 0)), (0, 6, Cont.cell (AV.ptr 5 0)), (0, 7, Cont.cell (AV.ptr 6 0)), (0, 8, Cont.cell AV.nils), (0, 9, Cont.cell (AV.int IntKind.i64 0)), (0, 10, Cont.cell (AV.ptr 7 0)), (0, 11, Cont.cell (AV.fn 21 [AV.ptr 3 0, AV.ptr 4 0, AV.ptr 5 0, AV.ptr 6 0, AV.ptr 7 0])), (0, 14, Cont.cell (AV.int IntKind.i64 J)), (0, 47, Cont.cell (AV.bool (decide (J ≤ Int.fdiv (IntKind.i64.wrap (y + r)) (2 ^ min (Int.toNat 18) (IntKind.bits IntKind.i64)))))), (1, 0, Cont.cell (AV.rs 2 (List.length l) false (spF l))), (1, 1, Cont.cell (AV.mp 2)), (1, 2, Cont.top), (2, 0, Cont.map 2 (qmap (sqN l (List.length l)))), (3, 0, Cont.cell (AV.ptr 1 0)), (3, 1, Cont.top), (4, 0, Cont.cell (AV.int IntKind.i64 x)), (4, 1, Cont.top), (5, 0, Cont.cell (AV.int IntKind.i64 y)), (5, 1, Cont.top), (6, 0, Cont.cell (AV.int IntKind.i64 r)), (6, 1, Cont.top), (7, 0, Cont.cell (AV.vs 8)), (7, 1, Cont.top), (8, 0, Cont.vec 1 3 (List.length M) (lst M))], 201, 75⟩) (by kernel_rfl) (by kernel_rfl) ?_ ?_
          · show (0 : Int) ≤ 18; decide
          rw [e1]
          refine evC_if (q := decide (J ≤ ky (y + r))) (by kernel_rfl) (fun hc => ?_) (fun hc => ?_)
          · have hJ : J ≤ ky (y + r) := of_decide_eq_true hc
            clear hc
            refine evC_skip ?_
            refine then_normal ?_
            refine evC_seq ?_
            refine evC_block ?_
            refine evC_go (dec := []) (ks := [(0, 4), (0, 5), (0, 6), (0, 7), (0, 8), (0, 9), (0, 10), (0, 11), (0, 14), (0, 15), (1, 0), (1, 1), (1, 2), (2, 0), (3, 0), (3, 1), (4, 0), (4, 1), (5, 0), (5, 1), (6, 0), (6, 1), (7, 0), (7, 1), (8, 0)]) (ps := [(0 : Int) ≤ (18 : Int)]) (s' := ⟨[(0, 4, Cont.cell (AV.ptr 3 0)), (0, 5, Cont.cell (AV.ptr 4 0)), (0, 6, Cont.cell (AV.ptr 5 0)), (0, 7, Cont.cell (AV.ptr 6 0)), (0, 8, Cont.cell AV.nils), (0, 9, Cont.cell (AV.int IntKind.i64 0)), (0, 10, Cont.cell (AV.ptr 7 0)), (0, 11, Cont.cell (AV.fn 21 [AV.ptr 3 0, AV.ptr 4 0, AV.ptr 5 0, AV.ptr 6 0, AV.ptr 7 0])), (0, 14, Cont.cell (AV.int IntKind.i64 J)), (0, 15, Cont.cell (AV.int IntKind.i64 (Int.fdiv (IntKind.i64.wrap (x - r)) (2 ^ min (Int.toNat 18) (IntKind.bits IntKind.i64))))), (1, 0, Cont.cell (AV.rs 2 (List.length l) false (spF l))), (1, 1, Cont.cell (AV.mp 2)), (1, 2, Cont.top), (2, 0, Cont.map 2 (qmap (sqN l (List.length l)))), (3, 0, Cont.cell (AV.ptr 1 0)), (3, 1, Cont.top), (4, 0, Cont.cell (AV.int IntKind.i64 x)), (4, 1, Cont.top), (5, 0, Cont.cell (AV.int IntKind.i64 y)), (5, 1, Cont.top), (6, 0, Cont.cell (AV.int IntKind.i64 r)), (6, 1, Cont.top), (7, 0, Cont.cell (AV.vs 8)), (7, 1, Cont.top), (8, 0, Cont.vec 1 3 (List.length M) (lst M))], 361, 75⟩) (by kernel_rfl) (by kernel_rfl) ?_ ?_
            · show (0 : Int) ≤ 18; decide
            rw [e2]
            refine evC_block ?_
            refine evC_loop (ι := { q : Int × List Int // (ky (x - r) ≤ q.1 ∧ q.1 ≤ ky (x + r) + 1) ∧ Inv l x y r (VG l J q.1) q.2 }) (fun q => ⟨[(0, 4, Cont.cell (AV.ptr 3 0)), (0, 5, Cont.cell (AV.ptr 4 0)), (0, 6, Cont.cell (AV.ptr 5 0)), (0, 7, Cont.cell (AV.ptr 6 0)), (0, 8, Cont.cell AV.nils), (0, 9, Cont.cell (AV.int IntKind.i64 0)), (0, 10, Cont.cell (AV.ptr 7 0)), (0, 11, Cont.cell (AV.fn 21 [AV.ptr 3 0, AV.ptr 4 0, AV.ptr 5 0, AV.ptr 6 0, AV.ptr 7 0])), (0, 14, Cont.cell (AV.int IntKind.i64 J)), (0, 15, .cell (.int .i64 q.1.1)), (1, 0, Cont.cell (AV.rs 2 (List.length l) false (spF l))), (1, 1, Cont.cell (AV.mp 2)), (1, 2, Cont.top), (2, 0, Cont.map 2 (qmap (sqN l (List.length l)))), (3, 0, Cont.cell (AV.ptr 1 0)), (3, 1, Cont.top), (4, 0, Cont.cell (AV.int IntKind.i64 x)), (4, 1, Cont.top), (5, 0, Cont.cell (AV.int IntKind.i64 y)), (5, 1, Cont.top), (6, 0, Cont.cell (AV.int IntKind.i64 r)), (6, 1, Cont.top), (7, 0, Cont.cell (AV.vs 8)), (7, 1, Cont.top), (8, 0, .vec 1 3 q.1.2.length (lst q.1.2))], 9, 75⟩) (fun q => (ky (x + r) + 1 - q.1.1).toNat) ⟨(ky (x - r), M), ⟨Int.le_refl _, by omega⟩, hI.congr fun i hi hn => by have := (near_box hr''.1 hn).1.1; unfold VR VG; omega⟩ (wk_go [3, 4, 5, 6, 7, 8] rfl (by decide) rfl rfl ⟨⟨_, rfl, rfl⟩, ⟨_, rfl, rfl⟩, ⟨_, rfl, rfl⟩, ⟨_, rfl, rfl⟩, ⟨_, rfl, rfl⟩, ⟨_, rfl, rfl⟩, ⟨_, rfl, rfl⟩, ⟨_, rfl, rfl⟩, ⟨_, rfl, rfl⟩, ⟨_, rfl, rfl⟩, ⟨_, rfl, rfl⟩, ⟨_, rfl, rfl⟩, ⟨_, rfl, trivial⟩, ⟨_, rfl, Go.Eng.S12.cw_qmap _⟩, ⟨_, rfl, rfl⟩, ⟨_, rfl, trivial⟩, ⟨_, rfl, rfl⟩, ⟨_, rfl, trivial⟩, ⟨_, rfl, rfl⟩, ⟨_, rfl, trivial⟩, ⟨_, rfl, rfl⟩, ⟨_, rfl, trivial⟩, ⟨_, rfl, rfl⟩, ⟨_, rfl, trivial⟩, ⟨_, rfl, ⟨rfl, rfl, rfl, fun _ _ => rfl⟩⟩, trivial⟩) ?_
            rintro ⟨⟨I, N⟩, ⟨hI0, hI1⟩, hG⟩
            have hI0 : ky (x - r) ≤ I := hI0
            have hI1 : I ≤ ky (x + r) + 1 := hI1
            have hG : Inv l x y r (VG l J I) N := hG
            have hNl : N.length ≤ l.length := hG.len
            refine evC_seq ?_
            refine evC_go (dec := []) (ks := [(0, 4), (0, 5), (0, 6), (0, 7), (0, 8), (0, 9), (0, 10), (0, 11), (0, 14), (0, 15), (0, 59), (1, 0), (1, 1), (1, 2), (2, 0), (3, 0), (3, 1), (4, 0), (4, 1), (5, 0), (5, 1), (6, 0), (6, 1), (7, 0), (7, 1), (8, 0)]) (ps := [(0 : Int) ≤ (18 : Int)]) (s' := ⟨[(0, 4, Cont.cell (AV.ptr 3 0)), (0, 5, Cont.cell (AV.ptr 4 0)), (0, 6, Cont.cell (AV.ptr 5 0)), (0, 7, Cont.cell (AV.ptr 6 0)), (0, 8, Cont.cell AV.nils), (0, 9, Cont.cell (AV.int IntKind.i64 0)), (0, 10, Cont.cell (AV.ptr 7 0)), (0, 11, Cont.cell (AV.fn 21 [AV.ptr 3 0, AV.ptr 4 0, AV.ptr 5 0, AV.ptr 6 0, AV.ptr 7 0])), (0, 14, Cont.cell (AV.int IntKind.i64 J)), (0, 15, Cont.cell (AV.int IntKind.i64 I)), (0, 59, Cont.cell (AV.bool (decide (I ≤ Int.fdiv (IntKind.i64.wrap (x + r)) (2 ^ min (Int.toNat 18) (IntKind.bits IntKind.i64)))))), (1, 0, Cont.cell (AV.rs 2 (List.length l) false (spF l))), (1, 1, Cont.cell (AV.mp 2)), (1, 2, Cont.top), (2, 0, Cont.map 2 (qmap (sqN l (List.length l)))), (3, 0, Cont.cell (AV.ptr 1 0)), (3, 1, Cont.top), (4, 0, Cont.cell (AV.int IntKind.i64 x)), (4, 1, Cont.top), (5, 0, Cont.cell (AV.int IntKind.i64 y)), (5, 1, Cont.top), (6, 0, Cont.cell (AV.int IntKind.i64 r)), (6, 1, Cont.top), (7, 0, Cont.cell (AV.vs 8)), (7, 1, Cont.top), (8, 0, Cont.vec 1 3 (List.length N) (lst N))], 201, 75⟩) (by kernel_rfl) (by kernel_rfl) ?_ ?_
            · show (0 : Int) ≤ 18; decide
            rw [e3]
            refine evC_if (q := decide (I ≤ ky (x + r))) (by kernel_rfl) (fun hc => ?_) (fun hc => ?_)
            · have hIx : I ≤ ky (x + r) := of_decide_eq_true hc
              clear hc
              have hV := look_v l I J
              have hVl : rsn ((mget (qmap (sqN l l.length)) [I, J]).getD .nils) ≤ l.length := by rw [hV.len]; exact sqL_len
              refine evC_skip ?_
              refine then_normal ?_
              refine evC_seq ?_
              refine evC_block ?_
              refine evC_goL (dec := []) (ks := [(0, 4), (0, 5), (0, 6), (0, 7), (0, 8), (0, 9), (0, 10), (0, 11), (0, 14), (0, 15), (1, 0), (1, 1), (1, 2), (2, 0), (3, 0), (3, 1), (4, 0), (4, 1), (5, 0), (5, 1), (6, 0), (6, 1), (7, 0), (7, 1), (489, 0)]) (ps := [(∃ b, Option.getD (mget (qmap (sqN l (List.length l))) [I, J]) AV.nils = AV.rs (1 : Nat) (rsn (Option.getD (mget (qmap (sqN l (List.length l))) [I, J]) AV.nils)) b (rsf (Option.getD (mget (qmap (sqN l (List.length l))) [I, J]) AV.nils))) ∨ Option.getD (mget (qmap (sqN l (List.length l))) [I, J]) AV.nils = AV.nils, ((0 : Nat) < (1 : Nat) ∧ (0 : Nat) < (2 : Nat) ∧ (1 : Nat) ≠ (2 : Nat)) ∧ spF l = spF (spL (List.length l) (spF l)) ∧ IdxC (spL (List.length l) (spF l)) (Cont.map (2 : Nat) (qmap (sqN l (List.length l)))) ∧ InL (spL (List.length l) (spF l)), List.Nodup [(1 : Nat), (2 : Nat), (3 : Nat), (4 : Nat), (5 : Nat), (6 : Nat), (7 : Nat), (8 : Nat)] ∧ (0 : Nat) < (3 : Nat) ∧ (0 : Nat) < (4 : Nat) ∧ (0 : Nat) < (5 : Nat) ∧ (0 : Nat) < (6 : Nat) ∧ (0 : Nat) < (7 : Nat) ∧ (0 : Nat) < (8 : Nat), (∀ (i : Nat), i < rsn (Option.getD (mget (qmap (sqN l (List.length l))) [I, J]) AV.nils) → rsf (Option.getD (mget (qmap (sqN l (List.length l))) [I, J]) AV.nils) i = c1 (rsf (Option.getD (mget (qmap (sqN l (List.length l))) [I, J]) AV.nils)) i ∧ (0 : Int) ≤ iv (rsf (Option.getD (mget (qmap (sqN l (List.length l))) [I, J]) AV.nils) i) ∧ iv (rsf (Option.getD (mget (qmap (sqN l (List.length l))) [I, J]) AV.nils) i) < (↑(List.length (spL (List.length l) (spF l))) : Int)) ∧ rsn (Option.getD (mget (qmap (sqN l (List.length l))) [I, J]) AV.nils) ≤ (300 : Nat), (∀ (i : Nat), i < List.length N → lst N i = c1 (lst N) i) ∧ List.length N ≤ (100000 : Nat), InB x ∧ InB y ∧ InB r]) (s' := ⟨[(0, 4, Cont.cell (AV.ptr 3 0)), (0, 5, Cont.cell (AV.ptr 4 0)), (0, 6, Cont.cell (AV.ptr 5 0)), (0, 7, Cont.cell (AV.ptr 6 0)), (0, 8, Cont.cell AV.nils), (0, 9, Cont.cell (AV.int IntKind.i64 0)), (0, 10, Cont.cell (AV.ptr 7 0)), (0, 11, Cont.cell (AV.fn 21 [AV.ptr 3 0, AV.ptr 4 0, AV.ptr 5 0, AV.ptr 6 0, AV.ptr 7 0])), (0, 14, Cont.cell (AV.int IntKind.i64 J)), (0, 15, Cont.cell (AV.int IntKind.i64 I)), (1, 0, Cont.cell (AV.rs 2 (List.length l) false (spF l))), (1, 1, Cont.cell (AV.mp 2)), (1, 2, Cont.top), (2, 0, Cont.map 2 (qmap (sqN l (List.length l)))), (3, 0, Cont.cell (AV.ptr 1 0)), (3, 1, Cont.top), (4, 0, Cont.cell (AV.int IntKind.i64 x)), (4, 1, Cont.top), (5, 0, Cont.cell (AV.int IntKind.i64 y)), (5, 1, Cont.top), (6, 0, Cont.cell (AV.int IntKind.i64 r)), (6, 1, Cont.top), (7, 0, Cont.cell (AV.vs 489)), (7, 1, Cont.top), (489, 0, Cont.vec 1 3 (List.length (intsL (List.length N) (lst N) ++ sel (spL (List.length l) (spF l)) x y r (intsL (rsn (Option.getD (mget (qmap (sqN l (List.length l))) [I, J]) AV.nils)) (rsf (Option.getD (mget (qmap (sqN l (List.length l))) [I, J]) AV.nils))))) (lst (intsL (List.length N) (lst N) ++ sel (spL (List.length l) (spF l)) x y r (intsL (rsn (Option.getD (mget (qmap (sqN l (List.length l))) [I, J]) AV.nils)) (rsf (Option.getD (mget (qmap (sqN l (List.length l))) [I, J]) AV.nils))))))], 521, 75⟩) (by kernel_rfl) (by kernel_rfl) ?_ ?_
              · rw [idx_eta]
                exact ⟨hV.form, ⟨⟨by decide, by decide, by decide⟩, rfl, .inl rfl, hl⟩, ⟨by decide, by decide⟩, ⟨fun i hi => by
                  have h := hV.get i hi
                  refine ⟨?_, ?_⟩
                  · show rsf _ i = AV.int .i64 (iv (rsf _ i))
                    rw [h]; rfl
                  · rw [h]; exact sqL_rng (by rw [← hV.len]; exact hi), by omega⟩, ⟨fun i hi => rfl, by omega⟩, hx, hy, hr'⟩
              rw [idx_eta, intsL_lst, hV.ints]
              have hst : Inv l x y r (VG l J (I + 1)) (N ++ sel l x y r (sqL l l.length I J)) := hG.step (fun i hi hn h hv => by unfold VG at hv; omega) fun i hi hn => by unfold VG; omega
              refine block_normal ?_
              refine then_normal ?_
              refine evC_goL0 (dec := []) (ks := [(0, 4), (0, 5), (0, 6), (0, 7), (0, 8), (0, 9), (0, 10), (0, 11), (0, 14), (0, 15), (1, 0), (1, 1), (1, 2), (2, 0), (3, 0), (3, 1), (4, 0), (4, 1), (5, 0), (5, 1), (6, 0), (6, 1), (7, 0), (7, 1), (489, 0)]) (s' := ⟨[(0, 4, Cont.cell (AV.ptr 3 0)), (0, 5, Cont.cell (AV.ptr 4 0)), (0, 6, Cont.cell (AV.ptr 5 0)), (0, 7, Cont.cell (AV.ptr 6 0)), (0, 8, Cont.cell AV.nils), (0, 9, Cont.cell (AV.int IntKind.i64 0)), (0, 10, Cont.cell (AV.ptr 7 0)), (0, 11, Cont.cell (AV.fn 21 [AV.ptr 3 0, AV.ptr 4 0, AV.ptr 5 0, AV.ptr 6 0, AV.ptr 7 0])), (0, 14, Cont.cell (AV.int IntKind.i64 J)), (0, 15, Cont.cell (AV.int IntKind.i64 (IntKind.i64.wrap (I + 1)))), (1, 0, Cont.cell (AV.rs 2 (List.length l) false (spF l))), (1, 1, Cont.cell (AV.mp 2)), (1, 2, Cont.top), (2, 0, Cont.map 2 (qmap (sqN l (List.length l)))), (3, 0, Cont.cell (AV.ptr 1 0)), (3, 1, Cont.top), (4, 0, Cont.cell (AV.int IntKind.i64 x)), (4, 1, Cont.top), (5, 0, Cont.cell (AV.int IntKind.i64 y)), (5, 1, Cont.top), (6, 0, Cont.cell (AV.int IntKind.i64 r)), (6, 1, Cont.top), (7, 0, Cont.cell (AV.vs 489)), (7, 1, Cont.top), (489, 0, Cont.vec 1 3 (List.length (N ++ sel l x y r (sqL l (List.length l) I J))) (lst (N ++ sel l x y r (sqL l (List.length l) I J))))], 617, 75⟩) (by kernel_rfl) (by kernel_rfl) ?_
              rw [i64_in (n := I + 1) (by omega)]
              refine round_normal (⟨(I + 1, N ++ sel l x y r (sqL l l.length I J)), ⟨by show ky (x - r) ≤ I + 1; omega, by show I + 1 ≤ ky (x + r) + 1; omega⟩, hst⟩) (wk_go [3, 4, 5, 6, 7, 489] rfl (by decide) rfl rfl ⟨⟨_, rfl, rfl⟩, ⟨_, rfl, rfl⟩, ⟨_, rfl, rfl⟩, ⟨_, rfl, rfl⟩, ⟨_, rfl, rfl⟩, ⟨_, rfl, rfl⟩, ⟨_, rfl, rfl⟩, ⟨_, rfl, rfl⟩, ⟨_, rfl, rfl⟩, ⟨_, rfl, rfl⟩, ⟨_, rfl, rfl⟩, ⟨_, rfl, rfl⟩, ⟨_, rfl, trivial⟩, ⟨_, rfl, Go.Eng.S12.cw_qmap _⟩, ⟨_, rfl, rfl⟩, ⟨_, rfl, trivial⟩, ⟨_, rfl, rfl⟩, ⟨_, rfl, trivial⟩, ⟨_, rfl, rfl⟩, ⟨_, rfl, trivial⟩, ⟨_, rfl, rfl⟩, ⟨_, rfl, trivial⟩, ⟨_, rfl, rfl⟩, ⟨_, rfl, trivial⟩, ⟨_, rfl, ⟨rfl, rfl, rfl, fun _ _ => rfl⟩⟩, trivial⟩) ?_
              show (ky (x + r) + 1 - (I + 1)).toNat < (ky (x + r) + 1 - I).toNat
              omega
            · have hIx : I = ky (x + r) + 1 := by have := of_decide_eq_false hc; omega
              clear hc
              refine evC_exit ?_
              refine then_exit ?_
              refine round_exit ?_
              refine block_exit ?_
              refine block_normal ?_
              refine then_normal ?_
              refine evC_goL0 (dec := []) (ks := [(0, 4), (0, 5), (0, 6), (0, 7), (0, 8), (0, 9), (0, 10), (0, 11), (0, 14), (1, 0), (1, 1), (1, 2), (2, 0), (3, 0), (3, 1), (4, 0), (4, 1), (5, 0), (5, 1), (6, 0), (6, 1), (7, 0), (7, 1), (8, 0)]) (s' := ⟨[(0, 4, Cont.cell (AV.ptr 3 0)), (0, 5, Cont.cell (AV.ptr 4 0)), (0, 6, Cont.cell (AV.ptr 5 0)), (0, 7, Cont.cell (AV.ptr 6 0)), (0, 8, Cont.cell AV.nils), (0, 9, Cont.cell (AV.int IntKind.i64 0)), (0, 10, Cont.cell (AV.ptr 7 0)), (0, 11, Cont.cell (AV.fn 21 [AV.ptr 3 0, AV.ptr 4 0, AV.ptr 5 0, AV.ptr 6 0, AV.ptr 7 0])), (0, 14, Cont.cell (AV.int IntKind.i64 (IntKind.i64.wrap (J + 1)))), (1, 0, Cont.cell (AV.rs 2 (List.length l) false (spF l))), (1, 1, Cont.cell (AV.mp 2)), (1, 2, Cont.top), (2, 0, Cont.map 2 (qmap (sqN l (List.length l)))), (3, 0, Cont.cell (AV.ptr 1 0)), (3, 1, Cont.top), (4, 0, Cont.cell (AV.int IntKind.i64 x)), (4, 1, Cont.top), (5, 0, Cont.cell (AV.int IntKind.i64 y)), (5, 1, Cont.top), (6, 0, Cont.cell (AV.int IntKind.i64 r)), (6, 1, Cont.top), (7, 0, Cont.cell (AV.vs 8)), (7, 1, Cont.top), (8, 0, Cont.vec 1 3 (List.length N) (lst N))], 297, 75⟩) (by kernel_rfl) (by kernel_rfl) ?_
              rw [i64_in (n := J + 1) (by omega)]
              refine round_normal (⟨(J + 1, N), ⟨by show ky (y - r) ≤ J + 1; omega, by show J + 1 ≤ ky (y + r) + 1; omega⟩, hG.congr fun i hi hn => by have := (near_box hr''.1 hn).1.2; unfold VG VR; omega⟩) (wk_go [3, 4, 5, 6, 7, 8] rfl (by decide) rfl rfl ⟨⟨_, rfl, rfl⟩, ⟨_, rfl, rfl⟩, ⟨_, rfl, rfl⟩, ⟨_, rfl, rfl⟩, ⟨_, rfl, rfl⟩, ⟨_, rfl, rfl⟩, ⟨_, rfl, rfl⟩, ⟨_, rfl, rfl⟩, ⟨_, rfl, rfl⟩, ⟨_, rfl, rfl⟩, ⟨_, rfl, rfl⟩, ⟨_, rfl, trivial⟩, ⟨_, rfl, Go.Eng.S12.cw_qmap _⟩, ⟨_, rfl, rfl⟩, ⟨_, rfl, trivial⟩, ⟨_, rfl, rfl⟩, ⟨_, rfl, trivial⟩, ⟨_, rfl, rfl⟩, ⟨_, rfl, trivial⟩, ⟨_, rfl, rfl⟩, ⟨_, rfl, trivial⟩, ⟨_, rfl, rfl⟩, ⟨_, rfl, trivial⟩, ⟨_, rfl, ⟨rfl, rfl, rfl, fun _ _ => rfl⟩⟩, trivial⟩) ?_
              show (ky (y + r) + 1 - (J + 1)).toNat < (ky (y + r) + 1 - J).toNat
              omega
          · have hJ : J = ky (y + r) + 1 := by have := of_decide_eq_false hc; omega
            clear hc
            refine evC_exit ?_
            refine then_exit ?_
            refine round_exit ?_
            refine block_exit ?_
            refine scut_normal (⟨M, by omega, hI.done fun i hi hn => by have := (near_box hr''.1 hn).2.2; unfold VR; omega⟩) (Wk.imp' (wk_go [7, 8] rfl (by decide) rfl rfl ⟨⟨_, rfl, rfl⟩, ⟨_, rfl, rfl⟩, ⟨_, rfl, rfl⟩, ⟨_, rfl, rfl⟩, ⟨_, rfl, rfl⟩, ⟨_, rfl, trivial⟩, ⟨_, rfl, Go.Eng.S12.cw_qmap _⟩, ⟨_, rfl, rfl⟩, ⟨_, rfl, trivial⟩, ⟨_, rfl, ⟨rfl, rfl, rfl, fun _ _ => rfl⟩⟩, trivial⟩))
      · rintro ⟨M, hM, hsM⟩
        have hml : M.length = (wit l x y r).length := by rw [← hsM, sortI_len]
        refine Sem.of_evC hm T_ok hΓ rfl ?_
        refine evC_go (dec := []) (ks := [(0, 8), (0, 9), (0, 10), (1, 0), (1, 1), (1, 2), (2, 0), (3, 0), (3, 1), (4, 0)]) (ps := [(∀ (i : Nat), i < List.length M → lst M i = c1 (lst M) i) ∧ List.length M < (4611686018427387904 : Nat)]) (s' := ⟨[(0, 8, Cont.cell AV.nils), (0, 9, Cont.cell (AV.int IntKind.i64 0)), (0, 10, Cont.cell (AV.ptr 3 0)), (1, 0, Cont.cell (AV.rs 2 (List.length l) false (spF l))), (1, 1, Cont.cell (AV.mp 2)), (1, 2, Cont.top), (2, 0, Cont.map 2 (qmap (sqN l (List.length l)))), (3, 0, Cont.cell (AV.vs 4)), (3, 1, Cont.top), (4, 0, Cont.vec 1 3 (List.length M) (lst (sortI (intsL (List.length M) (lst M)))))], 69, 75⟩) (by kernel_rfl) (by kernel_rfl) ?_ ?_
        · exact ⟨fun i hi => rfl, by omega⟩
        rw [intsL_lst, hsM, hml]
        refine evC_go0 (dec := []) (ks := [(0, 8), (0, 9), (1, 0), (1, 1), (1, 2), (2, 0), (4, 0)]) (s' := ⟨[(0, 8, Cont.cell (AV.vs 4)), (0, 9, Cont.cell (AV.int IntKind.i64 0)), (1, 0, Cont.cell (AV.rs 2 (List.length l) false (spF l))), (1, 1, Cont.cell (AV.mp 2)), (1, 2, Cont.top), (2, 0, Cont.map 2 (qmap (sqN l (List.length l)))), (4, 0, Cont.vec 1 3 (List.length (wit l x y r)) (lst (wit l x y r)))], 165, 75⟩) (by kernel_rfl) (by kernel_rfl) ?_
        refine evC_ret ?_
        refine post_ret ?_
        refine ends_wk (s' := ⟨[(0, 8, .cell (is1 (wit l x y r))), (0, 9, .cell (.int .i64 0)), (1, 0, .cell (.rs 2 l.length false (spF l))), (1, 1, .cell (.mp 2)), (1, 2, .top), (2, 0, .map 2 (qmap (sqN l l.length)))], 3, 75⟩) (.trans (.frz 4 1 3 (wit l x y r).length (lst (wit l x y r)) (Nat.le_of_ble_eq_true rfl) rfl) (wk_go [] rfl (by decide) rfl rfl ⟨⟨_, rfl, rfl⟩, ⟨_, rfl, rfl⟩, ⟨_, rfl, rfl⟩, ⟨_, rfl, rfl⟩, ⟨_, rfl, trivial⟩, ⟨_, rfl, cw_qfrz _⟩, trivial⟩)) ?_
        rw [hw.1, hw.2]
        refine ends_go [] (AV.tup [AV.rs 1 (List.length (wit l x y r)) false (lst (wit l x y r)), AV.int IntKind.i64 0]) [(1, 0, Cont.cell (AV.rs 2 (List.length l) false (spF l))), (1, 1, Cont.cell (AV.mp 2)), (1, 2, Cont.top), (2, 0, Cont.map 2 (qmap (sqN l (List.length l))))] rfl (by decide) rfl rfl (?_) rfl ⟨⟨_, rfl, rfl⟩, ⟨_, rfl, rfl⟩, ⟨_, rfl, trivial⟩, ⟨_, rfl, Go.Eng.S12.cw_qmap _⟩, trivial⟩ trivial ?_
        · exact res_has _ _ _
        exact k4 _ _ (by simp [icon, hget, sps])
  · cases e
end Go.Eng.S12
