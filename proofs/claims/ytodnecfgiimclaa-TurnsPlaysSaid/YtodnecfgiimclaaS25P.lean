/- Seat 25: is another peer's word another one, walked. -/
import Derived.Test.YtodnecfgiimclaaEngX
import Derived.Test.YtodnecfgiimclaaS25L
set_option linter.unusedSimpArgs false
set_option linter.unusedVariables false
set_option maxHeartbeats 2000000
namespace Go.Eng.S25
open Go.Proofs Go.IntWalk
set_option maxRecDepth 10000
def badW (P : Peer) (x : (Int × Int) × Int) : Bool := match kget P.words x.1.1 P.me with
 | none => false
 | some o => o != x.2
def desB (P : Peer) : Bool := P.words.any (badW P)
def keyS (ks : List Int) : AV := .agg [.int .i64 (ks.getD 0 0), .int .i64 (ks.getD 1 0)]
theorem keyS_ok (ks : List Int) (h : ks.length = 2) : keyOf (keyS ks) = some ks := by
 obtain ⟨a, b, rfl⟩ := two h
 rfl
def DesI (P : Peer) (bs seen : List Nat) (f : Bool) : Prop := seen.Nodup ∧ (∀ b ∈ seen, b ∈ bs) ∧ (f = true ↔ ∃ (j : Nat) (y : (Int × Int) × Int), P.words[j]? = some y ∧ (∃ b, bs[j]? = some b ∧ b ∈ seen) ∧ badW P y = true)
theorem des_start (P : Peer) (bs : List Nat) : DesI P bs [] false := by
 refine ⟨List.nodup_nil, (fun _ h => nomatch h), ?_, ?_⟩
 ·intro h; cases h
 ·rintro ⟨j, y, _, ⟨b, _, hb⟩, _⟩; cases hb
theorem des_end {P : Peer} {bs seen : List Nat} {f : Bool} (hl : bs.length = P.words.length) (h : DesI P bs seen f) (hall : ∀ b ∈ bs, b ∈ seen) : f = desB P := by
 rw [Bool.eq_iff_iff, h.2.2]
 unfold desB
 rw [List.any_eq_true]
 constructor
 ·rintro ⟨j, y, h1, _, h3⟩
  exact ⟨y, List.mem_iff_getElem?.2 ⟨j, h1⟩, h3⟩
 ·rintro ⟨y, h1, h2⟩
  obtain ⟨j, hj⟩ := List.mem_iff_getElem?.1 h1
  have hlt : j < bs.length := by rw [hl]; exact (List.getElem?_eq_some_iff.1 hj).1
  exact ⟨j, y, hj, ⟨bs[j], List.getElem?_eq_getElem hlt, hall _ (List.getElem_mem hlt)⟩, h2⟩
theorem nodup_at {l : List Nat} (h : l.Nodup) {i j b : Nat} (hi : l[i]? = some b) (hj : l[j]? = some b) : i = j := by
 obtain ⟨h1, e1⟩ := List.getElem?_eq_some_iff.1 hi
 obtain ⟨h2, e2⟩ := List.getElem?_eq_some_iff.1 hj
 rcases Nat.lt_trichotomy i j with hlt | heq | hgt
 ·exact absurd (e1.trans e2.symm) (List.pairwise_iff_getElem.1 h _ _ h1 h2 hlt)
 ·exact heq
 ·exact absurd (e2.trans e1.symm) (List.pairwise_iff_getElem.1 h _ _ h2 h1 hgt)
theorem des_step {P : Peer} {bs seen : List Nat} {f : Bool} (hnd : bs.Nodup) (h : DesI P bs seen f) {j b : Nat} {y : (Int × Int) × Int} (hb : bs[j]? = some b) (hns : ¬ b ∈ seen) (hy : P.words[j]? = some y) : DesI P bs (seen ++ [b]) (f || badW P y) := by
 obtain ⟨h1, h2, h3⟩ := h
 refine ⟨?_, fun c hc => ?_, ?_⟩
 ·rw [List.nodup_append]
  exact ⟨h1, by simp, fun a ha c hc e => by rw [List.mem_singleton.1 hc] at e; exact hns (e ▸ ha)⟩
 ·rcases List.mem_append.1 hc with hc | hc
  ·exact h2 c hc
  ·rw [List.mem_singleton.1 hc]; exact List.mem_iff_getElem?.2 ⟨j, hb⟩
 ·rw [Bool.or_eq_true, h3]
  constructor
  ·rintro (⟨i, z, q1, ⟨c, q2, q3⟩, q4⟩ | hq)
   ·exact ⟨i, z, q1, ⟨c, q2, List.mem_append_left _ q3⟩, q4⟩
   ·exact ⟨j, y, hy, ⟨b, hb, List.mem_append_right _ List.mem_cons_self⟩, hq⟩
  ·rintro ⟨i, z, q1, ⟨c, q2, q3⟩, q4⟩
   rcases List.mem_append.1 q3 with q3 | q3
   ·exact .inl ⟨i, z, q1, ⟨c, q2, q3⟩, q4⟩
   ·rw [List.mem_singleton.1 q3] at q2
    have : i = j := nodup_at hnd q2 hb
    subst this
    rw [q1] at hy
    injection hy with hy
    exact .inr (hy ▸ q4)
theorem nodup_le : ∀ {l m : List Nat}, l.Nodup → (∀ b ∈ l, b ∈ m) → l.length ≤ m.length
 | [], _, _, _ => Nat.zero_le _
 | a :: l, m, h, hs => by
   rw [List.nodup_cons] at h
   have ha := hs a List.mem_cons_self
   have h1 := nodup_le (m := m.erase a) h.2 fun b hb => (List.mem_erase_of_ne (fun e : b = a => h.1 (e ▸ hb))).2 (hs b (List.mem_cons_of_mem _ hb))
   rw [List.length_erase_of_mem ha] at h1
   have := List.length_pos_of_mem ha
   rw [List.length_cons]
   omega
theorem des_less {P : Peer} {bs seen : List Nat} {f : Bool} (h : DesI P bs seen f) : seen.length ≤ bs.length := nodup_le h.1 h.2.1
def sDesync : Spec := fun args hr _ => match args with
 | [v] => withPeer hr v fun n b c P s rd => some ⟨[s], .bool (desB P), rd, []⟩
 | _ => none
theorem desync_ok : SpecOK Try.prog 17 sDesync := by
 have hm : Try.prog.follows .mixedOrders = true := by kernel_rfl
 have hΓ : SpecsOK Try.prog [] := sget_nil
 refine spec_atS hm T_ok hΓ Try.func17 rfl rfl fun args hr nb out e => ?_
 unfold sDesync at e
 split at e
 ·obtain ⟨n, b, c, P, s, rd, rfl, e, hrd, hs0, hs1, hs2⟩ := peer_open e
  injection e with e; subst e
  refine ⟨hrd, true, [n, b, c], [.ptr 1 0], pcon 1 2 3 P, rfl, fun hs => ?_⟩
  obtain ⟨k1, k2, k3⟩ := hs0 (hs _ List.mem_cons_self)
  have k4 := hs1 (hs _ List.mem_cons_self) [] nb
  refine ⟨k1, fun z hz => ⟨(k2 z hz).1, (k2 z hz).2 _ fun x hx => hx⟩, .cons _ _ _ _ (.name _ _ _ rfl) .nil, k3 _ _, ?_⟩
  clear hs hs0 hs1 hs2 k1 k2 k3 hrd
  unfold pcon
  refine Sem.stamps (m := 3) (ar := 2) (es := wmap P.words) (by decide) rfl fun bs ck hl hnd hck hka => ?_
  refine Sem.seq ?_
  refine Sem.of_evC hm T_ok hΓ rfl ?_
  refine evC_goL0K (s' := ⟨[(0, 0, zP 1), (0, 2, zB false), (1, 0, zI P.me), (1, 1, zI P.n), (1, 2, zI P.turn), (1, 3, zI P.iss), (1, 4, .arr 8 (nI P.hd)), (1, 12, zM 2), (1, 13, zM 3), (1, 14, .top), (2, 0, .map 2 (smap P.sets)), (3, 0, .maps 2 (wmap P.words) bs ck)], 36, 43⟩) ?_
  refine sthen_normal ?_
  refine Sem.seq ?_
  refine Sem.of_evC hm T_ok hΓ rfl ?_
  refine evC_goL0K (s' := ⟨[(0, 0, zP 1), (0, 2, zB false), (0, 3, zB false), (1, 0, zI P.me), (1, 1, zI P.n), (1, 2, zI P.turn), (1, 3, zI P.iss), (1, 4, .arr 8 (nI P.hd)), (1, 12, zM 2), (1, 13, zM 3), (1, 14, .top), (2, 0, .map 2 (smap P.sets)), (3, 0, .maps 2 (wmap P.words) bs ck)], 68, 43⟩) ?_
  refine sthen_normal ?_
  refine Sem.seq ?_
  refine Sem.seq ?_
  refine Sem.of_evC hm T_ok hΓ rfl ?_
  refine evC_goL0K (s' := ⟨[(0, 0, zP 1), (0, 2, zB false), (0, 3, zB false), (0, 12, .cell (AV.it 196)), (1, 0, zI P.me), (1, 1, zI P.n), (1, 2, zI P.turn), (1, 3, zI P.iss), (1, 4, .arr 8 (nI P.hd)), (1, 12, zM 2), (1, 13, zM 3), (1, 14, .top), (2, 0, .map 2 (smap P.sets)), (3, 0, .maps 2 (wmap P.words) bs ck), (196, 0, Cont.iter 3 ck [] ck AV.nilp AV.nilp)], 228, 43⟩) ?_
  refine sthen_normal ?_
  refine Sem.block ?_
  refine Sem.loop (ι := { x : List Nat × Bool × AV × AV // DesI P bs x.1 x.2.1 }) (fun x => ⟨[(0, 0, zP 1), (0, 2, zB false), (0, 3, zB x.1.2.1), (0, 12, Cont.cell (AV.it 4)), (1, 0, zI P.me), (1, 1, zI P.n), (1, 2, zI P.turn), (1, 3, zI P.iss), (1, 4, Cont.arr 8 (nI P.hd)), (1, 12, zM 2), (1, 13, zM 3), (1, 14, Cont.top), (2, 0, Cont.map 2 (smap P.sets)), (3, 0, Cont.maps 2 (wmap P.words) bs ck), (4, 0, .iter 3 ck x.1.1 ck x.1.2.2.1 x.1.2.2.2)], 5, 43⟩) (fun x => bs.length - x.1.1.length) ⟨([], false, .nilp, .nilp), des_start P bs⟩ (Wk.imp' (wk_go [196] rfl (by decide) rfl rfl ⟨⟨_, rfl, rfl⟩, ⟨_, rfl, rfl⟩, ⟨_, rfl, rfl⟩, ⟨_, rfl, rfl⟩, ⟨_, rfl, rfl⟩, ⟨_, rfl, rfl⟩, ⟨_, rfl, rfl⟩, ⟨_, rfl, rfl⟩, ⟨_, rfl, rfl, fun _ _ => rfl⟩, ⟨_, rfl, rfl⟩, ⟨_, rfl, rfl⟩, ⟨_, rfl, trivial⟩, ⟨_, rfl, Go.Eng.S25.cw_smap _⟩, ⟨_, rfl, cw_maps (Go.Eng.S25.flat_wmap _)⟩, ⟨_, rfl, ⟨rfl, rfl, rfl, rfl⟩⟩, trivial⟩)) ?_
  rintro ⟨⟨seen, f, kv, v⟩, hI⟩
  refine Sem.seq ?_
  refine Sem.next keyS keyS_ok rfl rfl rfl rfl rfl rfl (Nat.le_of_ble_eq_true rfl) (Nat.le_of_ble_eq_true rfl) rfl rfl rfl hck (Nat.le_refl _) (fun hall => ?_) (fun j ks v b he hb hns hk => ?_)
  ·refine sthen_normal ?_
   refine Sem.seq ?_
   refine sem_if (q := false) (by kernel_rfl) (fun hc => ?_) (fun hc => ?_)
   ·cases hc
   refine Sem.exit ?_
   refine sthen_exit ?_
   refine sround_exit ?_
   refine block_exit ?_
   refine sthen_normal ?_
   refine Sem.seq ?_
   have hd : f = desB P := des_end (by rw [hl]; simp [wmap]) hI hall
   subst hd
   refine Sem.wk (Imp.unstamp (m := 3) (by decide) rfl) ?_
   refine Sem.of_evC hm T_ok hΓ rfl ?_
   refine evC_goL0K (s' := ⟨[(0, 2, zB (desB P)), (1, 0, zI P.me), (1, 1, zI P.n), (1, 2, zI P.turn), (1, 3, zI P.iss), (1, 4, .arr 8 (nI P.hd)), (1, 12, zM 2), (1, 13, zM 3), (1, 14, .top), (2, 0, .map 2 (smap P.sets)), (3, 0, .map 2 (wmap P.words))], 69, 43⟩) ?_
   refine sthen_normal ?_
   refine Sem.ret ?_
   refine post_ret ?_
   refine ends_go [] (AV.bool (desB P)) [(1, 0, zI P.me), (1, 1, zI P.n), (1, 2, zI P.turn), (1, 3, zI P.iss), (1, 4, .arr 8 (nI P.hd)), (1, 12, zM 2), (1, 13, zM 3), (1, 14, .top), (2, 0, .map 2 (smap P.sets)), (3, 0, .map 2 (wmap P.words))] rfl (by decide) rfl rfl (has_of _ rfl) rfl ⟨⟨_, rfl, rfl⟩, ⟨_, rfl, rfl⟩, ⟨_, rfl, rfl⟩, ⟨_, rfl, rfl⟩, ⟨_, rfl, ⟨rfl, fun _ _ => rfl⟩⟩, ⟨_, rfl, rfl⟩, ⟨_, rfl, rfl⟩, ⟨_, rfl, trivial⟩, ⟨_, rfl, Go.Eng.S25.cw_smap _⟩, ⟨_, rfl, cw_map (Go.Eng.S25.flat_wmap _)⟩, trivial⟩ trivial ?_
   exact k4 _ _ (by simp [pcon, hget])
  ·obtain ⟨y, hy, rfl, rfl⟩ : ∃ y, P.words[j]? = some y ∧ ks = [y.1.1, y.1.2] ∧ v = .int .u64 y.2 := by
    simp only [wmap, List.getElem?_map, Option.map_eq_some_iff, Prod.mk.injEq] at he
    obtain ⟨y, h1, h2, h3⟩ := he
    exact ⟨y, h1, h2.symm, h3.symm⟩
   refine sthen_normal ?_
   refine Sem.seq ?_
   refine sem_if (q := true) (by kernel_rfl) (fun hc => ?_) (fun hc => ?_)
   rotate_left
   ·cases hc
   refine Sem.skip ?_
   refine sthen_normal ?_
   refine Sem.block ?_
   refine Sem.seq ?_
   refine Sem.of_evC hm T_ok hΓ rfl ?_
   refine evC_goLK (ps := [EntryOK (keyS [Prod.fst (Prod.fst y), Prod.snd (Prod.fst y)]) (AV.int IntKind.u64 (Prod.snd y)) (seen ++ [b]) bs (wmap P.words), ck = ck, List.Nodup bs]) (s' := ⟨[(0, 0, zP 1), (0, 2, zB false), (0, 3, zB f), (0, 4, zP 101), (0, 5, zU (Prod.snd y)), (0, 12, .cell (AV.it 4)), (1, 0, zI P.me), (1, 1, zI P.n), (1, 2, zI P.turn), (1, 3, zI P.iss), (1, 4, .arr 8 (nI P.hd)), (1, 12, zM 2), (1, 13, zM 3), (1, 14, .top), (2, 0, .map 2 (smap P.sets)), (3, 0, .maps 2 (wmap P.words) bs ck), (4, 0, Cont.iter 3 ck (seen ++ [b]) ck (AV.agg [AV.int IntKind.i64 (List.getD [Prod.fst (Prod.fst y), Prod.snd (Prod.fst y)] 0 0), AV.int IntKind.i64 (List.getD [Prod.fst (Prod.fst y), Prod.snd (Prod.fst y)] 1 0)]) (AV.int IntKind.u64 (Prod.snd y))), (101, 0, zI (List.getD [Prod.fst (Prod.fst y), Prod.snd (Prod.fst y)] 0 0)), (101, 1, zI (List.getD [Prod.fst (Prod.fst y), Prod.snd (Prod.fst y)] 1 0)), (101, 2, .top)], 197, 43⟩) ?_ ?_
   ·exact ⟨⟨j, _, rfl, he, by rw [hb]; simp⟩, rfl, hnd⟩
   refine sthen_normal ?_
   refine Sem.seq ?_
   refine Sem.of_evC hm T_ok hΓ rfl ?_
   have hlw : (mget (wmap P.words) [[y.1.1, y.1.2].getD 0 0, P.me]).getD (AV.int .u64 0) = .int .u64 ((kget P.words y.1.1 P.me).getD 0) := look_w P.words y.1.1 P.me
   refine evC_goLK (ps := [Option.getD (mget (wmap P.words) [List.getD [Prod.fst (Prod.fst y), Prod.snd (Prod.fst y)] (0 : Nat) (0 : Int), P.me]) (AV.int IntKind.u64 (0 : Int)) = AV.int IntKind.u64 (iv (Option.getD (mget (wmap P.words) [List.getD [Prod.fst (Prod.fst y), Prod.snd (Prod.fst y)] (0 : Nat) (0 : Int), P.me]) (AV.int IntKind.u64 (0 : Int))))]) (s' := ⟨[(0, 0, zP 1), (0, 2, zB false), (0, 3, zB f), (0, 5, zU (Prod.snd y)), (0, 6, zU (iv (Option.getD (mget (wmap P.words) [List.getD [Prod.fst (Prod.fst y), Prod.snd (Prod.fst y)] 0 0, P.me]) (AV.int IntKind.u64 0)))), (0, 7, zB (Option.isSome (mget (wmap P.words) [List.getD [Prod.fst (Prod.fst y), Prod.snd (Prod.fst y)] 0 0, P.me]))), (0, 12, .cell (AV.it 4)), (1, 0, zI P.me), (1, 1, zI P.n), (1, 2, zI P.turn), (1, 3, zI P.iss), (1, 4, .arr 8 (nI P.hd)), (1, 12, zM 2), (1, 13, zM 3), (1, 14, .top), (2, 0, .map 2 (smap P.sets)), (3, 0, .maps 2 (wmap P.words) bs ck), (4, 0, Cont.iter 3 ck (seen ++ [b]) ck (AV.agg [AV.int IntKind.i64 (List.getD [Prod.fst (Prod.fst y), Prod.snd (Prod.fst y)] 0 0), AV.int IntKind.i64 (List.getD [Prod.fst (Prod.fst y), Prod.snd (Prod.fst y)] 1 0)]) (AV.int IntKind.u64 (Prod.snd y)))], 741, 43⟩) ?_ ?_
   ·rw [hlw]; rfl
   rw [look_wsome, hlw]
   have hbad : badW P y = bif (kget P.words ([y.1.1, y.1.2].getD 0 0) P.me).isSome then (kget P.words y.1.1 P.me).getD 0 != y.2 else false := by
    show badW P y = bif (kget P.words y.1.1 P.me).isSome then (kget P.words y.1.1 P.me).getD 0 != y.2 else false
    unfold badW
    cases kget P.words y.1.1 P.me <;> rfl
   refine sthen_normal ?_
   refine Sem.of_evC hm T_ok hΓ rfl ?_
   refine evC_goL0K (s' := ⟨[(0, 0, zP 1), (0, 2, zB false), (0, 3, zB (bif f then true else bif Option.isSome (kget P.words (List.getD [Prod.fst (Prod.fst y), Prod.snd (Prod.fst y)] 0 0) P.me) then Option.getD (kget P.words (Prod.fst (Prod.fst y)) P.me) 0 != Prod.snd y else false)), (0, 12, .cell (AV.it 4)), (1, 0, zI P.me), (1, 1, zI P.n), (1, 2, zI P.turn), (1, 3, zI P.iss), (1, 4, .arr 8 (nI P.hd)), (1, 12, zM 2), (1, 13, zM 3), (1, 14, .top), (2, 0, .map 2 (smap P.sets)), (3, 0, .maps 2 (wmap P.words) bs ck), (4, 0, Cont.iter 3 ck (seen ++ [b]) ck (AV.agg [AV.int IntKind.i64 (List.getD [Prod.fst (Prod.fst y), Prod.snd (Prod.fst y)] 0 0), AV.int IntKind.i64 (List.getD [Prod.fst (Prod.fst y), Prod.snd (Prod.fst y)] 1 0)]) (AV.int IntKind.u64 (Prod.snd y)))], 1061, 43⟩) ?_
   refine block_normal ?_
   have hst := des_step hnd hI hb hns hy
   have hlt := des_less hst
   refine sround_normal (⟨(seen ++ [b], f || badW P y, .agg [.int .i64 ([y.1.1, y.1.2].getD 0 0), .int .i64 ([y.1.1, y.1.2].getD 1 0)], .int .u64 y.2), hst⟩) (Wk.imp' (wk_go [4] rfl (by decide) rfl rfl ⟨⟨_, rfl, rfl⟩, ⟨_, rfl, rfl⟩, ⟨_, rfl, ?_⟩, ⟨_, rfl, rfl⟩, ⟨_, rfl, rfl⟩, ⟨_, rfl, rfl⟩, ⟨_, rfl, rfl⟩, ⟨_, rfl, rfl⟩, ⟨_, rfl, ⟨rfl, fun _ _ => rfl⟩⟩, ⟨_, rfl, rfl⟩, ⟨_, rfl, rfl⟩, ⟨_, rfl, trivial⟩, ⟨_, rfl, Go.Eng.S25.cw_smap _⟩, ⟨_, rfl, cw_maps (Go.Eng.S25.flat_wmap _)⟩, ⟨_, rfl, ⟨rfl, rfl, rfl, rfl⟩⟩, trivial⟩)) ?_
   ·show AV.bool (bif f then true else bif (kget P.words ([y.1.1, y.1.2].getD 0 0) P.me).isSome then (kget P.words y.1.1 P.me).getD 0 != y.2 else false) = AV.bool (f || badW P y)
    rw [hbad]
    cases f <;> rfl
   ·show bs.length - (seen ++ [b]).length < bs.length - seen.length
    have hlt2 : (seen ++ [b]).length ≤ bs.length := hlt
    rw [List.length_append, List.length_singleton] at hlt2 ⊢
    omega
 ·cases e
end Go.Eng.S25