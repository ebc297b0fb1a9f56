/- Seat 25: a family of pairs, of which one is looked at. -/
import Derived.Test.YtodnecfgiimclaaEngX
import Derived.Test.YtodnecfgiimclaaS25EB
import Derived.Test.YtodnecfgiimclaaS25BC
set_option linter.unusedSimpArgs false
set_option linter.unusedVariables false
set_option maxHeartbeats 2000000
namespace Go.Eng.S25
open Go.Proofs Go.IntWalk
set_option maxRecDepth 10000
def famQ (xs : Nat → Peer) (n : Nat) : Heap := famH pairL 6 1 xs n
def ptQ (i : Nat) : AV := .ptr (1 + 6 * i) 0
def ptD (i : Nat) : AV := .ptr (4 + 6 * i) 0
def ptQS (p i : Nat) : AV := .ptr (swp 6 (1 + 6 * p) 49 (1 + 6 * i)) 0
def ptDS (p i : Nat) : AV := .ptr (swp 6 (1 + 6 * p) 49 (4 + 6 * i)) 0
theorem ptQS_at (p : Nat) : ptQS p p = .ptr 49 0 := by
 unfold ptQS
 have := swp_b (k := 6) (b := 1 + 6 * p) (a := 49) (i := 0) (by decide)
 rw [Nat.add_zero, Nat.add_zero] at this
 rw [this]
theorem ptDS_at (p : Nat) : ptDS p p = .ptr 52 0 := by
 unfold ptDS
 have := swp_b (k := 6) (b := 1 + 6 * p) (a := 49) (i := 3) (by decide)
 rw [show 4 + 6 * p = 1 + 6 * p + 3 by omega, this]
variable {n p nx N : Nat} {xs : Nat → Peer} {A C : Heap} {c : Code} {Q : Exit → St → Prop} {s : St}
theorem famQ_low (hn : n ≤ 8) (xs : Nat → Peer) {B : Nat} (hB : 49 ≤ B) : ∀ x ∈ famQ xs n, 0 < x.1 ∧ x.1 < B ∧ ContLow B x.2.2 :=
 famH_low pairL_lot (by decide) (by omega) fun j hj => pairL_low (by omega) _
theorem famQX_low (hn : n ≤ 8) {B : Nat} (hB : 49 ≤ B) : ∀ x ∈ famX pairL 6 1 xs p n, 0 < x.1 ∧ x.1 < B ∧ ContLow B x.2.2 :=
 famX_low pairL_lot (by decide) (by omega) fun j hj => pairL_low (by omega) _
theorem famQ_at (hn : n ≤ 8) (xs : Nat → Peer) : ∀ x ∈ famQ xs n, 1 ≤ x.1 ∧ x.1 < 49 := fun x hx => by
 have := famQ_low hn xs (Nat.le_refl 49) x hx
 omega
theorem famQX_at (hn : n ≤ 8) (xs : Nat → Peer) : ∀ x ∈ famX pairL 6 1 xs p n, 1 ≤ x.1 ∧ x.1 < 49 := fun x hx => by
 have := famQX_low (xs := xs) (p := p) hn (Nat.le_refl 49) x hx
 omega
theorem inQ (hn : n ≤ 8) (hc : coreB 49 s.h = true) (h : Sem Try.prog 55 c (SFrame (famQ xs n) Q) s) : Sem Try.prog 1 c Q (s.app (famQ xs n)) :=
 Sem.frameC (B' := 55) (m := 49) rfl rfl (famQ_low hn _ (by decide)) hc (fun x hx => (famQ_low hn _ (by decide : 49 ≤ 55) x hx).2.2) h
theorem focQ (hn : n ≤ 8) (hp : p < n) (hnx : 55 ≤ nx) {A' C' : Heap} (hA : slotsB A = true) (hA' : slotsB A' = true) (hC : fromB 55 C = true) (hC' : fromB 55 C' = true) (cA : ConvS (swp 6 (1 + 6 * p) 49) A A') (cC : ConvS (swp 6 (1 + 6 * p) 49) C C')
 (h : Sem Try.prog 55 c (SFrame (famX pairL 6 1 xs p n) Q) ⟨A' ++ (pairL 49 (xs p) ++ C'), nx, N⟩) :
 Sem Try.prog 1 c Q (St.app ⟨A ++ C, nx, N⟩ (famQ xs n)) := by
 refine Sem.wk (focus pairL_lot (p := p) (b := 1) (a := 49) (A' := A') (C := C) (C' := C') hp (by decide) (by omega) hnx hA hA' hC hC' cA cC) ?_
 have hm : coreB 49 (A' ++ (pairL 49 (xs p) ++ C')) = true := by
  refine coreB_of fun x hx => ?_
  rcases List.mem_append.1 hx with hx | hx
  ·exact .inl (slotsB_get hA' x hx)
  rcases List.mem_append.1 hx with hx | hx
  ·exact .inr (pairL_lot.names _ _ _ hx).1
  ·exact .inr (by have := fromB_get hC' x hx; omega)
 exact Sem.frameC (B' := 55) (m := 49) (s := ⟨A' ++ (pairL 49 (xs p) ++ C'), nx, N⟩) rfl rfl (famQX_low hn (by decide)) hm (fun x hx => (famQX_low hn (by decide : 49 ≤ 55) x hx).2.2) h
theorem unfocQ {y : Peer} {nx' : Nat} (hn : n ≤ 8) (hp : p < n) (hnx : 55 ≤ nx) (hnx' : nx ≤ nx') {A' C' : Heap} (hA : slotsB A = true) (hA' : slotsB A' = true) (hC : fromB 55 C = true) (hC' : fromB 55 C' = true) (cA : ConvS (swp 6 (1 + 6 * p) 49) A A') (cC : ConvS (swp 6 (1 + 6 * p) 49) C C') :
 Imp 1 (St.app ⟨A ++ (pairL 49 y ++ C), nx, N⟩ (famX pairL 6 1 xs p n)) (St.app ⟨A' ++ C', nx', N⟩ (famQ (updF xs p y) n)) :=
 Imp.trans (unfocus pairL_lot (p := p) (b := 1) (a := 49) (A' := A') (C := C) (C' := C') hp (by decide) (by omega) hnx hA hA' hC hC' cA cC) (Imp.up rfl hnx' rfl)
theorem pairL_refl {b : Nat} {P : Peer} {π : Nat → Nat} (h : ∀ i, i < 6 → π (b + i) = b + i) : ∀ e ∈ pairL b P, CW π e.2.2 e.2.2 := by
 intro e he
 simp only [pairL, pcon, rcon, List.cons_append, List.nil_append, List.mem_cons, List.not_mem_nil, or_false] at he
 rcases he with rfl | rfl | rfl | rfl | rfl | rfl | rfl | rfl | rfl | rfl | rfl | rfl | rfl | rfl | rfl | rfl | rfl | rfl | rfl | rfl
 ·rfl
 ·rfl
 ·rfl
 ·rfl
 ·exact ⟨rfl, fun _ _ => rfl⟩
 ·show AV.mp _ = AV.mp _; rw [h 1 (by decide)]
 ·show AV.mp _ = AV.mp _; rw [h 2 (by decide)]
 ·trivial
 ·exact cw_smap _
 ·exact cw_map (flat_wmap _)
 ·rfl
 ·rfl
 ·rfl
 ·rfl
 ·exact ⟨rfl, fun _ _ => rfl⟩
 ·show AV.vs _ = AV.vs _; rw [h 4 (by decide)]
 ·show AV.vs _ = AV.vs _; rw [h 5 (by decide)]
 ·trivial
 ·exact cw_rs _
 ·exact cw_rw _
theorem famQ_refl {π : Nat → Nat} (hn : n ≤ 8) (h : ∀ m, 1 ≤ m → m < 49 → π m = m) : ∀ x ∈ famQ xs n, CW π x.2.2 x.2.2 := fun x hx => by
 obtain ⟨j, hj, hx⟩ := famH_mem hx
 exact pairL_refl (fun i hi => h _ (by omega) (by omega)) x hx
theorem famQX_refl {π : Nat → Nat} (hn : n ≤ 8) (h : ∀ m, 1 ≤ m → m < 49 → π m = m) : ∀ x ∈ famX pairL 6 1 xs p n, CW π x.2.2 x.2.2 := fun x hx => by
 obtain ⟨j, hj, _, hx⟩ := famX_mem hx
 exact pairL_refl (fun i hi => h _ (by omega) (by omega)) x hx
theorem renR {B : Nat} (hB49 : B ≤ 49) {h h' R : Heap} {nx' : Nat} (l : List Nat) (hB : (Nat.ble 49 nx && l.all (fun x => Nat.ble 49 x && Nat.blt x nx)) = true) (hnd : l.Nodup) (hnx : 49 + l.length ≤ nx') (hc : ConvH (pi 49 nx l) h h') (hX : coreB 49 h = true)
 (hR : ∀ x ∈ R, 1 ≤ x.1 ∧ x.1 < 49) (cR : ∀ π, (∀ m, 1 ≤ m → m < 49 → π m = m) → ∀ x ∈ R, CW π x.2.2 x.2.2) : Imp B (St.app ⟨h, nx, N⟩ R) (St.app ⟨h', nx', N⟩ R) := by
 simp only [Bool.and_eq_true] at hB
 have h49 : 49 ≤ nx := Nat.le_of_ble_eq_true hB.1
 refine Imp.trans (s' := St.app ⟨h', 49 + l.length, N⟩ R) (RenL.imp (π := pi 49 nx l) ⟨rfl, by show 0 < 49 + l.length; omega, fun m hm => pi_lt (by omega), pi_lt (by decide), fun m m' e => pi_inj h49 hnd (fun x hx => ?_) e, fun m hm => ?_, fun m o c' hh => ?_⟩) (Imp.up rfl hnx rfl)
 ·have := List.all_eq_true.1 hB.2 x hx
  simp only [Bool.and_eq_true] at this
  exact ⟨Nat.le_of_ble_eq_true this.1, by simpa [Nat.blt_eq] using this.2⟩
 ·have hm : 49 + l.length ≤ m := hm
  show nx ≤ pi 49 nx l m
  rw [pi_ge (by omega), List.getElem?_eq_none (by omega)]
  show nx ≤ m + nx
  omega
 rcases app_or hh with hh | hh
 ·obtain ⟨c, e1, e2⟩ := hc.get _ _ _ hh
  exact ⟨c, app_left e1, e2⟩
 ·have a1 : 1 ≤ m ∧ m < 49 := hR _ (hget_in hh)
  rw [pi_lt (by omega)]
  refine ⟨c', app_get hh fun x hx hxn => ?_, cR _ (fun k _ hk => pi_lt (by omega)) _ (hget_in hh)⟩
  have := coreB_get hX x hx; omega
theorem renQ {h h' : Heap} {nx' : Nat} (l : List Nat) (hn : n ≤ 8) (hB : (Nat.ble 49 nx && l.all (fun x => Nat.ble 49 x && Nat.blt x nx)) = true) (hnd : l.Nodup) (hnx : 49 + l.length ≤ nx') (hc : ConvH (pi 49 nx l) h h') (hX : coreB 49 h = true) : Imp 1 (St.app ⟨h, nx, N⟩ (famQ xs n)) (St.app ⟨h', nx', N⟩ (famQ xs n)) :=
 renR (by decide) l hB hnd hnx hc hX (famQ_at hn xs) fun π hπ => famQ_refl hn hπ
theorem unfocR {h : Heap} {y : Peer} {nx' : Nat} (l : List Nat) (hn : n ≤ 8) (hp : p < n) (hB : (Nat.ble 49 nx && l.all (fun x => Nat.ble 49 x && Nat.blt x nx)) = true) (hnd : l.Nodup) (hnx : Nat.max 55 (49 + l.length) ≤ nx') {A' C' : Heap} (hc : ConvH (pi 49 nx l) h (A ++ (pairL 49 y ++ C))) (hX : coreB 49 h = true)
 (hA : slotsB A = true) (hA' : slotsB A' = true) (hC : fromB 55 C = true) (hC' : fromB 55 C' = true) (cA : ConvS (swp 6 (1 + 6 * p) 49) A A') (cC : ConvS (swp 6 (1 + 6 * p) 49) C C') :
 Imp 1 (St.app ⟨h, nx, N⟩ (famX pairL 6 1 xs p n)) (St.app ⟨A' ++ C', nx', N⟩ (famQ (updF xs p y) n)) :=
 Imp.trans (renR (by decide) (nx' := nx') l hB hnd (Nat.le_trans (Nat.le_max_right _ _) hnx) hc hX (famQX_at hn xs) fun π hπ => famQX_refl hn hπ) (unfocQ hn hp (Nat.le_trans (Nat.le_max_left _ _) hnx) (Nat.le_refl _) hA hA' hC hC' cA cC)
theorem unfocS {h : Heap} {nx' : Nat} (l : List Nat) (hn : n ≤ 8) (hp : p < n) (hB : (Nat.ble 49 nx && l.all (fun x => Nat.ble 49 x && Nat.blt x nx)) = true) (hnd : l.Nodup) (hnx : Nat.max 55 (49 + l.length) ≤ nx') {A' C' : Heap} (hc : ConvH (pi 49 nx l) h (A ++ (pairL 49 (xs p) ++ C))) (hX : coreB 49 h = true)
 (hA : slotsB A = true) (hA' : slotsB A' = true) (hC : fromB 55 C = true) (hC' : fromB 55 C' = true) (cA : ConvS (swp 6 (1 + 6 * p) 49) A A') (cC : ConvS (swp 6 (1 + 6 * p) 49) C C') :
 Imp 1 (St.app ⟨h, nx, N⟩ (famX pairL 6 1 xs p n)) (St.app ⟨A' ++ C', nx', N⟩ (famQ xs n)) := by
 have := unfocR (xs := xs) (N := N) (y := xs p) l hn hp hB hnd hnx hc hX hA hA' hC hC' cA cC
 rwa [updF_self] at this
theorem keepR {B : Nat} {h h' R : Heap} {nx' : Nat} (ks : List (Nat × Nat)) (e : pruneH h ks = h') (hc : coreB 49 h = true) (hR : ∀ x ∈ R, 1 ≤ x.1 ∧ x.1 < 49) (hn : nx ≤ nx') : Imp B (St.app ⟨h, nx, N⟩ R) (St.app ⟨h', nx', N⟩ R) := by
 subst e
 refine Imp.trans (s' := St.app ⟨pruneH h ks, nx, N⟩ R) (Wk.imp' (.sub ⟨rfl, rfl, fun n o c hh => ?_⟩)) (Imp.up rfl hn rfl)
 rcases app_or hh with hh | hh
 ·exact app_left (pruneH_sub _ _ _ _ _ hh)
 ·have a1 : 1 ≤ n ∧ n < 49 := hR _ (hget_in hh)
  refine app_get hh fun x hx hxn => ?_
  have a2 := coreB_get hc x hx; omega
theorem keepQ {h h' : Heap} {nx' : Nat} (ks : List (Nat × Nat)) (hn : n ≤ 8) (e : pruneH h ks = h') (hc : coreB 49 h = true) (hnx : nx ≤ nx') : Imp 1 (St.app ⟨h, nx, N⟩ (famQ xs n)) (St.app ⟨h', nx', N⟩ (famQ xs n)) :=
 keepR ks e hc (famQ_at hn xs) hnx
theorem cq_vs {m : Nat} (hp : p < 8) (hm : 55 ≤ m) : CW (swp 6 (1 + 6 * p) 49) (.cell (.vs m)) (.cell (.vs m)) := by
 show AV.vs m = AV.vs (swp 6 (1 + 6 * p) 49 m)
 rw [swp_ne (by omega) (by omega)]
theorem cq_ptr {m : Nat} (hp : p < 8) (hm : 55 ≤ m) : CW (swp 6 (1 + 6 * p) 49) (.cell (.ptr m 0)) (.cell (.ptr m 0)) := by
 show AV.ptr m 0 = AV.ptr (swp 6 (1 + 6 * p) 49 m) 0
 rw [swp_ne (by omega) (by omega)]
theorem cq_rowQ (hn : n ≤ 8) (hp : p < n) : CW (swp 6 (1 + 6 * p) 49) (.vec 1 28 n (ptQS p)) (.vec 1 28 n ptQ) := by
 refine ⟨rfl, rfl, rfl, fun i hi => ?_⟩
 show AV.ptr (1 + 6 * i) 0 = AV.ptr (swp 6 (1 + 6 * p) 49 (swp 6 (1 + 6 * p) 49 (1 + 6 * i))) 0
 rw [swp_swp (by omega)]
theorem cq_rowD (hn : n ≤ 8) (hp : p < n) : CW (swp 6 (1 + 6 * p) 49) (.vec 1 54 n (ptDS p)) (.vec 1 54 n ptD) := by
 refine ⟨rfl, rfl, rfl, fun i hi => ?_⟩
 show AV.ptr (4 + 6 * i) 0 = AV.ptr (swp 6 (1 + 6 * p) 49 (swp 6 (1 + 6 * p) 49 (4 + 6 * i))) 0
 rw [swp_swp (by omega)]
theorem cq_rowQu : CW (swp 6 (1 + 6 * p) 49) (.vec 1 28 n ptQ) (.vec 1 28 n (ptQS p)) := ⟨rfl, rfl, rfl, fun i hi => rfl⟩
theorem cq_rowDu : CW (swp 6 (1 + 6 * p) 49) (.vec 1 54 n ptD) (.vec 1 54 n (ptDS p)) := ⟨rfl, rfl, rfl, fun i hi => rfl⟩
theorem cq_toQ (hp : p < 8) : CW (swp 6 (1 + 6 * p) 49) (.cell (.ptr 49 0)) (.cell (ptQ p)) := by
 show AV.ptr (1 + 6 * p) 0 = AV.ptr (swp 6 (1 + 6 * p) 49 49) 0
 have := swp_a (k := 6) (b := 1 + 6 * p) (a := 49) (i := 0) (by omega) (by decide)
 rw [Nat.add_zero, Nat.add_zero] at this
 rw [this]
theorem cq_toD (hp : p < 8) : CW (swp 6 (1 + 6 * p) 49) (.cell (.ptr 52 0)) (.cell (ptD p)) := by
 show AV.ptr (4 + 6 * p) 0 = AV.ptr (swp 6 (1 + 6 * p) 49 (49 + 3)) 0
 rw [swp_a (by omega) (by decide), show 1 + 6 * p + 3 = 4 + 6 * p by omega]
theorem cq_froQ : CW (swp 6 (1 + 6 * p) 49) (.cell (ptQ p)) (.cell (.ptr 49 0)) := by
 show AV.ptr 49 0 = AV.ptr (swp 6 (1 + 6 * p) 49 (1 + 6 * p)) 0
 have := swp_b (k := 6) (b := 1 + 6 * p) (a := 49) (i := 0) (by decide)
 rw [Nat.add_zero, Nat.add_zero] at this
 rw [this]
theorem cq_froD : CW (swp 6 (1 + 6 * p) 49) (.cell (ptD p)) (.cell (.ptr 52 0)) := by
 show AV.ptr 52 0 = AV.ptr (swp 6 (1 + 6 * p) 49 (4 + 6 * p)) 0
 have := swp_b (k := 6) (b := 1 + 6 * p) (a := 49) (i := 3) (by decide)
 rw [show 4 + 6 * p = 1 + 6 * p + 3 by omega, this]
theorem cw_st {Ls : List (List Int)} {π : Nat → Nat} {k : Nat} : CW π (.vec 1 9 k (nSt Ls)) (.vec 1 9 k (nSt Ls)) := ⟨rfl, rfl, rfl, fun i hi => rfl⟩
theorem cw_b {L : List Int} {π : Nat → Nat} {k : Nat} : CW π (.vec 1 5 k (nU L)) (.vec 1 5 k (nU L)) := ⟨rfl, rfl, rfl, fun i hi => rfl⟩
theorem cv_pt {f : Nat → Nat} {B n nx t : Nat} {l : List Nat} (hB : ∀ i, i < n → f i < B) : CW (pi B nx l) (.vec 1 t n fun i => .ptr (f i) 0) (.vec 1 t n fun i => .ptr (f i) 0) := by
 refine ⟨rfl, rfl, rfl, fun j hj => ?_⟩
 show AV.ptr (f j) 0 = AV.ptr (pi B nx l (f j)) 0
 rw [pi_lt (hB j hj)]
theorem cv_Q {n nx : Nat} {l : List Nat} (hn : n ≤ 8) : CW (pi 49 nx l) (.vec 1 28 n ptQ) (.vec 1 28 n ptQ) := cv_pt (f := fun i => 1 + 6 * i) fun i hi => by omega
theorem cv_D {n nx : Nat} {l : List Nat} (hn : n ≤ 8) : CW (pi 49 nx l) (.vec 1 54 n ptD) (.vec 1 54 n ptD) := cv_pt (f := fun i => 4 + 6 * i) fun i hi => by omega
theorem cv_QS {nx : Nat} {l : List Nat} (hn : n ≤ 8) (hp : p < n) (h0 : l[0]? = some 49) : CW (pi 49 nx l) (.vec 1 28 n (ptQS p)) (.vec 1 28 n (ptQS p)) := by
 refine ⟨rfl, rfl, rfl, fun j hj => ?_⟩
 by_cases h : j = p
 ·subst h
  rw [ptQS_at]
  show AV.ptr 49 0 = AV.ptr (pi 49 nx l 49) 0
  rw [pi_ge (by omega), h0]; rfl
 ·show AV.ptr _ 0 = AV.ptr (pi 49 nx l (swp 6 (1 + 6 * p) 49 (1 + 6 * j))) 0
  rw [swp_ne (by omega) (by omega), pi_lt (by omega)]
theorem cv_DS {nx : Nat} {l : List Nat} (hn : n ≤ 8) (hp : p < n) (h0 : l[3]? = some 52) : CW (pi 49 nx l) (.vec 1 54 n (ptDS p)) (.vec 1 54 n (ptDS p)) := by
 refine ⟨rfl, rfl, rfl, fun j hj => ?_⟩
 by_cases h : j = p
 ·subst h
  rw [ptDS_at]
  show AV.ptr 52 0 = AV.ptr (pi 49 nx l 52) 0
  rw [pi_ge (by omega), h0]; rfl
 ·show AV.ptr _ 0 = AV.ptr (pi 49 nx l (swp 6 (1 + 6 * p) 49 (4 + 6 * j))) 0
  rw [swp_ne (by omega) (by omega), pi_lt (by omega)]
theorem cu_QS {B nx : Nat} {l : List Nat} (hn : n ≤ 8) (hp : p < n) (hB : 55 ≤ B) : CW (pi B nx l) (.vec 1 28 n (ptQS p)) (.vec 1 28 n (ptQS p)) := by
 refine ⟨rfl, rfl, rfl, fun j hj => ?_⟩
 show AV.ptr _ 0 = AV.ptr (pi B nx l (swp 6 (1 + 6 * p) 49 (1 + 6 * j))) 0
 rw [pi_lt]
 unfold swp
 split
 ·omega
 ·split <;> omega
theorem cu_DS {B nx : Nat} {l : List Nat} (hn : n ≤ 8) (hp : p < n) (hB : 55 ≤ B) : CW (pi B nx l) (.vec 1 54 n (ptDS p)) (.vec 1 54 n (ptDS p)) := by
 refine ⟨rfl, rfl, rfl, fun j hj => ?_⟩
 show AV.ptr _ 0 = AV.ptr (pi B nx l (swp 6 (1 + 6 * p) 49 (4 + 6 * j))) 0
 rw [pi_lt]
 unfold swp
 split
 ·omega
 ·split <;> omega
theorem cu_Q {B nx : Nat} {l : List Nat} (hn : n ≤ 8) (hB : 49 ≤ B) : CW (pi B nx l) (.vec 1 28 n ptQ) (.vec 1 28 n ptQ) := cv_pt (f := fun i => 1 + 6 * i) fun i hi => by omega
theorem cu_D {B nx : Nat} {l : List Nat} (hn : n ≤ 8) (hB : 49 ≤ B) : CW (pi B nx l) (.vec 1 54 n ptD) (.vec 1 54 n ptD) := cv_pt (f := fun i => 4 + 6 * i) fun i hi => by omega
end Go.Eng.S25
/- Seat 25: what holds of all peers, and of the messages that were kept, as the acts go on. Plain Lean. -/
set_option linter.unusedSimpArgs false
set_option linter.unusedVariables false
set_option maxHeartbeats 2000000
namespace Go.Eng.S25
open Go.Proofs Go.IntWalk
structure KMP (n : Nat) (M : List Int) : Prop where
 u : IsU M
 len : 2 ≤ M.length ∧ M.length ≤ 1000000
 to : 0 ≤ M.getD 1 0 ∧ M.getD 1 0 < (n : Nat)
structure PGI (n i : Nat) (Ps : Nat → Peer) (Ms : List (List Int)) : Prop where
 pi : ∀ p, p < n → PI i (Ps p)
 num : ∀ p, p < n → (Ps p).n = (n : Nat)
 km : ∀ M ∈ Ms, KMP n M
 len : Ms.length ≤ i
theorem PGI.up {n i : Nat} {Ps : Nat → Peer} {Ms : List (List Int)} (A : PGI n i Ps Ms) : PGI n (i + 1) Ps Ms :=
 ⟨fun p hp => (A.pi p hp).up, A.num, A.km, Nat.le_succ_of_le A.len⟩
theorem PGI.upd {n i : Nat} {Ps : Nat → Peer} {Ms : List (List Int)} (A : PGI n i Ps Ms) {p : Nat} {y : Peer} (h : PI (i + 1) y) (hn : y.n = (n : Nat)) : PGI n (i + 1) (updF Ps p y) Ms := by
 refine ⟨fun q hq => ?_, fun q hq => ?_, A.km, Nat.le_succ_of_le A.len⟩
 ·by_cases e : q = p
  ·subst e; rw [updF_at]; exact h
  ·rw [updF_ne _ _ e]; exact (A.pi q hq).up
 ·by_cases e : q = p
  ·subst e; rw [updF_at]; exact hn
  ·rw [updF_ne _ _ e]; exact A.num q hq
theorem issP_n (P : Peer) (L : List Int) : (issP P L).n = P.n := by
 unfold issP
 cases issE P L.length == 0 <;> rfl
theorem noteP_n (P : Peer) (w : Int) : (noteP P w).n = P.n := by
 unfold noteP
 cases noteE P w == 0 <;> rfl
theorem advP_n (P : Peer) : (advP P).n = P.n := by
 unfold advP
 cases advK P P.n.toNat <;> rfl
theorem recP_n (P : Peer) (L : List Int) : (recP P L).n = P.n := by
 unfold recP
 cases recE P L == 0 <;> rfl
theorem send_km {n : Nat} {P : Peer} (h : OkP P) (hn : P.n = (n : Nat)) {to : Int} (e : sendE P to = 0) : KMP n (sendB P to) := by
 have eB : sendB P to = headB P to ++ setsB P (P.hd to.toNat) (cntOf P to).toNat := by unfold sendB; rw [e]; rfl
 unfold sendE at e
 cases ho : otherB P to with
 | false => rw [ho] at e; simp at e
 | true =>
   rw [ho] at e
   simp only [Bool.not_true, cond_false] at e
   cases hc : decide (cntOf P to > 255) with
   | true => rw [hc] at e; simp at e
   | false =>
     have hc : cntOf P to ≤ 255 := by have := of_decide_eq_false hc; omega
     obtain ⟨h1, h2⟩ := headB_ok h ho hc
     obtain ⟨s1, s2⟩ := setsB_ok h (cntOf P to).toNat (P.hd to.toNat)
     have hk : (cntOf P to).toNat ≤ 255 := by omega
     have ho2 : 0 ≤ to ∧ to < P.n := by
      unfold otherB at ho
      simp only [Bool.and_eq_true, decide_eq_true_eq] at ho
      exact ho.1
     rw [eB]
     refine ⟨isU_app h2 s2, ⟨by rw [List.length_append]; omega, ?_⟩, ?_⟩
     ·rw [List.length_append]
      have : 706 * (cntOf P to).toNat ≤ 706 * 255 := Nat.mul_le_mul_left _ hk
      omega
     ·have e1 : (headB P to ++ setsB P (P.hd to.toNat) (cntOf P to).toNat).getD 1 0 = to := rfl
      rw [e1]
      omega
theorem PGI.kept {n i : Nat} {Ps : Nat → Peer} {Ms : List (List Int)} (A : PGI n i Ps Ms) {p : Nat} (hp : p < n) {to : Int} (e : sendE (Ps p) to = 0) : PGI n (i + 1) Ps (Ms ++ [sendB (Ps p) to]) :=
 ⟨fun p hp => (A.pi p hp).up, A.num, fun M hM => (List.mem_append.1 hM).elim (A.km M) fun h => by rw [List.mem_singleton.1 h]; exact send_km (A.pi p hp).ok (A.num p hp) e, by rw [List.length_append]; exact Nat.add_le_add_right A.len 1⟩
theorem PGI.new {n : Nat} (hn : 2 ≤ n ∧ n ≤ 8) : PGI n 0 (newF n) [] :=
 ⟨fun p hp => PI.new ⟨by omega, by omega⟩ ⟨by omega, by omega⟩, fun p hp => rfl, fun M hM => absurd hM List.not_mem_nil, Nat.le_refl _⟩
theorem PGI.at {n i : Nat} {Ps : Nat → Peer} {Ms : List (List Int)} (A : PGI n i Ps Ms) (hi : i ≤ 1000) {p : Nat} (hp : p < n) : okT (Ps p) ∧ OkP (Ps p) ∧ OkR (Ps p) ∧ OkK (Ps p) ∧ OkW (Ps p) ∧ OkN (Ps p) ∧ kget (Ps p).sets (Ps p).iss (Ps p).me = none :=
 ⟨(A.pi p hp).okT hi, (A.pi p hp).ok, (A.pi p hp).okR hi, (A.pi p hp).K, (A.pi p hp).W, (A.pi p hp).okN hi, (A.pi p hp).free⟩
theorem advL_U {P : Peer} (h : OkP P) : ∀ (k : Nat) (L : List Int), L ∈ advL P k → IsU L
 | 0, L, hL => absurd hL List.not_mem_nil
 | k + 1, L, hL => (List.mem_append.1 hL).elim (advL_U h k L) fun hh => by rw [List.mem_singleton.1 hh]; exact (knownL_ok h _ _).2
theorem advL_le (P : Peer) : ∀ k : Nat, (advL P k).length = k
 | 0 => rfl
 | k + 1 => by rw [advL, List.length_append, advL_le P k]; rfl
theorem advS_U {P : Peer} (h : OkP P) : ∀ L ∈ advS P, IsU L := fun L hL => by
 unfold advS at hL
 cases hb : advK P P.n.toNat with
 | true => rw [hb] at hL; exact advL_U h _ L hL
 | false => rw [hb] at hL; exact absurd hL List.not_mem_nil
theorem advS_len {P : Peer} (h : OkP P) : (advS P).length ≤ 8 := by
 unfold advS
 cases advK P P.n.toNat with
 | true => have := h.n; rw [cond_true, advL_le]; omega
 | false => exact Nat.zero_le _
theorem sendB_U {P : Peer} (h : OkP P) (to : Int) : IsU (sendB P to) := by
 cases e : sendE P to == 0 with
 | false => unfold sendB; rw [e]; exact fun x hx => absurd hx List.not_mem_nil
 | true => exact (send_km (n := P.n.toNat) h (by have := h.n; omega) (by simpa using e)).u
def ovF (k : Nat) (v : Int) (L : List Int) (j : Nat) : AV := bif Nat.blt j k then .int .u8 v else nU L j
theorem ovF_ren (k : Nat) (v : Int) (L : List Int) (j : Nat) {π : Nat → Nat} : (ovF k v L j).ren π = ovF k v L j := by
 unfold ovF
 cases Nat.blt j k <;> rfl
theorem ovF_put (k : Nat) (v : Int) (L : List Int) (j : Nat) : (bif j == k then AV.int .u8 v else ovF k v L j) = ovF (k + 1) v L j := by
 unfold ovF
 by_cases h : j = k
 ·subst h
  rw [beq_self_eq_true, cond_true, nblt_yes (Nat.lt_succ_self j), cond_true]
 ·have hb : (j == k) = false := by simpa using h
  rw [hb, cond_false]
  by_cases h1 : j < k
  ·rw [nblt_yes h1, nblt_yes (by omega : j < k + 1)]
  ·rw [nblt_no h1, nblt_no (by omega : ¬ j < k + 1)]
end Go.Eng.S25