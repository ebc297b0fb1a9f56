/- The engine, part 10: cuts; 'evOp' is right. -/
import Derived.Test.YtodnecfgiimclaaEngI
import Derived.ChangeKeysEq
set_option linter.unusedSimpArgs false
set_option linter.unusedVariables false
namespace Go.Eng
section
variable {P : Program} {mine : Nat → Prop} {ρ : Env} {ro : Nat → Prop} {h : Heap} {w : World}
def OptV (n : Option Int) (v : Option Value) : Prop := match n, v with
 | none, none => True
 | some n, some (.int _ m) => m = n
 | _, _ => False
theorem run_bounds {isS : Bool} {len cap : Nat} {lo hi mx : Option Int} {vlo vhi vmx : Option Value} (h1 : OptV lo vlo) (h2 : OptV hi vhi) (h3 : OptV mx vmx) (hmh : mx.isSome = true → hi.isSome = true)
 (b0 : 0 ≤ lo.getD 0) (b1 : lo.getD 0 ≤ hi.getD len) (b2 : hi.getD len ≤ (mx.getD cap)) (b3 : mx.getD cap ≤ cap) :
 (Instr.sliceBounds isS len cap vlo vhi vmx).run P w = .ok ((lo.getD 0).toNat, (hi.getD len).toNat, (mx.getD cap).toNat) w := by
 have hb : ∀ (k : IntKind) (i : Int) (y : Nat) (code : BoundsCode), 0 ≤ i → i ≤ (y : Int) → (Instr.sliceBound (.int k i) y code).run P w = .ok i.toNat w := fun k i y code h0 h1 => run_sliceBound w k i y code h0 h1
 have tn : ∀ (i : Int), 0 ≤ i → (i.toNat : Int) = i := fun i hi => Int.toNat_of_nonneg hi
 unfold Instr.sliceBounds
 cases lo with
 | none =>
   cases vlo with
   | some _ => exact h1.elim
   | none =>
     cases hi with
     | none =>
       cases vhi with
       | some _ => exact h2.elim
       | none =>
         cases mx with
         | some _ => simp at hmh
         | none => cases vmx with
           | some _ => exact h3.elim
           | none => simp
     | some hi =>
       cases vhi with
       | none => exact h2.elim
       | some vh => cases vh <;> try exact h2.elim
                    rename_i kh hh
                    simp only [OptV] at h2; subst h2
                    simp only [Option.getD_none, Option.getD_some] at b0 b1 b2 b3
                    cases mx with
                    | none => cases vmx with
                      | some _ => exact h3.elim
                      | none => simp only [Option.getD_none] at b2 b3; simp [hb kh _ cap _ b1 b2]
                    | some m => cases vmx with
                      | none => exact h3.elim
                      | some vm => cases vm <;> try exact h3.elim
                                   rename_i km mm
                                   simp only [OptV] at h3; subst h3
                                   simp only [Option.getD_some] at b2 b3
                                   have q1 := fun code => hb kh hh mm.toNat code b1 (by rw [tn _ (by omega)]; exact b2)
                                   simp [hb km _ cap _ (by omega) b3, q1]
 | some lo =>
   cases vlo with
   | none => exact h1.elim
   | some vl =>
     cases vl <;> try exact h1.elim
     rename_i kl ll
     simp only [OptV] at h1; subst h1
     simp only [Option.getD_some] at b0 b1
     cases hi with
     | none =>
       cases vhi with
       | some _ => exact h2.elim
       | none =>
         cases mx with
         | some _ => simp at hmh
         | none => cases vmx with
           | some _ => exact h3.elim
           | none => simp only [Option.getD_none] at b1; simp [hb kl _ len _ b0 b1]
     | some hi =>
       cases vhi with
       | none => exact h2.elim
       | some vh =>
         cases vh <;> try exact h2.elim
         rename_i kh hh
         simp only [OptV] at h2; subst h2
         simp only [Option.getD_some] at b1 b2
         cases mx with
         | none => cases vmx with
           | some _ => exact h3.elim
           | none =>
             simp only [Option.getD_none] at b2
             have q1 := fun code => hb kl ll hh.toNat code b0 (by rw [tn _ (by omega)]; exact b1)
             simp [hb kh _ cap _ (by omega) b2, q1]
         | some m => cases vmx with
           | none => exact h3.elim
           | some vm =>
             cases vm <;> try exact h3.elim
             rename_i km mm
             simp only [OptV] at h3; subst h3
             simp only [Option.getD_some] at b2 b3
             have q1 := fun code => hb kl ll hh.toNat code b0 (by rw [tn _ (by omega)]; exact b1)
             have q2 := fun code => hb kh hh mm.toNat code (by omega) (by rw [tn _ (by omega)]; exact b2)
             simp [hb km _ cap _ (by omega) b3, q1, q2]
theorem bif_some' {α : Type} {c : Bool} {x : Option α} {y : α} (e : (bif c then x else none) = some y) : c = true ∧ x = some y := by
 cases c with
 | true => exact ⟨rfl, e⟩
 | false => cases e
theorem allOnes_get {cs : List AV} (h : allOnes cs = true) : ∀ {us : List Value}, CRel ρ ro w cs us → ∀ i, i < cs.length → ∃ u, us[i]? = some u ∧ u.oneCell' = true ∧ VRel ρ ro w (cs.getD i .nils) u ∧ (cs.getD i .nils).cells = [cs.getD i .nils] := by
 induction cs with
 | nil => intro us _ i hi; simp at hi
 | cons v l ih =>
   intro us hc i hi
   simp only [allOnes, Bool.and_eq_true] at h
   cases hc with
   | cons _ _ u us' h1 h2 t =>
     cases i with
     | zero =>
       refine ⟨u, rfl, h2, h1, ?_⟩
       show v.cells = [v]
       cases v <;> first | rfl | (simp [AV.one] at h)
     | succ i =>
       obtain ⟨u', k1, k2, k3, k4⟩ := ih h.2 t i (by simpa using hi)
       exact ⟨u', by simpa using k1, k2, by simpa using k3, by simpa using k4⟩
   | arr n f _ xs us' _ _ _ _ => simp [AV.one, AV.plain] at h
theorem evSlice_sound {T : Tab} (hT : TabOK P T) {t : Nat} {x : AV} {lo hi mx : Option Int} {out : Out} (e : evSlice T t x lo hi mx = some out) (hs : ∀ q ∈ out.sides, q) {v : Value} (hv : VRel ρ ro w x v) {vlo vhi vmx : Option Value}
 (h1 : OptV lo vlo) (h2 : OptV hi vhi) (h3 : OptV mx vmx) : out.up = [] ∧ ∃ y, (Instr.sliceAt t v vlo vhi vmx).run P w = .ok y w ∧ VRel ρ ro w out.val y := by
 unfold evSlice at e
 split at e
 ·-- a string
  rename_i cells bytes zero s ht
  obtain ⟨d, hd, _, hst⟩ := (hT t _ ht).agg
  simp only at hst
  subst hst
  cases mx with
  | some _ => simp at e
  | none =>
    simp only [Option.some.injEq] at e
    subst e
    have b0 : 0 ≤ lo.getD 0 := hs _ (by simp)
    have b1 : lo.getD 0 ≤ hi.getD s.size := hs _ (by simp)
    have b2 : hi.getD s.size ≤ s.size := hs _ (by simp)
    cases vmx with
    | some _ => exact h3.elim
    | none =>
      have hb := run_bounds (P := P) (w := w) (isS := false) (len := s.size) (cap := s.size) (mx := none) (vmx := none) h1 h2 trivial (by simp) b0 b1 (by simpa using b2) (by simp)
      rw [hv.str_inv]
      refine ⟨rfl, .string (s.extract (lo.getD 0).toNat (hi.getD s.size).toNat), ?_, .str _⟩
      simp [Instr.sliceAt, run_underlying hd, Instr.slice, hb]
 ·-- a slice that is only read
  rename_i cells bytes el zero sz n full f ht
  obtain ⟨d, hd, _, hst⟩ := (hT t _ ht).agg
  simp only at hst
  subst hst
  split at e
  ·rename_i te hte
   simp only [Option.some.injEq] at e
   subst e
   have b0 : 0 ≤ lo.getD 0 := hs _ (by simp)
   have b1 : lo.getD 0 ≤ hi.getD n := hs _ (by simp)
   have b2 : hi.getD n ≤ n := hs _ (by simp)
   have b3 : mx.getD (hi.getD n) = hi.getD n := hs (mx.getD (hi.getD n) = hi.getD n) (by simp)
   have b4 : sz = te.cells := hs (sz = te.cells) (by simp)
   obtain ⟨ie, ze, hie, hse, _⟩ := (hT el te hte).info
   cases hv with
   | rs _ _ cap _ _ a vals hn hm hfull ha hl hc =>
     have hmh : mx.isSome = true → hi.isSome = true := hs (mx.isSome = true → hi.isSome = true) (by simp)
     ·have hmx : mx.getD (cap : Int) = (mx.map fun _ => hi.getD n).getD cap := by
       cases mx with
       | none => rfl
       | some m => simpa using b3
      have hlem : hi.getD n ≤ mx.getD (cap : Int) := by
       cases mx with
       | none => simp only [Option.getD_none]; omega
       | some m => simp only [Option.getD_some] at b3 ⊢; omega
      have hmc : mx.getD (cap : Int) ≤ cap := by
       cases mx with
       | none => simp
       | some m => simp only [Option.getD_some] at b3 ⊢; omega
      have hb := run_bounds (P := P) (w := w) (isS := true) (len := n) (cap := cap) h1 h2 h3 hmh b0 b1 hlem hmc
      refine ⟨rfl, .slice (if (mx.getD (cap : Int)).toNat = (lo.getD 0).toNat then a else a.map (·.add ((lo.getD 0).toNat * sz))) ((hi.getD n).toNat - (lo.getD 0).toNat) ((mx.getD (cap : Int)).toNat - (lo.getD 0).toNat), ?_, ?_⟩
      ·simp [Instr.sliceAt, run_underlying hd, Instr.slice, hb, sizeOf, typeInfo, hie, hse, b4]
      ·refine .rs sz _ _ _ _ _ (fun i => vals ((lo.getD 0).toNat + i)) (by omega) (by omega) (fun hf => ?_) (fun h0 => ?_) (fun i hi => hl _ (by omega)) (fun i hi => hc _ (by omega))
       ·cases mx with
        | none =>
          cases hi with
          | none => simp only at hf; simp only [Option.getD_none]; have := hfull hf; omega
          | some _ => simp at hf
        | some m =>
          simp only [Option.getD_some] at b3 ⊢
          rw [b3]
       ·obtain ⟨ad, rfl, e2, e3, e4⟩ := ha (by omega)
        refine ⟨ad.add ((lo.getD 0).toNat * sz), by rw [if_neg (by omega)]; rfl, by rw [add_block]; exact e2, ?_, fun i hi j u hj => ?_⟩
        ·unfold Addr.add; split
         ·exact e3
         ·rfl
        ·rw [add_add _ _ _ e3, show (lo.getD 0).toNat * sz + (i * sz + j) = ((lo.getD 0).toNat + i) * sz + j by rw [Nat.add_mul]; omega]
         exact e4 _ (by omega) j u hj
  ·cases e
 ·-- an array that is only read
  rename_i cells bytes n el zero cs ht
  obtain ⟨d, hd, _, hst⟩ := (hT t _ ht).agg
  simp only at hst
  subst hst
  split at e
  ·rename_i te hte
   obtain ⟨hq, e⟩ := bif_some' e
   simp only [Bool.and_eq_true, beq_iff_eq] at hq
   obtain ⟨⟨⟨q1, q2⟩, q3, q4⟩, q5⟩ := hq
   have q3 := Nat.le_of_ble_eq_true q3
   have q4 := Nat.le_of_ble_eq_true q4
   injection e with e; subst e
   obtain ⟨ie, ze, hie, hse, _⟩ := (hT el te hte).info
   cases vlo with
   | some _ => exact h1.elim
   | none =>
     cases vhi with
     | some _ => exact h2.elim
     | none =>
       cases vmx with
       | some _ => exact h3.elim
       | none =>
         cases hv with
         | rp _ a us k1 k2 k3 k4 =>
           have hb := run_bounds (P := P) (w := w) (isS := false) (len := n) (cap := n) (lo := none) (hi := none) (mx := none) (vlo := none) (vhi := none) (vmx := none) trivial trivial trivial (by simp) (by simp) (by simp) (by simp) (by simp)
           refine ⟨rfl, .slice (some a) n n, ?_, ?_⟩
           ·simp [Instr.sliceAt, run_underlying hd, Instr.sureAddr, hb, sizeOf, typeInfo, hie, Addr.add]
           ·have hg := allOnes_get q5 k4
            refine .rs 1 n n true _ _ (fun i => [us.getD i undef]) (Nat.le_refl _) (by unfold maxLen; omega) (fun _ => rfl) (fun _ => ⟨a, rfl, k1, k2, fun i hi j u hj => ?_⟩) (fun i hi => rfl) (fun i hi => ?_)
            ·cases j with
             | succ j => simp at hj
             | zero =>
               simp only [List.getElem?_cons_zero, Option.some.injEq] at hj
               subst hj
               obtain ⟨u, h1, _⟩ := hg i (by omega)
               have e1 : us.getD i undef = u := by simp [List.getD_eq_getElem?_getD, h1]
               rw [Nat.mul_one, Nat.add_zero, e1]
               exact k3 i u h1
            ·obtain ⟨u, h1, h2, h3, h4⟩ := hg i (by omega)
             have e1 : us.getD i undef = u := by simp [List.getD_eq_getElem?_getD, h1]
             rw [h4]
             show CRel ρ ro w _ [us.getD i undef]
             rw [e1]
             exact .cons _ _ _ _ h3 h2 .nil
  ·cases e
 ·-- a part of a row of the call's own
  rename_i cells bytes el zero m sz l n ht
  obtain ⟨d, hd, _, hst⟩ := (hT t _ ht).agg
  simp only at hst
  subst hst
  split at e
  ·rename_i te hte
   simp only [Option.some.injEq] at e
   subst e
   have b0 : 0 ≤ lo.getD 0 := hs _ (by simp)
   have b1 : lo.getD 0 ≤ hi.getD n := hs _ (by simp)
   have b2 : hi.getD n ≤ n := hs _ (by simp)
   have b4 : sz = te.cells := hs (sz = te.cells) (by simp)
   obtain ⟨ie, ze, hie, hse, _⟩ := (hT el te hte).info
   cases vmx with
   | some _ => exact h3.elim
   | none =>
     cases hv with
     | sub _ _ _ _ cap a0 a ll c hb hl hn hm ha =>
       have hbd := run_bounds (P := P) (w := w) (isS := true) (len := n) (cap := cap) (mx := none) (vmx := none) h1 h2 trivial (by simp) b0 b1 (by simp only [Option.getD_none]; omega) (by simp)
       refine ⟨rfl, .slice (if cap = (lo.getD 0).toNat then a else a.map (·.add ((lo.getD 0).toNat * sz))) ((hi.getD n).toNat - (lo.getD 0).toNat) (cap - (lo.getD 0).toNat), ?_, ?_⟩
       ·simp [Instr.sliceAt, run_underlying hd, Instr.slice, hbd, sizeOf, typeInfo, hie, hse, b4]
       ·refine .sub m sz _ _ _ a0 _ ll c hb (by omega) (by omega) (by omega) fun h0 => ?_
        obtain ⟨b, rfl, rfl⟩ := ha (by omega)
        refine ⟨b, rfl, ?_⟩
        rw [if_neg (by omega)]
        show some ((⟨b, l * sz, none⟩ : Addr).add _) = _
        have ea : ∀ (o k : Nat), (⟨b, o, none⟩ : Addr).add k = ⟨b, o + k, none⟩ := fun o k => by unfold Addr.add; split <;> simp_all
        rw [ea, Nat.add_mul]
  ·cases e
 ·cases e
theorem VRel.agg_inv {cs : List AV} {x : Value} (hv : VRel ρ ro w (.agg cs) x) : ∃ us, x = .agg us.toArray ∧ CRel ρ ro w cs us := by
 cases hv with
 | agg _ us h => exact ⟨us, rfl, h⟩
theorem eqF_sound {T : Tab} (hT : TabOK P T) {ty : Nat} {c d : AV} {b : Bool} (e : eqF T ty c d = some b) {u v : Value} (hu : VRel ρ ro w c u) (hv : VRel ρ ro w d v) (n : Nat) : (Op.equalIn (n + 1) ty u v).run P w = .ok b w ∧ ∃ ti, tget T ty = some ti ∧ ti.und.isAgg = false := by
 unfold eqF at e
 split at e
 ·rename_i k0 _ k a k' a' ht
  cases hu; cases hv
  obtain ⟨hk, e2⟩ := bif_some' e
  have hk : k = k' := by simpa using hk
  subst hk
  injection e2 with e2; subst e2
  obtain ⟨d, hd, _, hst⟩ := (hT ty _ ht).agg
  simp only at hst; subst hst
  exact ⟨run_equalIn_int w n ty k _ a a' hd, _, ht, rfl⟩
 ·rename_i ht
  cases hu; cases hv
  injection e with e; subst e
  obtain ⟨d, hd, _, hst⟩ := (hT ty _ ht).agg
  simp only at hst; subst hst
  exact ⟨run_equalIn_bool w n ty _ _ hd, _, ht, rfl⟩
 ·rename_i ht
  cases hu; cases hv
  injection e with e; subst e
  obtain ⟨d, hd, _, hst⟩ := (hT ty _ ht).agg
  simp only at hst; subst hst
  exact ⟨run_equalIn_string w n ty _ _ hd, _, ht, rfl⟩
 ·cases e
theorem arrOf_some {c : AV} {k : Nat} {f : Nat → AV} (h : arrOf c = some (k, f)) : c = .arr k f := by
 unfold arrOf at h
 split at h
 ·injection h with h; injection h with h1 h2; subst h1; subst h2; rfl
 ·cases h
theorem eqItems_sound {e : Nat} {A B : Array Value} {f g : Nat → AV} (m : Nat) (p : Nat → Bool) (he : (isAgg e).run P w = .ok false w) : ∀ (is : List Nat),
 (∀ j ∈ is, ∃ u v, A[j]? = some u ∧ B[j]? = some v ∧ (Op.equalIn (m + 1) e u v).run P w = .ok (p j) w) → (Op.eqItems (m + 1) e 1 A B is).run P w = .ok (is.all p) w
 | [], _ => by simp [Op.eqItems]
 | j :: is, h => by
   obtain ⟨u, v, h1, h2, h3⟩ := h j List.mem_cons_self
   have p1 : (part e A (j * 1)).run P w = .ok u w := by unfold part; simp [he, h1]
   have p2 : (part e B (j * 1)).run P w = .ok v w := by unfold part; simp [he, h2]
   have ih := eqItems_sound (f := f) (g := g) m p he is fun k hk => h k (List.mem_cons_of_mem _ hk)
   simp only [Op.eqItems, Sem.run_bind, p1, p2, h3, Result.andThen_ok]
   cases hp : p j with
   | false => simp [hp]
   | true => simpa [hp] using ih
theorem eqArr_sound {T : Tab} (hT : TabOK P T) {ty k : Nat} {f g : Nat → AV} {b : Bool} {ps : List Prop} (e : eqArr T ty k f g = some (b, ps)) (hs : ∀ q ∈ ps, q) {as bs : List Value} (ha : as.length = k) (hb : bs.length = k)
 (ra : ∀ i u, as[i]? = some u → VRel ρ ro w (f i) u) (rb : ∀ i u, bs[i]? = some u → VRel ρ ro w (g i) u) (n : Nat) : (Op.equalIn (n + 2) ty (.agg as.toArray) (.agg bs.toArray)).run P w = .ok b w ∧ (isAgg ty).run P w = .ok true w := by
 unfold eqArr at e
 split at e
 ·rename_i cells bytes m el zero ht
  obtain ⟨hk, e⟩ := bif_some' e
  have hk : m = k := by simpa using hk
  subst hk
  obtain ⟨d, hd, _, hst⟩ := (hT ty _ ht).agg
  simp only at hst; subst hst
  have hag : (isAgg ty).run P w = .ok true w := by unfold isAgg; rw [Sem.run_bind, run_underlying hd w]; simp
  refine ⟨?_, hag⟩
  have key : ∀ (ti : TI) (p : Nat → Bool), tget T el = some ti → ti.und.isAgg = false → (∀ j, j < m → ∀ u v, VRel ρ ro w (f j) u → VRel ρ ro w (g j) v → (Op.equalIn (n + 1) el u v).run P w = .ok (p j) w) →
   (Op.equalIn (n + 2) ty (.agg as.toArray) (.agg bs.toArray)).run P w = .ok ((List.range m).all p) w := by
   intro ti p hti hna hp
   obtain ⟨ie, ze, hie, hse, _⟩ := (hT el ti hti).info
   obtain ⟨de, hde, hagg, _⟩ := (hT el ti hti).agg
   have h1 := (hT el ti hti).one hna
   have hae : (isAgg el).run P w = .ok false w := by
    unfold isAgg
    rw [Sem.run_bind, run_underlying hde w, ← hna, ← hagg]
    cases de <;> simp
   have hcell : P.cellsOf el = 1 := by simp [Program.cellsOf, hie, hse, h1]
   rw [run_equalIn_array w (n + 1) _ _ hd hie, hcell]
   refine eqItems_sound (f := f) (g := g) n p hae _ fun j hj => ?_
   have hj := List.mem_range.1 hj
   obtain ⟨u, hu⟩ : ∃ u, as[j]? = some u := ⟨as[j]'(by omega), by simp [ha, hj]⟩
   obtain ⟨v, hv⟩ : ∃ v, bs[j]? = some v := ⟨bs[j]'(by omega), by simp [hb, hj]⟩
   exact ⟨u, v, by simpa using hu, by simpa using hv, hp j hj u v (ra j u hu) (rb j v hv)⟩
  split at e
  ·rename_i hte
   injection e with e; injection e with e1 e2; subst e1; subst e2
   have hs := hs _ List.mem_cons_self
   refine key _ _ hte rfl fun j hj u v hu hv => ?_
   obtain ⟨q, hq1, hq2⟩ := hs j hj
   rw [hq1] at hu
   rw [hq2] at hv
   have := hu.int_inv
   subst this
   have := hv.int_inv
   subst this
   obtain ⟨d, hd, _, hst⟩ := (hT el _ hte).agg
   simp only at hst; subst hst
   exact run_equalIn_int w n el q _ _ _ hd
  ·rename_i hte
   injection e with e; injection e with e1 e2; subst e1; subst e2
   have hs := hs _ List.mem_cons_self
   refine key _ _ hte rfl fun j hj u v hu hv => ?_
   obtain ⟨hq1, hq2⟩ := hs j hj
   rw [hq1] at hu
   rw [hq2] at hv
   have := hu.bool_inv
   subst this
   have := hv.bool_inv
   subst this
   obtain ⟨d, hd, _, hst⟩ := (hT el _ hte).agg
   simp only at hst; subst hst
   exact run_equalIn_bool w n el _ _ hd
  ·cases e
 ·cases e
theorem eqFs_sound {T : Tab} (hT : TabOK P T) (xs ys : Array Value) (n : Nat) : ∀ (fl : List Field) (fs : List (Nat × Nat × Nat)) (i : Nat) (cs ds : List AV) (b : Bool) (ps : List Prop),
 (∀ (j o ty sz : Nat), fs[j]? = some (o, ty, sz) → ∃ f : Field, fl[j]? = some f ∧ f.offset = o ∧ f.type = ty ∧ ∃ i, P.info? ty = some i ∧ i.size = sz) → fl.length = fs.length → (∀ f ∈ fl, f.name ≠ "_") →
 CRel ρ ro w cs (xs.toList.drop i) → CRel ρ ro w ds (ys.toList.drop i) → eqFs T i fs cs ds = some (b, ps) → (∀ q ∈ ps, q) → (Op.eqFields (n + 2) xs ys fl).run P w = .ok b w
 | [], [], i, cs, ds, b, ps, _, _, _, hc, hd, e, _ => by
   cases cs <;> cases ds <;> simp only [eqFs, Option.some.injEq, reduceCtorEq, Prod.mk.injEq] at e
   obtain ⟨rfl, _⟩ := e
   simp [Op.eqFields]
 | [], _ :: _, _, _, _, _, _, _, hl, _, _, _, _, _ => by simp at hl
 | _ :: _, [], _, _, _, _, _, _, hl, _, _, _, _, _ => by simp at hl
 | f :: fl, (o, ty, sz) :: fs, i, cs, ds, b, ps, hf, hl, hn, hc, hd, e, hs => by
   cases cs with
   | nil => simp [eqFs] at e
   | cons c cs =>
     cases ds with
     | nil => simp [eqFs] at e
     | cons d ds =>
       have hnf := hn f List.mem_cons_self
       obtain ⟨f', k1, k2, k3, inf, k4, k5⟩ := hf 0 o ty sz rfl
       simp at k1; subst k1
       simp only [eqFs] at e
       split at e
       ·rename_i k fa k' ga hca hda
        have hca := arrOf_some hca
        have hda := arrOf_some hda
        subst hca; subst hda
        obtain ⟨ho, e⟩ := bif_some' e
        simp only [Bool.and_eq_true, beq_iff_eq] at ho
        split at e
        ·rename_i x ps1 y qs hx hy
         injection e with e; injection e with e1 e2; subst e1; subst e2
         obtain ⟨⟨ho1, ho2⟩, ho3⟩ := ho
         subst ho3
         generalize hlx : xs.toList.drop i = lx at hc
         generalize hly : ys.toList.drop i = ly at hd
         cases hc with
         | arr _ _ _ as us ha1 ha2 ha3 ha4 =>
           cases hd with
           | arr _ _ _ bs vs hb1 hb2 hb3 hb4 =>
             obtain ⟨q1, q2⟩ := eqArr_sound (P := P) hT hx (fun q hq => hs q (List.mem_append_left _ hq)) ha1 hb1 ha2 hb2 n
             have sub : ∀ {zs : Array Value} {l r : List Value}, zs.toList.drop i = l ++ r → l.length = k → (part f.type zs f.offset).run P w = .ok (.agg l.toArray) w ∧ zs.toList.drop (i + k) = r := by
              intro zs l r h hlen
              refine ⟨?_, by rw [← List.drop_drop, h, ← hlen]; simp⟩
              have hex : (zs.extract i (i + k)) = l.toArray := by
               apply Array.ext'
               rw [Array.toList_extract]
               show (zs.toList.extract i (i + k)) = l
               rw [List.extract_eq_take_drop, Nat.add_sub_cancel_left, h, ← hlen]
               simp
              unfold part
              simp [q2, sizeOf, typeInfo, k3, k4, k5, ho2, k2, ho1, hex]
             obtain ⟨p1, p2⟩ := sub hlx ha1
             obtain ⟨p3, p4⟩ := sub hly hb1
             have ih := eqFs_sound hT xs ys n fl fs (i + k) cs ds y qs (fun j o ty sz hj => by simpa using hf (j + 1) o ty sz (by simpa using hj)) (by simpa using hl) (fun f hf => hn f (List.mem_cons_of_mem _ hf)) (by rw [p2]; exact ha4) (by rw [p4]; exact hb4) hy (fun q hq => hs q (List.mem_append_right _ hq))
             rw [← k3] at q1
             simp only [Op.eqFields, ne_eq, hnf, not_false_eq_true, if_true, Sem.run_bind, p1, p3, q1, Result.andThen_ok]
             cases x with
             | false => simp
             | true => simpa using ih
           | cons _ _ u us h h1 t => cases h
         | cons _ _ u us h h1 t => cases h
        ·cases e
       ·rename_i hna0
        obtain ⟨ho, e⟩ := bif_some' e
        simp only [Bool.and_eq_true, beq_iff_eq] at ho
        split at e
        ·rename_i x y qs hx hy
         injection e with e; injection e with e1 e2; subst e1; subst e2
         have out : ∀ {c : AV} {cs : List AV} {l : List Value}, CRel ρ ro w (c :: cs) l → (∀ k g, c ≠ .arr k g) → ∃ u us, l = u :: us ∧ VRel ρ ro w c u ∧ CRel ρ ro w cs us := by
          intro c cs l h hna
          cases h with
          | cons _ _ u us h h1 t => exact ⟨u, us, rfl, h, t⟩
          | arr k g _ _ _ _ _ _ _ => exact absurd rfl (hna k g)
         have hna : (∀ k g, c ≠ .arr k g) ∧ ∀ k g, d ≠ .arr k g := by
          unfold eqF at hx
          split at hx <;> first | (cases hx; done) | (constructor <;> intro k g h <;> cases h)
         obtain ⟨u, us, e1, hu, hus⟩ := out hc hna.1
         obtain ⟨v, vs, e2, hv, hvs⟩ := out hd hna.2
         obtain ⟨q1, ti, q2, q3⟩ := eqF_sound hT hx hu hv (n + 1)
         have d1 : ∀ {l : List Value} {u : Value} {us : List Value}, l.drop i = u :: us → l[i]? = some u ∧ l.drop (i + 1) = us := by
          intro l u us h
          constructor
          ·have : (l.drop i)[0]? = some u := by rw [h]; rfl
           simpa using this
          ·rw [← List.drop_drop, h]; rfl
         obtain ⟨g1, g2⟩ := d1 e1
         obtain ⟨g3, g4⟩ := d1 e2
         obtain ⟨dd, hdd, hagg, _⟩ := (hT ty _ q2).agg
         have hag : (isAgg f.type).run P w = .ok false w := by
          unfold isAgg
          rw [k3, Sem.run_bind, run_underlying hdd w, ← q3, ← hagg]
          cases dd <;> simp
         have p1 : (part f.type xs f.offset).run P w = .ok u w := by
          have g1' : xs[i]? = some u := by simpa using g1
          rw [k2, ho.1]; unfold part; simp [hag, g1']
         have p2 : (part f.type ys f.offset).run P w = .ok v w := by
          have g3' : ys[i]? = some v := by simpa using g3
          rw [k2, ho.1]; unfold part; simp [hag, g3']
         have ih := eqFs_sound hT xs ys n fl fs (i + 1) cs ds y qs (fun j o ty sz hj => by simpa using hf (j + 1) o ty sz (by simpa using hj)) (by simpa using hl) (fun f hf => hn f (List.mem_cons_of_mem _ hf)) (by rw [g2]; exact hus) (by rw [g4]; exact hvs) hy hs
         rw [← k3] at q1
         simp only [Op.eqFields, ne_eq, hnf, not_false_eq_true, if_true, Sem.run_bind, p1, p2, q1, Result.andThen_ok]
         cases x with
         | false => simp
         | true => simpa using ih
        ·cases e
theorem evIndex_sound {T : Tab} (hT : TabOK P T) {t : Nat} {x : AV} {k : IntKind} {i : Int} {out : Out} (e : evIndex T t x i = some out) (hs : ∀ q ∈ out.sides, q) {v : Value} (hv : VRel ρ ro w x v) :
 out.up = [] ∧ out.rd = [] ∧ ∃ y, (Instr.index t v (.int k i)).run P w = .ok y w ∧ VRel ρ ro w out.val y := by
 unfold evIndex at e
 split at e
 ·rename_i cells bytes n el zero m f ht
  split at e
  ·rename_i te hte
   obtain ⟨hq, e⟩ := bif_some' e
   simp only [Bool.and_eq_true, beq_iff_eq, Bool.not_eq_true'] at hq
   injection e with e; subst e
   obtain ⟨d, hd, _, hst⟩ := (hT t _ ht).agg
   simp only at hst; subst hst
   obtain ⟨ie, ze, hie, hse, _⟩ := (hT el te hte).info
   obtain ⟨de, hde, hagg, _⟩ := (hT el te hte).agg
   have hae : (isAgg el).run P w = .ok false w := by
    unfold isAgg
    rw [Sem.run_bind, run_underlying hde w, ← hq.2, ← hagg]
    cases de <;> simp
   have h0 : 0 ≤ i := hs (0 ≤ i) (by simp)
   have hlt : i < (n : Int) := hs (i < (n : Int)) (by simp)
   refine ⟨rfl, rfl, ?_⟩
   cases hv with
   | agg _ us hc =>
     cases hc with
     | arr _ _ _ as us ha1 ha2 ha3 ha4 =>
       cases ha4
       have hm : m = n := hq.1.1
       obtain ⟨u, hu⟩ : ∃ u, as[i.toNat]? = some u := ⟨as[i.toNat]'(by omega), by simp⟩
       refine ⟨u, ?_, ha2 _ _ hu⟩
       simp [Instr.index, asIntOf, run_underlying hd, h0, hlt, sizeOf, typeInfo, hie, hse, hq.1.2, part, hae, hu]
     | cons _ _ u us h h1 t => cases h
  ·cases e
 ·rename_i cells bytes n el zero cs _ ht
  split at e
  ·rename_i te hte
   obtain ⟨hq, e⟩ := bif_some' e
   obtain ⟨ds, ee, rfl⟩ := Option.map_eq_some_iff.1 e
   obtain ⟨bs, e1, e2⟩ := Option.bind_eq_some_iff.1 ee
   obtain ⟨d, hd, _, hst⟩ := (hT t _ ht).agg
   simp only at hst; subst hst
   obtain ⟨ie, ze, hie, hse, _⟩ := (hT el te hte).info
   obtain ⟨de, hde, hagg, _⟩ := (hT el te hte).agg
   have hae : (isAgg el).run P w = .ok true w := by
    unfold isAgg
    rw [Sem.run_bind, run_underlying hde w, ← hq, ← hagg]
    cases de <;> simp
   have h0 : 0 ≤ i := hs (0 ≤ i) (by simp)
   have hlt : i < (n : Int) := hs (i < (n : Int)) (by simp)
   refine ⟨rfl, rfl, ?_⟩
   cases hv with
   | agg _ us hc =>
     obtain ⟨c2, c3⟩ := takeC_sound (skipC_sound hc e1) e2
     refine ⟨.agg ((us.drop (i.toNat * te.cells)).take te.cells).toArray, ?_, .agg _ _ c2⟩
     have hx : us.toArray.extract (i.toNat * te.cells) (i.toNat * te.cells + te.cells) = ((us.drop (i.toNat * te.cells)).take te.cells).toArray := by
      simp [List.extract_toArray, List.extract_eq_take_drop]
     simp [Instr.index, asIntOf, run_underlying hd, h0, hlt, sizeOf, typeInfo, hie, hse, part, hae, hx]
  ·cases e
 ·rename_i cells bytes zero s ht
  injection e with e; subst e
  obtain ⟨d, hd, _, hst⟩ := (hT t _ ht).agg
  simp only at hst; subst hst
  have := hv.str_inv
  subst this
  have h0 : 0 ≤ i := hs (0 ≤ i) (by simp)
  have hlt : i < (s.size : Int) := hs (i < (s.size : Int)) (by simp)
  have hlt' : i.toNat < s.size := by omega
  refine ⟨rfl, rfl, .int .u8 (bt s i), ?_, .int _ _⟩
  simp [Instr.index, asIntOf, run_underlying hd, h0, bt, hlt']
 ·cases e
theorem evEq_sound {T : Tab} (hT : TabOK P T) {op : BinOp} {t : Nat} {cs ds : List AV} {out : Out} (e : evEq T op t cs ds = some out) (hs : ∀ q ∈ out.sides, q) {us vs : List Value} (hu : CRel ρ ro w cs us) (hv : CRel ρ ro w ds vs) (x y : Operand) :
 out.rd = [] ∧ (eqGuard op t x y (.agg us.toArray) (.agg vs.toArray)).run P w = .ok () w ∧ out.up = [] ∧ ∃ z, (binOp op t (.agg us.toArray) (.agg vs.toArray)).run P w = .ok z w ∧ VRel ρ ro w out.val z := by
 unfold evEq at e
 split at e
 ·rename_i fs _ ht
  obtain ⟨d, hd, _, fields, rfl, hfl, hmap, hst, hgd, hnm⟩ := (hT t _ ht).agg
  have hfo : P.fieldsOf t = fields := by simp [Program.fieldsOf, hd]
  have hlen : fields.toList.length = fs.length := by
   have := congrArg (Option.map List.length) hmap
   simp only [Option.map_some, List.length_map] at this
   have h2 : ∀ (l : List Field) (r : List (Nat × Nat)), l.mapM (fun f => (P.info? f.type).map fun i => (f.offset, i.size)) = some r → r.length = l.length := by
    intro l
    induction l with
    | nil => intro r h; simp at h; subst h; rfl
    | cons a l ih =>
      intro r h
      rw [List.mapM_cons] at h
      simp only [bind, Option.bind_eq_some_iff, pure, Option.some.injEq] at h
      obtain ⟨p, _, q, h3, rfl⟩ := h
      simp [ih q h3]
   have := h2 _ _ hmap
   simpa using this.symm
  have go : ∀ b ps, eqFs T 0 fs cs ds = some (b, ps) → (∀ q ∈ ps, q) → (Op.equalIn 10000 t (.agg us.toArray) (.agg vs.toArray)).run P w = .ok b w := by
   intro b ps hb hps
   rw [run_equalIn_agg w 9999 t _ _ (by rw [hfo]; exact hd) hst, hfo]
   exact eqFs_sound hT us.toArray vs.toArray 9997 fields.toList fs 0 cs ds b ps (fun j o ty sz hj => by
    obtain ⟨f, k1, k2, k3, i, k4, k5, _⟩ := hfl j o ty sz hj
    exact ⟨f, by simpa using k1, k2, k3, i, k4, k5⟩) hlen hnm (by simpa using hu) (by simpa using hv) hb hps
  split at e
  ·rename_i b ps hb
   simp only [Option.some.injEq] at e; subst e
   exact ⟨rfl, run_eqGuard_agg w _ t x y _ _ hgd, rfl, .bool b, by rw [run_eql_struct, go b ps hb hs]; rfl, .bool b⟩
  ·rename_i b ps hb
   simp only [Option.some.injEq] at e; subst e
   exact ⟨rfl, run_eqGuard_agg w _ t x y _ _ hgd, rfl, .bool (!b), by rw [run_neq_struct, go b ps hb hs]; rfl, .bool (!b)⟩
  ·cases e
 ·rename_i cells bytes el zero ht
  obtain ⟨d, hd, _, hst⟩ := (hT t _ ht).agg
  simp only at hst; subst hst
  split at e
  ·rename_i cel byt ki zel k0 a0 k1 a1 l0 b0 l1 b1 hte
   obtain ⟨hk, e2⟩ := bif_some' e
   clear e
   simp only [Bool.and_eq_true, beq_iff_eq] at hk
   obtain ⟨rfl, rfl⟩ := hk
   obtain ⟨ie, ze, hie, hse, _⟩ := (hT el _ hte).info
   obtain ⟨de, hde, hagg, hdi⟩ := (hT el _ hte).agg
   simp only at hdi; subst hdi
   have h1 := (hT el _ hte).one rfl
   have hcell : P.cellsOf el = 1 := by simp only [Program.cellsOf, hie]; exact hse.trans h1
   have hae : (isAgg el).run P w = .ok false w := by
    unfold isAgg
    rw [Sem.run_bind, run_underlying hde w]; simp
   cases hu with
   | cons _ _ u us h1 _ t1 =>
   cases t1 with
   | cons _ _ u2 us2 h2 _ t2 =>
   cases t2
   cases hv with
   | cons _ _ v vs g1 _ s1 =>
   cases s1 with
   | cons _ _ v2 vs2 g2 _ s2 =>
   cases s2
   have := h1.int_inv; subst this
   have := h2.int_inv; subst this
   have := g1.int_inv; subst this
   have := g2.int_inv; subst this
   have go : (Op.equalIn 10000 t (.agg [Value.int k0 a0, .int k1 a1].toArray) (.agg [Value.int k0 b0, .int k1 b1].toArray)).run P w = .ok (a0 == b0 && a1 == b1) w := by
    rw [run_equalIn_array w 9999 _ _ hd hie, hcell]
    have := eqItems_sound (P := P) (w := w) (e := el) (A := [Value.int k0 a0, .int k1 a1].toArray) (B := [Value.int k0 b0, .int k1 b1].toArray) (f := fun _ => .nils) (g := fun _ => .nils) 9998 (fun j => bif j == 0 then a0 == b0 else a1 == b1) hae (List.range 2) (fun j hj => by
     have hj := List.mem_range.1 hj
     match j, hj with
     | 0, _ => exact ⟨_, _, rfl, rfl, run_equalIn_int w 9998 el k0 _ _ _ hde⟩
     | 1, _ => exact ⟨_, _, rfl, rfl, run_equalIn_int w 9998 el k1 _ _ _ hde⟩)
    rw [this]
    simp [List.range_succ]
   have gu : (eqGuard op t x y (.agg [Value.int k0 a0, .int k1 a1].toArray) (.agg [Value.int k0 b0, .int k1 b1].toArray)).run P w = .ok () w := by
    have pt : ∀ (q : Value) (as : Array Value) (i : Nat), as[i]? = some q → (part el as i).run P w = .ok q w := fun q as i hi => by unfold part; simp [hae, hi]
    have gi : ∀ (d : Nat) (k k' : IntKind) (a b : Int), (Op.eqGuardIn (d + 1) el (.int k a) (.int k' b)).run P w = .ok false w := fun d k k' a b => by
     simp [Op.eqGuardIn, run_underlying hde]
    have gg : (Op.eqGuardIn (9999 + 1) t (.agg [Value.int k0 a0, .int k1 a1].toArray) (.agg [Value.int k0 b0, .int k1 b1].toArray)).run P w = .ok false w := by
     have p0 := pt (.int k0 a0) [Value.int k0 a0, .int k1 a1].toArray 0 rfl
     have p1 := pt (.int k1 a1) [Value.int k0 a0, .int k1 a1].toArray 1 rfl
     have q0 := pt (.int k0 b0) [Value.int k0 b0, .int k1 b1].toArray 0 rfl
     have q1 := pt (.int k1 b1) [Value.int k0 b0, .int k1 b1].toArray 1 rfl
     rw [Op.eqGuardIn]
     simp only [Sem.run_bind, run_underlying hd, Result.andThen_ok, run_sizeOf w hie, hcell]
     simp only [Std.Legacy.Range.forIn_eq_forIn_range', Std.Legacy.Range.size, Nat.sub_zero, Nat.add_one_sub_one, Nat.div_one]
     simp only [show List.range' 0 2 = [0, 1] from rfl, List.forIn_cons, List.forIn_nil, Sem.run_bind, Nat.mul_one, p0, p1, q0, q1, Result.andThen_ok, gi, Bool.false_eq_true, if_false, Sem.run_pure]
    cases op <;> simp [eqGuard, run_program, Op.maxDepth, gg]
   cases op <;> try (cases e2; done)
   ·simp only [pureOut, Option.some.injEq] at e2; subst e2
    exact ⟨rfl, gu, rfl, .bool _, by rw [run_eql_struct, go]; rfl, .bool _⟩
   ·simp only [pureOut, Option.some.injEq] at e2; subst e2
    exact ⟨rfl, gu, rfl, .bool _, by rw [run_neq_struct, go]; rfl, .bool _⟩
  ·cases e
 ·cases e
theorem evCut_sound {T : Tab} (hT : TabOK P T) (S : Sim mine ρ ro h w) {hr : Rd} {t j nb : Nat} {lo hi mx : Option Int} {out : Out} (e : evCut T hr t j lo hi mx nb = some out) (hrd : ∀ y ∈ out.rd, hget h y.1 y.2.1 = some y.2.2) (hs : ∀ q ∈ out.sides, q)
 (hnb : 0 < nb) (hf : ρ nb = none) {v : Value} (hv : VRel ρ ro w (.vs j) v) {vlo vhi vmx : Option Value} (h1 : OptV lo vlo) (h2 : OptV hi vhi) (h3 : OptV mx vmx) :
 ∃ y, (Instr.sliceAt t v vlo vhi vmx).run P w = .ok y w ∧ Res mine ρ ro w nb (hput h out.up) out.val y w := by
 unfold evCut at e
 split at e
 ·rename_i cells bytes el zero sz e' n f ht hk
  obtain ⟨d, hd, _, hst⟩ := (hT t _ ht).agg
  simp only at hst
  subst hst
  split at e
  ·rename_i te hte
   simp only [Option.some.injEq] at e
   subst e
   have b0 : lo.getD 0 = 0 := hs (lo.getD 0 = 0) (by simp)
   have b1 : 0 ≤ hi.getD n := hs (0 ≤ hi.getD n) (by simp)
   have b2 : hi.getD n ≤ n := hs _ (by simp)
   have b4 : sz = te.cells := hs (sz = te.cells) (by simp)
   obtain ⟨ie, ze, hie, hse, _⟩ := (hT el te hte).info
   cases vmx with
   | some _ => exact h3.elim
   | none =>
     cases hv with
     | vs _ _ hj hsl =>
       have hc := hrd (j, 0, .vec sz e' n f) (by simp)
       simp only at hc
       obtain ⟨_, x', xs, c1, c2, c3, c4, c5⟩ := S.cont j 0 _ (name_pos S hj) hc
       rw [hj] at c1
       injection c1 with c1
       subst c1
       obtain ⟨a, l, c, rfl⟩ := hsl
       have hlc : l = n ∧ n ≤ c ∧ ∀ ad, a = some ad → ad.spot = none := by
        rcases c3.2 with ⟨e1, e2⟩ | ⟨gg, cap, cur, e1, _, _, e3, _⟩
        ·injection e1 with e0 e1 e3; subst e0; exact ⟨by omega, by omega, fun ad h => by cases h⟩
        ·injection e1 with e0 e1 e4; subst e0; exact ⟨by omega, by omega, fun ad h => by injection h with h; subst h; rfl⟩
       obtain ⟨rfl, hnc, hsp⟩ := hlc
       have hb := run_bounds (P := P) (w := w) (isS := true) (len := l) (cap := c) (mx := none) (vmx := none) h1 h2 trivial (by simp) (by omega) (by omega) (by simp only [Option.getD_none]; omega) (by simp)
       have hadd : a.map (·.add (0 * sz)) = a := by
        cases a with
        | none => rfl
        | some ad =>
          have := hsp ad rfl
          obtain ⟨b, o, sp⟩ := ad
          simp only at this; subst this
          simp [add_at]
       have h00 : (lo.getD 0).toNat = 0 := by rw [b0]; rfl
       refine ⟨.slice a (hi.getD l).toNat c, ?_, ?_⟩
       ·have hadd2 : a.map (·.add 0) = a := by simpa using hadd
        simp [Instr.sliceAt, run_underlying hd, Instr.slice, hb, sizeOf, typeInfo, hie, hse, h00]
        intro _
        simpa using hadd2
       ·have hle : (hi.getD l).toNat ≤ l := by omega
        have hmul : (hi.getD l).toNat * sz ≤ l * sz := Nat.mul_le_mul_right _ hle
        refine grown_vec (f := f) (ys := xs.take ((hi.getD l).toNat * sz)) S hnb hf hj hc ⟨rfl, rfl, rfl, Nat.le_refl _, fun _ _ _ => rfl⟩ ⟨by rw [List.length_take, c3.1]; omega, ?_⟩ (fun b hb => .inl (by cases a with | none => cases hb | some ad => exact hb)) (fun u hu => c4 u (List.mem_of_mem_take hu)) (fun i hi' => ?_)
        ·rcases c3.2 with ⟨e1, e2⟩ | ⟨gg, cap, cur, e1, e2, e3, e4, e5, e6, e7⟩
         ·injection e1 with q1 q2 q3; subst q1; subst q3; exact .inl ⟨by congr; omega, by omega⟩
         ·injection e1 with q1 q2 q3; subst q1; subst q3
          refine .inr ⟨gg, c, cur, rfl, e2, e3, by omega, e5, e6, ?_⟩
          rw [← e7, List.take_take, Nat.min_eq_left hmul]
        ·have := c5 i (by omega)
         have him : i * sz + sz ≤ (hi.getD l).toNat * sz := by rw [← Nat.succ_mul]; exact Nat.mul_le_mul_right _ hi'
         have e8 : ((xs.take ((hi.getD l).toNat * sz)).drop (i * sz)).take sz = (xs.drop (i * sz)).take sz := by
          apply List.ext_getElem?
          intro q
          rw [List.getElem?_take, List.getElem?_take]
          by_cases hq : q < sz
          ·rw [if_pos hq, if_pos hq, List.getElem?_drop, List.getElem?_drop, List.getElem?_take, if_pos (by omega)]
          ·rw [if_neg hq, if_neg hq]
         rw [e8]; exact this
  ·cases e
 ·cases e
theorem evSub_sound {T : Tab} (hT : TabOK P T) (S : Sim mine ρ ro h w) {hr : Rd} {t j : Nat} {lo : Int} {hi : Option Int} {out : Out} (e : evSub T hr t j lo hi = some out) (hrd : ∀ y ∈ out.rd, hget h y.1 y.2.1 = some y.2.2) (hs : ∀ q ∈ out.sides, q)
 {v : Value} (hv : VRel ρ ro w (.vs j) v) {vlo vhi : Option Value} (h1 : OptV (some lo) vlo) (h2 : OptV hi vhi) :
 out.up = [] ∧ ∃ y, (Instr.sliceAt t v vlo vhi none).run P w = .ok y w ∧ VRel ρ ro w out.val y := by
 unfold evSub at e
 split at e
 ·rename_i cells bytes el zero sz e' n f ht hk
  obtain ⟨d, hd, _, hst⟩ := (hT t _ ht).agg
  simp only at hst
  subst hst
  split at e
  ·rename_i te hte
   simp only [Option.some.injEq] at e
   subst e
   have b0 : 0 ≤ lo := hs (0 ≤ lo) (by simp)
   have b1 : lo ≤ hi.getD n := hs _ (by simp)
   have b2 : hi.getD n ≤ n := hs _ (by simp)
   have b4 : sz = te.cells := hs (sz = te.cells) (by simp)
   obtain ⟨ie, ze, hie, hse, _⟩ := (hT el te hte).info
   cases hv with
   | vs _ _ hj hsl =>
     have hc := hrd (j, 0, .vec sz e' n f) (by simp)
     simp only at hc
     obtain ⟨_, x', xs, c1, c2, c3, c4, c5⟩ := S.cont j 0 _ (name_pos S hj) hc
     rw [hj] at c1
     injection c1 with c1
     subst c1
     obtain ⟨a, l, c, rfl⟩ := hsl
     have hlc : l = n ∧ n ≤ c ∧ c ≤ maxLen ∧ (0 < n → ∃ b, a = some ⟨b, 0, none⟩) := by
      rcases c3.2 with ⟨e1, e2⟩ | ⟨gg, cap, cur, e1, _, _, e3, e4, _⟩
      ·injection e1 with e0 e1 e3; exact ⟨by omega, by omega, by rw [e3]; exact Nat.zero_le _, fun h => by omega⟩
      ·injection e1 with e0 e1 e5; subst e0; subst e5; exact ⟨by omega, by omega, e4, fun _ => ⟨_, rfl⟩⟩
     obtain ⟨rfl, hnc, hcm, hsp⟩ := hlc
     have hbd := run_bounds (P := P) (w := w) (isS := true) (len := l) (cap := c) (mx := none) (vmx := none) h1 h2 trivial (by simp) (by simpa using b0) (by simpa using b1) (by simp only [Option.getD_none]; omega) (by simp)
     simp only [Option.getD_some] at hbd
     refine ⟨rfl, .slice (if c = lo.toNat then a else a.map (·.add (lo.toNat * sz))) ((hi.getD l).toNat - lo.toNat) (c - lo.toNat), ?_, ?_⟩
     ·simp [Instr.sliceAt, run_underlying hd, Instr.slice, hbd, sizeOf, typeInfo, hie, hse, b4]
     ·refine .sub j sz _ _ _ a _ l c hj (by omega) (by omega) (by omega) fun h0 => ?_
      obtain ⟨b, rfl⟩ := hsp (by omega)
      refine ⟨b, rfl, ?_⟩
      rw [if_neg (by omega)]
      show some ((⟨b, 0, none⟩ : Addr).add _) = _
      have ea : ∀ (o k : Nat), (⟨b, o, none⟩ : Addr).add k = ⟨b, o + k, none⟩ := fun o k => by unfold Addr.add; split <;> simp_all
      rw [ea, Nat.zero_add]
  ·cases e
 ·cases e
theorem evPart_sound {T : Tab} (hT : TabOK P T) (S : Sim mine ρ ro h w) {hr : Rd} {t j nb : Nat} {lo hi mx : Option Int} {out : Out} (e : evPart T hr t j lo hi mx nb = some out) (hrd : ∀ y ∈ out.rd, hget h y.1 y.2.1 = some y.2.2) (hs : ∀ q ∈ out.sides, q)
 (hnb : 0 < nb) (hf : ρ nb = none) {v : Value} (hv : VRel ρ ro w (.vs j) v) {vlo vhi vmx : Option Value} (h1 : OptV lo vlo) (h2 : OptV hi vhi) (h3 : OptV mx vmx) :
 ∃ y, (Instr.sliceAt t v vlo vhi vmx).run P w = .ok y w ∧ Res mine ρ ro w nb (hput h out.up) out.val y w := by
 unfold evPart at e
 split at e
 ·cases vmx with
  | some _ => exact h3.elim
  | none =>
    obtain ⟨hu, y, r1, r2⟩ := evSub_sound hT S e hrd hs hv h1 h2
    exact ⟨y, r1, by rw [hu]; exact Res.of_pure S r2⟩
 ·exact evCut_sound hT S e hrd hs hnb hf hv h1 h2 h3
end
end Go.Eng