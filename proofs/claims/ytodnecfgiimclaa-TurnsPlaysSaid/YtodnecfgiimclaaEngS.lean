/- The engine, part 19: how functions end, for results without and with rows. -/
import Derived.Test.YtodnecfgiimclaaEngR
import Derived.IntWalk
set_option linter.unusedSimpArgs false
set_option linter.unusedVariables false
namespace Go.Eng
theorem sl_rd {sz : Nat} {hr : Rd} {v : AV} {n : Nat} {f : Nat → AV} {rd : List (Nat × Nat × Cont)} (e : sl sz hr v = some (n, f, rd)) : ∀ x ∈ rd, hr x.1 x.2.1 = some x.2.2 := by
 unfold sl at e
 split at e
 ·obtain ⟨_, e⟩ := bif_some e; injection e with e; injection e with _ e; injection e with _ e; subst e; exact fun _ h => nomatch h
 ·injection e with e; injection e with _ e; injection e with _ e; subst e; exact fun _ h => nomatch h
 ·split at e
  ·rename_i hk
   obtain ⟨_, e2⟩ := bif_some e; injection e2 with e2; injection e2 with e3 e4; injection e4 with e5 e6; subst e3; subst e5; subst e6
   intro x hx
   rw [List.mem_singleton.1 hx]; exact hk
  ·cases e
 ·split at e
  ·rename_i hk
   obtain ⟨_, e2⟩ := bif_some e; injection e2 with e2; injection e2 with e3 e4; injection e4 with e5 e6; subst e3; subst e5; subst e6
   intro x hx
   rw [List.mem_singleton.1 hx]; exact hk
  ·cases e
 ·cases e
inductive Flat : AV → Prop
 | int (k : IntKind) (n : Int) : Flat (.int k n)
 | bool (b : Bool) : Flat (.bool b)
 | str (s : ByteArray) : Flat (.str s)
 | nilp : Flat .nilp
 | nils : Flat .nils
 | nilm : Flat .nilm
 | nilf : Flat .nilf
 | agg (cs : List AV) (t : ∀ v ∈ cs, Flat v) : Flat (.agg cs)
 | tup (cs : List AV) (t : ∀ v ∈ cs, Flat v) : Flat (.tup cs)
 | arr (n : Nat) (f : Nat → AV) (t : ∀ i, Flat (f i)) : Flat (.arr n f)
theorem Flat.has {nm rd : Bool} {v : AV} (h : Flat v) : Has nm rd v := by
 induction h with
 | int k n => exact .int k n
 | bool b => exact .bool b
 | str s => exact .str s
 | nilp => exact .nilp
 | nils => exact .nils
 | nilm => exact .nilm
 | nilf => exact .nilf
 | agg cs t ih => exact .agg cs ih
 | tup cs t ih => exact .tup cs ih
 | arr n f t ih => exact .arr n f fun i _ => ih i
theorem renL_flat {π : Nat → Nat} {cs : List AV} (h : ∀ v ∈ cs, v.ren π = v) : renL π cs = cs := by
 rw [renL_map]
 induction cs with
 | nil => rfl
 | cons v vs ih => simp only [List.map_cons]; rw [h v (by simp), ih fun u hu => h u (List.mem_cons_of_mem _ hu)]
theorem Flat.ren {π : Nat → Nat} {v : AV} (h : Flat v) : v.ren π = v := by
 induction h with
 | agg cs t ih => simp only [AV.ren]; rw [renL_flat ih]
 | tup cs t ih => simp only [AV.ren]; rw [renL_flat ih]
 | arr n f t ih => simp only [AV.ren]; congr; funext i; exact ih i
 | _ => rfl
mutual
def flatB : AV → Bool
 | .int _ _ | .bool _ | .str _ | .nilp | .nils | .nilm | .nilf => true
 | .agg cs | .tup cs => flatL cs
 | _ => false
def flatL : List AV → Bool
 | [] => true
 | v :: vs => flatB v && flatL vs
end
mutual
theorem flat_of : ∀ (v : AV), flatB v = true → Flat v
 | .int k n, _ => .int k n
 | .bool b, _ => .bool b
 | .str s, _ => .str s
 | .nilp, _ => .nilp
 | .nils, _ => .nils
 | .nilm, _ => .nilm
 | .nilf, _ => .nilf
 | .agg cs, h => .agg cs (flat_ofL cs (by simpa only [flatB] using h))
 | .tup cs, h => .tup cs (flat_ofL cs (by simpa only [flatB] using h))
 | .ptr _ _, h => by simp [flatB] at h
 | .pe _ _ _, h => by simp [flatB] at h
 | .vp _ _ _ _, h => by simp [flatB] at h
 | .rp _, h => by simp [flatB] at h
 | .rs _ _ _ _, h => by simp [flatB] at h
 | .vs _, h => by simp [flatB] at h
 | .sub _ _ _ _, h => by simp [flatB] at h
 | .mp _, h => by simp [flatB] at h
 | .fn _ _, h => by simp [flatB] at h
 | .arr _ _, h => by simp [flatB] at h
 | .it _, h => by simp [flatB] at h
 | .whn _ _, h => by simp [flatB] at h
theorem flat_ofL : ∀ (vs : List AV), flatL vs = true → ∀ v ∈ vs, Flat v
 | [], _, v, hv => by cases hv
 | u :: vs, h, v, hv => by
   simp only [flatL, Bool.and_eq_true] at h
   rcases List.mem_cons.1 hv with e | hv
   ·rw [e]; exact flat_of u h.1
   ·exact flat_ofL vs h.2 v hv
end
def ConvH (π : Nat → Nat) (h : Heap) : Heap → Prop
 | [] => True
 | x :: t => (∃ c, hget h (π x.1) x.2.1 = some c ∧ CW π x.2.2 c) ∧ ConvH π h t
theorem ConvH.get {π : Nat → Nat} {h : Heap} : ∀ {h' : Heap}, ConvH π h h' → ∀ n o c', hget h' n o = some c' → ∃ c, hget h (π n) o = some c ∧ CW π c' c
 | [], _, n, o, c', e => by simp [hget] at e
 | (n', o', d) :: t, hc, n, o, c', e => by
   rw [hget_cons] at e
   split at e
   ·rename_i he; obtain ⟨rfl, rfl⟩ := he; injection e with e; subst e; exact hc.1
   ·exact ConvH.get hc.2 n o c' e
theorem wk_go {B : Nat} {s : St} {h' : Heap} {nx' N' : Nat} (l : List Nat) (hB : (Nat.ble 1 B && Nat.ble B s.nx && l.all (fun x => Nat.ble B x && Nat.blt x s.nx)) = true) (hnd : l.Nodup) (hnx : nx' = B + l.length) (hN : N' = s.N) (hc : ConvH (pi B s.nx l) s.h h') : Wk B s ⟨h', nx', N'⟩ := by
 simp only [Bool.and_eq_true] at hB
 refine .weak ⟨l, hN, ⟨Nat.le_of_ble_eq_true hB.1.1, Nat.le_of_ble_eq_true hB.1.2⟩, hnx, hnd, fun x hx => ?_, hc.get⟩
 have := List.all_eq_true.1 hB.2 x hx
 simp only [Bool.and_eq_true] at this
 exact ⟨Nat.le_of_ble_eq_true this.1, by simpa [Nat.blt_eq] using this.2⟩
theorem wk_take {B : Nat} {s : St} {h' : Heap} {nx' N' : Nat} (n : Nat) (hB : (Nat.ble B s.nx && Nat.blt 0 n && Nat.blt n s.nx && h'.all (fun x => !(x.1 == n))) = true) (hnx : nx' = s.nx + 1) (hN : N' = s.N) (hc : ConvH (tk n s.nx) s.h h') : Wk B s ⟨h', nx', N'⟩ := by
 simp only [Bool.and_eq_true] at hB
 refine .take n (Nat.le_of_ble_eq_true hB.1.1.1) ⟨hN, ⟨by simpa [Nat.blt_eq] using hB.1.1.2, by simpa [Nat.blt_eq] using hB.1.2⟩, hnx, fun o c hg => ?_, hc.get⟩
 have := List.all_eq_true.1 hB.2 _ (hget_mem _ _ _ _ hg)
 simp at this
def UpsH (K : List Nat) (nb : Nat) (b : Bool) (m : Nat) (fin : Heap) : List (Nat × Nat × Cont) → Prop
 | [] => True
 | x :: t => (x.2.2.live → ∃ n' c', x.1 = sgm K nb n' ∧ (Nat.blt 0 n' && Nat.blt n' m) = true ∧ hget fin n' x.2.1 = some c' ∧ CF b (sgm K nb) c' x.2.2) ∧ UpsH K nb b m fin t
def KeptH (K : List Nat) (nb : Nat) (b : Bool) (fin : Heap) (up : List (Nat × Nat × Cont)) : List (Nat × Nat × Cont) → Prop
 | [] => True
 | x :: t => (x.1 ∈ K → (keyIn (x.1, x.2.1) (upKeys up) = true ∧ ∀ sz, x ≠ (x.1, sz, .top)) ∨ ∃ i c', K[i]? = some x.1 ∧ hget fin (i + 1) x.2.1 = some c' ∧ CF b (sgm K nb) c' x.2.2) ∧ KeptH K nb b fin up t
section
variable {T : Tab} {fn : Func} {K : List Nat} {nb : Nat} {out : Out} {b : Bool} {s : St}
theorem UpsH.get {m : Nat} {fin : Heap} : ∀ {up : List (Nat × Nat × Cont)}, UpsH K nb b m fin up → ∀ x ∈ up, x.2.2.live → ∃ n' c', x.1 = sgm K nb n' ∧ 0 < n' ∧ n' < m ∧ hget fin n' x.2.1 = some c' ∧ CF b (sgm K nb) c' x.2.2
 | [], _, x, hx, _ => by cases hx
 | y :: t, h, x, hx, hl => by
   rcases List.mem_cons.1 hx with rfl | hx
   ·obtain ⟨n', c', h1, h2, h3⟩ := h.1 hl
    simp only [Bool.and_eq_true] at h2
    exact ⟨n', c', h1, Nat.le_of_ble_eq_true h2.1, Nat.le_of_ble_eq_true h2.2, h3⟩
   ·exact UpsH.get h.2 x hx hl
theorem KeptH.get {fin : Heap} {up : List (Nat × Nat × Cont)} : ∀ {rd : List (Nat × Nat × Cont)}, KeptH K nb b fin up rd → ∀ x ∈ rd, x.1 ∈ K → (keyIn (x.1, x.2.1) (upKeys up) = true ∧ ∀ sz, x ≠ (x.1, sz, .top)) ∨ ∃ i c', K[i]? = some x.1 ∧ hget fin (i + 1) x.2.1 = some c' ∧ CF b (sgm K nb) c' x.2.2
 | [], _, x, hx => by cases hx
 | y :: t, h, x, hx => by
   rcases List.mem_cons.1 hx with rfl | hx
   ·exact h.1
   ·exact KeptH.get h.2 x hx
theorem kept_nil {fin : Heap} {up : List (Nat × Nat × Cont)} : ∀ (rd : List (Nat × Nat × Cont)), KeptH [] nb b fin up rd
 | [] => trivial
 | x :: t => ⟨(fun h => nomatch h), kept_nil t⟩
theorem ends_go (l : List Nat) (v : AV) (fin : Heap) {vs : List AV} (hl : (Nat.ble l.length 32 && Nat.blt K.length s.nx && l.all (fun x => Nat.blt K.length x && Nat.blt x s.nx)) = true) (hnd : l.Nodup)
 (e : evRVs T s.h fn.results.toList = some (vs, [])) (ho : oneAV vs = v.ren (pi (K.length + 1) s.nx l)) (hh : Has true b v) (hv : out.val = v.ren (sgm K nb))
 (hc : ConvH (pi (K.length + 1) s.nx l) s.h fin) (hup : UpsH K nb b (K.length + 1 + l.length) fin out.up) (hk : KeptH K nb b fin out.up out.rd) : Ends T fn K nb out b s := by
 simp only [Bool.and_eq_true] at hl
 have hlen : l.length ≤ 32 := Nat.le_of_ble_eq_true hl.1.1
 have hnx : K.length + 1 ≤ s.nx := Nat.le_of_ble_eq_true hl.1.2
 have hmem : ∀ x ∈ l, K.length + 1 ≤ x ∧ x < s.nx := by
  intro x hx
  have := List.all_eq_true.1 hl.2 x hx
  simp only [Bool.and_eq_true] at this
  exact ⟨Nat.le_of_ble_eq_true this.1, Nat.le_of_ble_eq_true this.2⟩
 exact ⟨s, .refl _ _, ⟨l, ⟨fin, K.length + 1 + l.length, s.N⟩, vs, [], v, ⟨rfl, ⟨Nat.succ_pos _, hnx⟩, rfl, hnd, hmem, hc.get⟩, by show K.length + 1 + l.length ≤ K.length + 33; omega, e, trivial, ho, hh, hv, hup.get, hk.get⟩⟩
theorem ends_flat {vs : List AV} (hnx : 0 < s.nx) (e : evRVs T s.h fn.results.toList = some (vs, [])) (hf : Flat (oneAV vs)) (hup : out.up = []) (hv : out.val = oneAV vs) : Ends T fn [] nb out b s := by
 refine ends_go [] (oneAV vs) [] ?_ List.nodup_nil e hf.ren.symm hf.has (by rw [hv]; exact hf.ren.symm) trivial (by rw [hup]; trivial) (kept_nil _)
 have : Nat.blt 0 s.nx = true := by simpa [Nat.blt_eq] using hnx
 simp [this]
end
end Go.Eng