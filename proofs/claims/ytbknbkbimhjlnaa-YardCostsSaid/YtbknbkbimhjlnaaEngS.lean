/- The engine, part 19: how functions end, for results without and with rows. -/
import Derived.Test.YtbknbkbimhjlnaaEngR
import Derived.IntWalk
set_option linter.unusedSimpArgs false
set_option linter.unusedVariables false
namespace Go.Eng

theorem sl_rd {sz : Nat} {hr : Rd} {v : AV} {n : Nat} {f : Nat → AV} {rd : List (Nat × Nat × Cont)} (e : sl sz hr v = some (n, f, rd)) : ∀ x ∈ rd, hr x.1 x.2.1 = some x.2.2 := by
  unfold sl at e
  split at e
  · obtain ⟨_, e⟩ := bif_some e; injection e with e; injection e with _ e; injection e with _ e; subst e; exact fun _ h => nomatch h
  · injection e with e; injection e with _ e; injection e with _ e; subst e; exact fun _ h => nomatch h
  · split at e
    · rename_i hk
      obtain ⟨_, e2⟩ := bif_some e; injection e2 with e2; injection e2 with e3 e4; injection e4 with e5 e6; subst e3; subst e5; subst e6
      intro x hx
      rw [List.mem_singleton.1 hx]; exact hk
    · cases e
  · cases e

/-- A value without names, and without memory. -/
inductive Flat : AV → Prop
  | int (k : IntKind) (n : Int) : Flat (.int k n)
  | bool (b : Bool) : Flat (.bool b)
  | str (s : ByteArray) : Flat (.str s)
  | nilp : Flat .nilp
  | nils : Flat .nils
  | nilm : Flat .nilm
  | nilf : Flat .nilf
  | agg (cs : List AV) (t : ∀ v ∈ cs, Flat v) : Flat (.agg cs)
  | tup (cs : List AV) (t : ∀ v ∈ cs, Flat v) : Flat (.tup cs)
  | arr (n : Nat) (f : Nat → AV) (t : ∀ i, Flat (f i)) : Flat (.arr n f)

theorem Flat.has {nm rd : Bool} {v : AV} (h : Flat v) : Has nm rd v := by
  induction h with
  | int k n => exact .int k n
  | bool b => exact .bool b
  | str s => exact .str s
  | nilp => exact .nilp
  | nils => exact .nils
  | nilm => exact .nilm
  | nilf => exact .nilf
  | agg cs t ih => exact .agg cs ih
  | tup cs t ih => exact .tup cs ih
  | arr n f t ih => exact .arr n f fun i _ => ih i

theorem renL_flat {π : Nat → Nat} {cs : List AV} (h : ∀ v ∈ cs, v.ren π = v) : renL π cs = cs := by
  rw [renL_map]
  induction cs with
  | nil => rfl
  | cons v vs ih => simp only [List.map_cons]; rw [h v (by simp), ih fun u hu => h u (List.mem_cons_of_mem _ hu)]

theorem Flat.ren {π : Nat → Nat} {v : AV} (h : Flat v) : v.ren π = v := by
  induction h with
  | agg cs t ih => simp only [AV.ren]; rw [renL_flat ih]
  | tup cs t ih => simp only [AV.ren]; rw [renL_flat ih]
  | arr n f t ih => simp only [AV.ren]; congr; funext i; exact ih i
  | _ => rfl

mutual
def flatB : AV → Bool
  | .int _ _ | .bool _ | .str _ | .nilp | .nils | .nilm | .nilf => true
  | .agg cs | .tup cs => flatL cs
  | _ => false
def flatL : List AV → Bool
  | [] => true
  | v :: vs => flatB v && flatL vs
end

mutual
theorem flat_of : ∀ (v : AV), flatB v = true → Flat v
  | .int k n, _ => .int k n
  | .bool b, _ => .bool b
  | .str s, _ => .str s
  | .nilp, _ => .nilp
  | .nils, _ => .nils
  | .nilm, _ => .nilm
  | .nilf, _ => .nilf
  | .agg cs, h => .agg cs (flat_ofL cs (by simpa only [flatB] using h))
  | .tup cs, h => .tup cs (flat_ofL cs (by simpa only [flatB] using h))
  | .ptr _ _, h => by simp [flatB] at h
  | .pe _ _ _, h => by simp [flatB] at h
  | .vp _ _ _ _, h => by simp [flatB] at h
  | .rp _, h => by simp [flatB] at h
  | .rs _ _ _ _, h => by simp [flatB] at h
  | .vs _, h => by simp [flatB] at h
  | .mp _, h => by simp [flatB] at h
  | .fn _ _, h => by simp [flatB] at h
  | .arr _ _, h => by simp [flatB] at h
  | .it _, h => by simp [flatB] at h
  | .whn _ _, h => by simp [flatB] at h
theorem flat_ofL : ∀ (vs : List AV), flatL vs = true → ∀ v ∈ vs, Flat v
  | [], _, v, hv => by cases hv
  | u :: vs, h, v, hv => by
    simp only [flatL, Bool.and_eq_true] at h
    rcases List.mem_cons.1 hv with e | hv
    · rw [e]; exact flat_of u h.1
    · exact flat_ofL vs h.2 v hv
end

section
variable {T : Tab} {fn : Func} {nb : Nat} {out : Out} {b : Bool} {s : St}

/-- A function that answers numbers and the like. -/
theorem ends_flat {vs : List AV} (hnx : 0 < s.nx) (e : evRVs T s.h fn.results.toList = some (vs, [])) (hf : Flat (oneAV vs)) (hup : out.up = []) (hv : out.val = oneAV vs) : Ends T fn nb out b s := by
  refine ⟨[], ⟨[], 1, s.N⟩, vs, [], oneAV vs, ⟨rfl, ⟨Nat.one_pos, hnx⟩, rfl, List.nodup_nil, (fun x hx => nomatch hx), fun n o c' h => (by simp [hget] at h)⟩, by show 1 ≤ 9; omega, e, trivial, hf.ren.symm, hf.has, by rw [hv]; exact hf.ren.symm, fun x hx => by rw [hup] at hx; cases hx⟩

/-- A new row is what was asked for: pointwise. -/
def VecEq : Cont → Cont → Prop
  | .vec sz e k f, .vec sz' e' k' g => sz' = sz ∧ e' = e ∧ k' = k ∧ ∀ i, i < k → Flat (f i) ∧ g i = f i
  | _, _ => False
def upsOf (nb : Nat) : Nat → List Cont → List (Nat × Nat × Cont)
  | _, [] => []
  | i, c :: cs => (nb + i, 0, c) :: upsOf nb (i + 1) cs
def rowsAt (h : Heap) : List Nat → Option (List Cont)
  | [] => some []
  | n :: l => match hget h n 0, rowsAt h l with
    | some c, some cs => some (c :: cs)
    | _, _ => none
inductive AllEq : List Cont → List Cont → Prop
  | nil : AllEq [] []
  | cons (c d : Cont) (cs ds : List Cont) (h : VecEq c d) (t : AllEq cs ds) : AllEq (c :: cs) (d :: ds)
def pairH : Nat → List Cont → Heap
  | _, [] => []
  | i, c :: cs => (i, 0, c) :: pairH (i + 1) cs

theorem pairH_get : ∀ (cs : List Cont) (i n o : Nat) (c : Cont), hget (pairH i cs) n o = some c → o = 0 ∧ i ≤ n ∧ cs[n - i]? = some c
  | [], i, n, o, c, e => by simp [pairH, hget] at e
  | d :: cs, i, n, o, c, e => by
    simp only [pairH] at e
    rw [hget_cons] at e
    split at e
    · rename_i he; obtain ⟨rfl, rfl⟩ := he; injection e with e; subst e; exact ⟨rfl, Nat.le_refl _, by simp⟩
    · obtain ⟨h1, h2, h3⟩ := pairH_get cs (i + 1) n o c e
      refine ⟨h1, by omega, ?_⟩
      have : n - i = n - (i + 1) + 1 := by omega
      rw [this]; simpa using h3
theorem pairH_at : ∀ (cs : List Cont) (i j : Nat) (c : Cont), cs[j]? = some c → hget (pairH i cs) (i + j) 0 = some c
  | [], i, j, c, e => by simp at e
  | d :: cs, i, j, c, e => by
    simp only [pairH]
    rw [hget_cons]
    cases j with
    | zero => simp at e; subst e; simp
    | succ j =>
      rw [if_neg (by omega)]
      have := pairH_at cs (i + 1) j c (by simpa using e)
      rwa [show i + (j + 1) = i + 1 + j by omega]
theorem rowsAt_get {h : Heap} : ∀ (l : List Nat) (cs : List Cont), rowsAt h l = some cs → cs.length = l.length ∧ ∀ (j n : Nat), l[j]? = some n → ∃ c, cs[j]? = some c ∧ hget h n 0 = some c
  | [], cs, e => by simp only [rowsAt, Option.some.injEq] at e; subst e; exact ⟨rfl, fun j n h => by simp at h⟩
  | m :: l, cs, e => by
    simp only [rowsAt] at e
    split at e
    · rename_i c cs' h1 h2
      injection e with e; subst e
      obtain ⟨k1, k2⟩ := rowsAt_get l cs' h2
      refine ⟨by simp [k1], fun j n hj => ?_⟩
      cases j with
      | zero => simp at hj; subst hj; exact ⟨c, rfl, h1⟩
      | succ j => simpa using k2 j n (by simpa using hj)
    · cases e
theorem upsOf_mem {nb : Nat} : ∀ (cs : List Cont) (i : Nat) (x : Nat × Nat × Cont), x ∈ upsOf nb i cs → ∃ j, x.1 = nb + (i + j) ∧ x.2.1 = 0 ∧ cs[j]? = some x.2.2
  | [], i, x, h => by cases h
  | c :: cs, i, x, h => by
    rcases List.mem_cons.1 h with rfl | h
    · exact ⟨0, rfl, rfl, rfl⟩
    · obtain ⟨j, h1, h2, h3⟩ := upsOf_mem cs (i + 1) x h
      exact ⟨j + 1, by omega, h2, by simpa using h3⟩
theorem AllEq.get {cs ds : List Cont} (h : AllEq cs ds) : ∀ {j : Nat} {d : Cont}, ds[j]? = some d → ∃ c, cs[j]? = some c ∧ VecEq c d := by
  induction h with
  | nil => intro j d e; simp at e
  | cons c d cs ds h t ih =>
    intro j d' e
    cases j with
    | zero => simp at e; subst e; exact ⟨c, rfl, h⟩
    | succ j => simpa using ih (by simpa using e)
theorem AllEq.left {cs ds : List Cont} (h : AllEq cs ds) : ∀ {j : Nat} {c : Cont}, cs[j]? = some c → ∃ sz e k f, c = .vec sz e k f ∧ ∀ i, i < k → Flat (f i) := by
  induction h with
  | nil => intro j d e; simp at e
  | cons c d cs ds h t ih =>
    intro j d' e
    cases j with
    | zero =>
      simp at e; subst e
      cases c <;> cases d <;> simp only [VecEq] at h <;> try exact h.elim
      exact ⟨_, _, _, _, rfl, fun i hi => (h.2.2.2 i hi).1⟩
    | succ j => exact ih (by simpa using e)

/-- A function that answers new rows of numbers and the like. 'l': their names; 'v': the answer, where these are 1, 2, .. -/
theorem ends_rows (l : List Nat) (v : AV) {vs : List AV} {cs ds : List Cont} (hl : (Nat.ble l.length 8 && l.all (fun x => Nat.ble 1 x && Nat.blt x s.nx)) = true) (hnd : l.Nodup) (hnx : 0 < s.nx)
    (e : evRVs T s.h fn.results.toList = some (vs, [])) (ho : oneAV vs = v.ren (pi 1 s.nx l)) (hh : Has true b v) (hr : rowsAt s.h l = some cs) (hup : out.up = upsOf nb 0 ds) (hd : AllEq cs ds) (hv : out.val = v.ren (sg nb)) : Ends T fn nb out b s := by
  simp only [Bool.and_eq_true] at hl
  have hlen : l.length ≤ 8 := Nat.le_of_ble_eq_true hl.1
  have hmem : ∀ x ∈ l, 1 ≤ x ∧ x < s.nx := by
    intro x hx
    have := List.all_eq_true.1 hl.2 x hx
    simp only [Bool.and_eq_true] at this
    exact ⟨Nat.le_of_ble_eq_true this.1, by simpa [Nat.blt_eq] using this.2⟩
  obtain ⟨k1, k2⟩ := rowsAt_get l cs hr
  have hcw : ∀ {j : Nat} {c : Cont}, cs[j]? = some c → CW (pi 1 s.nx l) c c := by
    intro j c hc
    obtain ⟨sz, e, k, f, rfl, hf⟩ := hd.left hc
    exact ⟨rfl, rfl, rfl, fun i hi => (hf i hi).ren.symm⟩
  refine ⟨l, ⟨pairH 1 cs, 1 + l.length, s.N⟩, vs, [], v, ⟨rfl, ⟨Nat.one_pos, hnx⟩, rfl, hnd, hmem, fun n o c' h => ?_⟩, by show 1 + l.length ≤ 9; omega, e, trivial, ho, hh, hv, fun x hx => ?_⟩
  · obtain ⟨h1, h2, h3⟩ := pairH_get cs 1 n o c' h
    subst h1
    have hlt := (List.getElem?_eq_some_iff.1 h3).1
    have hln : n - 1 < l.length := by omega
    obtain ⟨c, h4, h5⟩ := k2 (n - 1) l[n - 1] (by simp [hln])
    rw [h3] at h4; injection h4 with h4; subst h4
    refine ⟨c', ?_, hcw h3⟩
    rw [pi_ge (by omega)]
    simpa [hln] using h5
  · rw [hup] at hx
    obtain ⟨j, h1, h2, h3⟩ := upsOf_mem ds 0 x hx
    obtain ⟨c, h4, h5⟩ := hd.get h3
    have hlt := (List.getElem?_eq_some_iff.1 h4).1
    refine ⟨j + 1, c, by rw [h1]; unfold sg; omega, by omega, by show j + 1 < 1 + l.length; omega, ?_, ?_⟩
    · rw [h2]
      have := pairH_at cs 1 j c h4
      rwa [Nat.add_comm] at this
    · have : ∀ c d, VecEq c d → CF (sg nb) c d := by
        intro c d h
        cases c <;> cases d <;> simp only [VecEq] at h <;> try exact h.elim
        exact ⟨h.1, h.2.1, h.2.2.1, fun i hi => ⟨(h.2.2.2 i hi).1.has, by rw [(h.2.2.2 i hi).2, (h.2.2.2 i hi).1.ren]⟩⟩
      exact this c _ h5
end

/-! ### Weaker states -/
def ConvH (π : Nat → Nat) (h : Heap) : Heap → Prop
  | [] => True
  | x :: t => (∃ c, hget h (π x.1) x.2.1 = some c ∧ CW π x.2.2 c) ∧ ConvH π h t

theorem ConvH.get {π : Nat → Nat} {h : Heap} : ∀ {h' : Heap}, ConvH π h h' → ∀ n o c', hget h' n o = some c' → ∃ c, hget h (π n) o = some c ∧ CW π c' c
  | [], _, n, o, c', e => by simp [hget] at e
  | (n', o', d) :: t, hc, n, o, c', e => by
    rw [hget_cons] at e
    split at e
    · rename_i he; obtain ⟨rfl, rfl⟩ := he; injection e with e; subst e; exact hc.1
    · exact ConvH.get hc.2 n o c' e

/-- A state under other names. -/
theorem wk_go {B : Nat} {s : St} {h' : Heap} {nx' N' : Nat} (l : List Nat) (hB : (Nat.ble 1 B && Nat.ble B s.nx && l.all (fun x => Nat.ble B x && Nat.blt x s.nx)) = true) (hnd : l.Nodup) (hnx : nx' = B + l.length) (hN : N' = s.N) (hc : ConvH (pi B s.nx l) s.h h') : Wk B s ⟨h', nx', N'⟩ := by
  simp only [Bool.and_eq_true] at hB
  refine .inr ⟨l, hN, ⟨Nat.le_of_ble_eq_true hB.1.1, Nat.le_of_ble_eq_true hB.1.2⟩, hnx, hnd, fun x hx => ?_, hc.get⟩
  have := List.all_eq_true.1 hB.2 x hx
  simp only [Bool.and_eq_true] at this
  exact ⟨Nat.le_of_ble_eq_true this.1, by simpa [Nat.blt_eq] using this.2⟩

def renH (π : Nat → Nat) : Heap → Heap
  | [] => []
  | (n, o, .cell v) :: t => (n, o, .cell (v.ren π)) :: renH π t
  | _ :: t => renH π t

/-- A state of slots alone. -/
theorem wk_flat {B : Nat} {s : St} {h' : Heap} {N' : Nat} (hB : (Nat.ble 1 B && Nat.ble B s.nx) = true) (hN : N' = s.N) (hk : h'.all (fun x => x.1 == 0) = true) (e : pruneH s.h (h'.map fun x => (x.1, x.2.1)) = h') (hv : ∀ π, renH π h' = h') : Wk B s ⟨h', B, N'⟩ := by
  have hB' := hB
  simp only [Bool.and_eq_true] at hB
  have hb : 0 < B := Nat.le_of_ble_eq_true hB.1
  refine wk_go [] (by simp [hB']) List.nodup_nil rfl hN ?_
  have key : ∀ (l : Heap), l.all (fun x => x.1 == 0) = true → pruneH s.h (l.map fun x => (x.1, x.2.1)) = l → renH (pi B s.nx []) l = l → ConvH (pi B s.nx []) s.h l := by
    intro l
    induction l with
    | nil => intro _ _ _; trivial
    | cons x l ih =>
      intro h1 h2 h3
      obtain ⟨n, o, c⟩ := x
      simp only [List.all_cons, Bool.and_eq_true, beq_iff_eq] at h1
      have hn : n = 0 := h1.1
      subst hn
      have hlen : ∀ (ks : List (Nat × Nat)), (pruneH s.h ks).length ≤ ks.length := by
        intro ks
        induction ks with
        | nil => simp [pruneH]
        | cons k ks ihk => simp only [pruneH]; split <;> simp only [List.length_cons] <;> omega
      simp only [List.map_cons, pruneH] at h2
      split at h2
      · rename_i c0 hk
        injection h2 with h4 h5
        injection h4 with h4 h6; injection h6 with h6 h7
        subst h7
        have hren : ∀ (m : Heap), (renH (pi B s.nx []) m).length ≤ m.length := by
          intro m
          induction m with
          | nil => simp [renH]
          | cons y m ihm => obtain ⟨a, b, d⟩ := y; cases d <;> simp only [renH, List.length_cons] <;> omega
        cases c0 with
        | cell v =>
          simp only [renH] at h3
          injection h3 with h8 h9
          injection h8 with h8 h10; injection h10 with h10 h11; injection h11 with h11
          refine ⟨⟨.cell v, ?_, h11.symm⟩, ih h1.2 h5 h9⟩
          show hget s.h (pi B s.nx [] 0) o = _
          rw [pi_lt hb]; exact hk
        | _ =>
          exfalso
          simp only [renH] at h3
          have := hren l
          rw [h3] at this
          simp only [List.length_cons] at this
          omega
      · exfalso
        have := hlen (l.map fun x => (x.1, x.2.1))
        rw [h2] at this
        simp only [List.length_cons, List.length_map] at this
        omega
  exact key h' hk e (hv _)
end Go.Eng
