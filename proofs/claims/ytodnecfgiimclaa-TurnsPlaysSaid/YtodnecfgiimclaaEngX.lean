/- The engine, part 24: small things that each seat's texts use. -/
import Derived.Test.YtodnecfgiimclaaEngT
set_option linter.unusedSimpArgs false
set_option linter.unusedVariables false
namespace Go.Eng
open Go.IntWalk
theorem sget_cons {P : Program} {f : Nat} {s : Spec} {Γ : Specs} (h : SpecOK P f s) (t : SpecsOK P Γ) : SpecsOK P ((f, s) :: Γ) := by
 intro f' s' e
 simp only [sget] at e
 cases hf : (f == f') with
 | true =>
   simp only [hf, cond_true, Option.some.injEq] at e
   have : f = f' := by simpa using hf
   subst this; subst e; exact h
 | false => simp only [hf, cond_false] at e; exact t f' s' e
theorem sget_nil {P : Program} : SpecsOK P [] := fun f s h => by cases h
def cv (j : Nat) : AV → Int
 | .agg cs => iv (cs.getD j .nils)
 | _ => 0
theorem wrap_add_one {i n : Nat} (h : i < n) (hn : n < 2 ^ 63) : IntKind.i64.wrap ((i : Int) + 1) = ((i + 1 : Nat) : Int) := by
 rw [i64_in] <;> omega
theorem cond_and (a b : Bool) : (bif a then b else false) = (a && b) := by cases a <;> rfl
theorem cond_or (a b : Bool) : (bif a then true else b) = (a || b) := by cases a <;> rfl
mutual
def hasB (nm : Bool) : AV → Bool
 | .int _ _ | .bool _ | .str _ | .nilp | .nils | .nilm | .nilf => true
 | .ptr _ _ | .pe _ _ _ | .vp _ _ _ _ | .vs _ | .sub _ _ _ _ | .mp _ | .it _ => nm
 | .agg cs | .tup cs | .fn _ cs => hasBL nm cs
 | _ => false
def hasBL (nm : Bool) : List AV → Bool
 | [] => true
 | v :: vs => hasB nm v && hasBL nm vs
end
mutual
theorem has_of {nm rd : Bool} : ∀ (v : AV), hasB nm v = true → Has nm rd v
 | .int k n, _ => .int k n
 | .bool b, _ => .bool b
 | .str s, _ => .str s
 | .nilp, _ => .nilp
 | .nils, _ => .nils
 | .nilm, _ => .nilm
 | .nilf, _ => .nilf
 | .agg cs, h => .agg cs (has_ofL cs (by simpa only [hasB] using h))
 | .tup cs, h => .tup cs (has_ofL cs (by simpa only [hasB] using h))
 | .fn f cs, h => .fn f cs (has_ofL cs (by simpa only [hasB] using h))
 | .ptr _ _, h => .ptr _ _ (by simpa only [hasB] using h)
 | .pe _ _ _, h => .pe _ _ _ (by simpa only [hasB] using h)
 | .vp _ _ _ _, h => .vp _ _ _ _ (by simpa only [hasB] using h)
 | .vs _, h => .vs _ (by simpa only [hasB] using h)
 | .sub _ _ _ _, h => .sub _ _ _ _ (by simpa only [hasB] using h)
 | .mp _, h => .mp _ (by simpa only [hasB] using h)
 | .it _, h => .it _ (by simpa only [hasB] using h)
 | .rp _, h => by simp [hasB] at h
 | .rs _ _ _ _, h => by simp [hasB] at h
 | .arr _ _, h => by simp [hasB] at h
 | .whn _ _, h => by simp [hasB] at h
theorem has_ofL {nm rd : Bool} : ∀ (vs : List AV), hasBL nm vs = true → ∀ v ∈ vs, Has nm rd v
 | [], _, v, hv => by cases hv
 | u :: vs, h, v, hv => by
   simp only [hasBL, Bool.and_eq_true] at h
   rcases List.mem_cons.1 hv with e | hv
   ·rw [e]; exact has_of u h.1
   ·exact has_ofL vs h.2 v hv
end
def laid (n : Nat) : Nat → List Cont → List (Nat × Nat × Cont)
 | off, [] => [(n, off, .top)]
 | off, c :: cs => (n, off, c) :: laid n (off + c.wd) cs
def liveB : Cont → Bool
 | .dead => false
 | _ => true
theorem laid_top (n : Nat) : ∀ (cs : List Cont) (off : Nat), ∃ sz, off ≤ sz ∧ (n, sz, .top) ∈ laid n off cs ∧ (cs.all liveB = true → ∀ o, off ≤ o → o < sz → ∃ o' c, (n, o', c) ∈ laid n off cs ∧ c.live ∧ o' ≤ o ∧ o < o' + c.wd)
 | [], off => ⟨off, Nat.le_refl _, List.mem_singleton.2 rfl, fun _ o h1 h2 => by omega⟩
 | c :: cs, off => by
   obtain ⟨sz, h1, h2, h3⟩ := laid_top n cs (off + c.wd)
   refine ⟨sz, by omega, List.mem_cons_of_mem _ h2, fun hl o h4 h5 => ?_⟩
   simp only [List.all_cons, Bool.and_eq_true] at hl
   rcases Nat.lt_or_ge o (off + c.wd) with h6 | h6
   ·exact ⟨off, c, List.mem_cons_self, by cases c <;> first | trivial | simp [liveB] at hl, h4, h6⟩
   ·obtain ⟨o', c', k1, k2, k3, k4⟩ := h3 hl.2 o h6 h5
    exact ⟨o', c', List.mem_cons_of_mem _ k1, k2, k3, k4⟩
theorem whole_laid {rd : List (Nat × Nat × Cont)} {n : Nat} (cs : List Cont) (hl : cs.all liveB = true) (h : ∀ x ∈ laid n 0 cs, x ∈ rd) : Whole rd n := by
 obtain ⟨sz, _, h2, h3⟩ := laid_top n cs 0
 exact .cells sz (h _ h2) fun o ho => by
  obtain ⟨o', c, k1, k2⟩ := h3 hl o (Nat.zero_le _) ho
  exact ⟨o', c, h _ k1, k2⟩
def InitH (K : List Nat) (nb : Nat) (rd : List (Nat × Nat × Cont)) : Heap → Prop
 | [] => True
 | x :: t => (∃ (i j n : Nat) (c : Cont), x.1 = i + 1 ∧ K[i]? = some n ∧ rd[j]? = some (n, x.2.1, c) ∧ CW (can K nb) x.2.2 c) ∧ InitH K nb rd t
theorem InitH.get {K : List Nat} {nb : Nat} {rd : List (Nat × Nat × Cont)} : ∀ {h : Heap}, InitH K nb rd h → ∀ x ∈ h, ∃ i n c, x.1 = i + 1 ∧ K[i]? = some n ∧ (n, x.2.1, c) ∈ rd ∧ CW (can K nb) x.2.2 c
 | [], _, x, hx => by cases hx
 | y :: t, h, x, hx => by
   rcases List.mem_cons.1 hx with rfl | hx
   ·obtain ⟨i, j, n, c, h1, h2, h3, h4⟩ := h.1
    exact ⟨i, n, c, h1, h2, List.mem_iff_getElem?.2 ⟨j, h3⟩, h4⟩
   ·exact InitH.get h.2 x hx
def FlatM (es : List (List Int × AV)) : Prop := ∀ x ∈ es, Flat x.2
theorem FlatM.nil : FlatM [] := fun x hx => by cases hx
theorem cw_map {es : List (List Int × AV)} (h : FlatM es) {π : Nat → Nat} {ar : Nat} : CW π (.map ar es) (.map ar es) :=
 ⟨rfl, rfl, fun i x hx => by rw [(h x (List.mem_iff_getElem?.2 ⟨i, hx⟩)).ren]; exact hx⟩
theorem wk_sub {B : Nat} {s : St} {h' : Heap} {nx' N' : Nat} (ks : List (Nat × Nat)) (e : pruneH s.h ks = h') (hn : nx' = s.nx) (hN : N' = s.N) : Wk B s ⟨h', nx', N'⟩ := by
 subst e; subst hn; subst hN
 exact .sub ⟨rfl, rfl, fun n o c h => pruneH_sub _ _ _ _ _ h⟩
theorem cw_maps {es : List (List Int × AV)} (h : FlatM es) {π : Nat → Nat} {ar ck : Nat} {bs : List Nat} : CW π (.maps ar es bs ck) (.maps ar es bs ck) :=
 ⟨⟨⟨rfl, rfl⟩, rfl⟩, rfl, (cw_map (ar := ar) h).2.2⟩
theorem cf_map {es : List (List Int × AV)} (h : FlatM es) {b : Bool} {σ : Nat → Nat} {ar : Nat} : CF b σ (.map ar es) (.map ar es) :=
 ⟨rfl, rfl, fun i x hx => ⟨x.2, hx, (h x (List.mem_iff_getElem?.2 ⟨i, hx⟩)).has, ((h x (List.mem_iff_getElem?.2 ⟨i, hx⟩)).ren).symm⟩⟩
theorem foldl_push : ∀ (l : List Int) (r : ByteArray), (l.foldl (fun r n => r.push (UInt8.ofNat n.toNat)) r).data.toList = r.data.toList ++ l.map fun n => UInt8.ofNat n.toNat
 | [], r => by simp
 | n :: l, r => by
   rw [List.foldl_cons, foldl_push l]
   simp [ByteArray.push]
theorem mkStr_data (n : Nat) (f : Nat → AV) : (mkStr n f).data.toList = (List.range n).map fun i => UInt8.ofNat (iv (f i)).toNat := by
 unfold mkStr
 rw [foldl_push]
 simp [Function.comp_def]
theorem mkStr_size (n : Nat) (f : Nat → AV) : (mkStr n f).size = n := by
 have := congrArg List.length (mkStr_data n f)
 simp only [List.length_map, List.length_range, Array.length_toList] at this
 exact this
abbrev zI (n : Int) : Cont := .cell (.int .i64 n)
abbrev zU (n : Int) : Cont := .cell (.int .u64 n)
abbrev zV (n : Nat) : Cont := .cell (.vs n)
abbrev zM (n : Nat) : Cont := .cell (.mp n)
abbrev zB (b : Bool) : Cont := .cell (.bool b)
abbrev zS (s : ByteArray) : Cont := .cell (.str s)
abbrev zP (n : Nat) : Cont := .cell (.ptr n 0)
def keysH (h : Heap) : List (Nat × Nat) := h.map fun x => (x.1, x.2.1)
section
variable {T : Tab} {Γ : Specs} {B : Nat} {Q : Exit → St → Prop} {s : St} {id : Nat} {ops : Array Oper} {draw : Bool} {b : Code} {ps : List Prop} {s' : St}
theorem evC_goK (hs : All ps) (h : evC T Γ B b Q s') (e : fRun T Γ ops draw [] (keysH s'.h) s = some (ps, s') := by kernel_rfl) (ht : (fTr T Γ ops draw [] s).1 = (fTr T Γ ops draw [] s).2 := by kernel_rfl) : evC T Γ B (.seq (.region id ops draw) b) Q s := evC_go e ht hs h
theorem evC_go0K (h : evC T Γ B b Q s') (e : fRun T Γ ops draw [] (keysH s'.h) s = some ([], s') := by kernel_rfl) (ht : (fTr T Γ ops draw [] s).1 = (fTr T Γ ops draw [] s).2 := by kernel_rfl) : evC T Γ B (.seq (.region id ops draw) b) Q s := evC_go0 e ht h
theorem evC_goLK (hs : All ps) (h : Q .normal s') (e : fRun T Γ ops draw [] (keysH s'.h) s = some (ps, s') := by kernel_rfl) (ht : (fTr T Γ ops draw [] s).1 = (fTr T Γ ops draw [] s).2 := by kernel_rfl) : evC T Γ B (.region id ops draw) Q s := evC_goL e ht hs h
theorem evC_goL0K (h : Q .normal s') (e : fRun T Γ ops draw [] (keysH s'.h) s = some ([], s') := by kernel_rfl) (ht : (fTr T Γ ops draw [] s).1 = (fTr T Γ ops draw [] s).2 := by kernel_rfl) : evC T Γ B (.region id ops draw) Q s := evC_goL0 e ht h
end
end Go.Eng