/- The engine, part 18: regions, evaluated in one go. -/
import Derived.Test.YtodnecfgiimclaaEngQ
set_option linter.unusedSimpArgs false
set_option linter.unusedVariables false
namespace Go.Eng
abbrev Tr := List (List Bool × List Bool)
def opndP (h : Heap) (co : List Bool) : Operand → Tr
 | .tmp t => match hget h 0 t with
   | some (.cell (.whn cs _)) => [(co.drop (co.length - cs.length), cs)]
   | _ => []
 | _ => []
theorem opndP_spec {h : Heap} {co : List Bool} {x : Operand} (hp : ∀ p ∈ opndP h co x, p.1 = p.2) : ∀ q ∈ opndS h co x, q := by
 cases x with
 | tmp t =>
   simp only [opndP, opndS] at *
   split at hp <;> rename_i hk
   ·rw [hk]
    intro q hq
    simp only [List.mem_singleton] at hq
    subst hq
    exact hp _ (List.mem_singleton.2 rfl)
   ·intro q hq
    split at hq
    ·rename_i cs v hk2; exact absurd hk2 (hk cs v)
    ·cases hq
 | _ => intro q hq; simp [opndS] at hq
def fPick (h : Heap) (co : List Bool) (c a b : Operand) : Option (Out × Tr) :=
 match opnd h c with
 | some (.bool q) => match opnd h a, opnd h b with
   | some (.bool x), some (.bool y) => some (⟨[], .bool (bif q then x else y), [], []⟩, opndP h co c ++ opndP h (q :: co) a ++ opndP h ((!q) :: co) b)
   | some (.bool x), _ => some (⟨[q = true], .bool x, [], []⟩, opndP h co c ++ opndP h (q :: co) a)
   | _, some (.bool y) => some (⟨[q = false], .bool y, [], []⟩, opndP h co c ++ opndP h ((!q) :: co) b)
   | _, _ => none
 | _ => none
def fOper (T : Tab) (Γ : Specs) (h : Heap) (co : List Bool) (o : Oper) (nb : Nat) : Option (Out × Tr) :=
 match o.op with
 | .pick c a b => fPick h co c a b
 | op => (evOp T Γ op (opnd h) (hget h) nb).map fun out => (out, op.operands.toList.flatMap (opndP h co))
theorem fOper_spec {T : Tab} {Γ : Specs} {h : Heap} {co : List Bool} {o : Oper} {nb : Nat} {out : Out} {tr : Tr} (e : fOper T Γ h co o nb = some (out, tr)) :
 ∃ out', evOper T Γ h co o nb = some out' ∧ out'.val = out.val ∧ out'.rd = out.rd ∧ out'.up = out.up ∧ ((∀ p ∈ tr, p.1 = p.2) → (∀ q ∈ out.sides, q) → ∀ q ∈ out'.sides, q) := by
 unfold fOper at e
 unfold evOper
 have gen : ∀ (op : Op), ((evOp T Γ op (opnd h) (hget h) nb).map fun out => (out, op.operands.toList.flatMap (opndP h co))) = some (out, tr) →
  ∃ out', ((evOp T Γ op (opnd h) (hget h) nb).map fun out => { out with sides := op.operands.toList.flatMap (opndS h co) ++ out.sides }) = some out' ∧ out'.val = out.val ∧ out'.rd = out.rd ∧ out'.up = out.up ∧ ((∀ p ∈ tr, p.1 = p.2) → (∀ q ∈ out.sides, q) → ∀ q ∈ out'.sides, q) := by
  intro op e
  obtain ⟨out0, h1, h2⟩ := Option.map_eq_some_iff.1 e
  injection h2 with h2 h3
  subst h2; subst h3
  refine ⟨{ out0 with sides := op.operands.toList.flatMap (opndS h co) ++ out0.sides }, by rw [h1]; rfl, rfl, rfl, rfl, fun ht hs q hq => ?_⟩
  rcases List.mem_append.1 hq with hq | hq
  ·obtain ⟨x, hx, hq⟩ := List.mem_flatMap.1 hq
   exact opndP_spec (fun p hp => ht p (List.mem_flatMap.2 ⟨x, hx, hp⟩)) q hq
  ·exact hs q hq
 cases ho : o.op <;> simp only [ho] at e ⊢
 case pick c a b =>
  unfold fPick at e
  unfold evPick
  split at e
  ·rename_i q hq
   split at e
   ·rename_i x y hx hy
    injection e with e; injection e with e1 e2; subst e1; subst e2
    simp only [hq, hx, hy]
    refine ⟨⟨opndS h co c ++ opndS h (q :: co) a ++ opndS h ((!q) :: co) b, .bool (bif q then x else y), [], []⟩, rfl, rfl, rfl, rfl, fun ht _ p hp => ?_⟩
    rcases List.mem_append.1 hp with hp | hp
    ·rcases List.mem_append.1 hp with hp | hp
     ·exact opndP_spec (fun z hz => ht z (List.mem_append_left _ (List.mem_append_left _ hz))) p hp
     ·exact opndP_spec (fun z hz => ht z (List.mem_append_left _ (List.mem_append_right _ hz))) p hp
    ·exact opndP_spec (fun z hz => ht z (List.mem_append_right _ hz)) p hp
   ·rename_i x hx hno
    injection e with e; injection e with e1 e2; subst e1; subst e2
    refine ⟨⟨opndS h co c ++ opndS h (q :: co) a ++ [q = true], .bool x, [], []⟩, ?_, rfl, rfl, rfl, fun ht hs p hp => ?_⟩
    ·simp only [hq, hx]
    ·rcases List.mem_append.1 hp with hp | hp
     ·rcases List.mem_append.1 hp with hp | hp
      ·exact opndP_spec (fun z hz => ht z (List.mem_append_left _ hz)) p hp
      ·exact opndP_spec (fun z hz => ht z (List.mem_append_right _ hz)) p hp
     ·exact hs p hp
   ·rename_i y hy hno
    injection e with e; injection e with e1 e2; subst e1; subst e2
    refine ⟨⟨opndS h co c ++ opndS h ((!q) :: co) b ++ [q = false], .bool y, [], []⟩, ?_, rfl, rfl, rfl, fun ht hs p hp => ?_⟩
    ·simp only [hq, hy]
    ·rcases List.mem_append.1 hp with hp | hp
     ·rcases List.mem_append.1 hp with hp | hp
      ·exact opndP_spec (fun z hz => ht z (List.mem_append_left _ hz)) p hp
      ·exact opndP_spec (fun z hz => ht z (List.mem_append_right _ hz)) p hp
     ·exact hs p hp
   ·cases e
  ·cases e
 all_goals exact gen _ e
def fOne (T : Tab) (Γ : Specs) (ops : Array Oper) (N : Nat) (dec : List (Nat × Bool)) (h : Heap) (i : Nat) (o : Oper) (nb : Nat) : Option (List Prop × Tr × List (Nat × Nat) × List (Nat × Nat × Cont)) :=
 match condsOf h ops o.guard with
 | none => none
 | some co => match dget dec i with
   | none => match fOper T Γ h co o nb with
     | none => none
     | some (out, tr) => bif (co.isEmpty || out.up.isEmpty) && dstOK N o.dst && upOK out.up then some (allC co out.sides, tr, out.rd.map (fun x => (x.1, x.2.1)), out.up ++ dstUp o.dst (whnOf co out.val)) else none
   | some true => match fOper T Γ h [] o nb with
     | none => none
     | some (out, tr) => bif dstOK N o.dst && upOK out.up then some ((co.all id = true) :: out.sides, tr, out.rd.map (fun x => (x.1, x.2.1)), out.up ++ dstUp o.dst out.val) else none
   | some false => some ([co.all id = false], [], [], deadUp o.dst)
def fOps (T : Tab) (Γ : Specs) (ops : Array Oper) (nx : Nat) (N : Nat) (dec : List (Nat × Bool)) : Nat → List Oper → Heap → Option (List Prop × Tr × List Ent × Heap)
 | _, [], h => some ([], [], [], h)
 | i, o :: rest, h =>
   match fOne T Γ ops N dec h i o (nx + 32 * i) with
   | none => none
   | some (ps, tr, rd, up) => match fOps T Γ ops nx N dec (i + 1) rest (hput h up) with
     | none => none
     | some r => some (ps ++ r.1, tr ++ r.2.1, ⟨slotsOf ops o ++ rd, up⟩ :: r.2.2.1, r.2.2.2)
theorem allC_mono {co : List Bool} {ps qs : List Prop} (h : (∀ p ∈ ps, p) → ∀ q ∈ qs, q) (hp : ∀ p ∈ allC co ps, p) : ∀ q ∈ allC co qs, q := by
 cases co with
 | nil => exact h hp
 | cons c cs =>
   intro q hq
   obtain ⟨q', h1, h2⟩ := List.mem_map.1 hq
   subst h2
   intro hc
   exact h (fun p hp' => hp _ (List.mem_map.2 ⟨p, hp', rfl⟩) hc) q' h1
theorem fOne_spec {T : Tab} {Γ : Specs} {ops : Array Oper} {N : Nat} {dec : List (Nat × Bool)} {h : Heap} {i : Nat} {o : Oper} {nb : Nat} {ps : List Prop} {tr : Tr} {rd : List (Nat × Nat)} {up : List (Nat × Nat × Cont)} (e : fOne T Γ ops N dec h i o nb = some (ps, tr, rd, up)) :
 ∃ ps', evOne T Γ ops N dec h i o nb = some (ps', rd, up) ∧ ((∀ p ∈ tr, p.1 = p.2) → (∀ q ∈ ps, q) → ∀ q ∈ ps', q) := by
 unfold fOne at e
 unfold evOne
 split at e
 ·cases e
 ·rename_i co hc
  split at e
  ·rename_i hd
   split at e
   ·cases e
   ·rename_i out tr1 ho
    obtain ⟨hb, e⟩ := bif_some e
    injection e with e; injection e with e1 e; injection e with e2 e; injection e with e3 e4
    subst e1; subst e2; subst e3; subst e4
    obtain ⟨out', k1, k2, k3, k4, k5⟩ := fOper_spec ho
    refine ⟨allC co out'.sides, by simp only [hc, hd, k1, k2, k3, k4, hb, cond_true], fun ht hs => allC_mono (k5 ht) hs⟩
  ·rename_i hd
   split at e
   ·cases e
   ·rename_i out tr1 ho
    obtain ⟨hb, e⟩ := bif_some e
    injection e with e; injection e with e1 e; injection e with e2 e; injection e with e3 e4
    subst e1; subst e2; subst e3; subst e4
    obtain ⟨out', k1, k2, k3, k4, k5⟩ := fOper_spec ho
    refine ⟨(co.all id = true) :: out'.sides, by simp only [hc, hd, k1, k2, k3, k4, hb, cond_true], fun ht hs q hq => ?_⟩
    rcases List.mem_cons.1 hq with e | hq
    ·rw [e]; exact hs _ List.mem_cons_self
    ·exact k5 ht (fun p hp => hs p (List.mem_cons_of_mem _ hp)) q hq
  ·rename_i hd
   injection e with e; injection e with e1 e; injection e with e2 e; injection e with e3 e4
   subst e1; subst e2; subst e3; subst e4
   exact ⟨_, by simp only [hc, hd], fun _ hs => hs⟩
theorem fOps_spec {T : Tab} {Γ : Specs} {ops : Array Oper} {dec : List (Nat × Bool)} {nx N : Nat} : ∀ (l : List Oper) (i : Nat) (h h' : Heap) (ps : List Prop) (tr : Tr) (es : List Ent), fOps T Γ ops nx N dec i l h = some (ps, tr, es, h') →
 ∃ ps', evOps T Γ ops nx N dec i l h = some (ps', es, h') ∧ ((∀ p ∈ tr, p.1 = p.2) → (∀ q ∈ ps, q) → ∀ q ∈ ps', q)
 | [], i, h, h', ps, tr, es, e => by
   simp only [fOps, Option.some.injEq, Prod.mk.injEq] at e
   obtain ⟨rfl, rfl, rfl, rfl⟩ := e
   exact ⟨[], rfl, fun _ h => h⟩
 | o :: l, i, h, h', ps, tr, es, e => by
   simp only [fOps] at e
   split at e
   ·cases e
   ·rename_i ps1 tr1 rd up ho
    split at e
    ·cases e
    ·rename_i r hr
     injection e with e; injection e with e1 e; injection e with e2 e; injection e with e3 e4
     subst e1; subst e2; subst e3; subst e4
     obtain ⟨ps1', k1, k5⟩ := fOne_spec ho
     obtain ⟨ps', j1, j2⟩ := fOps_spec l (i + 1) _ r.2.2.2 r.1 r.2.1 r.2.2.1 hr
     refine ⟨ps1' ++ ps', ?_, fun ht hs q hq => ?_⟩
     ·simp only [evOps, k1, j1, Option.map_some]
     ·rcases List.mem_append.1 hq with hq | hq
      ·exact k5 (fun p hp => ht p (List.mem_append_left _ hp)) (fun p hp => hs p (List.mem_append_left _ hp)) q hq
      ·exact j2 (fun p hp => ht p (List.mem_append_right _ hp)) (fun p hp => hs p (List.mem_append_right _ hp)) q hq
def pruneH (h : Heap) : List (Nat × Nat) → Heap
 | [] => []
 | k :: ks => match hget h k.1 k.2 with
   | some c => (k.1, k.2, c) :: pruneH h ks
   | none => pruneH h ks
theorem pruneH_sub (h : Heap) : ∀ (ks : List (Nat × Nat)) (n o : Nat) (c : Cont), hget (pruneH h ks) n o = some c → hget h n o = some c
 | [], n, o, c, e => by simp [pruneH, hget] at e
 | k :: ks, n, o, c, e => by
   simp only [pruneH] at e
   split at e
   ·rename_i c' hk
    rw [hget_cons] at e
    split at e
    ·rename_i he; obtain ⟨rfl, rfl⟩ := he; injection e with e; subst e; exact hk
    ·exact pruneH_sub h ks n o c e
   ·exact pruneH_sub h ks n o c e
def fRegion (T : Tab) (Γ : Specs) (ops : Array Oper) (draw : Bool) (dec : List (Nat × Bool)) (ks : List (Nat × Nat)) (s : St) : Option (List Prop × Tr × St) :=
 match fOps T Γ ops s.nx s.N dec 0 ops.toList s.h with
 | none => none
 | some r => bif !draw || drawOK ops r.2.2.1 then some (r.1, r.2.1, ⟨pruneH r.2.2.2 ks, s.nx + 32 * ops.size, s.N⟩) else none
def fRun (T : Tab) (Γ : Specs) (ops : Array Oper) (draw : Bool) (dec : List (Nat × Bool)) (ks : List (Nat × Nat)) (s : St) : Option (List Prop × St) := (fRegion T Γ ops draw dec ks s).map fun r => (r.1, r.2.2)
def fTr (T : Tab) (Γ : Specs) (ops : Array Oper) (draw : Bool) (dec : List (Nat × Bool)) (s : St) : List (List Bool) × List (List Bool) := match fRegion T Γ ops draw dec [] s with
 | some r => (r.2.1.map (·.1), r.2.1.map (·.2))
 | none => ([], [])
section
variable {T : Tab} {Γ : Specs} {B : Nat} {Q : Exit → St → Prop} {s : St}
theorem fRegion_spec {ops : Array Oper} {draw : Bool} {dec : List (Nat × Bool)} {ks : List (Nat × Nat)} {ps : List Prop} {s' : St} (e : fRun T Γ ops draw dec ks s = some (ps, s')) (ht : (fTr T Γ ops draw dec s).1 = (fTr T Γ ops draw dec s).2) (hs : All ps) :
 ∃ ps' s0, evRegion T Γ ops draw dec s = some (ps', s0) ∧ (∀ p ∈ ps', p) ∧ Wk B s0 s' := by
 unfold fRun at e
 obtain ⟨r, h1, h2⟩ := Option.map_eq_some_iff.1 e
 injection h2 with h2 h3
 subst h2; subst h3
 unfold fTr fRegion at ht
 unfold fRegion at h1
 split at h1
 ·cases h1
 ·rename_i r' hr
  simp only [hr] at ht
  obtain ⟨hb, h1⟩ := bif_some h1
  simp only [hb, cond_true] at ht
  injection h1 with h1; subst h1
  obtain ⟨ps', k1, k2⟩ := fOps_spec _ _ _ _ _ _ _ hr
  have htr : ∀ p ∈ r'.2.1, p.1 = p.2 := by
   intro p hp
   obtain ⟨i, hi⟩ := List.mem_iff_getElem?.1 hp
   have h1 : (r'.2.1.map (·.1))[i]? = some p.1 := by simp [hi]
   have h2 : (r'.2.1.map (·.2))[i]? = some p.2 := by simp [hi]
   rw [ht] at h1
   exact Option.some.inj (h1.symm.trans h2)
  refine ⟨ps' ++ bif draw then [drawOK ops r'.2.2.1 = true] else [], ⟨r'.2.2.2, s.nx + 32 * ops.size, s.N⟩, by simp only [evRegion, k1, Option.map_some], fun p hp => ?_, .sub ⟨rfl, rfl, fun n o c h => pruneH_sub _ _ _ _ _ h⟩⟩
  rcases List.mem_append.1 hp with hp | hp
  ·exact k2 htr ((All_iff _).1 hs) p hp
  ·cases draw with
   | false => cases hp
   | true =>
     rw [List.mem_singleton.1 hp]
     simpa using hb
theorem evC_go {id : Nat} {ops : Array Oper} {draw : Bool} {dec : List (Nat × Bool)} {ks : List (Nat × Nat)} {b : Code} {ps : List Prop} {s' : St} (e : fRun T Γ ops draw dec ks s = some (ps, s')) (ht : (fTr T Γ ops draw dec s).1 = (fTr T Γ ops draw dec s).2) (hs : All ps) (h : evC T Γ B b Q s') : evC T Γ B (.seq (.region id ops draw) b) Q s := by
 obtain ⟨ps', s0, k1, k2, k3⟩ := fRegion_spec (B := B) e ht hs
 exact evC_seq (evC_region k1 k2 k3 h)
theorem evC_go0 {id : Nat} {ops : Array Oper} {draw : Bool} {dec : List (Nat × Bool)} {ks : List (Nat × Nat)} {b : Code} {s' : St} (e : fRun T Γ ops draw dec ks s = some ([], s')) (ht : (fTr T Γ ops draw dec s).1 = (fTr T Γ ops draw dec s).2) (h : evC T Γ B b Q s') : evC T Γ B (.seq (.region id ops draw) b) Q s := evC_go e ht trivial h
theorem evC_goL {id : Nat} {ops : Array Oper} {draw : Bool} {dec : List (Nat × Bool)} {ks : List (Nat × Nat)} {ps : List Prop} {s' : St} (e : fRun T Γ ops draw dec ks s = some (ps, s')) (ht : (fTr T Γ ops draw dec s).1 = (fTr T Γ ops draw dec s).2) (hs : All ps) (h : Q .normal s') : evC T Γ B (.region id ops draw) Q s := by
 obtain ⟨ps', s0, k1, k2, k3⟩ := fRegion_spec (B := B) e ht hs
 exact evC_region k1 k2 k3 h
theorem evC_goL0 {id : Nat} {ops : Array Oper} {draw : Bool} {dec : List (Nat × Bool)} {ks : List (Nat × Nat)} {s' : St} (e : fRun T Γ ops draw dec ks s = some ([], s')) (ht : (fTr T Γ ops draw dec s).1 = (fTr T Γ ops draw dec s).2) (h : Q .normal s') : evC T Γ B (.region id ops draw) Q s := evC_goL e ht trivial h
def fCond (h : Heap) (c : Operand) : Option Bool := match c with
 | .tmp t => match hget h 0 t with
   | some (.cell (.bool q)) => some q
   | _ => none
 | .const (.bool q) => some q
 | _ => none
theorem evC_if {c : Operand} {a b : Code} {q : Bool} (e : fCond s.h c = some q) (ht : q = true → evC T Γ B a Q s) (hf : q = false → evC T Γ B b Q s) : evC T Γ B (.cond c a b) Q s := by
 unfold fCond at e
 split at e
 ·rename_i t
  split at e
  ·rename_i q' hk
   injection e with e; subst e
   refine evC_cond (q := q') (by simp [opnd, hk]) ?_
   simp only [opndS, hk, List.nil_append]
   exact ⟨ht, hf⟩
  ·cases e
 ·rename_i q'
  injection e with e; subst e
  exact evC_cond (q := q') rfl ⟨ht, hf⟩
 ·cases e
theorem sem_if {P : Program} {c : Operand} {a b : Code} {q : Bool} (e : fCond s.h c = some q) (ht : q = true → Sem P B a Q s) (hf : q = false → Sem P B b Q s) : Sem P B (.cond c a b) Q s := by
 unfold fCond at e
 split at e
 ·rename_i t
  split at e
  ·rename_i q' hk
   injection e with e; subst e
   exact Sem.cond (q := q') (by simp [opnd, hk]) (by simp [opndS, hk]) ht hf
  ·cases e
 ·rename_i q'
  injection e with e; subst e
  exact Sem.cond (q := q') rfl rfl ht hf
 ·cases e
theorem then_normal {b : Code} (h : evC T Γ B b Q s) : Then T Γ B b Q .normal s := h
theorem then_ret {b : Code} (h : Q .ret s) : Then T Γ B b Q .ret s := h
theorem then_exit {b : Code} {id : Nat} (h : Q (.exit id) s) : Then T Γ B b Q (.exit id) s := h
theorem block_normal {id : Nat} (h : Q .normal s) : InBlock id Q .normal s := h
theorem block_ret {id : Nat} (h : Q .ret s) : InBlock id Q .ret s := h
theorem block_exit {id : Nat} (h : Q .normal s) : InBlock id Q (.exit id) s := by simp [InBlock, h]
theorem round_ret {ι : Type} {S : ι → St} {μ : ι → Nat} {n : Nat} (h : Q .ret s) : Round B S μ n Q .ret s := h
theorem round_exit {ι : Type} {S : ι → St} {μ : ι → Nat} {n id : Nat} (h : Q (.exit id) s) : Round B S μ n Q (.exit id) s := h
theorem round_normal {ι : Type} {S : ι → St} {μ : ι → Nat} {n : Nat} (i : ι) (hw : Wk B s (S i)) (hl : μ i < n) : Round B S μ n Q .normal s := ⟨i, hw, hl⟩
theorem post_ret {fn : Func} {K : List Nat} {nb : Nat} {out : Out} {b : Bool} (h : Ends T fn K nb out b s) : Post T fn K nb out b .ret s := h
end
end Go.Eng