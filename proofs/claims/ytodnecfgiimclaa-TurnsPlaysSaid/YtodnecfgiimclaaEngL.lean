/- The engine, part 12: one operation of a region. -/
import Derived.Test.YtodnecfgiimclaaEngK
import Derived.OrdersIn
import Derived.TacticsIn
import Derived.RangeFuncNested
import Derived.RangeFuncLeaves
set_option linter.unusedSimpArgs false
set_option linter.unusedVariables false
namespace Go.Eng
def fenceR (r : Option Nat) : Fence := { fn := fun _ => True, depth := none, alive := false, round := r }
theorem callsR {r : Option Nat} {n : Nat} {P : Program} {f : FuncId} {args : Array Value} {w : World} {R : Ending → World → Prop} (h : Calls P f args w R) : CallsIn (fenceR r) n P f args w R :=
 (callsIn_wide (n := n)).2 h
theorem rowsR {r : Option Nat} {n : Nat} {P : Program} {row : String} {args : Array Value} {w : World} {R : Value → World → Prop} (h : Rows P row args w R) : RowsIn (fenceR r) n P row args w R :=
 fun c cs _ => by
  obtain ⟨v, w', h1, h2⟩ := h c cs
  exact ⟨v, w', h1, stepsIn_wide.2 h2⟩
theorem oper_in {r : Option Nat} {n : Nat} {P : Program} {o : Oper} {a : Act} {w : World} {K : Act → World → Prop} {Q : Exit → Act → World → Prop} (hd : ∀ c, o.op ≠ .defer c) (h : o.wp P a w K Q) : o.wpIn (fenceR r) n P a w K Q := by
 refine ⟨fun _ _ => trivial, ?_⟩
 have e : Oper.semAt (fenceR r).round a.eval o = execOp a.eval o := by
  cases r with
  | none => rfl
  | some l => exact Oper.semAt_some l a.eval o hd
 rw [e]
 unfold Oper.wp at h
 generalize (execOp a.eval o).run P w = x at h
 unfold Oper.upon at h
 unfold Oper.uponIn
 split at h
 ·exact h
 ·exact h
 ·exact h
 ·exact ⟨fun h => by simp [fenceR] at h, callsR h⟩
 ·exact ⟨fun h => by simp [fenceR] at h, rowsR h⟩
 ·exact h
 ·exact h.elim
def noDefers (ops : Array Oper) : Bool := ops.toList.all fun o => match o.op with | .defer _ => false | _ => true
theorem noDefers_get {ops : Array Oper} (h : noDefers ops = true) {i : Nat} {o : Oper} (e : ops[i]? = some o) : ∀ c, o.op ≠ .defer c := by
 intro c hc
 unfold noDefers at h
 rw [List.all_eq_true] at h
 have := h o (by rw [Array.mem_toList_iff]; exact Array.mem_of_getElem? e)
 rw [hc] at this; cases this
structure DefOK (mine ro : Nat → Prop) (ds : List Deferred) (w : World) : Prop where
 nd : (ds.map (·.target)).Nodup
 all : ∀ d ∈ ds, ∃ D, d = { target := .collected D, args := #[] } ∧ mine D ∧ ro D ∧ w.heap[D]? = some (.deferred (some []))
theorem DefOK.nil (mine ro : Nat → Prop) (w : World) : DefOK mine ro [] w := ⟨List.nodup_nil, fun _ h => by cases h⟩
theorem DefOK.mono {mine ro ro' : Nat → Prop} {ds : List Deferred} {w w' : World} (h : DefOK mine ro ds w) (hm : ∀ b, ro b → ro' b) (hb : ∀ b, ro b → w'.heap[b]? = w.heap[b]?) : DefOK mine ro' ds w' :=
 ⟨h.nd, fun d hd => by obtain ⟨D, h1, h2, h3, h4⟩ := h.all d hd; exact ⟨D, h1, h2, hm _ h3, (hb _ h3).trans h4⟩⟩
structure StOK (mine : Nat → Prop) (ρ : Env) (ro : Nat → Prop) (h : Heap) (N : Nat) (a : Act) (w : World) : Prop where
 sim : Sim mine ρ ro h w
 slots : SRel ρ ro h a w
 size : a.tmps.size = N
 defers : DefOK mine ro a.defers w
theorem mapA_congr {g g' : Operand → Option AV} : ∀ (l : List Operand), (∀ x ∈ l, g x = g' x) → mapA g l = mapA g' l
 | [], _ => rfl
 | x :: l, h => by
   simp only [mapA]
   rw [h x (by simp), mapA_congr l fun y hy => h y (by simp [hy])]
theorem mapP_congr {g g' : Operand → Option AV} : ∀ (l : List (Nat × Operand)), (∀ x ∈ l, g x.2 = g' x.2) → mapP g l = mapP g' l
 | [], _ => rfl
 | (j, x) :: l, h => by
   simp only [mapP]
   rw [h (j, x) (by simp), mapP_congr l fun y hy => h y (by simp [hy])]
theorem evOp_congr {T : Tab} {Γ : Specs} {op : Op} {g g' : Operand → Option AV} {hr : Rd} {nb : Nat} (h : ∀ x ∈ op.operands.toList, g x = g' x) : evOp T Γ op g hr nb = evOp T Γ op g' hr nb := by
 cases op with
 | build t ps => simp only [evOp]; rw [mapP_congr ps.toList fun x hx => h x.2 (by simp [Op.operands]; exact ⟨x.1, by simpa using hx⟩)]
 | buildSlice t n ps => simp only [evOp]; rw [mapP_congr ps.toList fun x hx => h x.2 (by simp [Op.operands]; exact ⟨x.1, by simpa using hx⟩)]
 | makeFunc fn first cap =>
   cases fn with
   | func f =>
     simp only [evOp]
     rw [mapA_congr cap.toList fun x hx => h x (by simp [Op.operands]; exact .inr (by simpa using hx))]
   | _ => simp [evOp]
 | call c =>
   simp only [evOp]
   have ha : mapA g c.args.toList = mapA g' c.args.toList := mapA_congr _ fun x hx => h x (by simp [Op.operands, Call.operands]; exact .inr (by simpa using hx))
   cases hc : c.callee with
   | builtin b => simp only [ha]
   | value f =>
     have hf : g f = g' f := h f (by simp [Op.operands, Call.operands, hc])
     simp only [ha, hf]
   | invoke r m => rfl
 | slice t x lo hi mx =>
   simp only [evOp]
   have hx : g x = g' x := h x (by simp [Op.operands])
   have hl : lo.map g = lo.map g' := by cases lo with | none => rfl | some y => simp [h y (by simp [Op.operands])]
   have hh : hi.map g = hi.map g' := by cases hi with | none => rfl | some y => simp [h y (by simp [Op.operands])]
   have hm : mx.map g = mx.map g' := by cases mx with | none => rfl | some y => simp [h y (by simp [Op.operands])]
   simp only [hx, hl, hh, hm]
 | binOp op t x y ty => simp only [evOp]; rw [h x (by simp [Op.operands]), h y (by simp [Op.operands])]
 | store t p x => simp only [evOp]; rw [h p (by simp [Op.operands]), h x (by simp [Op.operands])]
 | makeSlice t n m => simp only [evOp]; rw [h n (by simp [Op.operands]), h m (by simp [Op.operands])]
 | index t x i => simp only [evOp]; rw [h x (by simp [Op.operands]), h i (by simp [Op.operands])]
 | indexAddr t x i => simp only [evOp]; rw [h x (by simp [Op.operands]), h i (by simp [Op.operands])]
 | move x => simp only [evOp]; rw [h x (by simp [Op.operands])]
 | assign x => simp only [evOp]; rw [h x (by simp [Op.operands])]
 | box t x => simp only [evOp]; rw [h x (by simp [Op.operands])]
 | load t x => simp only [evOp]; rw [h x (by simp [Op.operands])]
 | unOp op t x => simp only [evOp]; rw [h x (by simp [Op.operands])]
 | convert s t x => simp only [evOp]; rw [h x (by simp [Op.operands])]
 | fieldAddr t x j => simp only [evOp]; rw [h x (by simp [Op.operands])]
 | field t x j => simp only [evOp]; rw [h x (by simp [Op.operands])]
 | extract x j => simp only [evOp]; rw [h x (by simp [Op.operands])]
 | nilCheck x => simp only [evOp]; rw [h x (by simp [Op.operands])]
 | range t x => simp only [evOp]; rw [h x (by simp [Op.operands])]
 | entry x => simp only [evOp]; rw [h x (by simp [Op.operands])]
 | lookup t x i ok => simp only [evOp]; rw [h x (by simp [Op.operands]), h i (by simp [Op.operands])]
 | mapUpdate t m k v => simp only [evOp]; rw [h m (by simp [Op.operands]), h k (by simp [Op.operands]), h v (by simp [Op.operands])]
 | mapEntry t m k => simp only [evOp]; rw [h m (by simp [Op.operands]), h k (by simp [Op.operands])]
 | entryStore t m s v => simp only [evOp]; rw [h m (by simp [Op.operands]), h s (by simp [Op.operands]), h v (by simp [Op.operands])]
 | makeMap t r => cases r <;> simp only [evOp]
 | alloc t => simp only [evOp]
 | _ => simp only [evOp]
section
variable {P : Program} {mine : Nat → Prop} {ρ : Env} {ro : Nat → Prop} {w : World} {N : Nat}
theorem all_drop {co cs : List Bool} (h : co.all id = true) (e : co.drop (co.length - cs.length) = cs) : cs.all id = true := by
 rw [← e]
 rw [List.all_eq_true] at h ⊢
 exact fun x hx => h x (List.mem_of_mem_drop hx)
theorem opnd_sound {h hL : Heap} {a : Act} (S : SRel ρ ro h a w) {co : List Bool} (hco : co.all id = true) {x : Operand} (hsame : ∀ t, x = .tmp t → hget h 0 t = hget hL 0 t) (hs : ∀ q ∈ opndS hL co x, q) {v : AV} (e : opnd hL x = some v) : VRel ρ ro w v (a.eval x) := by
 cases x with
 | tmp t =>
   have ht := hsame t rfl
   simp only [opnd] at e
   split at e
   ·rename_i cs v' hk
    injection e with e; subst e
    have hq : co.drop (co.length - cs.length) = cs := hs _ (by simp [opndS, hk])
    obtain ⟨u, h1, h2⟩ := S t _ (ht.trans hk)
    have hu : a.eval (.tmp t) = u := by simp [Act.eval, h1]
    rw [hu]
    cases h2 with
    | whnT _ _ _ hc hv => exact hv
    | whnF _ _ hc => rw [all_drop hco hq] at hc; cases hc
   ·rename_i v' hk
    injection e with e; subst e
    obtain ⟨u, h1, h2⟩ := S t _ (ht.trans hk)
    have hu : a.eval (.tmp t) = u := by simp [Act.eval, h1]
    rw [hu]
    exact h2
   ·cases e
 | const v' => exact constAV_sound e
 | func f =>
   simp only [opnd, Option.some.injEq] at e; subst e
   exact .fn f [] [] .nil
 | global g => simp [opnd] at e
theorem conds_wanted {h hL : Heap} {a : Act} (S : SRel ρ ro h a w) {ops : Array Oper} {o : Oper} {co : List Bool} (e : condsOf hL ops o.guard = some co) (hsame : ∀ t, (0, t) ∈ slotsOf ops o → hget h 0 t = hget hL 0 t) :
 Region.wanted o (yielded ops a.tmps) = co.all id := by
 unfold condsOf at e
 unfold Region.wanted
 cases hg : o.guard with
 | none =>
   rw [hg] at e
   injection e with e; subst e
   rfl
 | some jb =>
   obtain ⟨j, b⟩ := jb
   rw [hg] at e
   simp only at e
   split at e
   ·cases e
   ·rename_i d hd
    have ht := hsame d (by simp [slotsOf, hg, hd])
    split at e
    ·rename_i g hk
     injection e with e; subst e
     obtain ⟨u, h1, h2⟩ := S d _ (ht.trans hk)
     cases h2
     simp only [yielded, hd, Option.bind_some, h1]
     cases b <;> cases g <;> rfl
    ·rename_i cs g hk
     injection e with e; subst e
     obtain ⟨u, h1, h2⟩ := S d _ (ht.trans hk)
     cases h2 with
     | whnT _ _ _ hc hv =>
       cases hv
       simp only [yielded, hd, Option.bind_some, h1]
       cases b <;> cases g <;> simp [hc]
     | whnF _ _ hc =>
       simp only [yielded, hd, Option.bind_some, h1, undef]
       rw [List.all_cons, hc, Bool.and_false]
       rfl
    ·cases e
theorem hput_append : ∀ (u v : List (Nat × Nat × Cont)) (h : Heap), hput h (u ++ v) = hput (hput h u) v
 | [], _, _ => rfl
 | x :: u, v, h => by simp only [List.cons_append, hput]; exact hput_append u v (x :: h)
theorem allC_spec {co : List Bool} {ps : List Prop} (h : ∀ q ∈ allC co ps, q) (hco : co.all id = true) : ∀ q ∈ ps, q := by
 intro q hq
 cases co with
 | nil => exact h q hq
 | cons c cs => exact h (((c :: cs).all id = true) → q) (List.mem_map.2 ⟨q, hq, rfl⟩) hco
theorem Sim.congr {h h' : Heap} (S : Sim mine ρ ro h w) (e : ∀ n o, hget h' n o = hget h n o) : Sim mine ρ ro h' w := by
 refine ⟨fun n o c hn hc => S.cont n o c hn (by rw [← e]; exact hc), fun n m x y b hn hm hne hl hl' => S.dist n m x y b hn hm hne ?_ ?_, S.new, S.zero, fun n o o' c c' hn h1 h2 => S.lay n o o' c c' hn (by rw [← e]; exact h1) (by rw [← e]; exact h2)⟩
 ·obtain ⟨o, c, h1, h2⟩ := hl; exact ⟨o, c, by rw [← e]; exact h1, h2⟩
 ·obtain ⟨o, c, h1, h2⟩ := hl'; exact ⟨o, c, by rw [← e]; exact h1, h2⟩
theorem StOK.congr {h h' : Heap} {a : Act} (S : StOK mine ρ ro h N a w) (e : ∀ n o, hget h' n o = hget h n o) : StOK mine ρ ro h' N a w :=
 ⟨S.sim.congr e, fun t v ht => S.slots t v (by rw [← e]; exact ht), S.size, S.defers⟩
theorem hput_slots {u : List (Nat × Nat × Cont)} (hu : ∀ x ∈ u, x.1 ≠ 0) : ∀ (h : Heap) (t : Nat), hget (hput h u) 0 t = hget h 0 t := by
 induction u with
 | nil => intro h t; rfl
 | cons x u ih =>
   intro h t
   simp only [hput]
   rw [ih (fun y hy => hu y (by simp [hy]))]
   obtain ⟨n, o, c⟩ := x
   rw [hget_cons, if_neg (fun e => hu (n, o, c) (by simp) e.1)]
theorem StOK.dst {h : Heap} {a : Act} (S : StOK mine ρ ro h N a w) {d : Option Nat} {v : AV} {x : Value} (hd : dstOK N d = true) (hv : VRel ρ ro w v x) : StOK mine ρ ro (hput h (dstUp d v)) N (a.put d x) w := by
 cases d with
 | none => exact S
 | some d =>
   have hlt : d < a.tmps.size := by rw [S.size]; simp [dstOK, Nat.blt] at hd; omega
   exact ⟨S.sim.slot d _, S.slots.put hlt hv, by simp [Act.put, S.size], S.defers⟩
theorem upOK_spec : ∀ {u : List (Nat × Nat × Cont)}, upOK u = true → ∀ x ∈ u, x.1 ≠ 0
 | [], _, x, hx => by cases hx
 | y :: u, e, x, hx => by
   simp only [upOK, Bool.and_eq_true, Bool.not_eq_true', beq_eq_false_iff_ne] at e
   rcases List.mem_cons.1 hx with rfl | hx
   ·exact e.1
   ·exact upOK_spec e.2 x hx
theorem oper_step {T : Tab} (hT : TabOK P T) {Γ : Specs} (hΓ : SpecsOK P Γ) {h hL : Heap} {a : Act} (S : StOK mine ρ ro h N a w) {ops : Array Oper} {o : Oper} {co : List Bool} {nb : Nat} {out : Out}
 (hc : condsOf hL ops o.guard = some co) (e : evOper T Γ hL co o nb = some out) (hup : (co.isEmpty || out.up.isEmpty) = true) (hd : dstOK N o.dst = true) (hz : upOK out.up = true) (hs : ∀ q ∈ allC co out.sides, q)
 (hslots : ∀ t, (0, t) ∈ slotsOf ops o → hget h 0 t = hget hL 0 t) (hrd : ∀ y ∈ out.rd, hget h y.1 y.2.1 = some y.2.2) (hnb : 0 < nb) (hf : ∀ n, nb ≤ n → n < nb + 32 → ρ n = none) {K : Act → World → Prop} {Q : Exit → Act → World → Prop}
 (hK : ∀ ρ' ro' a' w', GrowM mine ρ ρ' ro ro' w w' → (∀ n, ρ' n ≠ ρ n → nb ≤ n ∧ n < nb + 32) → Step mine w w' → StOK mine ρ' ro' (hput h (out.up ++ dstUp o.dst (whnOf co out.val))) N a' w' → K a' w') :
 if Region.wanted o (yielded ops a.tmps) then o.wp P a w K Q else K (a.put o.dst undef) w := by
 rw [conds_wanted S.slots hc hslots]
 cases hco : co.all id with
 | false =>
   simp only [Bool.false_eq_true, if_false]
   refine hK ρ ro _ _ (GrowM.refl _ _ _ _) (fun _ hn => absurd rfl hn) (Step.refl _ _) ?_
   have hne : co.isEmpty = false := by cases co with | nil => simp at hco | cons c cs => rfl
   rw [hne, Bool.false_or] at hup
   have hu : out.up = [] := by simpa using hup
   rw [hu, List.nil_append]
   refine S.dst hd ?_
   cases co with
   | nil => simp at hco
   | cons c cs => exact .whnF _ _ hco
 | true =>
   simp only [if_true]
   have hsides := allC_spec hs hco
   have fin : ∀ x w', Res mine ρ ro w nb (hput h out.up) out.val x w' → K (a.put o.dst x) w' := by
    rintro x w' ⟨ρ', ro', g, hn, s, hv, st⟩
    refine hK ρ' ro' _ _ g hn st ?_
    rw [hput_append]
    refine StOK.dst ⟨s, ?_, S.size, S.defers.mono g.g.more g.g.heap⟩ hd ?_
    ·intro t v ht
     rw [hput_slots (upOK_spec hz)] at ht
     exact (S.slots.grow g.g) t v ht
    ·cases co with
     | nil => exact hv
     | cons c cs => exact .whnT _ _ _ hco hv
   unfold evOper at e
   split at e
   ·-- pick
    rename_i c p q hop
    have hsl : ∀ y, y ∈ [c, p, q] → ∀ t, y = .tmp t → hget h 0 t = hget hL 0 t := by
     intro y hy t ht
     refine hslots t ?_
     subst ht
     refine List.mem_append_left _ (List.mem_filterMap.2 ⟨.tmp t, ?_, rfl⟩)
     simp [hop, Op.operands]
     simpa using hy
    unfold evPick at e
    split at e
    ·rename_i b hcv
     split at e
     ·rename_i x y hx hy
      injection e with e; subst e
      simp only [List.mem_append] at hsides
      have hvc := (opnd_sound S.slots hco (hsl c (by simp)) (fun z hz => hsides z (.inl (.inl hz))) hcv).bool_inv
      have hval : ∀ v, (execOp a.eval o).run P w = .ok (.value v) w → v = .bool (bif b then x else y) → o.wp P a w K Q := fun v hr hv => by
       subst hv
       exact wp_value hr (fin _ _ (Res.of_pure S.sim (.bool _)))
      cases b with
      | true =>
        have hxv := (opnd_sound S.slots (co := true :: co) (by simp [hco]) (hsl p (by simp)) (fun z hz => hsides z (.inl (.inr hz))) hx).bool_inv
        exact hval _ (by simp [execOp, hop, hvc, asBool, hxv]) rfl
      | false =>
        have hyv := (opnd_sound S.slots (co := true :: co) (by simp [hco]) (hsl q (by simp)) (fun z hz => hsides z (.inr (by simpa using hz))) hy).bool_inv
        exact hval _ (by simp [execOp, hop, hvc, asBool, hyv]) rfl
     ·rename_i x hx _
      injection e with e; subst e
      simp only [List.mem_append, List.mem_singleton] at hsides
      have hvc := (opnd_sound S.slots hco (hsl c (by simp)) (fun z hz => hsides z (.inl (.inl hz))) hcv).bool_inv
      have hb : b = true := hsides _ (.inr rfl)
      subst hb
      have hxv := (opnd_sound S.slots (co := true :: co) (by simp [hco]) (hsl p (by simp)) (fun z hz => hsides z (.inl (.inr hz))) hx).bool_inv
      exact wp_value (x := .bool x) (by simp [execOp, hop, hvc, asBool, hxv]) (fin _ _ (Res.of_pure S.sim (.bool _)))
     ·rename_i y hy _
      injection e with e; subst e
      simp only [List.mem_append, List.mem_singleton] at hsides
      have hvc := (opnd_sound S.slots hco (hsl c (by simp)) (fun z hz => hsides z (.inl (.inl hz))) hcv).bool_inv
      have hb : b = false := hsides _ (.inr rfl)
      subst hb
      have hyv := (opnd_sound S.slots (co := true :: co) (by simp [hco]) (hsl q (by simp)) (fun z hz => hsides z (.inl (.inr (by simpa using hz)))) hy).bool_inv
      exact wp_value (x := .bool y) (by simp [execOp, hop, hvc, asBool, hyv]) (fin _ _ (Res.of_pure S.sim (.bool _)))
     ·cases e
    ·cases e
   ·obtain ⟨out', h1, h2⟩ := Option.map_eq_some_iff.1 e
    subst h2
    simp only [List.mem_append, List.mem_flatMap] at hsides
    classical
    have hcg : evOp T Γ o.op (fun x => if x ∈ o.op.operands.toList then opnd hL x else none) (hget hL) nb = some out' := by
     rw [← h1]
     exact evOp_congr fun x hx => by rw [if_pos hx]
    refine evOp_sound hT hΓ S.sim (fun x v hxv => ?_) hcg hrd (fun q hq => hsides q (.inr hq)) hnb hf fin
    split at hxv
    ·rename_i hx
     refine opnd_sound S.slots hco (fun t ht => ?_) (fun q hq => hsides q (.inl ⟨x, hx, hq⟩)) hxv
     subst ht
     exact hslots t (List.mem_append_left _ (List.mem_filterMap.2 ⟨.tmp t, hx, rfl⟩))
    ·cases hxv
theorem evOper_rd {T : Tab} {Γ : Specs} (hΓ : SpecsOK P Γ) {hL : Heap} {co : List Bool} {o : Oper} {nb : Nat} {out : Out} (e : evOper T Γ hL co o nb = some out) : RdOK (hget hL) out := by
 unfold evOper at e
 split at e
 ·unfold evPick at e
  split at e
  ·split at e
   ·injection e with e; subst e; exact .nil
   ·injection e with e; subst e; exact .nil
   ·injection e with e; subst e; exact .nil
   ·cases e
  ·cases e
 ·obtain ⟨out', h1, h2⟩ := Option.map_eq_some_iff.1 e
  subst h2
  exact fun x hx => evOp_rd hΓ h1 x hx
theorem StOK.dead {h : Heap} {a : Act} (S : StOK mine ρ ro h N a w) (d : Option Nat) (x : Value) : StOK mine ρ ro (hput h (deadUp d)) N (a.put d x) w := by
 cases d with
 | none => exact S
 | some d =>
   refine ⟨S.sim.slot d _, fun t v ht => ?_, by simp [Act.put, S.size], S.defers⟩
   simp only [deadUp, hput] at ht
   rw [hget_cons] at ht
   split at ht
   ·cases ht
   ·rename_i hne
    obtain ⟨u, h1, h2⟩ := S.slots t v ht
    have : d ≠ t := fun e => hne ⟨rfl, e⟩
    exact ⟨u, by simp only [Act.put]; rw [Array.getElem?_setIfInBounds_ne this]; exact h1, h2⟩
theorem one_step {T : Tab} (hT : TabOK P T) {Γ : Specs} (hΓ : SpecsOK P Γ) {h hL : Heap} {a : Act} (S : StOK mine ρ ro h N a w) {ops : Array Oper} {dec : List (Nat × Bool)} {i : Nat} {o : Oper} {nb : Nat} {ps : List Prop} {rd : List (Nat × Nat)} {up : List (Nat × Nat × Cont)}
 (e : evOne T Γ ops N dec hL i o nb = some (ps, rd, up)) (hs : ∀ q ∈ ps, q) (hsame : ∀ n o', (n, o') ∈ slotsOf ops o ++ rd → hget h n o' = hget hL n o') (hnb : 0 < nb) (hf : ∀ n, nb ≤ n → n < nb + 32 → ρ n = none) {K : Act → World → Prop} {Q : Exit → Act → World → Prop}
 (hK : ∀ ρ' ro' a' w', GrowM mine ρ ρ' ro ro' w w' → (∀ n, ρ' n ≠ ρ n → nb ≤ n ∧ n < nb + 32) → Step mine w w' → StOK mine ρ' ro' (hput h up) N a' w' → K a' w') :
 if Region.wanted o (yielded ops a.tmps) then o.wp P a w K Q else K (a.put o.dst undef) w := by
 have hslots : ∀ t, (0, t) ∈ slotsOf ops o → hget h 0 t = hget hL 0 t := fun t ht => hsame 0 t (List.mem_append_left _ ht)
 unfold evOne at e
 split at e
 ·cases e
 ·rename_i co hc
  split at e
  ·split at e
   ·cases e
   ·rename_i out ho
    obtain ⟨hq, e⟩ := bif_some e
    simp only [Bool.and_eq_true] at hq
    injection e with e; injection e with e1 e; injection e with e2 e3
    subst e1; subst e2; subst e3
    exact oper_step hT hΓ S hc ho hq.1.1 hq.1.2 hq.2 hs hslots (fun y hy => (hsame _ _ (List.mem_append_right _ (List.mem_map.2 ⟨y, hy, rfl⟩))).trans (evOper_rd hΓ ho y hy)) hnb hf hK
  ·split at e
   ·cases e
   ·rename_i out ho
    obtain ⟨hq, e⟩ := bif_some e
    simp only [Bool.and_eq_true] at hq
    injection e with e; injection e with e1 e; injection e with e2 e3
    subst e1; subst e2; subst e3
    have hco : co.all id = true := hs _ List.mem_cons_self
    -- as if there were no guard
    have hstep := oper_step hT hΓ S (o := { o with guard := none }) (ops := ops) (co := []) (nb := nb) (out := out) rfl (by simpa only [evOper] using ho) rfl hq.1 hq.2 (fun q hq => hs q (List.mem_cons_of_mem _ hq))
     (fun t ht => hslots t (by
       unfold slotsOf at ht ⊢
       exact List.mem_append_left _ (by simpa using ht))) (fun y hy => (hsame _ _ (List.mem_append_right _ (List.mem_map.2 ⟨y, hy, rfl⟩))).trans (evOper_rd hΓ ho y hy)) hnb hf (K := K) (Q := Q) hK
    rw [conds_wanted S.slots hc hslots, hco]
    have hw : ∀ o : Oper, Oper.wp P { o with guard := none } a w K Q = Oper.wp P o a w K Q := fun o => by cases o; rfl
    rw [← hw o]
    simpa only [Region.wanted, if_true] using hstep
  ·injection e with e; injection e with e1 e; injection e with e2 e3
   subst e1; subst e2; subst e3
   have hco : co.all id = false := hs _ List.mem_cons_self
   rw [conds_wanted S.slots hc hslots, hco]
   simp only [Bool.false_eq_true, if_false]
   exact hK ρ ro _ _ (GrowM.refl _ _ _ _) (fun _ hn => absurd rfl hn) (Step.refl _ _) (S.dead _ _)
theorem evOps_sound {T : Tab} (hT : TabOK P T) {Γ : Specs} (hΓ : SpecsOK P Γ) {ops : Array Oper} {dec : List (Nat × Bool)} {nx : Nat} (hnx : 0 < nx) {Q : Exit → Act → World → Prop} : ∀ (l : List Oper) (i : Nat) (ρ : Env) (ro : Nat → Prop) (h h' : Heap) (a : Act) (w : World) (ps : List Prop) (es : List Ent),
 evOps T Γ ops nx N dec i l h = some (ps, es, h') → (∀ q ∈ ps, q) → StOK mine ρ ro h N a w → (∀ n, nx + 32 * i ≤ n → ρ n = none) →
 (∀ ρ' ro' a' w', GrowM mine ρ ρ' ro ro' w w' → Step mine w w' → StOK mine ρ' ro' h' N a' w' → (∀ n, nx + 32 * (i + l.length) ≤ n → ρ' n = none) → Q .normal a' w') → (∀ o ∈ l, ∀ c, o.op ≠ .defer c) → ∀ (r : Option Nat) (m : Nat), wpListIn (fenceR r) m P ops Q l a w
 | [], i, ρ, ro, h, h', a, w, ps, es, e, hs, S, hf, hQ, _, _, _ => by
   simp only [evOps, Option.some.injEq, Prod.mk.injEq] at e
   obtain ⟨_, _, rfl⟩ := e
   exact wpListIn_nil (hQ ρ ro a w (GrowM.refl _ _ _ _) (Step.refl _ _) S (by simpa using hf))
 | o :: l, i, ρ, ro, h, h', a, w, ps, es, e, hs, S, hf, hQ, hnd, rr, m => by
   simp only [evOps] at e
   split at e
   ·cases e
   ·rename_i ps1 rd up ho
    obtain ⟨r, h1, h2⟩ := Option.map_eq_some_iff.1 e
    simp only [Prod.mk.injEq] at h2
    obtain ⟨rfl, rfl, rfl⟩ := h2
    simp only [List.mem_append] at hs
    refine wpListIn_step fun K hK => ?_
    have step := one_step hT hΓ S ho (fun q hq => hs q (.inl hq)) (fun _ _ _ => rfl) (by omega) (fun n h1 _ => hf n h1) (K := K) (Q := Q) (ops := ops) fun ρ' ro' a' w' g hn st S' => hK _ _ (by
     refine evOps_sound hT hΓ hnx l (i + 1) ρ' ro' _ r.2.2 a' w' r.1 r.2.1 h1 (fun q hq => hs q (.inr hq)) S' (fun n hle => ?_) (fun ρ'' ro'' a'' w'' g' st' S'' hf' => hQ ρ'' ro'' a'' w'' (g.trans g') (st.trans st') S'' (fun n hle => hf' n (by simp at hle; omega))) (fun o' ho' => hnd o' (List.mem_cons_of_mem _ ho')) rr m
     by_cases hne : ρ' n = ρ n
     ·rw [hne]; exact hf n (by omega)
     ·have := hn n hne; omega)
    by_cases hw : Region.wanted o (yielded ops a.tmps) = true
    ·rw [if_pos hw] at step ⊢; exact oper_in (hnd o List.mem_cons_self) step
    ·rw [if_neg hw] at step ⊢; exact ⟨fun _ _ => trivial, step⟩
end
end Go.Eng