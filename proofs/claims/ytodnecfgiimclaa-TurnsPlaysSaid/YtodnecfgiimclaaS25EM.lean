/- Seat 25: the peers play: acts as they are handed in; the contract. -/
import Derived.Test.YtodnecfgiimclaaS25EL
set_option linter.unusedSimpArgs false
set_option linter.unusedVariables false
set_option maxHeartbeats 2000000
namespace Go.Eng.S25
open Go.Proofs Go.IntWalk
def AllActs (m : Nat) (f : Nat → AV) : Prop := ∃ acts : Nat → Act, ∀ j, j < m → f j = actV (acts j) ∧ (IsU (acts j).B ∧ (acts j).B.length ≤ maxLen) ∧ 0 ≤ (acts j).W ∧ (acts j).W ≤ 18446744073709551615
theorem actV_has (a : Act) : Has false true (actV a) := .agg _ fun v hv => by
 simp only [List.mem_cons, List.not_mem_nil, or_false] at hv
 rcases hv with rfl | rfl | rfl | rfl | rfl | rfl
 ·exact .int _ _
 ·exact .int _ _
 ·exact .int _ _
 ·exact .int _ _
 ·exact .int _ _
 ·exact .rs _ _ _ _ rfl fun i hi => (nU_flat _ i).has
def sPlays : Spec := fun args _ _ => match args with
 | [.int .i64 n, .rs 6 m _ f] => some ⟨[AllActs m f ∧ m ≤ maxLen], .bool true, [], []⟩
 | _ => none
theorem plays_ok : SpecOK Try.prog 7 sPlays := by
 refine spec_ownS (by kernel_rfl) T_ok sget_nil Try.func7 rfl rfl fun args hr nb out e => ?_
 unfold sPlays at e
 split at e
 ·rename_i n m fl f
  injection e with e; subst e
  by_cases hA : AllActs m f
  rotate_left
  ·exact ⟨(fun _ h => nomatch h), true, [], rfl, fun hs => absurd (hs _ List.mem_cons_self).1 hA⟩
  obtain ⟨acts, hA⟩ := hA
  refine ⟨(fun _ h => nomatch h), true, [.int .i64 n, .rs 6 m false fun j => actV (acts j)], rfl, fun hs => ⟨.cons _ _ _ _ (.same _ _ (.int _ _)) (.cons _ _ _ _ (.rs _ _ _ _ _ _ fun i hi => ⟨(hA i hi).1, actV_has _⟩) .nil), plays_walk (hs _ List.mem_cons_self).2 fun j hj => (hA j hj).2⟩⟩
 ·cases e
theorem crel_head {ρ : Env} {ro : Nat → Prop} {w : World} {a : AV} {l : List AV} {us : List Value} (ha : ∀ n f, a ≠ .arr n f) (h : CRel ρ ro w (a :: l) us) : ∃ u us', us = u :: us' ∧ VRel ρ ro w a u ∧ u.oneCell' = true ∧ CRel ρ ro w l us' := by
 cases h with
 | cons _ _ u us h h1 t => exact ⟨u, us, rfl, h, h1, t⟩
 | arr => exact absurd rfl (ha _ _)
theorem crel_nil {ρ : Env} {ro : Nat → Prop} {w : World} {us : List Value} (h : CRel ρ ro w [] us) : us = [] := by
 cases h; rfl
theorem act_in {w : World} {xs : List AV} {us : List Value} (h : DL w [.int .i64, .int .i64, .int .i64, .int .i64, .int .u64, .sl [.int .u8]] xs us) :
 ∃ a : Act, ((IsU a.B ∧ a.B.length ≤ maxLen) ∧ 0 ≤ a.W ∧ a.W ≤ 18446744073709551615) ∧ ∀ (ρ : Env) (vs : List Value), CRel ρ (fun b => b < w.heap.size) w (ofSc xs).cells vs → CRel ρ (fun b => b < w.heap.size) w (actV a).cells vs := by
 obtain ⟨b0, a1, u0, r1, rfl, rfl, s0, h⟩ := h.head
 obtain ⟨b1, a2, u1, r2, rfl, rfl, s1, h⟩ := h.head
 obtain ⟨b2, a3, u2, r3, rfl, rfl, s2, h⟩ := h.head
 obtain ⟨b3, a4, u3, r4, rfl, rfl, s3, h⟩ := h.head
 obtain ⟨b4, a5, u4, r5, rfl, rfl, s4, h⟩ := h.head
 obtain ⟨b5, a6, u5, r6, rfl, rfl, s5, h⟩ := h.head
 obtain ⟨rfl, rfl⟩ := h.done
 obtain ⟨x0, rfl, -, -⟩ := s0.int_inv
 obtain ⟨x1, rfl, -, -⟩ := s1.int_inv
 obtain ⟨x2, rfl, -, -⟩ := s2.int_inv
 obtain ⟨x3, rfl, -, -⟩ := s3.int_inv
 obtain ⟨x4, rfl, hx4, hy4⟩ := s4.int_inv
 obtain ⟨k, f, g, rfl, -, -, hk, hf⟩ := s5.sl_inv
 have hB : IsB k (rowU f) := ⟨fun i hi => ⟨rfl, by
  have := (rowU_eq hf).2 i hi
  show 0 ≤ iv (ofSc (f i)) ∧ iv (ofSc (f i)) ≤ 255
  generalize iv (ofSc (f i)) = z at this
  simp [Lit.wf] at this
  exact this⟩⟩
 obtain ⟨L, hL1, hL2, -, hL4⟩ := hB.list
 refine ⟨⟨x0, x1, x2, x3, x4, L⟩, ⟨⟨hL2, by show L.length ≤ maxLen; rw [← hL1]; exact hk⟩, by
  show 0 ≤ x4 ∧ x4 ≤ 18446744073709551615
  simp [Lit.wf] at hy4
  exact hy4⟩, fun ρ vs H => ?_⟩
 have H : CRel ρ _ w [.int .i64 x0, .int .i64 x1, .int .i64 x2, .int .i64 x3, .int .u64 x4, .rs 1 k false fun i => ofSc (f i)] vs := H
 show CRel ρ _ w [.int .i64 x0, .int .i64 x1, .int .i64 x2, .int .i64 x3, .int .u64 x4, .rs 1 L.length false (nU L)] vs
 obtain ⟨v0, w0, rfl, q0, p0, H⟩ := crel_head (fun _ _ h => by cases h) H
 obtain ⟨v1, w1, rfl, q1, p1, H⟩ := crel_head (fun _ _ h => by cases h) H
 obtain ⟨v2, w2, rfl, q2, p2, H⟩ := crel_head (fun _ _ h => by cases h) H
 obtain ⟨v3, w3, rfl, q3, p3, H⟩ := crel_head (fun _ _ h => by cases h) H
 obtain ⟨v4, w4, rfl, q4, p4, H⟩ := crel_head (fun _ _ h => by cases h) H
 obtain ⟨v5, w5, rfl, q5, p5, H⟩ := crel_head (fun _ _ h => by cases h) H
 have H := crel_nil H
 subst H
 have q6 := rs_congr q5 fun i hi => ((rowU_eq hf).1 i hi).trans (hL4 i hi)
 rw [hL1] at q6
 exact .cons _ _ _ _ q0 p0 (.cons _ _ _ _ q1 p1 (.cons _ _ _ _ q2 p2 (.cons _ _ _ _ q3 p3 (.cons _ _ _ _ q4 p4 (.cons _ _ _ _ q6 p5 .nil)))))
theorem acts_in {w : World} {m : Nat} {F : Nat → List AV} {G : Nat → List Value} {v : Value} (hv : ∀ ρ, VRel ρ (fun b => b < w.heap.size) w (.rs 6 m false fun i => ofSc (F i)) v)
 (hs : ∀ i, i < m → DL w [.int .i64, .int .i64, .int .i64, .int .i64, .int .u64, .sl [.int .u8]] (F i) (G i)) :
 ∃ acts : Nat → Act, (∀ ρ, VRel ρ (fun b => b < w.heap.size) w (.rs 6 m false fun j => actV (acts j)) v) ∧ ∀ j, j < m → (IsU (acts j).B ∧ (acts j).B.length ≤ maxLen) ∧ 0 ≤ (acts j).W ∧ (acts j).W ≤ 18446744073709551615 := by
 classical
 let acts : Nat → Act := fun j => if h : j < m then Classical.choose (act_in (hs j h)) else ⟨0, 0, 0, 0, 0, []⟩
 have ha : ∀ j, j < m → ((IsU (acts j).B ∧ (acts j).B.length ≤ maxLen) ∧ 0 ≤ (acts j).W ∧ (acts j).W ≤ 18446744073709551615) ∧ ∀ (ρ : Env) (vs : List Value), CRel ρ (fun b => b < w.heap.size) w (ofSc (F j)).cells vs → CRel ρ (fun b => b < w.heap.size) w (actV (acts j)).cells vs := fun j hj => by
  simp only [acts, hj, dif_pos]
  exact Classical.choose_spec (act_in (hs j hj))
 refine ⟨acts, fun ρ => ?_, fun j hj => (ha j hj).1⟩
 cases hv ρ with
 | rs _ _ cap _ _ a vals hn hm hfull ha' hl hc => exact .rs _ _ cap _ _ a vals hn hm hfull ha' hl fun i hi => (ha i hi).2 ρ _ (hc i hi)
end Go.Eng.S25