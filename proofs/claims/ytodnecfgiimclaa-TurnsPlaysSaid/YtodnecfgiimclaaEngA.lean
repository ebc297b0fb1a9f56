/- The engine, part 1: abstract values, what they say of the machine's values in a world, and that this stays. -/
import Derived.WalkKit
set_option linter.unusedSimpArgs false
set_option linter.unusedVariables false
namespace Go.Eng
inductive AV where
 | int (k : IntKind) (n : Int)
 | bool (b : Bool)
 | str (s : ByteArray)
 | nilp
 | ptr (n off : Nat)
 | pe (n off : Nat) (i : Int)
 | vp (n sz : Nat) (i : Int) (off : Nat)
 | rp (cs : List AV)
 | rs (sz n : Nat) (full : Bool) (f : Nat → AV)
 | vs (n : Nat)
 | sub (n sz lo k : Nat)
 | nils
 | mp (n : Nat)
 | nilm
 | fn (f : Nat) (cap : List AV)
 | nilf
 | agg (cs : List AV)
 | arr (n : Nat) (f : Nat → AV)
 | tup (vs : List AV)
 | it (n : Nat)
 | whn (cs : List Bool) (v : AV)
abbrev Env := Nat → Option Value
def blk : Value → Option Nat
 | .pointer (some a) => some a.block
 | .slice (some a) _ _ => some a.block
 | .map r => r
 | _ => none
def AV.cells : AV → List AV
 | .agg cs => cs
 | v => [v]
mutual
inductive VRel (ρ : Env) (ro : Nat → Prop) (w : World) : AV → Value → Prop
 | int (k : IntKind) (n : Int) : VRel ρ ro w (.int k n) (.int k n)
 | bool (b : Bool) : VRel ρ ro w (.bool b) (.bool b)
 | str (s : ByteArray) : VRel ρ ro w (.str s) (.string s)
 | nilp : VRel ρ ro w .nilp (.pointer none)
 | ptr (n off b : Nat) (h : ρ n = some (.pointer (some ⟨b, 0, none⟩))) : VRel ρ ro w (.ptr n off) (.pointer (some ⟨b, off, none⟩))
 | pe (n off b : Nat) (i : Int) (h : ρ n = some (.pointer (some ⟨b, 0, none⟩))) : VRel ρ ro w (.pe n off i) (.pointer (some ⟨b, off + i.toNat, none⟩))
 | vp (n sz off b len cap : Nat) (i : Int) (h : ρ n = some (.slice (some ⟨b, 0, none⟩) len cap)) : VRel ρ ro w (.vp n sz i off) (.pointer (some ⟨b, i.toNat * sz + off, none⟩))
 | rp (cs : List AV) (a : Addr) (us : List Value) (hb : ro a.block) (hs : a.spot = none) (hc : ∀ j u, us[j]? = some u → w.cell? (a.add j) = some u) (h : CRel ρ ro w cs us) :
    VRel ρ ro w (.rp cs) (.pointer (some a))
 | rs (sz n cap : Nat) (full : Bool) (f : Nat → AV) (a : Option Addr) (vals : Nat → List Value) (hn : n ≤ cap) (hm : cap ≤ maxLen) (hfull : full = true → cap = n)
    (ha : 0 < n → ∃ ad, a = some ad ∧ ro ad.block ∧ ad.spot = none ∧ ∀ i, i < n → ∀ j u, (vals i)[j]? = some u → w.cell? (ad.add (i * sz + j)) = some u)
    (hl : ∀ i, i < n → (vals i).length = sz) (h : ∀ i, i < n → CRel ρ ro w (f i).cells (vals i)) : VRel ρ ro w (.rs sz n full f) (.slice a n cap)
 | vs (n : Nat) (v : Value) (h : ρ n = some v) (hv : ∃ a l c, v = .slice a l c) : VRel ρ ro w (.vs n) v
 | sub (m sz lo n cap : Nat) (a0 a : Option Addr) (l c : Nat) (h : ρ m = some (.slice a0 l c)) (hl : lo + n ≤ l) (hn : n ≤ cap) (hm : cap ≤ maxLen) (ha : 0 < n → ∃ b, a0 = some ⟨b, 0, none⟩ ∧ a = some ⟨b, lo * sz, none⟩) : VRel ρ ro w (.sub m sz lo n) (.slice a n cap)
 | nils : VRel ρ ro w .nils (.slice none 0 0)
 | mp (n r : Nat) (h : ρ n = some (.map (some r))) : VRel ρ ro w (.mp n) (.map (some r))
 | nilm : VRel ρ ro w .nilm (.map none)
 | fn (f : Nat) (cap : List AV) (us : List Value) (h : LRel ρ ro w cap us) : VRel ρ ro w (.fn f cap) (.func (.func f) #[] us.toArray)
 | nilf : VRel ρ ro w .nilf .nilFunc
 | agg (cs : List AV) (us : List Value) (h : CRel ρ ro w cs us) : VRel ρ ro w (.agg cs) (.agg us.toArray)
 | tup (vs : List AV) (us : List Value) (h : LRel ρ ro w vs us) : VRel ρ ro w (.tup vs) (.tuple us.toArray)
 | it (n b : Nat) (h : ρ n = some (.pointer (some ⟨b, 0, none⟩))) : VRel ρ ro w (.it n) (.pointer (some ⟨b, 0, none⟩))
 | whnT (cs : List Bool) (v : AV) (x : Value) (hc : cs.all id = true) (h : VRel ρ ro w v x) : VRel ρ ro w (.whn cs v) x
 | whnF (cs : List Bool) (v : AV) (hc : cs.all id = false) : VRel ρ ro w (.whn cs v) undef
inductive LRel (ρ : Env) (ro : Nat → Prop) (w : World) : List AV → List Value → Prop
 | nil : LRel ρ ro w [] []
 | cons (v : AV) (vs : List AV) (u : Value) (us : List Value) (h : VRel ρ ro w v u) (t : LRel ρ ro w vs us) : LRel ρ ro w (v :: vs) (u :: us)
inductive CRel (ρ : Env) (ro : Nat → Prop) (w : World) : List AV → List Value → Prop
 | nil : CRel ρ ro w [] []
 | cons (v : AV) (vs : List AV) (u : Value) (us : List Value) (h : VRel ρ ro w v u) (h1 : u.oneCell' = true) (t : CRel ρ ro w vs us) : CRel ρ ro w (v :: vs) (u :: us)
 | arr (n : Nat) (f : Nat → AV) (vs : List AV) (xs us : List Value) (hl : xs.length = n) (h : ∀ i u, xs[i]? = some u → VRel ρ ro w (f i) u) (h1 : ∀ u ∈ xs, u.oneCell' = true) (t : CRel ρ ro w vs us) :
    CRel ρ ro w (.arr n f :: vs) (xs ++ us)
end
theorem cell_same {w w' : World} {a : Addr} (h : w'.heap[a.block]? = w.heap[a.block]?) : w'.cell? a = w.cell? a := by simp [World.cell?, h]
theorem add_block (a : Addr) (n : Nat) : (a.add n).block = a.block := by unfold Addr.add; split <;> rfl
structure Grow (ρ ρ' : Env) (ro ro' : Nat → Prop) (w w' : World) : Prop where
 env : ∀ n v, ρ n = some v → ρ' n = some v
 more : ∀ b, ro b → ro' b
 heap : ∀ b, ro b → w'.heap[b]? = w.heap[b]?
theorem Grow.refl (ρ : Env) (ro : Nat → Prop) (w : World) : Grow ρ ρ ro ro w w := ⟨fun _ _ h => h, fun _ h => h, fun _ _ => rfl⟩
theorem Grow.trans {ρ ρ' ρ'' : Env} {ro ro' ro'' : Nat → Prop} {w w' w'' : World} (g : Grow ρ ρ' ro ro' w w') (k : Grow ρ' ρ'' ro' ro'' w' w'') : Grow ρ ρ'' ro ro'' w w'' :=
 ⟨fun n v h => k.env n v (g.env n v h), fun b h => k.more b (g.more b h), fun b h => (k.heap b (g.more b h)).trans (g.heap b h)⟩
section
variable {ρ ρ' : Env} {ro ro' : Nat → Prop} {w w' : World} (g : Grow ρ ρ' ro ro' w w')
include g
theorem VRel.grow {v : AV} {x : Value} (h : VRel ρ ro w v x) : VRel ρ' ro' w' v x := by
 refine VRel.rec (motive_1 := fun v x _ => VRel ρ' ro' w' v x) (motive_2 := fun v x _ => LRel ρ' ro' w' v x) (motive_3 := fun v x _ => CRel ρ' ro' w' v x)
  ?_ ?_ ?_ ?_ ?_ ?_ ?_ ?_ ?_ ?_ ?_ ?_ ?_ ?_ ?_ ?_ ?_ ?_ ?_ ?_ ?_ ?_ ?_ ?_ ?_ ?_ h
 ·exact fun k n => .int k n
 ·exact fun b => .bool b
 ·exact fun s => .str s
 ·exact .nilp
 ·exact fun n off b h => .ptr n off b (g.env _ _ h)
 ·exact fun n off b i h => .pe n off b i (g.env _ _ h)
 ·exact fun n sz off b len cap i h => .vp n sz off b len cap i (g.env _ _ h)
 ·exact fun cs a us hb hs hc _ ih => .rp cs a us (g.more _ hb) hs (fun j u hj => (cell_same (by rw [add_block]; exact g.heap _ hb)).trans (hc j u hj)) ih
 ·intro sz n cap full f a vals hn hm hfull ha hl _ ih
  refine .rs sz n cap full f a vals hn hm hfull (fun h0 => ?_) hl ih
  obtain ⟨ad, e, hr, hs, hc⟩ := ha h0
  exact ⟨ad, e, g.more _ hr, hs, fun i hi j u hj => (cell_same (by rw [add_block]; exact g.heap _ hr)).trans (hc i hi j u hj)⟩
 ·exact fun n x h hv => .vs n x (g.env _ _ h) hv
 ·exact fun m sz lo n cap a0 a l c h hl hn hm ha => .sub m sz lo n cap a0 a l c (g.env _ _ h) hl hn hm ha
 ·exact .nils
 ·exact fun n r h => .mp n r (g.env _ _ h)
 ·exact .nilm
 ·exact fun f cap us _ ih => .fn f cap us ih
 ·exact .nilf
 ·exact fun cs us _ ih => .agg cs us ih
 ·exact fun vs us _ ih => .tup vs us ih
 ·exact fun n b h => .it n b (g.env _ _ h)
 ·exact fun cs v x hc _ ih => .whnT cs v x hc ih
 ·exact fun cs v hc => .whnF cs v hc
 ·exact .nil
 ·exact fun v vs u us _ _ ih it => .cons v vs u us ih it
 ·exact .nil
 ·exact fun v vs u us _ h1 _ ih it => .cons v vs u us ih h1 it
 ·exact fun n f vs xs us hl _ h1 _ ih it => .arr n f vs xs us hl ih h1 it
theorem CRel.grow {v : List AV} {x : List Value} (h : CRel ρ ro w v x) : CRel ρ' ro' w' v x := by
 induction v generalizing x with
 | nil => cases h; exact .nil
 | cons v vs ih =>
   cases h with
   | cons _ _ u us h h1 t => exact .cons v vs u us (VRel.grow g h) h1 (ih t)
   | arr n f _ xs us hl h h1 t => exact .arr n f vs xs us hl (fun i u hi => VRel.grow g (h i u hi)) h1 (ih t)
end
end Go.Eng