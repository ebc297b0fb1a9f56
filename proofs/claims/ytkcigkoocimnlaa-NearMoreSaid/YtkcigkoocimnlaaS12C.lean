/- Seat 12: slices.Sort at []int, out of the library's contract. -/
import Derived.Test.YtkcigkoocimnlaaEngX
import Derived.Test.YtkcigkoocimnlaaS12B
import Derived.Test.YtkcigkoocimnlaaS12SP
import Derived.Shelf.Slices.In.SortNone
set_option linter.unusedSimpArgs false
set_option linter.unusedVariables false
namespace Go.Eng.S12
open Go.Proofs Go.IntWalk
set_option maxRecDepth 10000

def intsL (n : Nat) (f : Nat → AV) : List Int := (List.range n).map fun i => iv (f i)
theorem intsL_len (n : Nat) (f : Nat → AV) : (intsL n f).length = n := by simp [intsL]
theorem intsL_get (n : Nat) (f : Nat → AV) {i : Nat} (h : i < n) : (intsL n f)[i]? = some (iv (f i)) := by simp [intsL, h]
theorem intsL_lst (L : List Int) : intsL L.length (lst L) = L := by
  refine List.ext_getElem (intsL_len _ _) fun i h1 h2 => ?_
  have := intsL_get L.length (lst L) h2
  rw [List.getElem?_eq_getElem h1] at this
  simp only [lst, iv, List.getD_eq_getElem?_getD, List.getElem?_eq_getElem h2, Option.getD_some, Option.some.injEq] at this
  exact this
def sortI (L : List Int) : List Int := L.mergeSort fun x y => decide (x ≤ y)
theorem sortI_len (L : List Int) : (sortI L).length = L.length := List.length_mergeSort _
def sSort : Spec := fun args hr _ => match args with
  | [.vs m] => match hr m 0 with
    | some (.vec 1 3 k f) => some ⟨[(∀ i, i < k → f i = c1 f i) ∧ k < 4611686018427387904], .tup [], [(m, 0, .vec 1 3 k f)], [(m, 0, .vec 1 3 k (lst (sortI (intsL k f))))]⟩
    | _ => none
  | _ => none
theorem row_swap {mine : Nat → Prop} {ρ : Env} {ro : Nat → Prop} {h : Heap} {w : World} {j sz e' k : Nat} {f g : Nat → AV} (S : Sim mine ρ ro h w) (hc : hget h j 0 = some (.vec sz e' k f)) (hn : CSim mine ρ ro w j 0 (.vec sz e' k g)) : Sim mine ρ ro ((j, 0, .vec sz e' k g) :: h) w := by
  have get : ∀ p o c', hget ((j, 0, Cont.vec sz e' k g) :: h) p o = some c' → ((p = j ∧ o = 0 ∧ c' = .vec sz e' k g) ∨ (¬ (p = j ∧ o = 0) ∧ hget h p o = some c')) := by
    intro p o c' he
    rw [hget_cons] at he
    split at he
    · rename_i hh; obtain ⟨rfl, rfl⟩ := hh; injection he with he; exact .inl ⟨rfl, rfl, he.symm⟩
    · rename_i hh; exact .inr ⟨fun q => hh ⟨q.1.symm, q.2.symm⟩, he⟩
  have back : ∀ p o c', hget ((j, 0, Cont.vec sz e' k g) :: h) p o = some c' → c'.live → ∃ d, hget h p o = some d ∧ d.live ∧ d.wd = c'.wd := by
    intro p o c' he hl
    rcases get p o c' he with ⟨rfl, rfl, rfl⟩ | ⟨_, e2⟩
    · exact ⟨_, hc, trivial, rfl⟩
    · exact ⟨_, e2, hl, rfl⟩
  refine ⟨fun p o c' hp he => ?_, fun p q y z b hp hq hne hl hl' => ?_, S.new, S.zero, fun p o o' c1 c2 hp h1 h2 l1 l2 hlt => ?_⟩
  · rcases get p o c' he with ⟨rfl, rfl, rfl⟩ | ⟨_, e2⟩
    · exact hn
    · exact S.cont p o c' hp e2
  · obtain ⟨o, c', e1, e2⟩ := hl
    obtain ⟨o', c'', e3, e4⟩ := hl'
    obtain ⟨d1, f1, f2, _⟩ := back p o c' e1 e2
    obtain ⟨d2, f3, f4, _⟩ := back q o' c'' e3 e4
    exact S.dist p q y z b hp hq hne ⟨o, d1, f1, f2⟩ ⟨o', d2, f3, f4⟩
  · obtain ⟨d1, f1, f2, f3⟩ := back p o c1 h1 l1
    obtain ⟨d2, f4, f5, _⟩ := back p o' c2 h2 l2
    rw [← f3]
    exact S.lay p o o' d1 d2 hp f1 f4 f2 f5 hlt
theorem sort_ok : SpecOK Try.prog 23 sSort := by
  refine ⟨⟨_, Try.func23, by kernel_rfl, by kernel_rfl⟩, fun args hr nb out e => ?_, fun mine ρ ro h w args xs hr nb out S hargs e hrd hs hnb hfr => ?_⟩
  · unfold sSort at e
    split at e
    · split at e
      · rename_i hk
        injection e with e; subst e
        intro x hx
        rw [List.mem_singleton.1 hx]
        exact hk
      · cases e
    · cases e
  · unfold sSort at e
    split at e
    · rename_i m
      split at e
      · rename_i k f hk
        injection e with e; subst e
        obtain ⟨hf, hkb⟩ := hs _ List.mem_cons_self
        have hget0 := hrd (m, 0, .vec 1 3 k f) (by simp)
        simp only at hget0
        cases hargs with
        | cons _ _ v us hv ht =>
          cases ht
          cases hv with
          | vs _ _ hj hsl =>
            obtain ⟨_, x', xs, q1, q2, q3, q4, q5⟩ := S.cont m 0 _ (name_pos S hj) hget0
            rw [hj] at q1
            injection q1 with q1
            subst q1
            have hxs : xs = (intsL k f).map (Value.int .i64) := by
              refine List.ext_getElem? fun i => ?_
              have hl : xs.length = k := by rw [q3.1, Nat.mul_one]
              rcases Nat.lt_or_ge i k with hi | hi
              · have h5 := q5 i hi
                rw [hf i hi] at h5
                have e1 : (xs.drop (i * 1)).take 1 = [xs[i]'(by omega)] := by
                  rw [Nat.mul_one, List.drop_eq_getElem_cons (by omega), List.take_succ_cons, List.take_zero]
                rw [e1] at h5
                cases h5 with
                | cons _ _ _ _ h6 _ _ =>
                  have h7 : VRel ρ ro w (.int .i64 (iv (f i))) (xs[i]'(by omega)) := h6
                  rw [List.getElem?_eq_getElem (by omega), List.getElem?_map, intsL_get k f hi, h7.int_inv]
                  rfl
              · rw [List.getElem?_eq_none (by omega), List.getElem?_eq_none (by rw [List.length_map, intsL_len]; omega)]
            rcases q3.2 with ⟨rfl, h9⟩ | ⟨gg, cap, cur, rfl, hbase, hg, hkc, hcm, hcs, htake⟩
            · subst h9
              refine (Any.slices_Sort_int_none Try.lays189 none 0 w).mono ?_
              rintro e w' ⟨rfl, rfl⟩
              refine ⟨_, rfl, ρ, ro, .refl _ _ _ _, fun _ hn => absurd rfl hn, row_swap S hget0 ⟨rfl, _, xs, hj, q2, q3, q4, fun i hi => absurd hi (Nat.not_lt_zero _)⟩, .tup [] [] .nil, .refl _ _⟩
            · rw [Nat.mul_one] at hcs htake
              obtain ⟨zs, hzs⟩ : ∃ zs, zs = intsL k f := ⟨_, rfl⟩
              have hzl : zs.length = k := by rw [hzs, intsL_len]
              have hcell : ∀ j (hj : j < k), cur[j]? = some (.int .i64 (zs.getD j 0)) := by
                intro j hj
                have e1 : (cur.toList.take k)[j]? = xs[j]? := by rw [htake]
                rw [List.getElem?_take, if_pos hj, hxs, List.getElem?_map, ← hzs, List.getElem?_eq_getElem (l := zs) (by omega)] at e1
                rw [← Array.getElem?_toList, e1, List.getD_eq_getElem?_getD, List.getElem?_eq_getElem (l := zs) (by omega)]
                rfl
              have hH : Go.Sort.Holds (Value.int .i64) w gg 0 zs.toArray := by
                intro j hj
                have hj' : j < k := by rw [← hzl]; simpa using hj
                have hz : (zs.toArray)[j]! = zs.getD j 0 := by
                  rw [getElem!_pos _ j hj, List.getD_eq_getElem?_getD, List.getElem?_eq_getElem (by omega)]
                  simp
                constructor
                · rw [hz]
                  simp only [World.cell?, hg, Nat.zero_add]
                  have := hcell j hj'
                  simpa using this
                · simp [World.frozen?, hg]
              have hlt : gg < w.heap.size := (Array.getElem?_eq_some_iff.1 hg).1
              have hC := Any.slices_Sort_int Try.lays189 gg 0 cap zs w hH hlt (by rw [hzl]; exact hkb)
              rw [hzl] at hC
              refine hC.mono ?_
              rintro e w' ⟨rfl, n, os, rfl⟩
              obtain ⟨srt, hsrt⟩ : ∃ srt, srt = sortI zs := ⟨_, rfl⟩
              have hsl2 : srt.length = k := by rw [hsrt, sortI_len, hzl]
              obtain ⟨new, hnew⟩ : ∃ new, new = Go.Sort.putCells (Value.int .i64) 0 srt.toArray cur := ⟨_, rfl⟩
              have hns : new.size = cur.size := by rw [hnew]; simp [Go.Sort.putCells]
              have hnk : ∀ j, j < k → new[j]? = some (.int .i64 (srt.getD j 0)) := by
                intro j hj
                have hjc : j < cur.size := by omega
                rw [hnew]
                simp only [Go.Sort.putCells, Array.getElem?_mapIdx, Array.getElem?_eq_getElem hjc, Option.map_some, Nat.zero_le, Nat.zero_add, List.size_toArray, hsl2, hj, and_self, if_true, Nat.sub_zero, Option.some.injEq]
                rw [getElem!_pos _ j (by simpa [hsl2] using hj), List.getD_eq_getElem?_getD, List.getElem?_eq_getElem (by omega)]
                simp
              have htk : ∀ j, j < k → (new.toList.take (k * 1))[j]? = some (.int .i64 (srt.getD j 0)) := by
                intro j hj
                rw [Nat.mul_one, List.getElem?_take, if_pos hj, Array.getElem?_toList, hnk j hj]
              obtain ⟨r1, r2, r3⟩ := vec_write (f' := lst srt) S hj hget0 hg (new := new.toList) (by simpa using hns) (fun u hu => by
                obtain ⟨j, hj⟩ := List.mem_iff_getElem?.1 hu
                have hjk : j < k := by
                  have := (List.getElem?_eq_some_iff.1 hj).1
                  rw [List.length_take] at this
                  omega
                rw [htk j hjk] at hj
                injection hj with hj
                subst hj
                rfl) (fun gr i hi => by
                have e1 : ((new.toList.take (k * 1)).drop (i * 1)).take 1 = [.int .i64 (srt.getD i 0)] := by
                  have hli : i < (new.toList.take (k * 1)).length := by rw [List.length_take, Array.length_toList, hns]; omega
                  rw [Nat.mul_one i, List.drop_eq_getElem_cons hli, List.take_succ_cons, List.take_zero]
                  have := htk i hi
                  rw [List.getElem?_eq_getElem hli] at this
                  injection this with this
                  rw [this]
                rw [e1]
                exact .cons _ _ _ _ (.int _ _) rfl .nil)
              have hheap : ∀ b, b < w.heap.size → (Go.Sort.grow (Go.Sort.putRow (Value.int .i64) (Go.Sort.ahead w n) gg 0 (zs.mergeSort fun x y => decide (x ≤ y)).toArray) os).heap[b]? = (w.setRow gg new.toList.toArray).heap[b]? := by
                intro b hb
                have e0 : (zs.mergeSort fun x y => decide (x ≤ y)) = srt := hsrt.symm
                rw [e0]
                by_cases hbg : b = gg
                · subst hbg
                  rw [setRow_heap w b cur _ 3 (0, 0) hg]
                  have : b < (w.heap.modify b (Go.Sort.onCells (Go.Sort.putCells (Value.int .i64) 0 srt.toArray))).size := by simpa using hb
                  simp only [Go.Sort.grow, Go.Sort.putRow, Go.Sort.mapBlock, Go.Sort.ahead]
                  rw [Array.getElem?_append_left this, Array.getElem?_modify, if_pos rfl, hg]
                  simp [Go.Sort.onCells, hnew]
                · rw [setRow_other w gg b _ hbg]
                  have : b < (w.heap.modify gg (Go.Sort.onCells (Go.Sort.putCells (Value.int .i64) 0 srt.toArray))).size := by simpa using hb
                  simp only [Go.Sort.grow, Go.Sort.putRow, Go.Sort.mapBlock, Go.Sort.ahead]
                  rw [Array.getElem?_append_left this, Array.getElem?_modify, if_neg (fun h => hbg h.symm)]
              have hsz1 : (w.setRow gg new.toList.toArray).heap.size = w.heap.size := size_setRow w gg _
              have hsz2 : w.heap.size ≤ (Go.Sort.grow (Go.Sort.putRow (Value.int .i64) (Go.Sort.ahead w n) gg 0 (zs.mergeSort fun x y => decide (x ≤ y)).toArray) os).heap.size := by
                simp [Go.Sort.grow, Go.Sort.putRow, Go.Sort.mapBlock, Go.Sort.ahead]
              have S2 := r1.more (w' := Go.Sort.grow (Go.Sort.putRow (Value.int .i64) (Go.Sort.ahead w n) gg 0 (zs.mergeSort fun x y => decide (x ≤ y)).toArray) os) (by rw [hsz1]; exact hsz2) (fun b hb => hheap b (by rw [← hsz1]; exact hb))
              have e3 : sortI (intsL k f) = srt := by rw [hsrt, hzs]
              refine ⟨_, rfl, ρ, ro, ?_, fun _ hn => absurd rfl hn, ?_, .tup [] [] .nil, ?_⟩
              · exact (Grow.m ⟨fun _ _ h => h, fun _ h => h, fun b hb => (hheap b (S.ro_lt hb)).trans (r2.heap b hb)⟩)
              · show Sim mine ρ ro ((m, 0, .vec 1 3 k (lst (sortI (intsL k f)))) :: h) _
                rw [e3]
                exact S2
              · exact ⟨rfl, rfl, rfl, hsz2, fun b hb hm => (hheap b hb).trans (r3.block b hb hm)⟩
      · cases e
    · cases e
end Go.Eng.S12
