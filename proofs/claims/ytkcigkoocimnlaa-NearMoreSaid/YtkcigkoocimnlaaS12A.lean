/- Seat 12: the table of types; an index as the heap has it. -/
import Derived.Test.YtkcigkoocimnlaaEngX
import Derived.Test.YtkcigkoocimnlaaProg
set_option linter.unusedSimpArgs false
set_option linter.unusedVariables false
namespace Go.Eng.S12
open Go.Proofs Go.IntWalk
def T : Tab := [(1, ⟨1, 8, .other, [.nilf]⟩),
  (2, ⟨1, 8, .int .i64, [.int .i64 0]⟩),
  (3, ⟨1, 8, .int .i64, [.int .i64 0]⟩),
  (4, ⟨1, 1, .bool, [.bool false]⟩),
  (5, ⟨1, 1, .int .u8, [.int .u8 0]⟩),
  (6, ⟨1, 1, .int .u8, [.int .u8 0]⟩),
  (8, ⟨4, 24, .struct [(0, 2, 1), (1, 3, 1), (2, 4, 1), (3, 6, 1)], [.int .i64 0, .int .i64 0, .bool false, .int .u8 0]⟩),
  (9, ⟨1, 16, .str, [.str ⟨⟨[]⟩⟩]⟩),
  (10, ⟨1, 16, .str, [.str ⟨⟨[]⟩⟩]⟩),
  (11, ⟨1, 16, .str, [.str ⟨⟨[]⟩⟩]⟩),
  (15, ⟨1, 8, .ptr 88, [.nilp]⟩),
  (16, ⟨1, 8, .ptr 91, [.nilp]⟩),
  (17, ⟨1, 8, .ptr 100, [.nilp]⟩),
  (21, ⟨1, 4, .int .i32, [.int .i32 0]⟩),
  (22, ⟨1, 24, .slice 46, [.nils]⟩),
  (24, ⟨4, 48, .struct [(0, 22, 1), (1, 2, 1), (2, 2, 1), (3, 2, 1)], [.nils, .int .i64 0, .int .i64 0, .int .i64 0]⟩),
  (26, ⟨1, 8, .ptr 58, [.nilp]⟩),
  (30, ⟨1, 24, .slice 3, [.nils]⟩),
  (31, ⟨1, 8, .int .i64, [.int .i64 0]⟩),
  (41, ⟨1, 24, .slice 47, [.nils]⟩),
  (46, ⟨2, 16, .struct [(0, 2, 1), (1, 2, 1)], [.int .i64 0, .int .i64 0]⟩),
  (47, ⟨2, 16, .array 2 3, [.int .i64 0, .int .i64 0]⟩),
  (55, ⟨1, 8, .int .u64, [.int .u64 0]⟩),
  (56, ⟨1, 8, .map 59 30, [.nilm]⟩),
  (58, ⟨2, 32, .struct [(0, 22, 1), (1, 56, 1)], [.nils, .nilm]⟩),
  (59, ⟨2, 16, .array 2 2, [.int .i64 0, .int .i64 0]⟩),
  (60, ⟨1, 24, .slice 2, [.nils]⟩),
  (64, ⟨1, 8, .int .i64, [.int .i64 0]⟩),
  (73, ⟨1, 4, .int .u32, [.int .u32 0]⟩),
  (75, ⟨1, 8, .int .u64, [.int .u64 0]⟩),
  (76, ⟨1, 8, .int .u64, [.int .u64 0]⟩),
  (80, ⟨1, 8, .ptr 3, [.nilp]⟩),
  (83, ⟨1, 8, .ptr 76, [.nilp]⟩)]
theorem T_ok : TabOK Try.prog T := by
  have e : tabOf Try.prog [1, 2, 3, 4, 5, 6, 8, 9, 10, 11, 15, 16, 17, 21, 22, 24, 26, 30, 31, 41, 46, 47, 55, 56, 58, 59, 60, 64, 73, 75, 76, 80, 83] = T := by kernel_rfl
  exact e ▸ tabOf_sound Try.prog [1, 2, 3, 4, 5, 6, 8, 9, 10, 11, 15, 16, 17, 21, 22, 24, 26, 30, 31, 41, 46, 47, 55, 56, 58, 59, 60, 64, 73, 75, 76, 80, 83]
set_option maxRecDepth 10000
/-! ### Spots -/
abbrev Sp := Int × Int
def spF (l : List Sp) : Nat → AV := fun i => .agg [.int .i64 (l.getD i (0, 0)).1, .int .i64 (l.getD i (0, 0)).2]
def sps (l : List Sp) : AV := .rs 2 l.length false (spF l)
def spL (n : Nat) (f : Nat → AV) : List Sp := (List.range n).map fun i => (cv 0 (f i), cv 1 (f i))
theorem spL_len (n : Nat) (f : Nat → AV) : (spL n f).length = n := by simp [spL]
theorem spL_get (n : Nat) (f : Nat → AV) {i : Nat} (h : i < n) : (spL n f).getD i (0, 0) = (cv 0 (f i), cv 1 (f i)) := by
  simp [spL, List.getD, h]
theorem spL_spF (l : List Sp) : spL l.length (spF l) = l := by
  refine List.ext_getElem (spL_len _ _) fun i h1 h2 => ?_
  have := spL_get l.length (spF l) h2
  rw [List.getD_eq_getElem?_getD, List.getElem?_eq_getElem h1] at this
  simp [spF, cv, iv] at this
  rw [this]
  simp [h2]
def InB (v : Int) : Prop := 0 ≤ v ∧ v ≤ 67108864
def InL (l : List Sp) : Prop := l.length ≤ 256 ∧ ∀ s ∈ l, InB s.1 ∧ InB s.2
theorem InL.get {l : List Sp} (h : InL l) {i : Nat} (hi : i < l.length) : InB (l.getD i (0, 0)).1 ∧ InB (l.getD i (0, 0)).2 := by
  rw [List.getD_eq_getElem?_getD, List.getElem?_eq_getElem hi]
  exact h.2 _ (List.getElem_mem hi)
theorem spF_flat (l : List Sp) (i : Nat) : Flat (spF l i) := flat_of _ rfl
/-! ### Squares -/
def ky (v : Int) : Int := v.fdiv (2 ^ 18)
def kget {α : Type} : List (Sp × α) → Int → Int → Option α
  | [], _, _ => none
  | e :: es, t, p => bif t == e.1.1 && p == e.1.2 then some e.2 else kget es t p
def kput {α : Type} : List (Sp × α) → Int → Int → α → List (Sp × α)
  | [], t, p, v => [((t, p), v)]
  | e :: es, t, p, v => bif t == e.1.1 && p == e.1.2 then ((t, p), v) :: es else e :: kput es t p v
abbrev Sq := List (Sp × List Int)
/-- The squares of the first n spots. -/
def sqN (l : List Sp) : Nat → Sq
  | 0 => []
  | n + 1 => kput (sqN l n) (ky (l.getD n (0, 0)).1) (ky (l.getD n (0, 0)).2) (((kget (sqN l n) (ky (l.getD n (0, 0)).1) (ky (l.getD n (0, 0)).2)).getD []) ++ [(n : Int)])
def is1 (L : List Int) : AV := .rs 1 L.length false (lst L)
def qmap (S : Sq) : List (List Int × AV) := S.map fun x => ([x.1.1, x.1.2], is1 x.2)
theorem key2 (a b c d : Int) : (([a, b] : List Int) == [c, d]) = (a == c && b == d) := by simp [List.cons_beq_cons]
theorem mget_qmap (S : Sq) (t p : Int) : mget (qmap S) [t, p] = (kget S t p).map is1 := by
  induction S with
  | nil => rfl
  | cons x S ih =>
    show (bif ([t, p] : List Int) == [x.1.1, x.1.2] then some (is1 x.2) else mget (qmap S) [t, p]) = _
    rw [key2, ih]
    show _ = (bif t == x.1.1 && p == x.1.2 then some x.2 else kget S t p).map is1
    cases t == x.1.1 && p == x.1.2 <;> rfl
theorem lst_flat (L : List Int) (i : Nat) : Flat (lst L i) := .int _ _
theorem is1_has {nm : Bool} (L : List Int) : Has nm true (is1 L) := .rs _ _ _ _ rfl fun i _ => (lst_flat L i).has
theorem is1_ren (L : List Int) (π : Nat → Nat) : (is1 L).ren π = is1 L := rfl
theorem sps_has {nm : Bool} (l : List Sp) : Has nm true (sps l) := .rs _ _ _ _ rfl fun i _ => (spF_flat l i).has
theorem cw_qmap (S : Sq) {π : Nat → Nat} {ar : Nat} : CW π (.map ar (qmap S)) (.map ar (qmap S)) := by
  refine ⟨rfl, rfl, fun i x hx => ?_⟩
  simp only [qmap, List.getElem?_map, Option.map_eq_some_iff] at hx ⊢
  obtain ⟨y, h1, rfl⟩ := hx
  exact ⟨y, h1, rfl⟩
theorem cw_qmaps (S : Sq) {π : Nat → Nat} {ar ck : Nat} {bs : List Nat} : CW π (.maps ar (qmap S) bs ck) (.maps ar (qmap S) bs ck) := by
  refine ⟨⟨⟨rfl, rfl⟩, rfl⟩, rfl, fun i x hx => ?_⟩
  simp only [qmap, List.getElem?_map, Option.map_eq_some_iff] at hx ⊢
  obtain ⟨y, h1, rfl⟩ := hx
  exact ⟨y, h1, rfl⟩
theorem cw_qfrz (S : Sq) {π : Nat → Nat} {ar n sz k : Nat} {f : Nat → AV} : CW π (.map ar (qmap S)) (.map ar ((qmap S).map fun x => (x.1, x.2.frz n sz k f))) := by
  have : (qmap S).map (fun x => (x.1, x.2.frz n sz k f)) = qmap S := by
    simp only [qmap, List.map_map]
    rfl
  rw [this]
  exact cw_qmap _
theorem cf_qmap (S : Sq) {σ : Nat → Nat} {ar : Nat} : CF true σ (.map ar (qmap S)) (.map ar (qmap S)) := by
  refine ⟨rfl, rfl, fun i x hx => ⟨x.2, hx, ?_, ?_⟩⟩ <;>
  · simp only [qmap, List.getElem?_map, Option.map_eq_some_iff] at hx
    obtain ⟨y, h1, rfl⟩ := hx
    first | exact is1_has _ | rfl
/-! ### An index -/
def icon (n b : Nat) (l : List Sp) : Heap := [(n, 0, .cell (sps l)), (n, 1, .cell (.mp b)), (n, 2, .top), (b, 0, .map 2 (qmap (sqN l l.length)))]
/-- An index, where a pointer leads. -/
def withIdx (hr : Rd) (v : AV) (k : Nat → Nat → List Sp → Prop → List (Nat × Nat × Cont) → Option Out) : Option Out := match v with
  | .ptr n 0 => match hr n 0, hr n 1, hr n 2 with
    | some (.cell (.rs 2 m false f)), some (.cell (.mp b)), some .top => match hr b 0 with
      | some (.map 2 es) => k n b (spL m f) ((0 < n ∧ 0 < b ∧ n ≠ b) ∧ f = spF (spL m f) ∧ es = qmap (sqN (spL m f) (spL m f).length) ∧ InL (spL m f))
          [(n, 0, .cell (.rs 2 m false f)), (n, 1, .cell (.mp b)), (n, 2, .top), (b, 0, .map 2 es)]
      | _ => none
    | _, _, _ => none
  | _ => none
theorem idx_open {hr : Rd} {v : AV} {k : Nat → Nat → List Sp → Prop → List (Nat × Nat × Cont) → Option Out} {out : Out} (e : withIdx hr v k = some out) :
    ∃ n b l s rd, v = .ptr n 0 ∧ k n b l s rd = some out ∧ (∀ x ∈ rd, hr x.1 x.2.1 = some x.2.2) ∧
      (s → InL l ∧ [n, b].Nodup ∧ (∀ z ∈ [n, b], 0 < z ∧ ∀ rd', (∀ x ∈ rd, x ∈ rd') → Whole rd' z) ∧ ∀ K' nb, ∀ x ∈ icon 1 2 l, ∃ i m c', x.1 = i + 1 ∧ (n :: b :: K')[i]? = some m ∧ (m, x.2.1, c') ∈ rd ∧ CW (can (n :: b :: K') nb) x.2.2 c') ∧
      (s → ∀ K' nb fin up, (∀ x ∈ icon 1 2 l, hget fin x.1 x.2.1 = some x.2.2) → KeptH (n :: b :: K') nb true fin up rd) := by
  unfold withIdx at e
  split at e
  · rename_i n
    split at e
    · rename_i m f b h1 h2 h3
      split at e
      · rename_i es h4
        refine ⟨n, b, spL m f, _, _, rfl, e, ?_, ?_, ?_⟩
        · intro x hx
          simp only [List.mem_cons, List.not_mem_nil, or_false] at hx
          rcases hx with rfl | rfl | rfl | rfl <;> assumption
        · rintro ⟨⟨p1, p2, q1⟩, g1, g2, g3⟩
          have hc0 : AV.rs 2 m false f = sps (spL m f) := by
            unfold sps
            rw [spL_len, ← g1]
          refine ⟨g3, by simp [q1], fun z hz => ?_, ?_⟩
          · simp only [List.mem_cons, List.not_mem_nil, or_false] at hz
            rcases hz with rfl | rfl
            · exact ⟨p1, fun rd' hs => whole_laid [.cell (.rs 2 m false f), .cell (.mp b)] rfl fun x hx => hs x (by simp [laid, Cont.wd] at hx ⊢; rcases hx with h | h | h <;> simp [h])⟩
            · exact ⟨p2, fun rd' hs => .map 2 es (hs _ (by simp))⟩
          · intro K' nb
            refine InitH.get (K := n :: b :: K') (nb := nb) ⟨⟨0, 0, _, _, rfl, rfl, rfl, ?_⟩, ⟨0, 1, _, _, rfl, rfl, rfl, rfl⟩, ⟨0, 2, _, _, rfl, rfl, rfl, trivial⟩, ⟨1, 3, _, _, rfl, rfl, rfl, ?_⟩, trivial⟩
            · show AV.rs 2 m false f = _
              rw [hc0]; rfl
            · show CW _ (.map 2 (qmap (sqN (spL m f) (spL m f).length))) (.map 2 es)
              rw [← g2, g2]
              exact cw_qmap _
        · rintro ⟨_, g1, g2, _⟩ K' nb fin up hf
          simp only [icon, List.mem_cons, List.not_mem_nil, or_false, forall_eq_or_imp, forall_eq] at hf
          obtain ⟨f0, f1, f2, f3⟩ := hf
          have hc0 : AV.rs 2 m false f = sps (spL m f) := by
            unfold sps
            rw [spL_len, ← g1]
          refine ⟨fun _ => .inr ⟨0, _, rfl, f0, ?_⟩, fun _ => .inr ⟨0, _, rfl, f1, .mp _ rfl, rfl⟩, fun _ => .inr ⟨0, _, rfl, f2, trivial⟩, fun _ => .inr ⟨1, _, rfl, f3, ?_⟩, trivial⟩
          · rw [hc0]
            exact ⟨sps_has _, rfl⟩
          · show CF true _ (.map 2 (qmap (sqN (spL m f) (spL m f).length))) (.map 2 es)
            rw [← g2, g2]
            exact cf_qmap _
      · cases e
    · cases e
  · cases e
/-- The squares, with stamps or without. -/
def IdxC (l : List Sp) (c : Cont) : Prop := c = .map 2 (qmap (sqN l l.length)) ∨ ∃ bs ck, c = .maps 2 (qmap (sqN l l.length)) bs ck
theorem cw_idx {l : List Sp} {c : Cont} (h : IdxC l c) {π : Nat → Nat} : CW π c c := by
  rcases h with rfl | ⟨bs, ck, rfl⟩
  · exact cw_qmap _
  · exact cw_qmaps _
theorem cf_idx {l : List Sp} {c : Cont} (h : IdxC l c) {σ : Nat → Nat} : CF true σ c c := by
  rcases h with rfl | ⟨bs, ck, rfl⟩
  · exact cf_qmap _
  · refine ⟨⟨rfl, rfl, rfl⟩, rfl, fun i x hx => ⟨x.2, hx, ?_, ?_⟩⟩ <;>
    · simp only [qmap, List.getElem?_map, Option.map_eq_some_iff] at hx
      obtain ⟨y, h1, rfl⟩ := hx
      first | exact is1_has _ | rfl
def iconC (n b : Nat) (l : List Sp) (c : Cont) : Heap := [(n, 0, .cell (sps l)), (n, 1, .cell (.mp b)), (n, 2, .top), (b, 0, c)]
/-- An index, where a pointer leads; its squares may be looked through at the time. -/
def withIdxC (hr : Rd) (v : AV) (k : Nat → Nat → List Sp → Prop → List (Nat × Nat × Cont) → Option Out) : Option Out := match v with
  | .ptr n 0 => match hr n 0, hr n 1, hr n 2 with
    | some (.cell (.rs 2 m false f)), some (.cell (.mp b)), some .top => match hr b 0 with
      | some c => k n b (spL m f) ((0 < n ∧ 0 < b ∧ n ≠ b) ∧ f = spF (spL m f) ∧ IdxC (spL m f) c ∧ InL (spL m f))
          [(n, 0, .cell (.rs 2 m false f)), (n, 1, .cell (.mp b)), (n, 2, .top), (b, 0, c)]
      | _ => none
    | _, _, _ => none
  | _ => none
theorem idxC_open {hr : Rd} {v : AV} {k : Nat → Nat → List Sp → Prop → List (Nat × Nat × Cont) → Option Out} {out : Out} (e : withIdxC hr v k = some out) :
    ∃ n b l c s rd, v = .ptr n 0 ∧ k n b l s rd = some out ∧ (∀ x ∈ rd, hr x.1 x.2.1 = some x.2.2) ∧
      (s → (IdxC l c ∧ InL l) ∧ [n, b].Nodup ∧ (∀ z ∈ [n, b], 0 < z ∧ ∀ rd', (∀ x ∈ rd, x ∈ rd') → Whole rd' z) ∧ ∀ K' nb, ∀ x ∈ iconC 1 2 l c, ∃ i m c', x.1 = i + 1 ∧ (n :: b :: K')[i]? = some m ∧ (m, x.2.1, c') ∈ rd ∧ CW (can (n :: b :: K') nb) x.2.2 c') ∧
      (s → ∀ K' nb fin up, (∀ x ∈ iconC 1 2 l c, hget fin x.1 x.2.1 = some x.2.2) → KeptH (n :: b :: K') nb true fin up rd) := by
  unfold withIdxC at e
  split at e
  · rename_i n
    split at e
    · rename_i m f b h1 h2 h3
      split at e
      · rename_i c h4
        refine ⟨n, b, spL m f, c, _, _, rfl, e, ?_, ?_, ?_⟩
        · intro x hx
          simp only [List.mem_cons, List.not_mem_nil, or_false] at hx
          rcases hx with rfl | rfl | rfl | rfl <;> assumption
        · rintro ⟨⟨p1, p2, q1⟩, g1, g2, g3⟩
          have hc0 : AV.rs 2 m false f = sps (spL m f) := by
            unfold sps
            rw [spL_len, ← g1]
          refine ⟨⟨g2, g3⟩, by simp [q1], fun z hz => ?_, ?_⟩
          · simp only [List.mem_cons, List.not_mem_nil, or_false] at hz
            rcases hz with rfl | rfl
            · exact ⟨p1, fun rd' hs => whole_laid [.cell (.rs 2 m false f), .cell (.mp b)] rfl fun x hx => hs x (by simp [laid, Cont.wd] at hx ⊢; rcases hx with h | h | h <;> simp [h])⟩
            · refine ⟨p2, fun rd' hs => ?_⟩
              rcases g2 with rfl | ⟨bs, ck, rfl⟩
              · exact .map 2 (qmap (sqN (spL m f) (spL m f).length)) (hs _ (by simp))
              · exact .maps 2 (qmap (sqN (spL m f) (spL m f).length)) bs ck (hs _ (by simp))
          · intro K' nb
            refine InitH.get (K := n :: b :: K') (nb := nb) ⟨⟨0, 0, _, _, rfl, rfl, rfl, ?_⟩, ⟨0, 1, _, _, rfl, rfl, rfl, rfl⟩, ⟨0, 2, _, _, rfl, rfl, rfl, trivial⟩, ⟨1, 3, _, _, rfl, rfl, rfl, cw_idx g2⟩, trivial⟩
            show AV.rs 2 m false f = _
            rw [hc0]; rfl
        · rintro ⟨_, g1, g2, _⟩ K' nb fin up hf
          simp only [iconC, List.mem_cons, List.not_mem_nil, or_false, forall_eq_or_imp, forall_eq] at hf
          obtain ⟨f0, f1, f2, f3⟩ := hf
          have hc0 : AV.rs 2 m false f = sps (spL m f) := by
            unfold sps
            rw [spL_len, ← g1]
          refine ⟨fun _ => .inr ⟨0, _, rfl, f0, ?_⟩, fun _ => .inr ⟨0, _, rfl, f1, .mp _ rfl, rfl⟩, fun _ => .inr ⟨0, _, rfl, f2, trivial⟩, fun _ => .inr ⟨1, _, rfl, f3, cf_idx g2⟩, trivial⟩
          rw [hc0]
          exact ⟨sps_has _, rfl⟩
      · cases e
    · cases e
  · cases e
theorem idxC_side {l : List Sp} (hl : InL l) {p : Prop} (hp : p) {c : Cont} (hc : IdxC l c) : p ∧ spF l = spF (spL l.length (spF l)) ∧ IdxC (spL l.length (spF l)) c ∧ InL (spL l.length (spF l)) := by
  rw [spL_spF]
  exact ⟨hp, rfl, hc, hl⟩
/-- What a call was handed is what the index has. -/
theorem idx_eta (l : List Sp) : spL l.length (spF l) = l := spL_spF l
theorem idx_side {l : List Sp} (hl : InL l) {p : Prop} (hp : p) : p ∧ spF l = spF (spL l.length (spF l)) ∧ qmap (sqN l l.length) = qmap (sqN (spL l.length (spF l)) (spL l.length (spF l)).length) ∧ InL (spL l.length (spF l)) := by
  rw [idx_eta]
  exact ⟨hp, rfl, rfl, hl⟩
end Go.Eng.S12
