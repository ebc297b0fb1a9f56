/- Seat 25: the table of types; peers as the heap has them. -/
import Derived.Test.YtodnecfgiimclaaEngX
import Derived.Test.YtodnecfgiimclaaProg
set_option linter.unusedSimpArgs false
set_option linter.unusedVariables false
set_option maxHeartbeats 2000000
namespace Go.Eng.S25
open Go.Proofs Go.IntWalk
def T : Tab := [(1, ⟨1, 8, .other, [.nilf]⟩),
 (2, ⟨1, 8, .int .i64, [.int .i64 0]⟩),
 (3, ⟨1, 8, .int .i64, [.int .i64 0]⟩),
 (4, ⟨1, 1, .bool, [.bool false]⟩),
 (5, ⟨1, 1, .int .u8, [.int .u8 0]⟩),
 (6, ⟨1, 1, .int .u8, [.int .u8 0]⟩),
 (8, ⟨4, 24, .struct [(0, 2, 1), (1, 3, 1), (2, 4, 1), (3, 6, 1)], [.int .i64 0, .int .i64 0, .bool false, .int .u8 0]⟩),
 (9, ⟨1, 16, .str, [.str ⟨⟨[]⟩⟩]⟩),
 (10, ⟨1, 16, .str, [.str ⟨⟨[]⟩⟩]⟩),
 (11, ⟨1, 16, .str, [.str ⟨⟨[]⟩⟩]⟩),
 (15, ⟨1, 8, .ptr 92, [.nilp]⟩),
 (16, ⟨1, 8, .ptr 95, [.nilp]⟩),
 (17, ⟨1, 8, .ptr 104, [.nilp]⟩),
 (23, ⟨1, 24, .slice 28, [.nils]⟩),
 (26, ⟨1, 24, .slice 30, [.nils]⟩),
 (27, ⟨1, 8, .int .i64, [.int .i64 0]⟩),
 (28, ⟨1, 8, .ptr 71, [.nilp]⟩),
 (30, ⟨1, 24, .slice 5, [.nils]⟩),
 (38, ⟨1, 24, .slice 44, [.nils]⟩),
 (39, ⟨1, 24, .slice 40, [.nils]⟩),
 (40, ⟨1, 24, .slice 9, [.nils]⟩),
 (41, ⟨1, 24, .slice 3, [.nils]⟩),
 (42, ⟨1, 8, .int .u64, [.int .u64 0]⟩),
 (44, ⟨6, 64, .struct [(0, 3, 1), (1, 3, 1), (2, 3, 1), (3, 3, 1), (4, 42, 1), (5, 30, 1)], [.int .i64 0, .int .i64 0, .int .i64 0, .int .i64 0, .int .u64 0, .nils]⟩),
 (50, ⟨1, 24, .slice 42, [.nils]⟩),
 (53, ⟨1, 24, .slice 54, [.nils]⟩),
 (54, ⟨1, 8, .ptr 67, [.nilp]⟩),
 (63, ⟨8, 64, .array 8 3, [.arr 8 fun x => .int .i64 0]⟩),
 (64, ⟨1, 24, .slice 81, [.nils]⟩),
 (65, ⟨1, 24, .slice 89, [.nils]⟩),
 (67, ⟨14, 144, .struct [(0, 3, 1), (1, 3, 1), (2, 3, 1), (3, 3, 1), (4, 63, 8), (12, 64, 1), (13, 65, 1)], [.int .i64 0, .int .i64 0, .int .i64 0, .int .i64 0, .arr 8 fun x => .int .i64 0, .nils, .nils]⟩),
 (68, ⟨1, 8, .map 73 30, [.nilm]⟩),
 (69, ⟨1, 8, .map 73 42, [.nilm]⟩),
 (71, ⟨14, 112, .struct [(0, 3, 1), (1, 3, 1), (2, 3, 1), (3, 3, 1), (4, 63, 8), (12, 68, 1), (13, 69, 1)], [.int .i64 0, .int .i64 0, .int .i64 0, .int .i64 0, .arr 8 fun x => .int .i64 0, .nilm, .nilm]⟩),
 (73, ⟨2, 16, .struct [(0, 3, 1), (1, 3, 1)], [.int .i64 0, .int .i64 0]⟩),
 (81, ⟨3, 32, .struct [(0, 3, 1), (1, 3, 1), (2, 9, 1)], [.int .i64 0, .int .i64 0, .str ⟨⟨[]⟩⟩]⟩),
 (89, ⟨3, 24, .struct [(0, 3, 1), (1, 3, 1), (2, 42, 1)], [.int .i64 0, .int .i64 0, .int .u64 0]⟩),
 (98, ⟨1, 1, .int .u8, [.int .u8 0]⟩)]
theorem T_ok : TabOK Try.prog T := by
 have e : tabOf Try.prog [1, 2, 3, 4, 5, 6, 8, 9, 10, 11, 15, 16, 17, 23, 26, 27, 28, 30, 38, 39, 40, 41, 42, 44, 50, 53, 54, 63, 64, 65, 67, 68, 69, 71, 73, 81, 89, 98] = T := by kernel_rfl
 exact e ▸ tabOf_sound Try.prog [1, 2, 3, 4, 5, 6, 8, 9, 10, 11, 15, 16, 17, 23, 26, 27, 28, 30, 38, 39, 40, 41, 42, 44, 50, 53, 54, 63, 64, 65, 67, 68, 69, 71, 73, 81, 89, 98]
set_option maxRecDepth 10000
def nU (L : List Int) : Nat → AV := fun i => .int .u8 (L.getD i 0)
def bs (L : List Int) : AV := .rs 1 L.length false (nU L)
def IsU (L : List Int) : Prop := ∀ x ∈ L, 0 ≤ x ∧ x ≤ 255
theorem nU_flat (L : List Int) (i : Nat) : Flat (nU L i) := .int _ _
def bytesL (n : Nat) (f : Nat → AV) : List Int := (List.range n).map fun i => iv (f i)
theorem bytesL_len (n : Nat) (f : Nat → AV) : (bytesL n f).length = n := by simp [bytesL]
theorem bytesL_get (n : Nat) (f : Nat → AV) {i : Nat} (h : i < n) : (bytesL n f).getD i 0 = iv (f i) := by
 simp [bytesL, List.getD, h]
theorem bytesL_nU (L : List Int) : bytesL L.length (nU L) = L := by
 refine List.ext_getElem (bytesL_len _ _) fun i h1 h2 => ?_
 have := bytesL_get L.length (nU L) h2
 rw [List.getD_eq_getElem?_getD, List.getElem?_eq_getElem h1] at this
 simp [nU] at this
 rw [this]
 simp [h2]
 rfl
structure IsB (n : Nat) (f : Nat → AV) : Prop where
 get : ∀ i, i < n → f i = .int .u8 (iv (f i)) ∧ 0 ≤ iv (f i) ∧ iv (f i) ≤ 255
theorem isB {L : List Int} (h : IsU L) : IsB L.length (nU L) := ⟨fun i hi => ⟨rfl, by
 show 0 ≤ L.getD i 0 ∧ L.getD i 0 ≤ 255
 rw [List.getD_eq_getElem?_getD, List.getElem?_eq_getElem hi]
 exact h _ (List.getElem_mem hi)⟩⟩
theorem IsB.list {n : Nat} {f : Nat → AV} (h : IsB n f) : ∃ L, n = L.length ∧ IsU L ∧ bytesL n f = L ∧ ∀ i, i < n → f i = nU L i := by
 refine ⟨bytesL n f, (bytesL_len n f).symm, ?_, rfl, fun i hi => ?_⟩
 ·intro x hx
  simp only [bytesL, List.mem_map, List.mem_range] at hx
  obtain ⟨i, hi, rfl⟩ := hx
  exact (h.get i hi).2
 ·show f i = .int .u8 ((bytesL n f).getD i 0)
  rw [bytesL_get n f hi]
  exact (h.get i hi).1
theorem cat_nU (L M : List Int) (g : Nat → AV) (hg : ∀ i, i < M.length → g i = nU M i) (j : Nat) (hj : j < L.length + M.length) : catF L.length (nU L) g j = nU (L ++ M) j := by
 unfold catF
 cases h : Nat.blt j L.length with
 | true =>
   have h : j < L.length := by simpa [Nat.blt_eq] using h
   show AV.int .u8 (L.getD j 0) = AV.int .u8 ((L ++ M).getD j 0)
   rw [List.getD_eq_getElem?_getD, List.getD_eq_getElem?_getD, List.getElem?_append_left h]
 | false =>
   have h : ¬ j < L.length := fun hh => by have : Nat.blt j L.length = true := by simpa [Nat.blt_eq] using hh
                                           rw [this] at h; cases h
   rw [cond_false, hg _ (by omega)]
   show AV.int .u8 (M.getD (j - L.length) 0) = AV.int .u8 ((L ++ M).getD j 0)
   rw [List.getD_eq_getElem?_getD, List.getD_eq_getElem?_getD, List.getElem?_append_right (by omega)]
structure Peer where
 me : Int
 n : Int
 turn : Int
 iss : Int
 hd : Nat → Int
 sets : List ((Int × Int) × List Int)
 words : List ((Int × Int) × Int)
def smap (S : List ((Int × Int) × List Int)) : List (List Int × AV) := S.map fun x => ([x.1.1, x.1.2], bs x.2)
def wmap (W : List ((Int × Int) × Int)) : List (List Int × AV) := W.map fun x => ([x.1.1, x.1.2], .int .u64 x.2)
def sOf (es : List (List Int × AV)) : List ((Int × Int) × List Int) := es.map fun x => ((x.1.getD 0 0, x.1.getD 1 0), bytesL (rsn x.2) (rsf x.2))
def wOf (es : List (List Int × AV)) : List ((Int × Int) × Int) := es.map fun x => ((x.1.getD 0 0, x.1.getD 1 0), iv x.2)
theorem sOf_smap (S : List ((Int × Int) × List Int)) : sOf (smap S) = S := by
 induction S with
 | nil => rfl
 | cons x S ih =>
   show ((x.1.1, x.1.2), bytesL x.2.length (nU x.2)) :: sOf (smap S) = x :: S
   rw [ih, bytesL_nU]
theorem wOf_wmap (W : List ((Int × Int) × Int)) : wOf (wmap W) = W := by
 induction W with
 | nil => rfl
 | cons x W ih => show ((x.1.1, x.1.2), x.2) :: wOf (wmap W) = x :: W; rw [ih]
def kget {α : Type} : List ((Int × Int) × α) → Int → Int → Option α
 | [], _, _ => none
 | e :: es, t, p => bif t == e.1.1 && p == e.1.2 then some e.2 else kget es t p
def kput {α : Type} : List ((Int × Int) × α) → Int → Int → α → List ((Int × Int) × α)
 | [], t, p, v => [((t, p), v)]
 | e :: es, t, p, v => bif t == e.1.1 && p == e.1.2 then ((t, p), v) :: es else e :: kput es t p v
theorem key2 (a b c d : Int) : (([a, b] : List Int) == [c, d]) = (a == c && b == d) := by simp [List.cons_beq_cons]
theorem mget_smap (S : List ((Int × Int) × List Int)) (t p : Int) : mget (smap S) [t, p] = (kget S t p).map bs := by
 induction S with
 | nil => rfl
 | cons x S ih =>
   show (bif ([t, p] : List Int) == [x.1.1, x.1.2] then some (bs x.2) else mget (smap S) [t, p]) = _
   rw [key2, ih]
   show _ = (bif t == x.1.1 && p == x.1.2 then some x.2 else kget S t p).map bs
   cases t == x.1.1 && p == x.1.2 <;> rfl
theorem mget_wmap (W : List ((Int × Int) × Int)) (t p : Int) : mget (wmap W) [t, p] = (kget W t p).map (AV.int .u64) := by
 induction W with
 | nil => rfl
 | cons x W ih =>
   show (bif ([t, p] : List Int) == [x.1.1, x.1.2] then some (AV.int .u64 x.2) else mget (wmap W) [t, p]) = _
   rw [key2, ih]
   show _ = (bif t == x.1.1 && p == x.1.2 then some x.2 else kget W t p).map (AV.int .u64)
   cases t == x.1.1 && p == x.1.2 <;> rfl
theorem mput_smap (S : List ((Int × Int) × List Int)) (t p : Int) (L : List Int) : mput (smap S) [t, p] (bs L) = smap (kput S t p L) := by
 induction S with
 | nil => rfl
 | cons x S ih =>
   show (bif ([t, p] : List Int) == [x.1.1, x.1.2] then ([t, p], bs L) :: smap S else ([x.1.1, x.1.2], bs x.2) :: mput (smap S) [t, p] (bs L)) = smap (bif t == x.1.1 && p == x.1.2 then ((t, p), L) :: S else x :: kput S t p L)
   rw [key2, ih]
   cases t == x.1.1 && p == x.1.2 <;> rfl
theorem mput_wmap (W : List ((Int × Int) × Int)) (t p : Int) (v : Int) : mput (wmap W) [t, p] (.int .u64 v) = wmap (kput W t p v) := by
 induction W with
 | nil => rfl
 | cons x W ih =>
   show (bif ([t, p] : List Int) == [x.1.1, x.1.2] then ([t, p], AV.int .u64 v) :: wmap W else ([x.1.1, x.1.2], AV.int .u64 x.2) :: mput (wmap W) [t, p] (.int .u64 v)) = wmap (bif t == x.1.1 && p == x.1.2 then ((t, p), v) :: W else x :: kput W t p v)
   rw [key2, ih]
   cases t == x.1.1 && p == x.1.2 <;> rfl
theorem bs_has {nm : Bool} (L : List Int) : Has nm true (bs L) := .rs _ _ _ _ rfl fun i _ => (nU_flat L i).has
theorem cw_smap (S : List ((Int × Int) × List Int)) {π : Nat → Nat} {ar : Nat} : CW π (.map ar (smap S)) (.map ar (smap S)) := by
 refine ⟨rfl, rfl, fun i x hx => ?_⟩
 simp only [smap, List.getElem?_map, Option.map_eq_some_iff] at hx ⊢
 obtain ⟨y, h1, rfl⟩ := hx
 exact ⟨y, h1, rfl⟩
theorem cf_smap (S : List ((Int × Int) × List Int)) {σ : Nat → Nat} {ar : Nat} : CF true σ (.map ar (smap S)) (.map ar (smap S)) := by
 refine ⟨rfl, rfl, fun i x hx => ⟨x.2, hx, ?_, ?_⟩⟩ <;>
 ·simp only [smap, List.getElem?_map, Option.map_eq_some_iff] at hx
  obtain ⟨y, h1, rfl⟩ := hx
  first | exact bs_has _ | rfl
theorem flat_wmap (W : List ((Int × Int) × Int)) : FlatM (wmap W) := by
 intro x hx
 simp only [wmap, List.mem_map] at hx
 obtain ⟨y, _, rfl⟩ := hx
 exact .int _ _
theorem frz_put (S : List ((Int × Int) × List Int)) (t p : Int) (L : List Int) (n : Nat) (f : Nat → AV) : (mput (smap S) [t, p] (.vs n)).map (fun x => (x.1, x.2.frz n 1 L.length f)) = mput (smap S) [t, p] (.rs 1 L.length false f) := by
 have h1 : (AV.vs n).frz n 1 L.length f = .rs 1 L.length false f := by simp [AV.frz]
 have h2 : ∀ M, (bs M).frz n 1 L.length f = bs M := fun M => rfl
 have h3 : ∀ S, (smap S).map (fun x => (x.1, x.2.frz n 1 L.length f)) = smap S := fun S => by
  simp only [smap, List.map_map]
  rfl
 induction S with
 | nil => show [([t, p], (AV.vs n).frz n 1 L.length f)] = _; rw [h1]; rfl
 | cons x S ih =>
   show (bif ([t, p] : List Int) == [x.1.1, x.1.2] then ([t, p], AV.vs n) :: smap S else ([x.1.1, x.1.2], bs x.2) :: mput (smap S) [t, p] (.vs n)).map _ = bif ([t, p] : List Int) == [x.1.1, x.1.2] then ([t, p], AV.rs 1 L.length false f) :: smap S else ([x.1.1, x.1.2], bs x.2) :: mput (smap S) [t, p] (.rs 1 L.length false f)
   cases ([t, p] : List Int) == [x.1.1, x.1.2] with
   | true => rw [cond_true, cond_true, List.map_cons, h1, h3]
   | false => rw [cond_false, cond_false, List.map_cons, ih, h2]
theorem cw_wfrz (W : List ((Int × Int) × Int)) {π : Nat → Nat} {ar n sz k : Nat} {f : Nat → AV} : CW π (.map ar (wmap W)) (.map ar ((wmap W).map fun x => (x.1, x.2.frz n sz k f))) := by
 have : (wmap W).map (fun x => (x.1, x.2.frz n sz k f)) = wmap W := by
  simp only [wmap, List.map_map]
  rfl
 rw [this]
 exact cw_map (flat_wmap _)
theorem cw_sfrz (S : List ((Int × Int) × List Int)) {π : Nat → Nat} {ar n sz k : Nat} {f : Nat → AV} : CW π (.map ar (smap S)) (.map ar ((smap S).map fun x => (x.1, x.2.frz n sz k f))) := by
 have : (smap S).map (fun x => (x.1, x.2.frz n sz k f)) = smap S := by
  simp only [smap, List.map_map]
  rfl
 rw [this]
 exact cw_smap _
def nI (c : Nat → Int) : Nat → AV := fun i => .int .i64 (c i)
def If (f : Nat → AV) : Nat → Int := fun i => iv (f i)
theorem If_nI (c : Nat → Int) : If (nI c) = c := rfl
def withPeer (hr : Rd) (v : AV) (k : Nat → Nat → Nat → Peer → Prop → List (Nat × Nat × Cont) → Option Out) : Option Out := match v with
 | .ptr n 0 => match hr n 0, hr n 1, hr n 2, hr n 3, hr n 4, hr n 12, hr n 13, hr n 14 with
   | some (.cell (.int .i64 me)), some (.cell (.int .i64 N)), some (.cell (.int .i64 t)), some (.cell (.int .i64 u)), some (.arr 8 f), some (.cell (.mp b)), some (.cell (.mp c)), some .top => match hr b 0, hr c 0 with
     | some (.map 2 es), some (.map 2 ws) => k n b c ⟨me, N, t, u, If f, sOf es, wOf ws⟩ ((0 < n ∧ 0 < b ∧ 0 < c ∧ n ≠ b ∧ n ≠ c ∧ b ≠ c) ∧ es = smap (sOf es) ∧ ws = wmap (wOf ws) ∧ ∀ i, i < 8 → f i = nI (If f) i)
        [(n, 0, .cell (.int .i64 me)), (n, 1, .cell (.int .i64 N)), (n, 2, .cell (.int .i64 t)), (n, 3, .cell (.int .i64 u)), (n, 4, .arr 8 f), (n, 12, .cell (.mp b)), (n, 13, .cell (.mp c)), (n, 14, .top), (b, 0, .map 2 es), (c, 0, .map 2 ws)]
     | _, _ => none
   | _, _, _, _, _, _, _, _ => none
 | _ => none
def pcon (n b c : Nat) (P : Peer) : Heap := [(n, 0, .cell (.int .i64 P.me)), (n, 1, .cell (.int .i64 P.n)), (n, 2, .cell (.int .i64 P.turn)), (n, 3, .cell (.int .i64 P.iss)), (n, 4, .arr 8 (nI P.hd)), (n, 12, .cell (.mp b)), (n, 13, .cell (.mp c)), (n, 14, .top), (b, 0, .map 2 (smap P.sets)), (c, 0, .map 2 (wmap P.words))]
theorem peer_open {hr : Rd} {v : AV} {k : Nat → Nat → Nat → Peer → Prop → List (Nat × Nat × Cont) → Option Out} {out : Out} (e : withPeer hr v k = some out) :
 ∃ n b c P s rd, v = .ptr n 0 ∧ k n b c P s rd = some out ∧ (∀ x ∈ rd, hr x.1 x.2.1 = some x.2.2) ∧
   (s → [n, b, c].Nodup ∧ (∀ z ∈ [n, b, c], 0 < z ∧ ∀ rd', (∀ x ∈ rd, x ∈ rd') → Whole rd' z) ∧ ∀ K' nb, ∀ x ∈ pcon 1 2 3 P, ∃ i m c', x.1 = i + 1 ∧ (n :: b :: c :: K')[i]? = some m ∧ (m, x.2.1, c') ∈ rd ∧ CW (can (n :: b :: c :: K') nb) x.2.2 c') ∧
   (s → ∀ K' nb fin up, (∀ x ∈ pcon 1 2 3 P, hget fin x.1 x.2.1 = some x.2.2) → KeptH (n :: b :: c :: K') nb true fin up rd) ∧
   (s → ∀ K' nb fin P' U, hget fin 1 14 = some .top → KeptH (n :: b :: c :: K') nb true fin (pcon n b c P' ++ U) rd) := by
 unfold withPeer at e
 split at e
 ·rename_i n
  split at e
  ·rename_i me N t u f b c e0 e1 e2 e3 e4 e5 e6 e7
   split at e
   ·rename_i es ws e8 e9
    refine ⟨n, b, c, _, _, _, rfl, e, ?_, ?_, ?_, ?_⟩
    ·intro x hx
     simp only [List.mem_cons, List.not_mem_nil, or_false] at hx
     rcases hx with rfl | rfl | rfl | rfl | rfl | rfl | rfl | rfl | rfl | rfl <;> assumption
    ·rintro ⟨⟨p1, p2, p3, q1, q2, q3⟩, h1, h2, h3⟩
     refine ⟨by simp [q1, q2, q3], fun z hz => ?_, ?_⟩
     ·simp only [List.mem_cons, List.not_mem_nil, or_false] at hz
      rcases hz with rfl | rfl | rfl
      ·exact ⟨p1, fun rd' hs => whole_laid [.cell (.int .i64 me), .cell (.int .i64 N), .cell (.int .i64 t), .cell (.int .i64 u), .arr 8 f, .cell (.mp b), .cell (.mp c)] rfl fun x hx => hs x (by simp [laid, Cont.wd] at hx ⊢; rcases hx with h | h | h | h | h | h | h | h <;> simp [h])⟩
      ·exact ⟨p2, fun rd' hs => .map 2 es (hs _ (by simp))⟩
      ·exact ⟨p3, fun rd' hs => .map 2 ws (hs _ (by simp))⟩
     ·intro K' nb
      refine InitH.get (K := n :: b :: c :: K') (nb := nb) ⟨⟨0, 0, _, _, rfl, rfl, rfl, rfl⟩, ⟨0, 1, _, _, rfl, rfl, rfl, rfl⟩, ⟨0, 2, _, _, rfl, rfl, rfl, rfl⟩, ⟨0, 3, _, _, rfl, rfl, rfl, rfl⟩, ⟨0, 4, _, _, rfl, rfl, rfl, rfl, fun i hi => (h3 i hi)⟩, ⟨0, 5, _, _, rfl, rfl, rfl, ?_⟩, ⟨0, 6, _, _, rfl, rfl, rfl, ?_⟩, ⟨0, 7, _, _, rfl, rfl, rfl, trivial⟩, ⟨1, 8, _, _, rfl, rfl, rfl, ?_⟩, ⟨2, 9, _, _, rfl, rfl, rfl, ?_⟩, trivial⟩
      ·rfl
      ·rfl
      ·show CW _ (.map 2 (smap (sOf es))) (.map 2 es)
       rw [← h1]
       rw [h1]
       exact cw_smap _
      ·show CW _ (.map 2 (wmap (wOf ws))) (.map 2 ws)
       rw [← h2]
       rw [h2]
       exact cw_map (flat_wmap _)
    ·rintro ⟨_, h1, h2, h3⟩ K' nb fin up hf
     simp only [pcon, List.mem_cons, List.not_mem_nil, or_false, forall_eq_or_imp, forall_eq] at hf
     obtain ⟨f0, f1, f2, f3, f4, f5, f6, f7, f8, f9⟩ := hf
     refine ⟨fun _ => .inr ⟨0, _, rfl, f0, .int _ _, rfl⟩, fun _ => .inr ⟨0, _, rfl, f1, .int _ _, rfl⟩, fun _ => .inr ⟨0, _, rfl, f2, .int _ _, rfl⟩, fun _ => .inr ⟨0, _, rfl, f3, .int _ _, rfl⟩, fun _ => .inr ⟨0, _, rfl, f4, rfl, fun i hi => ⟨.int _ _, h3 i hi⟩⟩, fun _ => .inr ⟨0, _, rfl, f5, .mp _ rfl, rfl⟩, fun _ => .inr ⟨0, _, rfl, f6, .mp _ rfl, rfl⟩, fun _ => .inr ⟨0, _, rfl, f7, trivial⟩, fun _ => .inr ⟨1, _, rfl, f8, ?_⟩, fun _ => .inr ⟨2, _, rfl, f9, ?_⟩, trivial⟩
     ·show CF true _ (.map 2 (smap (sOf es))) (.map 2 es)
      rw [← h1]
      rw [h1]
      exact cf_smap _
     ·show CF true _ (.map 2 (wmap (wOf ws))) (.map 2 ws)
      rw [← h2]
      rw [h2]
      exact cf_map (flat_wmap _)
    ·rintro _ K' nb fin P' U ht
     have ku : ∀ k, (k.1 = n ∧ (k.2 = 0 ∨ k.2 = 1 ∨ k.2 = 2 ∨ k.2 = 3 ∨ k.2 = 4 ∨ k.2 = 12 ∨ k.2 = 13) ∨ k = (b, 0) ∨ k = (c, 0)) → keyIn k (upKeys (pcon n b c P' ++ U)) = true := by
      rintro ⟨k1, k2⟩ hk
      simp only [Prod.mk.injEq] at hk
      rcases hk with ⟨rfl, h | h | h | h | h | h | h⟩ | ⟨rfl, rfl⟩ | ⟨rfl, rfl⟩ <;> (try subst h) <;> simp [keyIn, upKeys, pcon]
     refine ⟨fun _ => .inl ⟨ku _ (by simp), fun sz h => by cases h⟩, fun _ => .inl ⟨ku _ (by simp), fun sz h => by cases h⟩, fun _ => .inl ⟨ku _ (by simp), fun sz h => by cases h⟩, fun _ => .inl ⟨ku _ (by simp), fun sz h => by cases h⟩, fun _ => .inl ⟨ku _ (by simp), fun sz h => by cases h⟩, fun _ => .inl ⟨ku _ (by simp), fun sz h => by cases h⟩, fun _ => .inl ⟨ku _ (by simp), fun sz h => by cases h⟩, fun _ => .inr ⟨0, _, rfl, ht, trivial⟩, fun _ => .inl ⟨ku _ (by simp), fun sz h => by cases h⟩, fun _ => .inl ⟨ku _ (by simp), fun sz h => by cases h⟩, trivial⟩
   ·cases e
  ·cases e
 ·cases e
end Go.Eng.S25
/- Seat 25: new peers, and what a peer tells of itself, walked. -/
set_option linter.unusedSimpArgs false
set_option linter.unusedVariables false
set_option maxHeartbeats 2000000
namespace Go.Eng.S25
open Go.Proofs Go.IntWalk
set_option maxRecDepth 10000
def mayP (me n : Int) : Bool := decide (2 ≤ n) && decide (n ≤ 8) && decide (0 ≤ me) && decide (me < n)
def newP (me n : Int) : Peer := ⟨me, n, 0, 2, fun _ => 0, [], []⟩
def sNewG : Spec := fun args _ nb => match args with
 | [.int .i64 me, .int .i64 n] => some ⟨[mayP me n = true], .tup [.ptr nb 0, .int .i64 0], [], pcon nb (nb + 1) (nb + 2) (newP me n)⟩
 | _ => none
theorem newCond (me n : Int) : (bif bif bif decide (n < 2) then true else decide (n > 8) then true else decide (me < 0) then true else decide (me ≥ n)) = !mayP me n := by
 unfold mayP
 simp only [cond_or]
 by_cases a : 2 ≤ n <;> by_cases b : n ≤ 8 <;> by_cases c : 0 ≤ me <;> by_cases d : me < n <;> simp [a, b, c, d] <;> omega
theorem newG_ok : SpecOK Try.prog 18 sNewG := by
 refine spec_own (by kernel_rfl) T_ok sget_nil Try.func18 rfl rfl fun args hr nb out e => ?_
 unfold sNewG at e
 split at e
 ·rename_i me n
  injection e with e; subst e
  refine ⟨(fun _ h => nomatch h), true, [.int .i64 me, .int .i64 n], rfl, fun hs => ⟨.cons _ _ _ _ (.same _ _ (.int _ _)) (.cons _ _ _ _ (.same _ _ (.int _ _)) .nil), ?_⟩⟩
  have hm := hs _ List.mem_cons_self
  clear hs
  refine evC_go0K (s' := ⟨[(0, 0, zI me), (0, 1, zI n), (0, 4, .cell AV.nilp), (0, 5, zI 0)], 65, 27⟩) ?_
  refine evC_seq ?_
  refine evC_go0K (s' := ⟨[(0, 0, zI me), (0, 1, zI n), (0, 4, .cell AV.nilp), (0, 5, zI 0), (0, 20, zB (bif bif bif decide (n < 2) then true else decide (n > 8) then true else decide (me < 0) then true else decide (me ≥ n)))], 545, 27⟩) ?_
  rw [newCond, hm]
  refine evC_if (q := false) (by kernel_rfl) (fun hc => ?_) (fun hc => ?_)
  ·cases ‹(!true) = true›
  ·refine evC_skip ?_
   refine then_normal ?_
   refine evC_go0K (s' := ⟨[(0, 4, zP 705), (0, 5, zI 0), (609, 0, .map 2 []), (641, 0, .map 2 []), (705, 0, zI me), (705, 1, zI n), (705, 2, zI 0), (705, 3, zI 2), (705, 4, .arr 8 fun x => AV.int IntKind.i64 0), (705, 12, zM 609), (705, 13, zM 641), (705, 14, .top)], 801, 27⟩) ?_
   refine evC_ret ?_
   refine post_ret ?_
   refine ends_go [705, 609, 641] (AV.tup [AV.ptr 1 0, AV.int IntKind.i64 0]) [(1, 0, zI me), (1, 1, zI n), (1, 2, zI 0), (1, 3, zI 2), (1, 4, .arr 8 fun x => AV.int IntKind.i64 0), (1, 12, zM 2), (1, 13, zM 3), (1, 14, .top), (2, 0, .map 2 []), (3, 0, .map 2 [])] rfl (by decide) rfl rfl (has_of _ rfl) rfl ⟨⟨_, rfl, rfl⟩, ⟨_, rfl, rfl⟩, ⟨_, rfl, rfl⟩, ⟨_, rfl, rfl⟩, ⟨_, rfl, ⟨rfl, fun _ _ => rfl⟩⟩, ⟨_, rfl, rfl⟩, ⟨_, rfl, rfl⟩, ⟨_, rfl, trivial⟩, ⟨_, rfl, cw_map .nil⟩, ⟨_, rfl, cw_map .nil⟩, trivial⟩ ⟨fun _ => ⟨1, _, rfl, rfl, rfl, ⟨has_of _ rfl, rfl⟩⟩, fun _ => ⟨1, _, rfl, rfl, rfl, ⟨has_of _ rfl, rfl⟩⟩, fun _ => ⟨1, _, rfl, rfl, rfl, ⟨has_of _ rfl, rfl⟩⟩, fun _ => ⟨1, _, rfl, rfl, rfl, ⟨has_of _ rfl, rfl⟩⟩, fun _ => ⟨1, _, rfl, rfl, rfl, ⟨rfl, fun _ _ => ⟨has_of _ rfl, rfl⟩⟩⟩, fun _ => ⟨1, _, rfl, rfl, rfl, ⟨has_of _ rfl, rfl⟩⟩, fun _ => ⟨1, _, rfl, rfl, rfl, ⟨has_of _ rfl, rfl⟩⟩, fun _ => ⟨1, _, rfl, rfl, rfl, trivial⟩, fun _ => ⟨2, _, rfl, rfl, rfl, Go.Eng.S25.cf_smap _⟩, fun _ => ⟨3, _, rfl, rfl, rfl, cf_map (Go.Eng.S25.flat_wmap _)⟩, trivial⟩ (kept_nil _)
 ·cases e
def sTurn : Spec := fun args hr _ => match args with
 | [v] => withPeer hr v fun n b c P s rd => some ⟨[s], .int .i64 P.turn, rd, []⟩
 | _ => none
theorem turn_ok : SpecOK Try.prog 14 sTurn := by
 refine spec_at (by kernel_rfl) T_ok sget_nil Try.func14 rfl rfl fun args hr nb out e => ?_
 unfold sTurn at e
 split at e
 ·obtain ⟨n, b, c, P, s, rd, rfl, e, hrd, hs0, hs1, hs2⟩ := peer_open e
  injection e with e; subst e
  refine ⟨hrd, true, [n, b, c], [.ptr 1 0], pcon 1 2 3 P, rfl, fun hs => ?_⟩
  obtain ⟨k1, k2, k3⟩ := hs0 (hs _ List.mem_cons_self)
  have k4 := hs1 (hs _ List.mem_cons_self) [] nb
  refine ⟨k1, fun z hz => ⟨(k2 z hz).1, (k2 z hz).2 _ fun x hx => hx⟩, .cons _ _ _ _ (.name _ _ _ rfl) .nil, k3 _ _, ?_⟩
  clear hs hs0 hs1 hs2 k1 k2 k3 hrd
  unfold pcon
  refine evC_go0K (s' := ⟨[(0, 0, zP 1), (0, 2, zI 0), (1, 0, zI P.me), (1, 1, zI P.n), (1, 2, zI P.turn), (1, 3, zI P.iss), (1, 4, .arr 8 (nI P.hd)), (1, 12, zM 2), (1, 13, zM 3), (1, 14, .top), (2, 0, .map 2 (smap P.sets)), (3, 0, .map 2 (wmap P.words))], 36, 7⟩) ?_
  refine evC_go0K (s' := ⟨[(0, 2, zI P.turn), (1, 0, zI P.me), (1, 1, zI P.n), (1, 2, zI P.turn), (1, 3, zI P.iss), (1, 4, .arr 8 (nI P.hd)), (1, 12, zM 2), (1, 13, zM 3), (1, 14, .top), (2, 0, .map 2 (smap P.sets)), (3, 0, .map 2 (wmap P.words))], 196, 7⟩) ?_
  refine evC_ret ?_
  refine post_ret ?_
  refine ends_go [] (AV.int IntKind.i64 P.turn) [(1, 0, zI P.me), (1, 1, zI P.n), (1, 2, zI P.turn), (1, 3, zI P.iss), (1, 4, .arr 8 (nI P.hd)), (1, 12, zM 2), (1, 13, zM 3), (1, 14, .top), (2, 0, .map 2 (smap P.sets)), (3, 0, .map 2 (wmap P.words))] rfl (by decide) rfl rfl (has_of _ rfl) rfl ⟨⟨_, rfl, rfl⟩, ⟨_, rfl, rfl⟩, ⟨_, rfl, rfl⟩, ⟨_, rfl, rfl⟩, ⟨_, rfl, ⟨rfl, fun _ _ => rfl⟩⟩, ⟨_, rfl, rfl⟩, ⟨_, rfl, rfl⟩, ⟨_, rfl, trivial⟩, ⟨_, rfl, Go.Eng.S25.cw_smap _⟩, ⟨_, rfl, cw_map (Go.Eng.S25.flat_wmap _)⟩, trivial⟩ trivial ?_
  exact k4 _ _ (by simp [pcon, hget])
 ·cases e
end Go.Eng.S25
/- Seat 25: what a peer has issued and heard, walked. -/
set_option linter.unusedSimpArgs false
set_option linter.unusedVariables false
set_option maxHeartbeats 2000000
namespace Go.Eng.S25
open Go.Proofs Go.IntWalk
set_option maxRecDepth 10000
def sIssued : Spec := fun args hr _ => match args with
 | [v] => withPeer hr v fun n b c P s rd => some ⟨[s], .int .i64 P.iss, rd, []⟩
 | _ => none
theorem issued_ok : SpecOK Try.prog 20 sIssued := by
 refine spec_at (by kernel_rfl) T_ok sget_nil Try.func20 rfl rfl fun args hr nb out e => ?_
 unfold sIssued at e
 split at e
 ·obtain ⟨n, b, c, P, s, rd, rfl, e, hrd, hs0, hs1, hs2⟩ := peer_open e
  injection e with e; subst e
  refine ⟨hrd, true, [n, b, c], [.ptr 1 0], pcon 1 2 3 P, rfl, fun hs => ?_⟩
  obtain ⟨k1, k2, k3⟩ := hs0 (hs _ List.mem_cons_self)
  have k4 := hs1 (hs _ List.mem_cons_self) [] nb
  refine ⟨k1, fun z hz => ⟨(k2 z hz).1, (k2 z hz).2 _ fun x hx => hx⟩, .cons _ _ _ _ (.name _ _ _ rfl) .nil, k3 _ _, ?_⟩
  clear hs hs0 hs1 hs2 k1 k2 k3 hrd
  unfold pcon
  refine evC_go0K (s' := ⟨[(0, 0, zP 1), (0, 2, zI 0), (1, 0, zI P.me), (1, 1, zI P.n), (1, 2, zI P.turn), (1, 3, zI P.iss), (1, 4, .arr 8 (nI P.hd)), (1, 12, zM 2), (1, 13, zM 3), (1, 14, .top), (2, 0, .map 2 (smap P.sets)), (3, 0, .map 2 (wmap P.words))], 36, 7⟩) ?_
  refine evC_go0K (s' := ⟨[(0, 2, zI P.iss), (1, 0, zI P.me), (1, 1, zI P.n), (1, 2, zI P.turn), (1, 3, zI P.iss), (1, 4, .arr 8 (nI P.hd)), (1, 12, zM 2), (1, 13, zM 3), (1, 14, .top), (2, 0, .map 2 (smap P.sets)), (3, 0, .map 2 (wmap P.words))], 196, 7⟩) ?_
  refine evC_ret ?_
  refine post_ret ?_
  refine ends_go [] (AV.int IntKind.i64 P.iss) [(1, 0, zI P.me), (1, 1, zI P.n), (1, 2, zI P.turn), (1, 3, zI P.iss), (1, 4, .arr 8 (nI P.hd)), (1, 12, zM 2), (1, 13, zM 3), (1, 14, .top), (2, 0, .map 2 (smap P.sets)), (3, 0, .map 2 (wmap P.words))] rfl (by decide) rfl rfl (has_of _ rfl) rfl ⟨⟨_, rfl, rfl⟩, ⟨_, rfl, rfl⟩, ⟨_, rfl, rfl⟩, ⟨_, rfl, rfl⟩, ⟨_, rfl, ⟨rfl, fun _ _ => rfl⟩⟩, ⟨_, rfl, rfl⟩, ⟨_, rfl, rfl⟩, ⟨_, rfl, trivial⟩, ⟨_, rfl, Go.Eng.S25.cw_smap _⟩, ⟨_, rfl, cw_map (Go.Eng.S25.flat_wmap _)⟩, trivial⟩ trivial ?_
  exact k4 _ _ (by simp [pcon, hget])
 ·cases e
def heardV (P : Peer) (q : Int) : Int := bif q == P.me then P.turn else bif decide (q < 0) || decide (q ≥ P.n) then 0 else P.hd q.toNat
def sHeard : Spec := fun args hr _ => match args with
 | [v, .int .i64 q] => withPeer hr v fun n b c P s rd => some ⟨[s, P.n ≤ 8], .int .i64 (heardV P q), rd, []⟩
 | _ => none
theorem heard_ok : SpecOK Try.prog 21 sHeard := by
 refine spec_at (by kernel_rfl) T_ok sget_nil Try.func21 rfl rfl fun args hr nb out e => ?_
 unfold sHeard at e
 split at e
 ·rename_i v q
  obtain ⟨n, b, c, P, s, rd, rfl, e, hrd, hs0, hs1, hs2⟩ := peer_open e
  injection e with e; subst e
  refine ⟨hrd, true, [n, b, c], [.ptr 1 0, .int .i64 q], pcon 1 2 3 P, rfl, fun hs => ?_⟩
  obtain ⟨k1, k2, k3⟩ := hs0 (hs _ List.mem_cons_self)
  have k4 := hs1 (hs _ List.mem_cons_self) [] nb
  have hn := hs _ (List.mem_cons_of_mem _ List.mem_cons_self)
  refine ⟨k1, fun z hz => ⟨(k2 z hz).1, (k2 z hz).2 _ fun x hx => hx⟩, .cons _ _ _ _ (.name _ _ _ rfl) (.cons _ _ _ _ (.same _ _ (.int _ _)) .nil), k3 _ _, ?_⟩
  clear hs hs0 hs1 hs2 k1 k2 k3 hrd
  unfold heardV
  unfold pcon
  refine evC_go0K (s' := ⟨[(0, 0, zP 1), (0, 1, zI q), (0, 4, zI 0), (1, 0, zI P.me), (1, 1, zI P.n), (1, 2, zI P.turn), (1, 3, zI P.iss), (1, 4, .arr 8 (nI P.hd)), (1, 12, zM 2), (1, 13, zM 3), (1, 14, .top), (2, 0, .map 2 (smap P.sets)), (3, 0, .map 2 (wmap P.words))], 36, 33⟩) ?_
  refine evC_seq ?_
  refine evC_block ?_
  refine evC_go0K (s' := ⟨[(0, 0, zP 1), (0, 1, zI q), (0, 4, zI 0), (0, 5, zB (q == P.me)), (1, 0, zI P.me), (1, 1, zI P.n), (1, 2, zI P.turn), (1, 3, zI P.iss), (1, 4, .arr 8 (nI P.hd)), (1, 12, zM 2), (1, 13, zM 3), (1, 14, .top), (2, 0, .map 2 (smap P.sets)), (3, 0, .map 2 (wmap P.words))], 260, 33⟩) ?_
  refine evC_if (q := q == P.me) (by kernel_rfl) (fun hc => ?_) (fun hc => ?_)
  ·rw [hc]
   simp only [cond_true]
   refine evC_go0K (s' := ⟨[(0, 0, zP 1), (0, 1, zI q), (0, 4, zI P.turn), (1, 0, zI P.me), (1, 1, zI P.n), (1, 2, zI P.turn), (1, 3, zI P.iss), (1, 4, .arr 8 (nI P.hd)), (1, 12, zM 2), (1, 13, zM 3), (1, 14, .top), (2, 0, .map 2 (smap P.sets)), (3, 0, .map 2 (wmap P.words))], 420, 33⟩) ?_
   refine evC_ret ?_
   refine block_ret ?_
   refine then_ret ?_
   refine post_ret ?_
   refine ends_go [] (AV.int IntKind.i64 P.turn) [(1, 0, zI P.me), (1, 1, zI P.n), (1, 2, zI P.turn), (1, 3, zI P.iss), (1, 4, .arr 8 (nI P.hd)), (1, 12, zM 2), (1, 13, zM 3), (1, 14, .top), (2, 0, .map 2 (smap P.sets)), (3, 0, .map 2 (wmap P.words))] rfl (by decide) rfl rfl (has_of _ rfl) rfl ⟨⟨_, rfl, rfl⟩, ⟨_, rfl, rfl⟩, ⟨_, rfl, rfl⟩, ⟨_, rfl, rfl⟩, ⟨_, rfl, ⟨rfl, fun _ _ => rfl⟩⟩, ⟨_, rfl, rfl⟩, ⟨_, rfl, rfl⟩, ⟨_, rfl, trivial⟩, ⟨_, rfl, Go.Eng.S25.cw_smap _⟩, ⟨_, rfl, cw_map (Go.Eng.S25.flat_wmap _)⟩, trivial⟩ trivial ?_
   exact k4 _ _ (by simp [pcon, hget])
  ·rw [hc]
   simp only [cond_false]
   clear hc
   refine evC_go0K (s' := ⟨[(0, 0, zP 1), (0, 1, zI q), (0, 4, zI 0), (0, 16, zB (bif decide (q < 0) then true else decide (q ≥ P.n))), (1, 0, zI P.me), (1, 1, zI P.n), (1, 2, zI P.turn), (1, 3, zI P.iss), (1, 4, .arr 8 (nI P.hd)), (1, 12, zM 2), (1, 13, zM 3), (1, 14, .top), (2, 0, .map 2 (smap P.sets)), (3, 0, .map 2 (wmap P.words))], 612, 33⟩) ?_
   rw [cond_or]
   refine evC_if (q := decide (q < 0) || decide (q ≥ P.n)) (by kernel_rfl) (fun hc => ?_) (fun hc => ?_)
   ·rw [hc]
    simp only [cond_true]
    refine evC_go0K (s' := ⟨[(0, 0, zP 1), (0, 1, zI q), (0, 4, zI 0), (1, 0, zI P.me), (1, 1, zI P.n), (1, 2, zI P.turn), (1, 3, zI P.iss), (1, 4, .arr 8 (nI P.hd)), (1, 12, zM 2), (1, 13, zM 3), (1, 14, .top), (2, 0, .map 2 (smap P.sets)), (3, 0, .map 2 (wmap P.words))], 644, 33⟩) ?_
    refine evC_ret ?_
    refine block_ret ?_
    refine then_ret ?_
    refine post_ret ?_
    refine ends_go [] (AV.int IntKind.i64 0) [(1, 0, zI P.me), (1, 1, zI P.n), (1, 2, zI P.turn), (1, 3, zI P.iss), (1, 4, .arr 8 (nI P.hd)), (1, 12, zM 2), (1, 13, zM 3), (1, 14, .top), (2, 0, .map 2 (smap P.sets)), (3, 0, .map 2 (wmap P.words))] rfl (by decide) rfl rfl (has_of _ rfl) rfl ⟨⟨_, rfl, rfl⟩, ⟨_, rfl, rfl⟩, ⟨_, rfl, rfl⟩, ⟨_, rfl, rfl⟩, ⟨_, rfl, ⟨rfl, fun _ _ => rfl⟩⟩, ⟨_, rfl, rfl⟩, ⟨_, rfl, rfl⟩, ⟨_, rfl, trivial⟩, ⟨_, rfl, Go.Eng.S25.cw_smap _⟩, ⟨_, rfl, cw_map (Go.Eng.S25.flat_wmap _)⟩, trivial⟩ trivial ?_
    exact k4 _ _ (by simp [pcon, hget])
   ·rw [hc]
    simp only [cond_false]
    simp only [Bool.or_eq_false_iff, decide_eq_false_iff_not] at hc
    refine evC_skip ?_
    refine block_normal ?_
    refine then_normal ?_
    refine evC_goK (ps := [(0 : Int) ≤ q, q < (↑(8 : Nat) : Int), (0 : Int) ≤ q, q < (↑(8 : Nat) : Int)]) (s' := ⟨[(0, 4, zI (P.hd (Int.toNat q))), (1, 0, zI P.me), (1, 1, zI P.n), (1, 2, zI P.turn), (1, 3, zI P.iss), (1, 4, .arr 8 (nI P.hd)), (1, 12, zM 2), (1, 13, zM 3), (1, 14, .top), (2, 0, .map 2 (smap P.sets)), (3, 0, .map 2 (wmap P.words))], 836, 33⟩) ?_ ?_
    ·(simp only [All]; (repeat' apply And.intro) <;> (try intro _) <;> (try intro _) <;> (repeat' apply And.intro) <;> (try intro _) <;> (try intro _) <;> first | trivial | assumption | exact .inr trivial | exact .inr rfl | omega | rfl | exact ⟨_, rfl, rfl⟩ | exact ⟨rfl, rfl⟩ | exact ⟨fun _ => rfl, fun _ => rfl⟩ | (unfold maxLen; omega) | (unfold i64R; first | omega | decide) | decide)
    refine evC_ret ?_
    refine post_ret ?_
    refine ends_go [] (AV.int IntKind.i64 (P.hd (Int.toNat q))) [(1, 0, zI P.me), (1, 1, zI P.n), (1, 2, zI P.turn), (1, 3, zI P.iss), (1, 4, .arr 8 (nI P.hd)), (1, 12, zM 2), (1, 13, zM 3), (1, 14, .top), (2, 0, .map 2 (smap P.sets)), (3, 0, .map 2 (wmap P.words))] rfl (by decide) rfl rfl (has_of _ rfl) rfl ⟨⟨_, rfl, rfl⟩, ⟨_, rfl, rfl⟩, ⟨_, rfl, rfl⟩, ⟨_, rfl, rfl⟩, ⟨_, rfl, ⟨rfl, fun _ _ => rfl⟩⟩, ⟨_, rfl, rfl⟩, ⟨_, rfl, rfl⟩, ⟨_, rfl, trivial⟩, ⟨_, rfl, Go.Eng.S25.cw_smap _⟩, ⟨_, rfl, cw_map (Go.Eng.S25.flat_wmap _)⟩, trivial⟩ trivial ?_
    exact k4 _ _ (by simp [pcon, hget])
 ·cases e
end Go.Eng.S25