/- Seat 25: a message's sets, walked. -/
import Derived.Test.YtodnecfgiimclaaEngX
import Derived.Test.YtodnecfgiimclaaS25F
set_option linter.unusedSimpArgs false
set_option linter.unusedVariables false
set_option maxHeartbeats 2000000
namespace Go.Eng.S25
open Go.Proofs Go.IntWalk
set_option maxRecDepth 10000
theorem nblt_yes {a b : Nat} (h : a < b) : Nat.blt a b = true := by simpa [Nat.blt_eq] using h
theorem nblt_no {a b : Nat} (h : ¬ a < b) : Nat.blt a b = false := by
 cases e : Nat.blt a b with
 | false => rfl
 | true => exact absurd (by simpa [Nat.blt_eq] using e) h
def nB (Ls : List (List Int)) : Nat → AV := fun i => bs (Ls.getD i [])
theorem nU_drop (L : List Int) (k : Nat) : (fun i => nU L (k + i)) = nU (L.drop k) := by
 funext i
 show AV.int .u8 (L.getD (k + i) 0) = AV.int .u8 ((L.drop k).getD i 0)
 rw [List.getD_eq_getElem?_getD, List.getD_eq_getElem?_getD, List.getElem?_drop]
theorem nU_take (L : List Int) (k : Nat) : ∀ i, i < k → nU L i = nU (L.take k) i := by
 intro i hi
 show AV.int .u8 (L.getD i 0) = AV.int .u8 ((L.take k).getD i 0)
 rw [List.getD_eq_getElem?_getD, List.getD_eq_getElem?_getD, List.getElem?_take, if_pos hi]
theorem bytes_cut (R : List Int) (a b : Nat) (h : b ≤ R.length) : bytesL (b - a) (fun i => nU R (a + i)) = (R.drop a).take (b - a) := by
 rw [nU_drop]
 refine List.ext_getElem (by rw [bytesL_len, List.length_take, List.length_drop]; omega) fun i h1 h2 => ?_
 have hi : i < b - a := by rw [bytesL_len] at h1; exact h1
 have := bytesL_get (b - a) (nU (R.drop a)) hi
 rw [List.getD_eq_getElem?_getD, List.getElem?_eq_getElem h1] at this
 have h3 : i < (R.drop a).length := by rw [List.length_drop]; omega
 have e : iv (nU (R.drop a) i) = (R.drop a)[i] := by
  show (R.drop a).getD i 0 = _
  rw [List.getD_eq_getElem?_getD, List.getElem?_eq_getElem h3]; rfl
 rw [e] at this
 rw [List.getElem_take]
 exact this
theorem isB_cut {R : List Int} (hR : IsU R) {a b : Nat} (h : b ≤ R.length) : IsB (b - a) fun i => nU R (a + i) :=
 ⟨fun i hi => ⟨rfl, ((isB hR).get (a + i) (by omega)).2⟩⟩
theorem cw_cat_vs (acc : List (List Int)) (m n k e : Nat) (π : Nat → Nat) (h : π m = n) : CW π (.vec 1 e k (catF acc.length (nB acc) (pget [(0, .vs m)]))) (.vec 1 e k (catF acc.length (nB acc) (pget [(0, .vs n)]))) := by
 refine ⟨rfl, rfl, rfl, fun i hi => ?_⟩
 unfold catF
 cases Nat.blt i acc.length with
 | true => rfl
 | false =>
   show pget [(0, .vs n)] (i - acc.length) = (pget [(0, .vs m)] (i - acc.length)).ren π
   subst h
   rcases i - acc.length with _ | j
   ·rfl
   ·rfl
theorem cw_cat_frz (acc : List (List Int)) (S : List Int) (n k e : Nat) (π : Nat → Nat) : CW π (.vec 1 e k (catF acc.length (nB acc) (pget [(0, .rs 1 S.length false (nU S))]))) (.vec 1 e k fun i => (catF acc.length (nB acc) (pget [(0, .vs n)]) i).frz n 1 S.length (nU S)) := by
 refine ⟨rfl, rfl, rfl, fun i hi => ?_⟩
 show (catF acc.length (nB acc) (pget [(0, .vs n)]) i).frz n 1 S.length (nU S) = (catF acc.length (nB acc) (pget [(0, .rs 1 S.length false (nU S))]) i).ren π
 unfold catF
 cases Nat.blt i acc.length with
 | true => rfl
 | false =>
   show (pget [(0, .vs n)] (i - acc.length)).frz n 1 S.length (nU S) = (pget [(0, .rs 1 S.length false (nU S))] (i - acc.length)).ren π
   rcases i - acc.length with _ | j
   ·show (AV.vs n).frz n 1 S.length (nU S) = _
    simp [AV.frz, pget, AV.ren]
    rfl
   ·rfl
theorem cat_nB (acc : List (List Int)) (S : List Int) (i : Nat) (hi : i < acc.length + 1) : catF acc.length (nB acc) (pget [(0, .rs 1 S.length false (nU S))]) i = nB (acc ++ [S]) i := by
 unfold catF
 cases h : Nat.blt i acc.length with
 | true =>
   have h : i < acc.length := by simpa [Nat.blt_eq] using h
   show bs (acc.getD i []) = bs ((acc ++ [S]).getD i [])
   rw [List.getD_eq_getElem?_getD, List.getD_eq_getElem?_getD, List.getElem?_append_left h]
 | false =>
   have h : ¬ i < acc.length := fun hh => by rw [nblt_yes hh] at h; cases h
   have : i = acc.length := by omega
   subst this
   show pget [(0, .rs 1 S.length false (nU S))] (acc.length - acc.length) = bs ((acc ++ [S]).getD acc.length [])
   rw [Nat.sub_self, List.getD_eq_getElem?_getD, List.getElem?_append_right (by omega), Nat.sub_self]
   rfl
def cutA : Nat → List Int → List (List Int) → List (List Int) × Int
 | 0, rest, acc => bif Nat.blt 0 rest.length then ([], 7) else (acc, 0)
 | k + 1, rest, acc => bif Nat.blt rest.length 2 then ([], 2) else bif decide (numL (rest.take 2) > 704) then ([], 3) else bif decide ((rest.length : Int) < 2 + numL (rest.take 2)) then ([], 2) else
     cutA k (rest.drop (2 + (numL (rest.take 2)).toNat)) (acc ++ [(rest.drop 2).take (numL (rest.take 2)).toNat])
def cutF (L : List Int) : List (List Int) × Int := bif Nat.blt L.length 19 then ([], 2) else cutA (L.getD 18 0).toNat (L.drop 19) []
theorem isU_drop {L : List Int} (h : IsU L) (k : Nat) : IsU (L.drop k) := fun x hx => h x (List.mem_of_mem_drop hx)
theorem isU_take {L : List Int} (h : IsU L) (k : Nat) : IsU (L.take k) := fun x hx => h x (List.mem_of_mem_take hx)
end Go.Eng.S25