/- Seat 25: the document's Receive, walked. -/
import Derived.Test.YtodnecfgiimclaaEngX
import Derived.Test.YtodnecfgiimclaaS25DF
set_option linter.unusedSimpArgs false
set_option linter.unusedVariables false
set_option maxHeartbeats 2000000
namespace Go.Eng.S25
open Go.Proofs Go.IntWalk
set_option maxRecDepth 10000
theorem blt_dec' (n : Nat) : Nat.blt 0 n = decide ((n : Int) > 0) := by
 by_cases h : 0 < n
 ·rw [nblt_yes h, decide_eq_true (by omega)]
 ·rw [nblt_no h, decide_eq_false (by omega)]
theorem recS_isU {q first : Int} {Ls : List (List Int)} {S : List ((Int × Int) × List Int)} (hS : ∀ x ∈ S, IsU x.2) (hL : ∀ L ∈ Ls, IsU L) : ∀ k, ∀ x ∈ recS q first Ls S k, IsU x.2
 | 0, x, hx => hS x hx
 | k + 1, x, hx => by
   simp only [recS] at hx
   cases h : kn (recS q first Ls S k) (first + (k : Nat)) q with
   | true => rw [h] at hx; exact recS_isU hS hL k x hx
   | false =>
     rw [h] at hx
     rcases kput_mem hx with h1 | h1
     ·exact recS_isU hS hL k x h1
     ·rw [h1]
      rcases Nat.lt_or_ge k Ls.length with h2 | h2
      ·rw [List.getD_eq_getElem?_getD, List.getElem?_eq_getElem h2]; exact hL _ (List.getElem_mem h2)
      ·rw [List.getD_eq_getElem?_getD, List.getElem?_eq_none h2]; exact fun y hy => by cases hy
theorem kput_len {α : Type} (S : List ((Int × Int) × α)) (t p : Int) (v : α) : (kput S t p v).length ≤ S.length + 1 := by
 induction S with
 | nil => simp [kput]
 | cons e S ih =>
   show (bif t == e.1.1 && p == e.1.2 then ((t, p), v) :: S else e :: kput S t p v).length ≤ _
   cases t == e.1.1 && p == e.1.2 <;> simp <;> omega
theorem recS_len (q first : Int) (Ls : List (List Int)) (S : List ((Int × Int) × List Int)) : ∀ k, (recS q first Ls S k).length ≤ S.length + k
 | 0 => Nat.le_refl _
 | k + 1 => by
   have h1 := recS_len q first Ls S k
   simp only [recS]
   cases kn (recS q first Ls S k) (first + (k : Nat)) q with
   | true => simp only [cond_true]; omega
   | false => have := kput_len (recS q first Ls S k) (first + (k : Nat)) q (Ls.getD k []); simp only [cond_false]; omega
def OkN (P : Peer) : Prop := P.sets.length ≤ 900000 ∧ P.words.length ≤ 900000
def sRReceive : Spec := fun args hr nb => match args with
 | [v, .str l] => withRef hr v fun n b c P s rd => some ⟨[s, okT P, OkP P, OkR P, OkW P, OkN P, l.size ≤ 100000000], .int .i64 (recE P (blS l)), rd, rnew n b c nb (recP P (blS l))⟩
 | _ => none
theorem rreceive_ok : SpecOK Try.prog 26 sRReceive := by
 refine spec_at (by kernel_rfl) T_ok (sget_cons rnum_ok (sget_cons rother_ok (sget_cons rword_ok (sget_cons rknown_ok sget_nil)))) Try.func26 rfl rfl fun args hr nb out e => ?_
 unfold sRReceive at e
 split at e
 ·rename_i v l
  obtain ⟨n, b, c, P, s, rd, rfl, e, hrd, hs0, hs1, hs2, hs3⟩ := ref_open e
  injection e with e; subst e
  refine ⟨hrd, true, [n, b, c], [.ptr 1 0, .str l], rcon 1 2 3 P, rfl, fun hs => ?_⟩
  obtain ⟨k1, k2, k3⟩ := hs0 (hs _ List.mem_cons_self)
  have k4 := hs1 (hs _ List.mem_cons_self) [] nb
  obtain ⟨hT1, hT2⟩ := hs _ (List.mem_cons_of_mem _ List.mem_cons_self)
  have hok := hs _ (List.mem_cons_of_mem _ (List.mem_cons_of_mem _ List.mem_cons_self))
  have hR := hs _ (List.mem_cons_of_mem _ (List.mem_cons_of_mem _ (List.mem_cons_of_mem _ List.mem_cons_self)))
  have hW := hs _ (List.mem_cons_of_mem _ (List.mem_cons_of_mem _ (List.mem_cons_of_mem _ (List.mem_cons_of_mem _ List.mem_cons_self))))
  have hN := hs _ (List.mem_cons_of_mem _ (List.mem_cons_of_mem _ (List.mem_cons_of_mem _ (List.mem_cons_of_mem _ (List.mem_cons_of_mem _ List.mem_cons_self)))))
  have hsz := hs _ (List.mem_cons_of_mem _ (List.mem_cons_of_mem _ (List.mem_cons_of_mem _ (List.mem_cons_of_mem _ (List.mem_cons_of_mem _ (List.mem_cons_of_mem _ List.mem_cons_self))))))
  have k5 := hs3 (hs _ List.mem_cons_self) [] nb nb
  refine ⟨k1, fun z hz => ⟨(k2 z hz).1, (k2 z hz).2 _ fun x hx => hx⟩, .cons _ _ _ _ (.name _ _ _ rfl) (.cons _ _ _ _ (.same _ _ (.str _)) .nil), k3 _ _, ?_⟩
  clear hs hs0 hs1 hs2 hs3 k1 k2 k3 hrd
  clear k4
  obtain ⟨hn1, hn2⟩ := hok.n
  obtain ⟨hme1, hme2⟩ := hok.me
  obtain ⟨L, hLl⟩ : ∃ L, L = blS l := ⟨_, rfl⟩
  have hL : IsU L := by rw [hLl]; exact blS_isU l
  have hLen : L.length = l.size := by rw [hLl, blS_len]
  have hbt : ∀ i : Nat, i < l.size → bt l (i : Int) = L.getD i 0 := fun i hi => by rw [hLl]; exact bt_blS l hi
  have hex : ∀ i j : Nat, j ≤ l.size → blS (l.extract i j) = (L.drop i).take (j - i) := fun i j hj => by rw [hLl]; exact blS_ext l i j hj
  rw [← hLl]
  obtain ⟨c1, c2⟩ := cutF_ok hL
  have eE : recE P L = bif (cutF L).2 != 0 then (cutF L).2 else bif decide (mFrom L ≥ P.n) || (mFrom L == P.me) then 4 else bif mTo L != P.me then 11 else
   bif Nat.blt 0 (cutF L).1.length && decide (mFirst L + (cutF L).1.length - 1 ≥ P.turn + 16) then 10 else 0 := rfl
  have hP0 : recE P L ≠ 0 → recP P L = P := fun h => by
   unfold recP
   have : (recE P L == 0) = false := by simpa using h
   rw [this]; rfl
  have hE1 : ∀ e : Int, e ≠ 0 → (cutF L).2 = e → recE P L = e := fun e he h => by
   rw [eE, h, show (e != 0) = true by simpa using he]; rfl
  unfold rcon
  refine evC_go0K (s' := ⟨[(0, 0, zP 1), (0, 1, zS l), (0, 4, zI 0), (1, 0, zI P.me), (1, 1, zI P.n), (1, 2, zI P.turn), (1, 3, zI P.iss), (1, 4, .arr 8 (nI P.hd)), (1, 12, zV 2), (1, 13, zV 3), (1, 14, .top), (2, 0, .vec 3 81 P.sets.length (rsF P.sets)), (3, 0, .vec 3 89 P.words.length (rwF P.words))], 36, 182⟩) ?_
  refine evC_seq ?_
  refine evC_go0K (s' := ⟨[(0, 0, zP 1), (0, 1, zS l), (0, 4, zI 0), (0, 18, zB (decide ((↑(ByteArray.size l) : Int) < 19))), (1, 0, zI P.me), (1, 1, zI P.n), (1, 2, zI P.turn), (1, 3, zI P.iss), (1, 4, .arr 8 (nI P.hd)), (1, 12, zV 2), (1, 13, zV 3), (1, 14, .top), (2, 0, .vec 3 81 P.sets.length (rsF P.sets)), (3, 0, .vec 3 89 P.words.length (rwF P.words))], 132, 182⟩) ?_
  refine evC_if (q := decide ((↑(ByteArray.size l) : Int) < 19)) (by kernel_rfl) (fun hc => ?_) (fun hc => ?_)
  ·have hc1 : L.length < 19 := by have := of_decide_eq_true hc; omega
   have hF : (cutF L).2 = 2 := by
    unfold cutF
    rw [nblt_yes hc1]; rfl
   have hE := hE1 2 (by decide) hF
   rw [hP0 (by rw [hE]; decide), hE]
   refine evC_wk (s' := ⟨[(0, 0, zP 1), (0, 1, zS l), (0, 4, zI 0), (0, 18, zB (decide ((↑(ByteArray.size l) : Int) < 19))), (1, 0, zI P.me), (1, 1, zI P.n), (1, 2, zI P.turn), (1, 3, zI P.iss), (1, 4, .arr 8 (nI P.hd)), (1, 12, zV 132), (1, 13, zV 3), (1, 14, .top), (132, 0, .vec 3 81 P.sets.length (rsF P.sets)), (3, 0, .vec 3 89 P.words.length (rwF P.words))], 133, 182⟩) _ (wk_take 2 rfl rfl rfl ⟨⟨_, rfl, rfl⟩, ⟨_, rfl, rfl⟩, ⟨_, rfl, rfl⟩, ⟨_, rfl, rfl⟩, ⟨_, rfl, rfl⟩, ⟨_, rfl, rfl⟩, ⟨_, rfl, rfl⟩, ⟨_, rfl, rfl⟩, ⟨_, rfl, rfl, fun _ _ => rfl⟩, ⟨_, rfl, rfl⟩, ⟨_, rfl, rfl⟩, ⟨_, rfl, trivial⟩, ⟨_, rfl, rfl, rfl, rfl, fun _ _ => rfl⟩, ⟨_, rfl, rfl, rfl, rfl, fun _ _ => rfl⟩, trivial⟩) ?_
   refine evC_wk (s' := ⟨[(0, 0, zP 1), (0, 1, zS l), (0, 4, zI 0), (0, 18, zB (decide ((↑(ByteArray.size l) : Int) < 19))), (1, 0, zI P.me), (1, 1, zI P.n), (1, 2, zI P.turn), (1, 3, zI P.iss), (1, 4, .arr 8 (nI P.hd)), (1, 12, zV 132), (1, 13, zV 133), (1, 14, .top), (132, 0, .vec 3 81 P.sets.length (rsF P.sets)), (133, 0, .vec 3 89 P.words.length (rwF P.words))], 134, 182⟩) _ (wk_take 3 rfl rfl rfl ⟨⟨_, rfl, rfl⟩, ⟨_, rfl, rfl⟩, ⟨_, rfl, rfl⟩, ⟨_, rfl, rfl⟩, ⟨_, rfl, rfl⟩, ⟨_, rfl, rfl⟩, ⟨_, rfl, rfl⟩, ⟨_, rfl, rfl⟩, ⟨_, rfl, rfl, fun _ _ => rfl⟩, ⟨_, rfl, rfl⟩, ⟨_, rfl, rfl⟩, ⟨_, rfl, trivial⟩, ⟨_, rfl, rfl, rfl, rfl, fun _ _ => rfl⟩, ⟨_, rfl, rfl, rfl, rfl, fun _ _ => rfl⟩, trivial⟩) ?_
   refine evC_go0K (s' := ⟨[(0, 0, zP 1), (0, 1, zS l), (0, 4, zI 2), (1, 0, zI P.me), (1, 1, zI P.n), (1, 2, zI P.turn), (1, 3, zI P.iss), (1, 4, .arr 8 (nI P.hd)), (1, 12, zV 132), (1, 13, zV 133), (1, 14, .top), (132, 0, .vec 3 81 P.sets.length (rsF P.sets)), (133, 0, .vec 3 89 P.words.length (rwF P.words))], 166, 182⟩) ?_
   refine evC_ret ?_
   refine then_ret ?_
   refine post_ret ?_
   refine ends_go [132, 133] (AV.int IntKind.i64 2) [(1, 0, zI P.me), (1, 1, zI P.n), (1, 2, zI P.turn), (1, 3, zI P.iss), (1, 4, .arr 8 (nI P.hd)), (1, 12, zV 4), (1, 13, zV 5), (1, 14, .top), (4, 0, .vec 3 81 P.sets.length (rsF P.sets)), (5, 0, .vec 3 89 P.words.length (rwF P.words))] rfl (by decide) rfl rfl (has_of _ rfl) rfl ⟨⟨_, rfl, rfl⟩, ⟨_, rfl, rfl⟩, ⟨_, rfl, rfl⟩, ⟨_, rfl, rfl⟩, ⟨_, rfl, ⟨rfl, fun _ _ => rfl⟩⟩, ⟨_, rfl, rfl⟩, ⟨_, rfl, rfl⟩, ⟨_, rfl, trivial⟩, ⟨_, rfl, ⟨rfl, rfl, rfl, fun _ _ => rfl⟩⟩, ⟨_, rfl, ⟨rfl, rfl, rfl, fun _ _ => rfl⟩⟩, trivial⟩ ⟨fun _ => ⟨1, _, rfl, rfl, rfl, ⟨has_of _ rfl, rfl⟩⟩, fun _ => ⟨1, _, rfl, rfl, rfl, ⟨has_of _ rfl, rfl⟩⟩, fun _ => ⟨1, _, rfl, rfl, rfl, ⟨has_of _ rfl, rfl⟩⟩, fun _ => ⟨1, _, rfl, rfl, rfl, ⟨has_of _ rfl, rfl⟩⟩, fun _ => ⟨1, _, rfl, rfl, rfl, ⟨rfl, fun _ _ => ⟨has_of _ rfl, rfl⟩⟩⟩, fun _ => ⟨1, _, rfl, rfl, rfl, ⟨has_of _ rfl, rfl⟩⟩, fun _ => ⟨1, _, rfl, rfl, rfl, ⟨has_of _ rfl, rfl⟩⟩, fun h => False.elim h, fun h => False.elim h, fun _ => ⟨4, _, rfl, rfl, rfl, ⟨rfl, rfl, rfl, fun _ _ => ⟨has_of _ rfl, rfl⟩⟩⟩, fun _ => ⟨5, _, rfl, rfl, rfl, ⟨rfl, rfl, rfl, fun _ _ => ⟨has_of _ rfl, rfl⟩⟩⟩, trivial⟩ ?_
   exact k5 _ _ rfl
  ·have hc1 : ¬ L.length < 19 := by have := of_decide_eq_false hc; omega
   have hF : cutF L = cutA (L.getD 18 0).toNat (L.drop 19) [] := by
    unfold cutF
    rw [nblt_no hc1]; rfl
   clear hc
   have h18 : 0 ≤ L.getD 18 0 ∧ L.getD 18 0 ≤ 255 := ((isB hL).get 18 (by omega)).2
   obtain ⟨c, hcc⟩ := Int.eq_ofNat_of_zero_le h18.1
   rw [hcc, Int.toNat_natCast] at hF
   have hb18 : bt l 18 = (c : Int) := by rw [← hcc]; exact hbt 18 (by omega)
   refine evC_skip ?_
   refine then_normal ?_
   refine evC_go0K (s' := ⟨[(0, 0, zP 1), (0, 1, zS l), (0, 4, zI 0), (0, 5, .cell AV.nils), (1, 0, zI P.me), (1, 1, zI P.n), (1, 2, zI P.turn), (1, 3, zI P.iss), (1, 4, .arr 8 (nI P.hd)), (1, 12, zV 2), (1, 13, zV 3), (1, 14, .top), (2, 0, .vec 3 81 P.sets.length (rsF P.sets)), (3, 0, .vec 3 89 P.words.length (rwF P.words))], 164, 182⟩) ?_
   refine evC_wk _ (.nil 0 5 1 9 (fun _ => .nils) (Nat.le_of_ble_eq_true rfl) rfl) ?_
   refine evC_go0K (s' := ⟨[(0, 0, zP 1), (0, 1, zS l), (0, 4, zI 0), (0, 5, zV 164), (0, 6, zI 19), (1, 0, zI P.me), (1, 1, zI P.n), (1, 2, zI P.turn), (1, 3, zI P.iss), (1, 4, .arr 8 (nI P.hd)), (1, 12, zV 2), (1, 13, zV 3), (1, 14, .top), (2, 0, .vec 3 81 P.sets.length (rsF P.sets)), (3, 0, .vec 3 89 P.words.length (rwF P.words)), (164, 0, .vec 1 9 0 fun x => AV.nils)], 197, 182⟩) ?_
   refine evC_seq ?_
   refine evC_go0K (s' := ⟨[(0, 0, zP 1), (0, 1, zS l), (0, 4, zI 0), (0, 5, zV 164), (0, 6, zI 19), (0, 7, zI 0), (1, 0, zI P.me), (1, 1, zI P.n), (1, 2, zI P.turn), (1, 3, zI P.iss), (1, 4, .arr 8 (nI P.hd)), (1, 12, zV 2), (1, 13, zV 3), (1, 14, .top), (2, 0, .vec 3 81 P.sets.length (rsF P.sets)), (3, 0, .vec 3 89 P.words.length (rwF P.words)), (164, 0, .vec 1 9 0 fun x => AV.nils)], 229, 182⟩) ?_
   refine evC_block ?_
   refine evC_loop (ι := { x : Nat × Nat × List (List Int) // (x.1 ≤ c ∧ x.2.1 ≤ L.length) ∧ cutA (c - x.1) (L.drop x.2.1) x.2.2 = cutF L ∧ x.2.2.length ≤ x.1 }) (fun x => ⟨[(0, 0, zP 1), (0, 1, zS l), (0, 4, zI 0), (0, 5, zV 4), (0, 6, zI (x.1.2.1 : Nat)), (0, 7, zI (x.1.1 : Nat)), (1, 0, zI P.me), (1, 1, zI P.n), (1, 2, zI P.turn), (1, 3, zI P.iss), (1, 4, Cont.arr 8 (nI P.hd)), (1, 12, zV 2), (1, 13, zV 3), (1, 14, Cont.top), (2, 0, Cont.vec 3 81 P.sets.length (rsF P.sets)), (3, 0, Cont.vec 3 89 P.words.length (rwF P.words)), (4, 0, .vec 1 9 x.1.2.2.length (nSt x.1.2.2))], 5, 182⟩) (fun x => c - x.1.1) ⟨(0, 19, []), ⟨Nat.zero_le _, by show 19 ≤ L.length; omega⟩, hF.symm, Nat.le_refl _⟩ (wk_go [164] rfl (by decide) rfl rfl ⟨⟨_, rfl, rfl⟩, ⟨_, rfl, rfl⟩, ⟨_, rfl, rfl⟩, ⟨_, rfl, rfl⟩, ⟨_, rfl, rfl⟩, ⟨_, rfl, rfl⟩, ⟨_, rfl, rfl⟩, ⟨_, rfl, rfl⟩, ⟨_, rfl, rfl⟩, ⟨_, rfl, rfl⟩, ⟨_, rfl, rfl, fun _ _ => rfl⟩, ⟨_, rfl, rfl⟩, ⟨_, rfl, rfl⟩, ⟨_, rfl, trivial⟩, ⟨_, rfl, rfl, rfl, rfl, fun _ _ => rfl⟩, ⟨_, rfl, rfl, rfl, rfl, fun _ _ => rfl⟩, ⟨_, rfl, ⟨rfl, rfl, rfl, fun _ hi => absurd hi (Nat.not_lt_zero _)⟩⟩, trivial⟩) ?_
   rintro ⟨⟨i, p, acc⟩, ⟨hi, hp⟩, hcut, hacc⟩
   simp only at hi hp hcut hacc
   obtain ⟨R, hR0⟩ : ∃ R, R = L.drop p := ⟨_, rfl⟩
   have hRl0 : R.length = L.length - p := by rw [hR0, List.length_drop]
   have hRU : IsU R := by rw [hR0]; exact isU_drop hL p
   rw [← hR0] at hcut
   refine evC_seq ?_
   refine evC_goK (ps := [(0 : Int) ≤ 18, (18 : Int) < ↑(ByteArray.size l)]) (s' := ⟨[(0, 0, zP 1), (0, 1, zS l), (0, 4, zI 0), (0, 5, zV 4), (0, 6, zI p), (0, 7, zI i), (0, 23, zB (decide ((↑i : Int) < IntKind.i64.wrap (bt l 18)))), (1, 0, zI P.me), (1, 1, zI P.n), (1, 2, zI P.turn), (1, 3, zI P.iss), (1, 4, .arr 8 (nI P.hd)), (1, 12, zV 2), (1, 13, zV 3), (1, 14, .top), (2, 0, .vec 3 81 P.sets.length (rsF P.sets)), (3, 0, .vec 3 89 P.words.length (rwF P.words)), (4, 0, .vec 1 9 acc.length (nSt acc))], 165, 182⟩) ?_ ?_
   ·exact ⟨by decide, (by show (18 : Int) < (l.size : Int); omega)⟩
   rw [hb18, i64_in (c : Int) (by omega)]
   refine evC_if (q := decide ((↑i : Int) < (↑c : Int))) (by kernel_rfl) (fun hc => ?_) (fun hc => ?_)
   ·have hlt : i < c := by have := of_decide_eq_true hc; omega
    clear hc
    obtain ⟨d, hd⟩ : ∃ d, c - i = d + 1 := ⟨c - i - 1, by omega⟩
    rw [hd] at hcut
    simp only [cutA] at hcut
    refine evC_skip ?_
    refine then_normal ?_
    refine evC_seq ?_
    refine evC_block ?_
    refine evC_seq ?_
    refine evC_go0K (s' := ⟨[(0, 0, zP 1), (0, 1, zS l), (0, 4, zI 0), (0, 5, zV 4), (0, 6, zI p), (0, 7, zI i), (0, 30, zB (decide (IntKind.i64.wrap ((↑p : Int) + 2) > (↑(ByteArray.size l) : Int)))), (1, 0, zI P.me), (1, 1, zI P.n), (1, 2, zI P.turn), (1, 3, zI P.iss), (1, 4, .arr 8 (nI P.hd)), (1, 12, zV 2), (1, 13, zV 3), (1, 14, .top), (2, 0, .vec 3 81 P.sets.length (rsF P.sets)), (3, 0, .vec 3 89 P.words.length (rwF P.words)), (4, 0, .vec 1 9 acc.length (nSt acc))], 325, 182⟩) ?_
    rw [i64_in ((p : Int) + 2) (by omega)]
    refine evC_if (q := decide ((↑p : Int) + 2 > (↑(ByteArray.size l) : Int))) (by kernel_rfl) (fun hc => ?_) (fun hc => ?_)
    ·have h2 : R.length < 2 := by have := of_decide_eq_true hc; omega
     rw [nblt_yes h2] at hcut
     simp only [cond_true] at hcut
     have hE := hE1 2 (by decide) (by rw [← hcut])
     rw [hP0 (by rw [hE]; decide), hE]
     clear hc
     refine evC_wk (s' := ⟨[(0, 0, zP 1), (0, 1, zS l), (0, 4, zI 0), (0, 5, zV 4), (0, 6, zI p), (0, 7, zI i), (0, 30, zB (decide ((↑p : Int) + 2 > (↑(ByteArray.size l) : Int)))), (1, 0, zI P.me), (1, 1, zI P.n), (1, 2, zI P.turn), (1, 3, zI P.iss), (1, 4, .arr 8 (nI P.hd)), (1, 12, zV 325), (1, 13, zV 3), (1, 14, .top), (325, 0, .vec 3 81 P.sets.length (rsF P.sets)), (3, 0, .vec 3 89 P.words.length (rwF P.words)), (4, 0, .vec 1 9 acc.length (nSt acc))], 326, 182⟩) _ (wk_take 2 rfl rfl rfl ⟨⟨_, rfl, rfl⟩, ⟨_, rfl, rfl⟩, ⟨_, rfl, rfl⟩, ⟨_, rfl, rfl⟩, ⟨_, rfl, rfl⟩, ⟨_, rfl, rfl⟩, ⟨_, rfl, rfl⟩, ⟨_, rfl, rfl⟩, ⟨_, rfl, rfl⟩, ⟨_, rfl, rfl⟩, ⟨_, rfl, rfl⟩, ⟨_, rfl, rfl, fun _ _ => rfl⟩, ⟨_, rfl, rfl⟩, ⟨_, rfl, rfl⟩, ⟨_, rfl, trivial⟩, ⟨_, rfl, rfl, rfl, rfl, fun _ _ => rfl⟩, ⟨_, rfl, rfl, rfl, rfl, fun _ _ => rfl⟩, ⟨_, rfl, rfl, rfl, rfl, fun _ _ => rfl⟩, trivial⟩) ?_
     refine evC_wk (s' := ⟨[(0, 0, zP 1), (0, 1, zS l), (0, 4, zI 0), (0, 5, zV 4), (0, 6, zI p), (0, 7, zI i), (0, 30, zB (decide ((↑p : Int) + 2 > (↑(ByteArray.size l) : Int)))), (1, 0, zI P.me), (1, 1, zI P.n), (1, 2, zI P.turn), (1, 3, zI P.iss), (1, 4, .arr 8 (nI P.hd)), (1, 12, zV 325), (1, 13, zV 326), (1, 14, .top), (325, 0, .vec 3 81 P.sets.length (rsF P.sets)), (326, 0, .vec 3 89 P.words.length (rwF P.words)), (4, 0, .vec 1 9 acc.length (nSt acc))], 327, 182⟩) _ (wk_take 3 rfl rfl rfl ⟨⟨_, rfl, rfl⟩, ⟨_, rfl, rfl⟩, ⟨_, rfl, rfl⟩, ⟨_, rfl, rfl⟩, ⟨_, rfl, rfl⟩, ⟨_, rfl, rfl⟩, ⟨_, rfl, rfl⟩, ⟨_, rfl, rfl⟩, ⟨_, rfl, rfl⟩, ⟨_, rfl, rfl⟩, ⟨_, rfl, rfl⟩, ⟨_, rfl, rfl, fun _ _ => rfl⟩, ⟨_, rfl, rfl⟩, ⟨_, rfl, rfl⟩, ⟨_, rfl, trivial⟩, ⟨_, rfl, rfl, rfl, rfl, fun _ _ => rfl⟩, ⟨_, rfl, rfl, rfl, rfl, fun _ _ => rfl⟩, ⟨_, rfl, rfl, rfl, rfl, fun _ _ => rfl⟩, trivial⟩) ?_
     refine evC_go0K (s' := ⟨[(0, 0, zP 1), (0, 1, zS l), (0, 4, zI 2), (0, 5, zV 4), (0, 6, zI p), (0, 7, zI i), (1, 0, zI P.me), (1, 1, zI P.n), (1, 2, zI P.turn), (1, 3, zI P.iss), (1, 4, .arr 8 (nI P.hd)), (1, 12, zV 325), (1, 13, zV 326), (1, 14, .top), (4, 0, .vec 1 9 acc.length (nSt acc)), (325, 0, .vec 3 81 P.sets.length (rsF P.sets)), (326, 0, .vec 3 89 P.words.length (rwF P.words))], 359, 182⟩) ?_
     refine evC_ret ?_
     refine then_ret ?_
     refine block_ret ?_
     refine then_ret ?_
     refine round_ret ?_
     refine block_ret ?_
     refine then_ret ?_
     refine post_ret ?_
     refine ends_go [325, 326] (AV.int IntKind.i64 2) [(1, 0, zI P.me), (1, 1, zI P.n), (1, 2, zI P.turn), (1, 3, zI P.iss), (1, 4, .arr 8 (nI P.hd)), (1, 12, zV 4), (1, 13, zV 5), (1, 14, .top), (4, 0, .vec 3 81 P.sets.length (rsF P.sets)), (5, 0, .vec 3 89 P.words.length (rwF P.words))] rfl (by decide) rfl rfl (has_of _ rfl) rfl ⟨⟨_, rfl, rfl⟩, ⟨_, rfl, rfl⟩, ⟨_, rfl, rfl⟩, ⟨_, rfl, rfl⟩, ⟨_, rfl, ⟨rfl, fun _ _ => rfl⟩⟩, ⟨_, rfl, rfl⟩, ⟨_, rfl, rfl⟩, ⟨_, rfl, trivial⟩, ⟨_, rfl, ⟨rfl, rfl, rfl, fun _ _ => rfl⟩⟩, ⟨_, rfl, ⟨rfl, rfl, rfl, fun _ _ => rfl⟩⟩, trivial⟩ ⟨fun _ => ⟨1, _, rfl, rfl, rfl, ⟨has_of _ rfl, rfl⟩⟩, fun _ => ⟨1, _, rfl, rfl, rfl, ⟨has_of _ rfl, rfl⟩⟩, fun _ => ⟨1, _, rfl, rfl, rfl, ⟨has_of _ rfl, rfl⟩⟩, fun _ => ⟨1, _, rfl, rfl, rfl, ⟨has_of _ rfl, rfl⟩⟩, fun _ => ⟨1, _, rfl, rfl, rfl, ⟨rfl, fun _ _ => ⟨has_of _ rfl, rfl⟩⟩⟩, fun _ => ⟨1, _, rfl, rfl, rfl, ⟨has_of _ rfl, rfl⟩⟩, fun _ => ⟨1, _, rfl, rfl, rfl, ⟨has_of _ rfl, rfl⟩⟩, fun h => False.elim h, fun h => False.elim h, fun _ => ⟨4, _, rfl, rfl, rfl, ⟨rfl, rfl, rfl, fun _ _ => ⟨has_of _ rfl, rfl⟩⟩⟩, fun _ => ⟨5, _, rfl, rfl, rfl, ⟨rfl, rfl, rfl, fun _ _ => ⟨has_of _ rfl, rfl⟩⟩⟩, trivial⟩ ?_
     exact k5 _ _ rfl
    ·have h2 : ¬ R.length < 2 := by have := of_decide_eq_false hc; omega
     rw [nblt_no h2] at hcut
     simp only [cond_false] at hcut
     clear hc
     have hR2 : IsU (R.take 2) := isU_take hRU 2
     have hl2 : (R.take 2).length = 2 := by rw [List.length_take]; omega
     have hn := numL_rng hR2
     rw [hl2] at hn
     have e2 : IntKind.i64.wrap ((p : Int) + 2) = ((p + 2 : Nat) : Int) := by rw [i64_in ((p : Int) + 2) (by omega)]; rfl
     have x1 : blS (l.extract p (p + 2)) = R.take 2 := by rw [hex p (p + 2) (by omega), ← hR0, Nat.add_sub_cancel_left]
     have x1s : (l.extract p (p + 2)).size ≤ 8 := by rw [← blS_len, x1, hl2]; decide
     refine evC_skip ?_
     refine then_normal ?_
     refine evC_goK (ps := [(0 : Int) ≤ ↑p, (↑p : Int) ≤ IntKind.i64.wrap ((↑p : Int) + (2 : Int)), IntKind.i64.wrap ((↑p : Int) + (2 : Int)) ≤ (↑(ByteArray.size l) : Int), ByteArray.size (ByteArray.extract l p (Int.toNat (IntKind.i64.wrap ((↑p : Int) + (2 : Int))))) ≤ (8 : Nat)]) (s' := ⟨[(0, 0, zP 1), (0, 1, zS l), (0, 4, zI 0), (0, 5, zV 4), (0, 6, zI p), (0, 7, zI i), (0, 8, zI (IntKind.i64.wrap (numL (blS (ByteArray.extract l p (Int.toNat (IntKind.i64.wrap ((↑p : Int) + 2)))))))), (1, 0, zI P.me), (1, 1, zI P.n), (1, 2, zI P.turn), (1, 3, zI P.iss), (1, 4, .arr 8 (nI P.hd)), (1, 12, zV 2), (1, 13, zV 3), (1, 14, .top), (2, 0, .vec 3 81 P.sets.length (rsF P.sets)), (3, 0, .vec 3 89 P.words.length (rwF P.words)), (4, 0, .vec 1 9 acc.length (nSt acc))], 581, 182⟩) ?_ ?_
     ·rw [e2]
      simp only [Int.toNat_natCast]
      exact ⟨by omega, by omega, by omega, x1s⟩
     rw [e2]
     simp only [Int.toNat_natCast]
     rw [x1]
     generalize numL (R.take 2) = z at hcut hn ⊢
     obtain ⟨z, rfl⟩ := Int.eq_ofNat_of_zero_le hn.1
     have hz : z < 65536 := by have := hn.2; omega
     rw [i64_in (z : Int) (by omega)]
     simp only [Int.toNat_natCast] at hcut
     refine evC_seq ?_
     refine evC_go0K (s' := ⟨[(0, 0, zP 1), (0, 1, zS l), (0, 4, zI 0), (0, 5, zV 4), (0, 6, zI p), (0, 7, zI i), (0, 8, zI z), (0, 39, zB (decide ((↑z : Int) > 704))), (1, 0, zI P.me), (1, 1, zI P.n), (1, 2, zI P.turn), (1, 3, zI P.iss), (1, 4, .arr 8 (nI P.hd)), (1, 12, zV 2), (1, 13, zV 3), (1, 14, .top), (2, 0, .vec 3 81 P.sets.length (rsF P.sets)), (3, 0, .vec 3 89 P.words.length (rwF P.words)), (4, 0, .vec 1 9 acc.length (nSt acc))], 645, 182⟩) ?_
     refine evC_if (q := decide ((↑z : Int) > 704)) (by kernel_rfl) (fun hc => ?_) (fun hc => ?_)
     ·rw [hc] at hcut
      simp only [cond_true] at hcut
      have hE := hE1 3 (by decide) (by rw [← hcut])
      rw [hP0 (by rw [hE]; decide), hE]
      clear hc
      refine evC_wk (s' := ⟨[(0, 0, zP 1), (0, 1, zS l), (0, 4, zI 0), (0, 5, zV 4), (0, 6, zI p), (0, 7, zI i), (0, 8, zI z), (0, 39, zB (decide ((↑z : Int) > 704))), (1, 0, zI P.me), (1, 1, zI P.n), (1, 2, zI P.turn), (1, 3, zI P.iss), (1, 4, .arr 8 (nI P.hd)), (1, 12, zV 645), (1, 13, zV 3), (1, 14, .top), (645, 0, .vec 3 81 P.sets.length (rsF P.sets)), (3, 0, .vec 3 89 P.words.length (rwF P.words)), (4, 0, .vec 1 9 acc.length (nSt acc))], 646, 182⟩) _ (wk_take 2 rfl rfl rfl ⟨⟨_, rfl, rfl⟩, ⟨_, rfl, rfl⟩, ⟨_, rfl, rfl⟩, ⟨_, rfl, rfl⟩, ⟨_, rfl, rfl⟩, ⟨_, rfl, rfl⟩, ⟨_, rfl, rfl⟩, ⟨_, rfl, rfl⟩, ⟨_, rfl, rfl⟩, ⟨_, rfl, rfl⟩, ⟨_, rfl, rfl⟩, ⟨_, rfl, rfl⟩, ⟨_, rfl, rfl, fun _ _ => rfl⟩, ⟨_, rfl, rfl⟩, ⟨_, rfl, rfl⟩, ⟨_, rfl, trivial⟩, ⟨_, rfl, rfl, rfl, rfl, fun _ _ => rfl⟩, ⟨_, rfl, rfl, rfl, rfl, fun _ _ => rfl⟩, ⟨_, rfl, rfl, rfl, rfl, fun _ _ => rfl⟩, trivial⟩) ?_
      refine evC_wk (s' := ⟨[(0, 0, zP 1), (0, 1, zS l), (0, 4, zI 0), (0, 5, zV 4), (0, 6, zI p), (0, 7, zI i), (0, 8, zI z), (0, 39, zB (decide ((↑z : Int) > 704))), (1, 0, zI P.me), (1, 1, zI P.n), (1, 2, zI P.turn), (1, 3, zI P.iss), (1, 4, .arr 8 (nI P.hd)), (1, 12, zV 645), (1, 13, zV 646), (1, 14, .top), (645, 0, .vec 3 81 P.sets.length (rsF P.sets)), (646, 0, .vec 3 89 P.words.length (rwF P.words)), (4, 0, .vec 1 9 acc.length (nSt acc))], 647, 182⟩) _ (wk_take 3 rfl rfl rfl ⟨⟨_, rfl, rfl⟩, ⟨_, rfl, rfl⟩, ⟨_, rfl, rfl⟩, ⟨_, rfl, rfl⟩, ⟨_, rfl, rfl⟩, ⟨_, rfl, rfl⟩, ⟨_, rfl, rfl⟩, ⟨_, rfl, rfl⟩, ⟨_, rfl, rfl⟩, ⟨_, rfl, rfl⟩, ⟨_, rfl, rfl⟩, ⟨_, rfl, rfl⟩, ⟨_, rfl, rfl, fun _ _ => rfl⟩, ⟨_, rfl, rfl⟩, ⟨_, rfl, rfl⟩, ⟨_, rfl, trivial⟩, ⟨_, rfl, rfl, rfl, rfl, fun _ _ => rfl⟩, ⟨_, rfl, rfl, rfl, rfl, fun _ _ => rfl⟩, ⟨_, rfl, rfl, rfl, rfl, fun _ _ => rfl⟩, trivial⟩) ?_
      refine evC_go0K (s' := ⟨[(0, 0, zP 1), (0, 1, zS l), (0, 4, zI 3), (0, 5, zV 4), (0, 6, zI p), (0, 7, zI i), (0, 8, zI z), (1, 0, zI P.me), (1, 1, zI P.n), (1, 2, zI P.turn), (1, 3, zI P.iss), (1, 4, .arr 8 (nI P.hd)), (1, 12, zV 645), (1, 13, zV 646), (1, 14, .top), (4, 0, .vec 1 9 acc.length (nSt acc)), (645, 0, .vec 3 81 P.sets.length (rsF P.sets)), (646, 0, .vec 3 89 P.words.length (rwF P.words))], 679, 182⟩) ?_
      refine evC_ret ?_
      refine then_ret ?_
      refine block_ret ?_
      refine then_ret ?_
      refine round_ret ?_
      refine block_ret ?_
      refine then_ret ?_
      refine post_ret ?_
      refine ends_go [645, 646] (AV.int IntKind.i64 3) [(1, 0, zI P.me), (1, 1, zI P.n), (1, 2, zI P.turn), (1, 3, zI P.iss), (1, 4, .arr 8 (nI P.hd)), (1, 12, zV 4), (1, 13, zV 5), (1, 14, .top), (4, 0, .vec 3 81 P.sets.length (rsF P.sets)), (5, 0, .vec 3 89 P.words.length (rwF P.words))] rfl (by decide) rfl rfl (has_of _ rfl) rfl ⟨⟨_, rfl, rfl⟩, ⟨_, rfl, rfl⟩, ⟨_, rfl, rfl⟩, ⟨_, rfl, rfl⟩, ⟨_, rfl, ⟨rfl, fun _ _ => rfl⟩⟩, ⟨_, rfl, rfl⟩, ⟨_, rfl, rfl⟩, ⟨_, rfl, trivial⟩, ⟨_, rfl, ⟨rfl, rfl, rfl, fun _ _ => rfl⟩⟩, ⟨_, rfl, ⟨rfl, rfl, rfl, fun _ _ => rfl⟩⟩, trivial⟩ ⟨fun _ => ⟨1, _, rfl, rfl, rfl, ⟨has_of _ rfl, rfl⟩⟩, fun _ => ⟨1, _, rfl, rfl, rfl, ⟨has_of _ rfl, rfl⟩⟩, fun _ => ⟨1, _, rfl, rfl, rfl, ⟨has_of _ rfl, rfl⟩⟩, fun _ => ⟨1, _, rfl, rfl, rfl, ⟨has_of _ rfl, rfl⟩⟩, fun _ => ⟨1, _, rfl, rfl, rfl, ⟨rfl, fun _ _ => ⟨has_of _ rfl, rfl⟩⟩⟩, fun _ => ⟨1, _, rfl, rfl, rfl, ⟨has_of _ rfl, rfl⟩⟩, fun _ => ⟨1, _, rfl, rfl, rfl, ⟨has_of _ rfl, rfl⟩⟩, fun h => False.elim h, fun h => False.elim h, fun _ => ⟨4, _, rfl, rfl, rfl, ⟨rfl, rfl, rfl, fun _ _ => ⟨has_of _ rfl, rfl⟩⟩⟩, fun _ => ⟨5, _, rfl, rfl, rfl, ⟨rfl, rfl, rfl, fun _ _ => ⟨has_of _ rfl, rfl⟩⟩⟩, trivial⟩ ?_
      exact k5 _ _ rfl
     ·rw [hc] at hcut
      have h7 := of_decide_eq_false hc
      clear hc
      simp only [cond_false] at hcut
      have e3 : IntKind.i64.wrap (IntKind.i64.wrap ((p : Int) + 2) + (z : Int)) = ((p + 2 + z : Nat) : Int) := by rw [e2, i64_in (((p + 2 : Nat) : Int) + (z : Int)) (by omega)]; rfl
      refine evC_skip ?_
      refine then_normal ?_
      refine evC_seq ?_
      refine evC_go0K (s' := ⟨[(0, 0, zP 1), (0, 1, zS l), (0, 4, zI 0), (0, 5, zV 4), (0, 6, zI p), (0, 7, zI i), (0, 8, zI z), (0, 46, zB (decide (IntKind.i64.wrap (IntKind.i64.wrap ((↑p : Int) + 2) + (↑z : Int)) > (↑(ByteArray.size l) : Int)))), (1, 0, zI P.me), (1, 1, zI P.n), (1, 2, zI P.turn), (1, 3, zI P.iss), (1, 4, .arr 8 (nI P.hd)), (1, 12, zV 2), (1, 13, zV 3), (1, 14, .top), (2, 0, .vec 3 81 P.sets.length (rsF P.sets)), (3, 0, .vec 3 89 P.words.length (rwF P.words)), (4, 0, .vec 1 9 acc.length (nSt acc))], 869, 182⟩) ?_
      rw [e3]
      have hcm : decide (((p + 2 + z : Nat) : Int) > (l.size : Int)) = decide ((R.length : Int) < 2 + (z : Int)) := by
       by_cases h : (R.length : Int) < 2 + (z : Int)
       ·rw [decide_eq_true h, decide_eq_true (by omega)]
       ·rw [decide_eq_false h, decide_eq_false (by omega)]
      rw [hcm]
      refine evC_if (q := decide ((↑(List.length R) : Int) < 2 + (↑z : Int))) (by kernel_rfl) (fun hc => ?_) (fun hc => ?_)
      ·rw [hc] at hcut
       simp only [cond_true] at hcut
       have hE := hE1 2 (by decide) (by rw [← hcut])
       rw [hP0 (by rw [hE]; decide), hE]
       clear hc
       refine evC_wk (s' := ⟨[(0, 0, zP 1), (0, 1, zS l), (0, 4, zI 0), (0, 5, zV 4), (0, 6, zI p), (0, 7, zI i), (0, 8, zI z), (0, 46, zB (decide ((↑R.length : Int) < 2 + (↑z : Int)))), (1, 0, zI P.me), (1, 1, zI P.n), (1, 2, zI P.turn), (1, 3, zI P.iss), (1, 4, .arr 8 (nI P.hd)), (1, 12, zV 869), (1, 13, zV 3), (1, 14, .top), (869, 0, .vec 3 81 P.sets.length (rsF P.sets)), (3, 0, .vec 3 89 P.words.length (rwF P.words)), (4, 0, .vec 1 9 acc.length (nSt acc))], 870, 182⟩) _ (wk_take 2 rfl rfl rfl ⟨⟨_, rfl, rfl⟩, ⟨_, rfl, rfl⟩, ⟨_, rfl, rfl⟩, ⟨_, rfl, rfl⟩, ⟨_, rfl, rfl⟩, ⟨_, rfl, rfl⟩, ⟨_, rfl, rfl⟩, ⟨_, rfl, rfl⟩, ⟨_, rfl, rfl⟩, ⟨_, rfl, rfl⟩, ⟨_, rfl, rfl⟩, ⟨_, rfl, rfl⟩, ⟨_, rfl, rfl, fun _ _ => rfl⟩, ⟨_, rfl, rfl⟩, ⟨_, rfl, rfl⟩, ⟨_, rfl, trivial⟩, ⟨_, rfl, rfl, rfl, rfl, fun _ _ => rfl⟩, ⟨_, rfl, rfl, rfl, rfl, fun _ _ => rfl⟩, ⟨_, rfl, rfl, rfl, rfl, fun _ _ => rfl⟩, trivial⟩) ?_
       refine evC_wk (s' := ⟨[(0, 0, zP 1), (0, 1, zS l), (0, 4, zI 0), (0, 5, zV 4), (0, 6, zI p), (0, 7, zI i), (0, 8, zI z), (0, 46, zB (decide ((↑R.length : Int) < 2 + (↑z : Int)))), (1, 0, zI P.me), (1, 1, zI P.n), (1, 2, zI P.turn), (1, 3, zI P.iss), (1, 4, .arr 8 (nI P.hd)), (1, 12, zV 869), (1, 13, zV 870), (1, 14, .top), (869, 0, .vec 3 81 P.sets.length (rsF P.sets)), (870, 0, .vec 3 89 P.words.length (rwF P.words)), (4, 0, .vec 1 9 acc.length (nSt acc))], 871, 182⟩) _ (wk_take 3 rfl rfl rfl ⟨⟨_, rfl, rfl⟩, ⟨_, rfl, rfl⟩, ⟨_, rfl, rfl⟩, ⟨_, rfl, rfl⟩, ⟨_, rfl, rfl⟩, ⟨_, rfl, rfl⟩, ⟨_, rfl, rfl⟩, ⟨_, rfl, rfl⟩, ⟨_, rfl, rfl⟩, ⟨_, rfl, rfl⟩, ⟨_, rfl, rfl⟩, ⟨_, rfl, rfl⟩, ⟨_, rfl, rfl, fun _ _ => rfl⟩, ⟨_, rfl, rfl⟩, ⟨_, rfl, rfl⟩, ⟨_, rfl, trivial⟩, ⟨_, rfl, rfl, rfl, rfl, fun _ _ => rfl⟩, ⟨_, rfl, rfl, rfl, rfl, fun _ _ => rfl⟩, ⟨_, rfl, rfl, rfl, rfl, fun _ _ => rfl⟩, trivial⟩) ?_
       refine evC_go0K (s' := ⟨[(0, 0, zP 1), (0, 1, zS l), (0, 4, zI 2), (0, 5, zV 4), (0, 6, zI p), (0, 7, zI i), (0, 8, zI z), (1, 0, zI P.me), (1, 1, zI P.n), (1, 2, zI P.turn), (1, 3, zI P.iss), (1, 4, .arr 8 (nI P.hd)), (1, 12, zV 869), (1, 13, zV 870), (1, 14, .top), (4, 0, .vec 1 9 acc.length (nSt acc)), (869, 0, .vec 3 81 P.sets.length (rsF P.sets)), (870, 0, .vec 3 89 P.words.length (rwF P.words))], 903, 182⟩) ?_
       refine evC_ret ?_
       refine then_ret ?_
       refine block_ret ?_
       refine then_ret ?_
       refine round_ret ?_
       refine block_ret ?_
       refine then_ret ?_
       refine post_ret ?_
       refine ends_go [869, 870] (AV.int IntKind.i64 2) [(1, 0, zI P.me), (1, 1, zI P.n), (1, 2, zI P.turn), (1, 3, zI P.iss), (1, 4, .arr 8 (nI P.hd)), (1, 12, zV 4), (1, 13, zV 5), (1, 14, .top), (4, 0, .vec 3 81 P.sets.length (rsF P.sets)), (5, 0, .vec 3 89 P.words.length (rwF P.words))] rfl (by decide) rfl rfl (has_of _ rfl) rfl ⟨⟨_, rfl, rfl⟩, ⟨_, rfl, rfl⟩, ⟨_, rfl, rfl⟩, ⟨_, rfl, rfl⟩, ⟨_, rfl, ⟨rfl, fun _ _ => rfl⟩⟩, ⟨_, rfl, rfl⟩, ⟨_, rfl, rfl⟩, ⟨_, rfl, trivial⟩, ⟨_, rfl, ⟨rfl, rfl, rfl, fun _ _ => rfl⟩⟩, ⟨_, rfl, ⟨rfl, rfl, rfl, fun _ _ => rfl⟩⟩, trivial⟩ ⟨fun _ => ⟨1, _, rfl, rfl, rfl, ⟨has_of _ rfl, rfl⟩⟩, fun _ => ⟨1, _, rfl, rfl, rfl, ⟨has_of _ rfl, rfl⟩⟩, fun _ => ⟨1, _, rfl, rfl, rfl, ⟨has_of _ rfl, rfl⟩⟩, fun _ => ⟨1, _, rfl, rfl, rfl, ⟨has_of _ rfl, rfl⟩⟩, fun _ => ⟨1, _, rfl, rfl, rfl, ⟨rfl, fun _ _ => ⟨has_of _ rfl, rfl⟩⟩⟩, fun _ => ⟨1, _, rfl, rfl, rfl, ⟨has_of _ rfl, rfl⟩⟩, fun _ => ⟨1, _, rfl, rfl, rfl, ⟨has_of _ rfl, rfl⟩⟩, fun h => False.elim h, fun h => False.elim h, fun _ => ⟨4, _, rfl, rfl, rfl, ⟨rfl, rfl, rfl, fun _ _ => ⟨has_of _ rfl, rfl⟩⟩⟩, fun _ => ⟨5, _, rfl, rfl, rfl, ⟨rfl, rfl, rfl, fun _ _ => ⟨has_of _ rfl, rfl⟩⟩⟩, trivial⟩ ?_
       exact k5 _ _ rfl
      ·rw [hc] at hcut
       have h8 := of_decide_eq_false hc
       clear hc
       simp only [cond_false] at hcut
       obtain ⟨S, hS⟩ : ∃ S, S = (R.drop 2).take z := ⟨_, rfl⟩
       rw [← hS] at hcut
       have hSx : l.extract (p + 2) (p + 2 + z) = strB S := by
        rw [← strB_blS (l.extract (p + 2) (p + 2 + z)), hex (p + 2) (p + 2 + z) (by omega), hS, hR0, List.drop_drop, Nat.add_sub_cancel_left]
       have hSl : S.length = z := by rw [hS, List.length_take, List.length_drop]; omega
       refine evC_skip ?_
       refine then_normal ?_
       refine evC_goK (ps := [(0 : Int) ≤ IntKind.i64.wrap ((↑p : Int) + (2 : Int)), IntKind.i64.wrap ((↑p : Int) + (2 : Int)) ≤ IntKind.i64.wrap (IntKind.i64.wrap ((↑p : Int) + (2 : Int)) + (↑z : Int)), IntKind.i64.wrap (IntKind.i64.wrap ((↑p : Int) + (2 : Int)) + (↑z : Int)) ≤ (↑(ByteArray.size l) : Int), (acc.length + (1 : Nat)) * 16 ≤ 140737488355328, acc.length + (1 : Nat) ≤ maxLen, 1 = 0 ∨ 1 = 1, 1 = 1, 9 = 9]) (s' := ⟨[(0, 0, zP 1), (0, 1, zS l), (0, 4, zI 0), (0, 5, zV 1189), (0, 6, zI p), (0, 7, zI i), (0, 8, zI z), (1, 0, zI P.me), (1, 1, zI P.n), (1, 2, zI P.turn), (1, 3, zI P.iss), (1, 4, .arr 8 (nI P.hd)), (1, 12, zV 2), (1, 13, zV 3), (1, 14, .top), (2, 0, .vec 3 81 P.sets.length (rsF P.sets)), (3, 0, .vec 3 89 P.words.length (rwF P.words)), (1189, 0, .vec 1 9 (acc.length + 1) (catF acc.length (nSt acc) (pget [(0, AV.str (ByteArray.extract l (Int.toNat (IntKind.i64.wrap ((↑p : Int) + 2))) (Int.toNat (IntKind.i64.wrap (IntKind.i64.wrap ((↑p : Int) + 2) + (↑z : Int))))))])))], 1253, 182⟩) ?_ ?_
       ·rw [e3, e2]
        simp only [Int.toNat_natCast]
        (simp only [All]; (repeat' apply And.intro) <;> (try intro _) <;> (try intro _) <;> (repeat' apply And.intro) <;> (try intro _) <;> (try intro _) <;> first | trivial | assumption | exact .inr trivial | exact .inr rfl | omega | rfl | exact ⟨_, rfl, rfl⟩ | exact ⟨rfl, rfl⟩ | exact ⟨fun _ => rfl, fun _ => rfl⟩ | (unfold maxLen; omega) | (unfold i64R; first | omega | decide) | decide)
       rw [e3, e2]
       simp only [Int.toNat_natCast]
       rw [hSx]
       refine evC_wk (s' := ⟨[(0, 0, zP 1), (0, 1, zS l), (0, 4, zI 0), (0, 5, zV 4), (0, 6, zI p), (0, 7, zI i), (0, 8, zI z), (1, 0, zI P.me), (1, 1, zI P.n), (1, 2, zI P.turn), (1, 3, zI P.iss), (1, 4, Cont.arr 8 (nI P.hd)), (1, 12, zV 2), (1, 13, zV 3), (1, 14, Cont.top), (2, 0, Cont.vec 3 81 P.sets.length (rsF P.sets)), (3, 0, Cont.vec 3 89 P.words.length (rwF P.words)), (4, 0, .vec 1 9 (acc ++ [S]).length (nSt (acc ++ [S])))], 5, 182⟩) _ (wk_go [1189] rfl (by decide) rfl rfl ⟨⟨_, rfl, rfl⟩, ⟨_, rfl, rfl⟩, ⟨_, rfl, rfl⟩, ⟨_, rfl, rfl⟩, ⟨_, rfl, rfl⟩, ⟨_, rfl, rfl⟩, ⟨_, rfl, rfl⟩, ⟨_, rfl, rfl⟩, ⟨_, rfl, rfl⟩, ⟨_, rfl, rfl⟩, ⟨_, rfl, rfl⟩, ⟨_, rfl, rfl, fun _ _ => rfl⟩, ⟨_, rfl, rfl⟩, ⟨_, rfl, rfl⟩, ⟨_, rfl, trivial⟩, ⟨_, rfl, rfl, rfl, rfl, fun _ _ => rfl⟩, ⟨_, rfl, rfl, rfl, rfl, fun _ _ => rfl⟩, ⟨_, rfl, ?_⟩, trivial⟩) ?_
       ·exact ⟨rfl, rfl, by rw [List.length_append]; rfl, fun i hi => cat_nSt acc S rfl i (by rw [List.length_append] at hi; exact hi)⟩
       refine evC_goL0K (s' := ⟨[(0, 0, zP 1), (0, 1, zS l), (0, 4, zI 0), (0, 5, zV 4), (0, 6, zI (IntKind.i64.wrap ((↑p : Int) + IntKind.i64.wrap (2 + (↑z : Int))))), (0, 7, zI i), (1, 0, zI P.me), (1, 1, zI P.n), (1, 2, zI P.turn), (1, 3, zI P.iss), (1, 4, .arr 8 (nI P.hd)), (1, 12, zV 2), (1, 13, zV 3), (1, 14, .top), (2, 0, .vec 3 81 P.sets.length (rsF P.sets)), (3, 0, .vec 3 89 P.words.length (rwF P.words)), (4, 0, .vec 1 9 (List.length (acc ++ [S])) (nSt (acc ++ [S])))], 165, 182⟩) ?_
       refine block_normal ?_
       refine then_normal ?_
       refine evC_goL0K (s' := ⟨[(0, 0, zP 1), (0, 1, zS l), (0, 4, zI 0), (0, 5, zV 4), (0, 6, zI (IntKind.i64.wrap ((↑p : Int) + IntKind.i64.wrap (2 + (↑z : Int))))), (0, 7, zI (IntKind.i64.wrap ((↑i : Int) + 1))), (1, 0, zI P.me), (1, 1, zI P.n), (1, 2, zI P.turn), (1, 3, zI P.iss), (1, 4, .arr 8 (nI P.hd)), (1, 12, zV 2), (1, 13, zV 3), (1, 14, .top), (2, 0, .vec 3 81 P.sets.length (rsF P.sets)), (3, 0, .vec 3 89 P.words.length (rwF P.words)), (4, 0, .vec 1 9 (List.length (acc ++ [S])) (nSt (acc ++ [S])))], 261, 182⟩) ?_
       have e4 : IntKind.i64.wrap ((p : Int) + IntKind.i64.wrap (2 + (z : Int))) = ((p + (2 + z) : Nat) : Int) := by rw [i64_in (2 + (z : Int)) (by omega), i64_in ((p : Int) + (2 + (z : Int))) (by omega)]; rfl
       rw [e4, i64_in ((i : Int) + 1) (by omega)]
       refine round_normal (⟨(i + 1, p + (2 + z), acc ++ [S]), ⟨hlt, by show p + (2 + z) ≤ L.length; omega⟩, by rw [← hcut, ← List.drop_drop, ← hR0]; show cutA (c - (i + 1)) _ _ = _; rw [show c - (i + 1) = d by omega], by rw [List.length_append]; show acc.length + 1 ≤ i + 1; omega⟩) (wk_go [4] rfl (by decide) rfl rfl ⟨⟨_, rfl, rfl⟩, ⟨_, rfl, rfl⟩, ⟨_, rfl, rfl⟩, ⟨_, rfl, rfl⟩, ⟨_, rfl, rfl⟩, ⟨_, rfl, rfl⟩, ⟨_, rfl, rfl⟩, ⟨_, rfl, rfl⟩, ⟨_, rfl, rfl⟩, ⟨_, rfl, rfl⟩, ⟨_, rfl, ⟨rfl, fun _ _ => rfl⟩⟩, ⟨_, rfl, rfl⟩, ⟨_, rfl, rfl⟩, ⟨_, rfl, trivial⟩, ⟨_, rfl, ⟨rfl, rfl, rfl, fun _ _ => rfl⟩⟩, ⟨_, rfl, ⟨rfl, rfl, rfl, fun _ _ => rfl⟩⟩, ⟨_, rfl, ⟨rfl, rfl, rfl, fun _ _ => rfl⟩⟩, trivial⟩) ?_
       show c - (i + 1) < c - i
       omega
   ·have hin : i = c := by have := of_decide_eq_false hc; omega
    subst hin
    clear hc
    rw [Nat.sub_self] at hcut
    simp only [cutA] at hcut
    refine evC_exit ?_
    refine then_exit ?_
    refine round_exit ?_
    refine block_exit ?_
    refine then_normal ?_
    refine evC_seq ?_
    refine evC_go0K (s' := ⟨[(0, 0, zP 1), (0, 1, zS l), (0, 4, zI 0), (0, 5, zV 4), (0, 65, zB (decide ((↑p : Int) < (↑(ByteArray.size l) : Int)))), (1, 0, zI P.me), (1, 1, zI P.n), (1, 2, zI P.turn), (1, 3, zI P.iss), (1, 4, .arr 8 (nI P.hd)), (1, 12, zV 2), (1, 13, zV 3), (1, 14, .top), (2, 0, .vec 3 81 P.sets.length (rsF P.sets)), (3, 0, .vec 3 89 P.words.length (rwF P.words)), (4, 0, .vec 1 9 acc.length (nSt acc))], 293, 182⟩) ?_
    have hcm : decide ((p : Int) < (l.size : Int)) = Nat.blt 0 R.length := by
     rw [blt_dec']
     by_cases h : (p : Int) < (l.size : Int)
     ·rw [decide_eq_true h, decide_eq_true (by omega)]
     ·rw [decide_eq_false h, decide_eq_false (by omega)]
    rw [hcm]
    refine evC_if (q := Nat.blt 0 (List.length R)) (by kernel_rfl) (fun hc => ?_) (fun hc => ?_)
    ·rw [hc] at hcut
     simp only [cond_true] at hcut
     have hE := hE1 7 (by decide) (by rw [← hcut])
     rw [hP0 (by rw [hE]; decide), hE]
     clear hc
     refine evC_wk (s' := ⟨[(0, 0, zP 1), (0, 1, zS l), (0, 4, zI 0), (0, 5, zV 4), (0, 65, zB (Nat.blt 0 R.length)), (1, 0, zI P.me), (1, 1, zI P.n), (1, 2, zI P.turn), (1, 3, zI P.iss), (1, 4, .arr 8 (nI P.hd)), (1, 12, zV 293), (1, 13, zV 3), (1, 14, .top), (293, 0, .vec 3 81 P.sets.length (rsF P.sets)), (3, 0, .vec 3 89 P.words.length (rwF P.words)), (4, 0, .vec 1 9 acc.length (nSt acc))], 294, 182⟩) _ (wk_take 2 rfl rfl rfl ⟨⟨_, rfl, rfl⟩, ⟨_, rfl, rfl⟩, ⟨_, rfl, rfl⟩, ⟨_, rfl, rfl⟩, ⟨_, rfl, rfl⟩, ⟨_, rfl, rfl⟩, ⟨_, rfl, rfl⟩, ⟨_, rfl, rfl⟩, ⟨_, rfl, rfl⟩, ⟨_, rfl, rfl, fun _ _ => rfl⟩, ⟨_, rfl, rfl⟩, ⟨_, rfl, rfl⟩, ⟨_, rfl, trivial⟩, ⟨_, rfl, rfl, rfl, rfl, fun _ _ => rfl⟩, ⟨_, rfl, rfl, rfl, rfl, fun _ _ => rfl⟩, ⟨_, rfl, rfl, rfl, rfl, fun _ _ => rfl⟩, trivial⟩) ?_
     refine evC_wk (s' := ⟨[(0, 0, zP 1), (0, 1, zS l), (0, 4, zI 0), (0, 5, zV 4), (0, 65, zB (Nat.blt 0 R.length)), (1, 0, zI P.me), (1, 1, zI P.n), (1, 2, zI P.turn), (1, 3, zI P.iss), (1, 4, .arr 8 (nI P.hd)), (1, 12, zV 293), (1, 13, zV 294), (1, 14, .top), (293, 0, .vec 3 81 P.sets.length (rsF P.sets)), (294, 0, .vec 3 89 P.words.length (rwF P.words)), (4, 0, .vec 1 9 acc.length (nSt acc))], 295, 182⟩) _ (wk_take 3 rfl rfl rfl ⟨⟨_, rfl, rfl⟩, ⟨_, rfl, rfl⟩, ⟨_, rfl, rfl⟩, ⟨_, rfl, rfl⟩, ⟨_, rfl, rfl⟩, ⟨_, rfl, rfl⟩, ⟨_, rfl, rfl⟩, ⟨_, rfl, rfl⟩, ⟨_, rfl, rfl⟩, ⟨_, rfl, rfl, fun _ _ => rfl⟩, ⟨_, rfl, rfl⟩, ⟨_, rfl, rfl⟩, ⟨_, rfl, trivial⟩, ⟨_, rfl, rfl, rfl, rfl, fun _ _ => rfl⟩, ⟨_, rfl, rfl, rfl, rfl, fun _ _ => rfl⟩, ⟨_, rfl, rfl, rfl, rfl, fun _ _ => rfl⟩, trivial⟩) ?_
     refine evC_go0K (s' := ⟨[(0, 0, zP 1), (0, 1, zS l), (0, 4, zI 7), (0, 5, zV 4), (1, 0, zI P.me), (1, 1, zI P.n), (1, 2, zI P.turn), (1, 3, zI P.iss), (1, 4, .arr 8 (nI P.hd)), (1, 12, zV 293), (1, 13, zV 294), (1, 14, .top), (4, 0, .vec 1 9 acc.length (nSt acc)), (293, 0, .vec 3 81 P.sets.length (rsF P.sets)), (294, 0, .vec 3 89 P.words.length (rwF P.words))], 327, 182⟩) ?_
     refine evC_ret ?_
     refine then_ret ?_
     refine post_ret ?_
     refine ends_go [293, 294] (AV.int IntKind.i64 7) [(1, 0, zI P.me), (1, 1, zI P.n), (1, 2, zI P.turn), (1, 3, zI P.iss), (1, 4, .arr 8 (nI P.hd)), (1, 12, zV 4), (1, 13, zV 5), (1, 14, .top), (4, 0, .vec 3 81 P.sets.length (rsF P.sets)), (5, 0, .vec 3 89 P.words.length (rwF P.words))] rfl (by decide) rfl rfl (has_of _ rfl) rfl ⟨⟨_, rfl, rfl⟩, ⟨_, rfl, rfl⟩, ⟨_, rfl, rfl⟩, ⟨_, rfl, rfl⟩, ⟨_, rfl, ⟨rfl, fun _ _ => rfl⟩⟩, ⟨_, rfl, rfl⟩, ⟨_, rfl, rfl⟩, ⟨_, rfl, trivial⟩, ⟨_, rfl, ⟨rfl, rfl, rfl, fun _ _ => rfl⟩⟩, ⟨_, rfl, ⟨rfl, rfl, rfl, fun _ _ => rfl⟩⟩, trivial⟩ ⟨fun _ => ⟨1, _, rfl, rfl, rfl, ⟨has_of _ rfl, rfl⟩⟩, fun _ => ⟨1, _, rfl, rfl, rfl, ⟨has_of _ rfl, rfl⟩⟩, fun _ => ⟨1, _, rfl, rfl, rfl, ⟨has_of _ rfl, rfl⟩⟩, fun _ => ⟨1, _, rfl, rfl, rfl, ⟨has_of _ rfl, rfl⟩⟩, fun _ => ⟨1, _, rfl, rfl, rfl, ⟨rfl, fun _ _ => ⟨has_of _ rfl, rfl⟩⟩⟩, fun _ => ⟨1, _, rfl, rfl, rfl, ⟨has_of _ rfl, rfl⟩⟩, fun _ => ⟨1, _, rfl, rfl, rfl, ⟨has_of _ rfl, rfl⟩⟩, fun h => False.elim h, fun h => False.elim h, fun _ => ⟨4, _, rfl, rfl, rfl, ⟨rfl, rfl, rfl, fun _ _ => ⟨has_of _ rfl, rfl⟩⟩⟩, fun _ => ⟨5, _, rfl, rfl, rfl, ⟨rfl, rfl, rfl, fun _ _ => ⟨has_of _ rfl, rfl⟩⟩⟩, trivial⟩ ?_
     exact k5 _ _ rfl
    ·rw [hc] at hcut
     simp only [cond_false] at hcut
     clear hc hcm
     have hF2 : (cutF L).2 = 0 := by rw [← hcut]
     have hF1 : (cutF L).1 = acc := by rw [← hcut]
     rw [hF2] at eE
     rw [hF1] at eE c1 c2
     simp only [bne_self_eq_false, cond_false] at eE
     have t0 : 0 ≤ mFrom L ∧ mFrom L ≤ 255 := ((isB hL).get 0 (by omega)).2
     have t1 : 0 ≤ mTo L ∧ mTo L ≤ 255 := ((isB hL).get 1 (by omega)).2
     have t2 : 0 ≤ mTurn L ∧ mTurn L < 4294967296 := mNum_rng hL 2 4
     have t3 := mNum_rng hL 6 8
     have t4 : 0 ≤ mFirst L ∧ mFirst L < 4294967296 := mNum_rng hL 14 4
     have b0 : bt l 0 = mFrom L := hbt 0 (by omega)
     have b1 : bt l 1 = mTo L := hbt 1 (by omega)
     have x2 : blS (l.extract 2 6) = (L.drop 2).take 4 := hex 2 6 (by omega)
     have x3 : blS (l.extract 6 14) = (L.drop 6).take 8 := hex 6 14 (by omega)
     have x4 : blS (l.extract 14 18) = (L.drop 14).take 4 := hex 14 18 (by omega)
     have s2 : (l.extract 2 6).size ≤ 8 := by rw [← blS_len, x2, List.length_take]; omega
     have s3 : (l.extract 6 14).size ≤ 8 := by rw [← blS_len, x3, List.length_take]; omega
     have s4 : (l.extract 14 18).size ≤ 8 := by rw [← blS_len, x4, List.length_take]; omega
     clear hcut hRU
     refine evC_skip ?_
     refine then_normal ?_
     refine evC_goK (ps := [(0 : Int) ≤ 0, (0 : Int) < ↑(ByteArray.size l), (0 : Int) ≤ 2, (2 : Int) ≤ 6, (6 : Int) ≤ ↑(ByteArray.size l), ByteArray.size (ByteArray.extract l (Int.toNat (2 : Int)) (Int.toNat (6 : Int))) ≤ (8 : Nat), (0 : Int) ≤ 14, (14 : Int) ≤ 18, (18 : Int) ≤ ↑(ByteArray.size l), ByteArray.size (ByteArray.extract l (Int.toNat (14 : Int)) (Int.toNat (18 : Int))) ≤ (8 : Nat)]) (s' := ⟨[(0, 0, zP 1), (0, 1, zS l), (0, 4, zI 0), (0, 5, zV 4), (0, 9, zI (IntKind.i64.wrap (bt l 0))), (0, 10, zI (IntKind.i64.wrap (numL (blS (ByteArray.extract l (Int.toNat 2) (Int.toNat 6)))))), (0, 11, zI (IntKind.i64.wrap (numL (blS (ByteArray.extract l (Int.toNat 14) (Int.toNat 18)))))), (1, 0, zI P.me), (1, 1, zI P.n), (1, 2, zI P.turn), (1, 3, zI P.iss), (1, 4, .arr 8 (nI P.hd)), (1, 12, zV 2), (1, 13, zV 3), (1, 14, .top), (2, 0, .vec 3 81 P.sets.length (rsF P.sets)), (3, 0, .vec 3 89 P.words.length (rwF P.words)), (4, 0, .vec 1 9 acc.length (nSt acc))], 741, 182⟩) ?_ ?_
     ·exact ⟨by decide, (by show (0 : Int) < (l.size : Int); omega), by decide, by decide, (by show (6 : Int) ≤ (l.size : Int); omega), s2, by decide, by decide, (by show (18 : Int) ≤ (l.size : Int); omega), s4⟩
     rw [b0, show Int.toNat 2 = 2 from rfl, show Int.toNat 6 = 6 from rfl, show Int.toNat 14 = 14 from rfl, show Int.toNat 18 = 18 from rfl, x2, x4, i64_in (mFrom L) (by omega), show numL ((L.drop 2).take 4) = mTurn L from rfl, show numL ((L.drop 14).take 4) = mFirst L from rfl, i64_in (mTurn L) (by omega), i64_in (mFirst L) (by omega)]
     refine evC_seq ?_
     refine evC_goK (ps := [(0 < 1 ∧ 0 < 2 ∧ 0 < 3 ∧ 1 ≠ 2 ∧ 1 ≠ 3 ∧ 2 ≠ 3) ∧ (∀ (i : Nat), i < P.sets.length → rsF P.sets i = rsF (rsL P.sets.length (rsF P.sets)) i) ∧ (∀ (i : Nat), i < P.words.length → rwF P.words i = rwF (rwL P.words.length (rwF P.words)) i) ∧ ∀ (i : Nat), i < (8 : Nat) → nI P.hd i = nI (If (nI P.hd)) i]) (s' := ⟨[(0, 0, zP 1), (0, 1, zS l), (0, 4, zI 0), (0, 5, zV 4), (0, 9, zI (mFrom L)), (0, 10, zI (mTurn L)), (0, 11, zI (mFirst L)), (0, 80, zB (!otherB (etR P) (mFrom L))), (1, 0, zI P.me), (1, 1, zI P.n), (1, 2, zI P.turn), (1, 3, zI P.iss), (1, 4, .arr 8 (nI P.hd)), (1, 12, zV 2), (1, 13, zV 3), (1, 14, .top), (2, 0, .vec 3 81 P.sets.length (rsF P.sets)), (3, 0, .vec 3 89 P.words.length (rwF P.words)), (4, 0, .vec 1 9 acc.length (nSt acc))], 869, 182⟩) ?_ ?_
     ·exact ref_side P ⟨by decide, by decide, by decide, by decide, by decide, by decide⟩
     rw [ref_eta hR]
     have hoB : (!otherB P (mFrom L)) = (decide (mFrom L ≥ P.n) || (mFrom L == P.me)) := by
      unfold otherB
      rw [decide_eq_true t0.1]
      by_cases h : mFrom L < P.n <;> cases hq : mFrom L == P.me <;> simp [h] <;> omega
     rw [hoB]
     refine evC_if (q := decide (mFrom L ≥ P.n) || mFrom L == P.me) (by kernel_rfl) (fun hc => ?_) (fun hc => ?_)
     ·have hE : recE P L = 4 := by rw [eE, hc]; rfl
      rw [hP0 (by rw [hE]; decide), hE]
      clear hc
      refine evC_wk (s' := ⟨[(0, 0, zP 1), (0, 1, zS l), (0, 4, zI 0), (0, 5, zV 4), (0, 9, zI (mFrom L)), (0, 10, zI (mTurn L)), (0, 11, zI (mFirst L)), (0, 80, zB (decide (mFrom L ≥ P.n) || mFrom L == P.me)), (1, 0, zI P.me), (1, 1, zI P.n), (1, 2, zI P.turn), (1, 3, zI P.iss), (1, 4, .arr 8 (nI P.hd)), (1, 12, zV 869), (1, 13, zV 3), (1, 14, .top), (869, 0, .vec 3 81 P.sets.length (rsF P.sets)), (3, 0, .vec 3 89 P.words.length (rwF P.words)), (4, 0, .vec 1 9 acc.length (nSt acc))], 870, 182⟩) _ (wk_take 2 rfl rfl rfl ⟨⟨_, rfl, rfl⟩, ⟨_, rfl, rfl⟩, ⟨_, rfl, rfl⟩, ⟨_, rfl, rfl⟩, ⟨_, rfl, rfl⟩, ⟨_, rfl, rfl⟩, ⟨_, rfl, rfl⟩, ⟨_, rfl, rfl⟩, ⟨_, rfl, rfl⟩, ⟨_, rfl, rfl⟩, ⟨_, rfl, rfl⟩, ⟨_, rfl, rfl⟩, ⟨_, rfl, rfl, fun _ _ => rfl⟩, ⟨_, rfl, rfl⟩, ⟨_, rfl, rfl⟩, ⟨_, rfl, trivial⟩, ⟨_, rfl, rfl, rfl, rfl, fun _ _ => rfl⟩, ⟨_, rfl, rfl, rfl, rfl, fun _ _ => rfl⟩, ⟨_, rfl, rfl, rfl, rfl, fun _ _ => rfl⟩, trivial⟩) ?_
      refine evC_wk (s' := ⟨[(0, 0, zP 1), (0, 1, zS l), (0, 4, zI 0), (0, 5, zV 4), (0, 9, zI (mFrom L)), (0, 10, zI (mTurn L)), (0, 11, zI (mFirst L)), (0, 80, zB (decide (mFrom L ≥ P.n) || mFrom L == P.me)), (1, 0, zI P.me), (1, 1, zI P.n), (1, 2, zI P.turn), (1, 3, zI P.iss), (1, 4, .arr 8 (nI P.hd)), (1, 12, zV 869), (1, 13, zV 870), (1, 14, .top), (869, 0, .vec 3 81 P.sets.length (rsF P.sets)), (870, 0, .vec 3 89 P.words.length (rwF P.words)), (4, 0, .vec 1 9 acc.length (nSt acc))], 871, 182⟩) _ (wk_take 3 rfl rfl rfl ⟨⟨_, rfl, rfl⟩, ⟨_, rfl, rfl⟩, ⟨_, rfl, rfl⟩, ⟨_, rfl, rfl⟩, ⟨_, rfl, rfl⟩, ⟨_, rfl, rfl⟩, ⟨_, rfl, rfl⟩, ⟨_, rfl, rfl⟩, ⟨_, rfl, rfl⟩, ⟨_, rfl, rfl⟩, ⟨_, rfl, rfl⟩, ⟨_, rfl, rfl⟩, ⟨_, rfl, rfl, fun _ _ => rfl⟩, ⟨_, rfl, rfl⟩, ⟨_, rfl, rfl⟩, ⟨_, rfl, trivial⟩, ⟨_, rfl, rfl, rfl, rfl, fun _ _ => rfl⟩, ⟨_, rfl, rfl, rfl, rfl, fun _ _ => rfl⟩, ⟨_, rfl, rfl, rfl, rfl, fun _ _ => rfl⟩, trivial⟩) ?_
      refine evC_go0K (s' := ⟨[(0, 0, zP 1), (0, 1, zS l), (0, 4, zI 4), (0, 5, zV 4), (0, 9, zI (mFrom L)), (0, 10, zI (mTurn L)), (0, 11, zI (mFirst L)), (1, 0, zI P.me), (1, 1, zI P.n), (1, 2, zI P.turn), (1, 3, zI P.iss), (1, 4, .arr 8 (nI P.hd)), (1, 12, zV 869), (1, 13, zV 870), (1, 14, .top), (4, 0, .vec 1 9 acc.length (nSt acc)), (869, 0, .vec 3 81 P.sets.length (rsF P.sets)), (870, 0, .vec 3 89 P.words.length (rwF P.words))], 903, 182⟩) ?_
      refine evC_ret ?_
      refine then_ret ?_
      refine post_ret ?_
      refine ends_go [869, 870] (AV.int IntKind.i64 4) [(1, 0, zI P.me), (1, 1, zI P.n), (1, 2, zI P.turn), (1, 3, zI P.iss), (1, 4, .arr 8 (nI P.hd)), (1, 12, zV 4), (1, 13, zV 5), (1, 14, .top), (4, 0, .vec 3 81 P.sets.length (rsF P.sets)), (5, 0, .vec 3 89 P.words.length (rwF P.words))] rfl (by decide) rfl rfl (has_of _ rfl) rfl ⟨⟨_, rfl, rfl⟩, ⟨_, rfl, rfl⟩, ⟨_, rfl, rfl⟩, ⟨_, rfl, rfl⟩, ⟨_, rfl, ⟨rfl, fun _ _ => rfl⟩⟩, ⟨_, rfl, rfl⟩, ⟨_, rfl, rfl⟩, ⟨_, rfl, trivial⟩, ⟨_, rfl, ⟨rfl, rfl, rfl, fun _ _ => rfl⟩⟩, ⟨_, rfl, ⟨rfl, rfl, rfl, fun _ _ => rfl⟩⟩, trivial⟩ ⟨fun _ => ⟨1, _, rfl, rfl, rfl, ⟨has_of _ rfl, rfl⟩⟩, fun _ => ⟨1, _, rfl, rfl, rfl, ⟨has_of _ rfl, rfl⟩⟩, fun _ => ⟨1, _, rfl, rfl, rfl, ⟨has_of _ rfl, rfl⟩⟩, fun _ => ⟨1, _, rfl, rfl, rfl, ⟨has_of _ rfl, rfl⟩⟩, fun _ => ⟨1, _, rfl, rfl, rfl, ⟨rfl, fun _ _ => ⟨has_of _ rfl, rfl⟩⟩⟩, fun _ => ⟨1, _, rfl, rfl, rfl, ⟨has_of _ rfl, rfl⟩⟩, fun _ => ⟨1, _, rfl, rfl, rfl, ⟨has_of _ rfl, rfl⟩⟩, fun h => False.elim h, fun h => False.elim h, fun _ => ⟨4, _, rfl, rfl, rfl, ⟨rfl, rfl, rfl, fun _ _ => ⟨has_of _ rfl, rfl⟩⟩⟩, fun _ => ⟨5, _, rfl, rfl, rfl, ⟨rfl, rfl, rfl, fun _ _ => ⟨has_of _ rfl, rfl⟩⟩⟩, trivial⟩ ?_
      exact k5 _ _ rfl
     ·rw [hc] at eE
      simp only [Bool.or_eq_false_iff, decide_eq_false_iff_not] at hc
      obtain ⟨q1, q2⟩ := hc
      simp only [cond_false] at eE
      clear hoB
      refine evC_skip ?_
      refine then_normal ?_
      refine evC_seq ?_
      refine evC_goK (ps := [(0 : Int) ≤ 1, (1 : Int) < ↑(ByteArray.size l)]) (s' := ⟨[(0, 0, zP 1), (0, 1, zS l), (0, 4, zI 0), (0, 5, zV 4), (0, 9, zI (mFrom L)), (0, 10, zI (mTurn L)), (0, 11, zI (mFirst L)), (0, 88, zB (IntKind.i64.wrap (bt l 1) != P.me)), (1, 0, zI P.me), (1, 1, zI P.n), (1, 2, zI P.turn), (1, 3, zI P.iss), (1, 4, .arr 8 (nI P.hd)), (1, 12, zV 2), (1, 13, zV 3), (1, 14, .top), (2, 0, .vec 3 81 P.sets.length (rsF P.sets)), (3, 0, .vec 3 89 P.words.length (rwF P.words)), (4, 0, .vec 1 9 acc.length (nSt acc))], 1125, 182⟩) ?_ ?_
      ·exact ⟨by decide, (by show (1 : Int) < (l.size : Int); omega)⟩
      rw [b1, i64_in (mTo L) (by omega)]
      refine evC_if (q := mTo L != P.me) (by kernel_rfl) (fun hc => ?_) (fun hc => ?_)
      ·have hE : recE P L = 11 := by rw [eE, hc]; rfl
       rw [hP0 (by rw [hE]; decide), hE]
       clear hc
       refine evC_wk (s' := ⟨[(0, 0, zP 1), (0, 1, zS l), (0, 4, zI 0), (0, 5, zV 4), (0, 9, zI (mFrom L)), (0, 10, zI (mTurn L)), (0, 11, zI (mFirst L)), (0, 88, zB (mTo L != P.me)), (1, 0, zI P.me), (1, 1, zI P.n), (1, 2, zI P.turn), (1, 3, zI P.iss), (1, 4, .arr 8 (nI P.hd)), (1, 12, zV 1125), (1, 13, zV 3), (1, 14, .top), (1125, 0, .vec 3 81 P.sets.length (rsF P.sets)), (3, 0, .vec 3 89 P.words.length (rwF P.words)), (4, 0, .vec 1 9 acc.length (nSt acc))], 1126, 182⟩) _ (wk_take 2 rfl rfl rfl ⟨⟨_, rfl, rfl⟩, ⟨_, rfl, rfl⟩, ⟨_, rfl, rfl⟩, ⟨_, rfl, rfl⟩, ⟨_, rfl, rfl⟩, ⟨_, rfl, rfl⟩, ⟨_, rfl, rfl⟩, ⟨_, rfl, rfl⟩, ⟨_, rfl, rfl⟩, ⟨_, rfl, rfl⟩, ⟨_, rfl, rfl⟩, ⟨_, rfl, rfl⟩, ⟨_, rfl, rfl, fun _ _ => rfl⟩, ⟨_, rfl, rfl⟩, ⟨_, rfl, rfl⟩, ⟨_, rfl, trivial⟩, ⟨_, rfl, rfl, rfl, rfl, fun _ _ => rfl⟩, ⟨_, rfl, rfl, rfl, rfl, fun _ _ => rfl⟩, ⟨_, rfl, rfl, rfl, rfl, fun _ _ => rfl⟩, trivial⟩) ?_
       refine evC_wk (s' := ⟨[(0, 0, zP 1), (0, 1, zS l), (0, 4, zI 0), (0, 5, zV 4), (0, 9, zI (mFrom L)), (0, 10, zI (mTurn L)), (0, 11, zI (mFirst L)), (0, 88, zB (mTo L != P.me)), (1, 0, zI P.me), (1, 1, zI P.n), (1, 2, zI P.turn), (1, 3, zI P.iss), (1, 4, .arr 8 (nI P.hd)), (1, 12, zV 1125), (1, 13, zV 1126), (1, 14, .top), (1125, 0, .vec 3 81 P.sets.length (rsF P.sets)), (1126, 0, .vec 3 89 P.words.length (rwF P.words)), (4, 0, .vec 1 9 acc.length (nSt acc))], 1127, 182⟩) _ (wk_take 3 rfl rfl rfl ⟨⟨_, rfl, rfl⟩, ⟨_, rfl, rfl⟩, ⟨_, rfl, rfl⟩, ⟨_, rfl, rfl⟩, ⟨_, rfl, rfl⟩, ⟨_, rfl, rfl⟩, ⟨_, rfl, rfl⟩, ⟨_, rfl, rfl⟩, ⟨_, rfl, rfl⟩, ⟨_, rfl, rfl⟩, ⟨_, rfl, rfl⟩, ⟨_, rfl, rfl⟩, ⟨_, rfl, rfl, fun _ _ => rfl⟩, ⟨_, rfl, rfl⟩, ⟨_, rfl, rfl⟩, ⟨_, rfl, trivial⟩, ⟨_, rfl, rfl, rfl, rfl, fun _ _ => rfl⟩, ⟨_, rfl, rfl, rfl, rfl, fun _ _ => rfl⟩, ⟨_, rfl, rfl, rfl, rfl, fun _ _ => rfl⟩, trivial⟩) ?_
       refine evC_go0K (s' := ⟨[(0, 0, zP 1), (0, 1, zS l), (0, 4, zI 11), (0, 5, zV 4), (0, 9, zI (mFrom L)), (0, 10, zI (mTurn L)), (0, 11, zI (mFirst L)), (1, 0, zI P.me), (1, 1, zI P.n), (1, 2, zI P.turn), (1, 3, zI P.iss), (1, 4, .arr 8 (nI P.hd)), (1, 12, zV 1125), (1, 13, zV 1126), (1, 14, .top), (4, 0, .vec 1 9 acc.length (nSt acc)), (1125, 0, .vec 3 81 P.sets.length (rsF P.sets)), (1126, 0, .vec 3 89 P.words.length (rwF P.words))], 1159, 182⟩) ?_
       refine evC_ret ?_
       refine then_ret ?_
       refine post_ret ?_
       refine ends_go [1125, 1126] (AV.int IntKind.i64 11) [(1, 0, zI P.me), (1, 1, zI P.n), (1, 2, zI P.turn), (1, 3, zI P.iss), (1, 4, .arr 8 (nI P.hd)), (1, 12, zV 4), (1, 13, zV 5), (1, 14, .top), (4, 0, .vec 3 81 P.sets.length (rsF P.sets)), (5, 0, .vec 3 89 P.words.length (rwF P.words))] rfl (by decide) rfl rfl (has_of _ rfl) rfl ⟨⟨_, rfl, rfl⟩, ⟨_, rfl, rfl⟩, ⟨_, rfl, rfl⟩, ⟨_, rfl, rfl⟩, ⟨_, rfl, ⟨rfl, fun _ _ => rfl⟩⟩, ⟨_, rfl, rfl⟩, ⟨_, rfl, rfl⟩, ⟨_, rfl, trivial⟩, ⟨_, rfl, ⟨rfl, rfl, rfl, fun _ _ => rfl⟩⟩, ⟨_, rfl, ⟨rfl, rfl, rfl, fun _ _ => rfl⟩⟩, trivial⟩ ⟨fun _ => ⟨1, _, rfl, rfl, rfl, ⟨has_of _ rfl, rfl⟩⟩, fun _ => ⟨1, _, rfl, rfl, rfl, ⟨has_of _ rfl, rfl⟩⟩, fun _ => ⟨1, _, rfl, rfl, rfl, ⟨has_of _ rfl, rfl⟩⟩, fun _ => ⟨1, _, rfl, rfl, rfl, ⟨has_of _ rfl, rfl⟩⟩, fun _ => ⟨1, _, rfl, rfl, rfl, ⟨rfl, fun _ _ => ⟨has_of _ rfl, rfl⟩⟩⟩, fun _ => ⟨1, _, rfl, rfl, rfl, ⟨has_of _ rfl, rfl⟩⟩, fun _ => ⟨1, _, rfl, rfl, rfl, ⟨has_of _ rfl, rfl⟩⟩, fun h => False.elim h, fun h => False.elim h, fun _ => ⟨4, _, rfl, rfl, rfl, ⟨rfl, rfl, rfl, fun _ _ => ⟨has_of _ rfl, rfl⟩⟩⟩, fun _ => ⟨5, _, rfl, rfl, rfl, ⟨rfl, rfl, rfl, fun _ _ => ⟨has_of _ rfl, rfl⟩⟩⟩, trivial⟩ ?_
       exact k5 _ _ rfl
      ·rw [hc] at eE
       clear hc
       simp only [cond_false] at eE
       refine evC_skip ?_
       refine then_normal ?_
       refine evC_seq ?_
       refine evC_go0K (s' := ⟨[(0, 0, zP 1), (0, 1, zS l), (0, 4, zI 0), (0, 5, zV 4), (0, 9, zI (mFrom L)), (0, 10, zI (mTurn L)), (0, 11, zI (mFirst L)), (0, 103, zB (bif decide ((↑acc.length : Int) > 0) then decide (IntKind.i64.wrap (mFirst L + (↑acc.length : Int)) > IntKind.i64.wrap (P.turn + 16)) else false)), (1, 0, zI P.me), (1, 1, zI P.n), (1, 2, zI P.turn), (1, 3, zI P.iss), (1, 4, .arr 8 (nI P.hd)), (1, 12, zV 2), (1, 13, zV 3), (1, 14, .top), (2, 0, .vec 3 81 P.sets.length (rsF P.sets)), (3, 0, .vec 3 89 P.words.length (rwF P.words)), (4, 0, .vec 1 9 acc.length (nSt acc))], 1605, 182⟩) ?_
       rw [i64_in (mFirst L + (acc.length : Int)) (by omega), i64_in (P.turn + 16) (by omega), cond_and]
       have hfar : (decide ((acc.length : Int) > 0) && decide (mFirst L + (acc.length : Int) > P.turn + 16)) = (Nat.blt 0 acc.length && decide (mFirst L + (acc.length : Int) - 1 ≥ P.turn + 16)) := by
        rw [blt_dec']
        congr 1
        by_cases h : mFirst L + (acc.length : Int) > P.turn + 16
        ·rw [decide_eq_true h, decide_eq_true (by omega)]
        ·rw [decide_eq_false h, decide_eq_false (by omega)]
       rw [hfar]
       refine evC_if (q := Nat.blt 0 acc.length && decide (mFirst L + (↑acc.length : Int) - 1 ≥ P.turn + 16)) (by kernel_rfl) (fun hc => ?_) (fun hc => ?_)
       ·have hE : recE P L = 10 := by rw [eE, hc]; rfl
        rw [hP0 (by rw [hE]; decide), hE]
        clear hc
        refine evC_wk (s' := ⟨[(0, 0, zP 1), (0, 1, zS l), (0, 4, zI 0), (0, 5, zV 4), (0, 9, zI (mFrom L)), (0, 10, zI (mTurn L)), (0, 11, zI (mFirst L)), (0, 103, zB (Nat.blt 0 acc.length && decide (mFirst L + (↑acc.length : Int) - 1 ≥ P.turn + 16))), (1, 0, zI P.me), (1, 1, zI P.n), (1, 2, zI P.turn), (1, 3, zI P.iss), (1, 4, .arr 8 (nI P.hd)), (1, 12, zV 1605), (1, 13, zV 3), (1, 14, .top), (1605, 0, .vec 3 81 P.sets.length (rsF P.sets)), (3, 0, .vec 3 89 P.words.length (rwF P.words)), (4, 0, .vec 1 9 acc.length (nSt acc))], 1606, 182⟩) _ (wk_take 2 rfl rfl rfl ⟨⟨_, rfl, rfl⟩, ⟨_, rfl, rfl⟩, ⟨_, rfl, rfl⟩, ⟨_, rfl, rfl⟩, ⟨_, rfl, rfl⟩, ⟨_, rfl, rfl⟩, ⟨_, rfl, rfl⟩, ⟨_, rfl, rfl⟩, ⟨_, rfl, rfl⟩, ⟨_, rfl, rfl⟩, ⟨_, rfl, rfl⟩, ⟨_, rfl, rfl⟩, ⟨_, rfl, rfl, fun _ _ => rfl⟩, ⟨_, rfl, rfl⟩, ⟨_, rfl, rfl⟩, ⟨_, rfl, trivial⟩, ⟨_, rfl, rfl, rfl, rfl, fun _ _ => rfl⟩, ⟨_, rfl, rfl, rfl, rfl, fun _ _ => rfl⟩, ⟨_, rfl, rfl, rfl, rfl, fun _ _ => rfl⟩, trivial⟩) ?_
        refine evC_wk (s' := ⟨[(0, 0, zP 1), (0, 1, zS l), (0, 4, zI 0), (0, 5, zV 4), (0, 9, zI (mFrom L)), (0, 10, zI (mTurn L)), (0, 11, zI (mFirst L)), (0, 103, zB (Nat.blt 0 acc.length && decide (mFirst L + (↑acc.length : Int) - 1 ≥ P.turn + 16))), (1, 0, zI P.me), (1, 1, zI P.n), (1, 2, zI P.turn), (1, 3, zI P.iss), (1, 4, .arr 8 (nI P.hd)), (1, 12, zV 1605), (1, 13, zV 1606), (1, 14, .top), (1605, 0, .vec 3 81 P.sets.length (rsF P.sets)), (1606, 0, .vec 3 89 P.words.length (rwF P.words)), (4, 0, .vec 1 9 acc.length (nSt acc))], 1607, 182⟩) _ (wk_take 3 rfl rfl rfl ⟨⟨_, rfl, rfl⟩, ⟨_, rfl, rfl⟩, ⟨_, rfl, rfl⟩, ⟨_, rfl, rfl⟩, ⟨_, rfl, rfl⟩, ⟨_, rfl, rfl⟩, ⟨_, rfl, rfl⟩, ⟨_, rfl, rfl⟩, ⟨_, rfl, rfl⟩, ⟨_, rfl, rfl⟩, ⟨_, rfl, rfl⟩, ⟨_, rfl, rfl⟩, ⟨_, rfl, rfl, fun _ _ => rfl⟩, ⟨_, rfl, rfl⟩, ⟨_, rfl, rfl⟩, ⟨_, rfl, trivial⟩, ⟨_, rfl, rfl, rfl, rfl, fun _ _ => rfl⟩, ⟨_, rfl, rfl, rfl, rfl, fun _ _ => rfl⟩, ⟨_, rfl, rfl, rfl, rfl, fun _ _ => rfl⟩, trivial⟩) ?_
        refine evC_go0K (s' := ⟨[(0, 0, zP 1), (0, 1, zS l), (0, 4, zI 10), (0, 5, zV 4), (0, 9, zI (mFrom L)), (0, 10, zI (mTurn L)), (0, 11, zI (mFirst L)), (1, 0, zI P.me), (1, 1, zI P.n), (1, 2, zI P.turn), (1, 3, zI P.iss), (1, 4, .arr 8 (nI P.hd)), (1, 12, zV 1605), (1, 13, zV 1606), (1, 14, .top), (4, 0, .vec 1 9 acc.length (nSt acc)), (1605, 0, .vec 3 81 P.sets.length (rsF P.sets)), (1606, 0, .vec 3 89 P.words.length (rwF P.words))], 1639, 182⟩) ?_
        refine evC_ret ?_
        refine then_ret ?_
        refine post_ret ?_
        refine ends_go [1605, 1606] (AV.int IntKind.i64 10) [(1, 0, zI P.me), (1, 1, zI P.n), (1, 2, zI P.turn), (1, 3, zI P.iss), (1, 4, .arr 8 (nI P.hd)), (1, 12, zV 4), (1, 13, zV 5), (1, 14, .top), (4, 0, .vec 3 81 P.sets.length (rsF P.sets)), (5, 0, .vec 3 89 P.words.length (rwF P.words))] rfl (by decide) rfl rfl (has_of _ rfl) rfl ⟨⟨_, rfl, rfl⟩, ⟨_, rfl, rfl⟩, ⟨_, rfl, rfl⟩, ⟨_, rfl, rfl⟩, ⟨_, rfl, ⟨rfl, fun _ _ => rfl⟩⟩, ⟨_, rfl, rfl⟩, ⟨_, rfl, rfl⟩, ⟨_, rfl, trivial⟩, ⟨_, rfl, ⟨rfl, rfl, rfl, fun _ _ => rfl⟩⟩, ⟨_, rfl, ⟨rfl, rfl, rfl, fun _ _ => rfl⟩⟩, trivial⟩ ⟨fun _ => ⟨1, _, rfl, rfl, rfl, ⟨has_of _ rfl, rfl⟩⟩, fun _ => ⟨1, _, rfl, rfl, rfl, ⟨has_of _ rfl, rfl⟩⟩, fun _ => ⟨1, _, rfl, rfl, rfl, ⟨has_of _ rfl, rfl⟩⟩, fun _ => ⟨1, _, rfl, rfl, rfl, ⟨has_of _ rfl, rfl⟩⟩, fun _ => ⟨1, _, rfl, rfl, rfl, ⟨rfl, fun _ _ => ⟨has_of _ rfl, rfl⟩⟩⟩, fun _ => ⟨1, _, rfl, rfl, rfl, ⟨has_of _ rfl, rfl⟩⟩, fun _ => ⟨1, _, rfl, rfl, rfl, ⟨has_of _ rfl, rfl⟩⟩, fun h => False.elim h, fun h => False.elim h, fun _ => ⟨4, _, rfl, rfl, rfl, ⟨rfl, rfl, rfl, fun _ _ => ⟨has_of _ rfl, rfl⟩⟩⟩, fun _ => ⟨5, _, rfl, rfl, rfl, ⟨rfl, rfl, rfl, fun _ _ => ⟨has_of _ rfl, rfl⟩⟩⟩, trivial⟩ ?_
        exact k5 _ _ rfl
       ·have hE : recE P L = 0 := by rw [eE, hc]; rfl
        have hP : recP P L = ⟨P.me, P.n, P.turn, P.iss, recH P L, recS (mFrom L) (mFirst L) acc P.sets acc.length, recW P L⟩ := by unfold recP; rw [hE, hF1]; rfl
        rw [hE, hP]
        clear hc eE hE hP hP0 hE1 hfar
        refine evC_skip ?_
        refine then_normal ?_
        refine evC_wk (s' := ⟨[(0, 0, zP 1), (0, 1, zS l), (0, 4, zI 0), (0, 5, zV 4), (0, 9, zI (mFrom L)), (0, 10, zI (mTurn L)), (0, 11, zI (mFirst L)), (0, 103, zB (Nat.blt 0 acc.length && decide (mFirst L + (↑acc.length : Int) - 1 ≥ P.turn + 16))), (1, 0, zI P.me), (1, 1, zI P.n), (1, 2, zI P.turn), (1, 3, zI P.iss), (1, 4, .arr 8 (nI P.hd)), (1, 12, zV 1605), (1, 13, zV 3), (1, 14, .top), (1605, 0, .vec 3 81 P.sets.length (rsF P.sets)), (3, 0, .vec 3 89 P.words.length (rwF P.words)), (4, 0, .vec 1 9 acc.length (nSt acc))], 1606, 182⟩) _ (wk_take 2 rfl rfl rfl ⟨⟨_, rfl, rfl⟩, ⟨_, rfl, rfl⟩, ⟨_, rfl, rfl⟩, ⟨_, rfl, rfl⟩, ⟨_, rfl, rfl⟩, ⟨_, rfl, rfl⟩, ⟨_, rfl, rfl⟩, ⟨_, rfl, rfl⟩, ⟨_, rfl, rfl⟩, ⟨_, rfl, rfl⟩, ⟨_, rfl, rfl⟩, ⟨_, rfl, rfl⟩, ⟨_, rfl, rfl, fun _ _ => rfl⟩, ⟨_, rfl, rfl⟩, ⟨_, rfl, rfl⟩, ⟨_, rfl, trivial⟩, ⟨_, rfl, rfl, rfl, rfl, fun _ _ => rfl⟩, ⟨_, rfl, rfl, rfl, rfl, fun _ _ => rfl⟩, ⟨_, rfl, rfl, rfl, rfl, fun _ _ => rfl⟩, trivial⟩) ?_
        refine evC_wk (s' := ⟨[(0, 0, zP 1), (0, 1, zS l), (0, 4, zI 0), (0, 5, zV 4), (0, 9, zI (mFrom L)), (0, 10, zI (mTurn L)), (0, 11, zI (mFirst L)), (0, 103, zB (Nat.blt 0 acc.length && decide (mFirst L + (↑acc.length : Int) - 1 ≥ P.turn + 16))), (1, 0, zI P.me), (1, 1, zI P.n), (1, 2, zI P.turn), (1, 3, zI P.iss), (1, 4, .arr 8 (nI P.hd)), (1, 12, zV 1605), (1, 13, zV 1606), (1, 14, .top), (1605, 0, .vec 3 81 P.sets.length (rsF P.sets)), (1606, 0, .vec 3 89 P.words.length (rwF P.words)), (4, 0, .vec 1 9 acc.length (nSt acc))], 1607, 182⟩) _ (wk_take 3 rfl rfl rfl ⟨⟨_, rfl, rfl⟩, ⟨_, rfl, rfl⟩, ⟨_, rfl, rfl⟩, ⟨_, rfl, rfl⟩, ⟨_, rfl, rfl⟩, ⟨_, rfl, rfl⟩, ⟨_, rfl, rfl⟩, ⟨_, rfl, rfl⟩, ⟨_, rfl, rfl⟩, ⟨_, rfl, rfl⟩, ⟨_, rfl, rfl⟩, ⟨_, rfl, rfl⟩, ⟨_, rfl, rfl, fun _ _ => rfl⟩, ⟨_, rfl, rfl⟩, ⟨_, rfl, rfl⟩, ⟨_, rfl, trivial⟩, ⟨_, rfl, rfl, rfl, rfl, fun _ _ => rfl⟩, ⟨_, rfl, rfl, rfl, rfl, fun _ _ => rfl⟩, ⟨_, rfl, rfl, rfl, rfl, fun _ _ => rfl⟩, trivial⟩) ?_
        have hf8 : mFrom L < (8 : Int) := by omega
        refine evC_seq ?_
        refine evC_goK (ps := [(0 : Int) ≤ mFrom L, mFrom L < (↑(8 : Nat) : Int), (0 : Int) ≤ mFrom L, mFrom L < (↑(8 : Nat) : Int)]) (s' := ⟨[(0, 0, zP 1), (0, 1, zS l), (0, 4, zI 0), (0, 5, zV 4), (0, 9, zI (mFrom L)), (0, 10, zI (mTurn L)), (0, 11, zI (mFirst L)), (0, 111, zB (decide (mTurn L > P.hd (Int.toNat (mFrom L))))), (1, 0, zI P.me), (1, 1, zI P.n), (1, 2, zI P.turn), (1, 3, zI P.iss), (1, 4, .arr 8 (nI P.hd)), (1, 12, zV 1605), (1, 13, zV 1606), (1, 14, .top), (4, 0, .vec 1 9 acc.length (nSt acc)), (1605, 0, .vec 3 81 P.sets.length (rsF P.sets)), (1606, 0, .vec 3 89 P.words.length (rwF P.words))], 1863, 182⟩) ?_ ?_
        ·exact ⟨t0.1, hf8, t0.1, hf8⟩
        refine evC_cutThen (ι := Unit) (fun _ => ⟨[(0, 0, zP 1), (0, 1, zS l), (0, 4, zI 0), (0, 5, zV 4), (0, 9, zI (mFrom L)), (0, 10, zI (mTurn L)), (0, 11, zI (mFirst L)), (0, 111, zB (decide (mTurn L > P.hd (Int.toNat (mFrom L))))), (1, 0, zI P.me), (1, 1, zI P.n), (1, 2, zI P.turn), (1, 3, zI P.iss), (1, 4, .arr 8 (nI (recH P L))), (1, 12, zV 5), (1, 13, zV 6), (1, 14, .top), (4, 0, .vec 1 9 acc.length (nSt acc)), (5, 0, .vec 3 81 P.sets.length (rsF P.sets)), (6, 0, .vec 3 89 P.words.length (rwF P.words))], 7, 182⟩) ?_ ?_
        ·refine evC_if (q := decide (mTurn L > P.hd (Int.toNat (mFrom L)))) (by kernel_rfl) (fun hc => ?_) (fun hc => ?_)
         ·have hgt := of_decide_eq_true hc
          refine evC_goLK (ps := [(0 : Int) ≤ mFrom L, mFrom L < (↑(8 : Nat) : Int), (0 : Int) ≤ mFrom L, mFrom L < (↑(8 : Nat) : Int)]) (s' := ⟨[(0, 0, zP 1), (0, 1, zS l), (0, 4, zI 0), (0, 5, zV 4), (0, 9, zI (mFrom L)), (0, 10, zI (mTurn L)), (0, 11, zI (mFirst L)), (0, 111, zB (decide (mTurn L > P.hd (Int.toNat (mFrom L))))), (1, 0, zI P.me), (1, 1, zI P.n), (1, 2, zI P.turn), (1, 3, zI P.iss), (1, 4, .arr 8 fun j => bif j == Int.toNat (mFrom L) then AV.int IntKind.i64 (mTurn L) else nI P.hd j), (1, 12, zV 1605), (1, 13, zV 1606), (1, 14, .top), (4, 0, .vec 1 9 acc.length (nSt acc)), (1605, 0, .vec 3 81 P.sets.length (rsF P.sets)), (1606, 0, .vec 3 89 P.words.length (rwF P.words))], 2087, 182⟩) ?_ ?_
          ·exact ⟨t0.1, hf8, t0.1, hf8⟩
          refine cut_normal (()) (wk_go [4, 1605, 1606] rfl (by decide) rfl rfl ⟨⟨_, rfl, rfl⟩, ⟨_, rfl, rfl⟩, ⟨_, rfl, rfl⟩, ⟨_, rfl, rfl⟩, ⟨_, rfl, rfl⟩, ⟨_, rfl, rfl⟩, ⟨_, rfl, rfl⟩, ⟨_, rfl, rfl⟩, ⟨_, rfl, rfl⟩, ⟨_, rfl, rfl⟩, ⟨_, rfl, rfl⟩, ⟨_, rfl, rfl⟩, ⟨_, rfl, ?_⟩, ⟨_, rfl, rfl⟩, ⟨_, rfl, rfl⟩, ⟨_, rfl, trivial⟩, ⟨_, rfl, ⟨rfl, rfl, rfl, fun _ _ => rfl⟩⟩, ⟨_, rfl, ⟨rfl, rfl, rfl, fun _ _ => rfl⟩⟩, ⟨_, rfl, ⟨rfl, rfl, rfl, fun _ _ => rfl⟩⟩, trivial⟩)
          refine ⟨rfl, fun j hj => ?_⟩
          show (bif j == (mFrom L).toNat then AV.int .i64 (mTurn L) else nI P.hd j) = AV.int .i64 (bif j == (mFrom L).toNat then mx2 (P.hd j) (mTurn L) else P.hd j)
          cases hb : j == (mFrom L).toNat with
          | true =>
            have : j = (mFrom L).toNat := by simpa using hb
            rw [this]
            unfold mx2
            rw [if_pos hgt]; rfl
          | false => rfl
         ·have hgt := of_decide_eq_false hc
          refine evC_skip ?_
          refine cut_normal (()) (wk_go [4, 1605, 1606] rfl (by decide) rfl rfl ⟨⟨_, rfl, rfl⟩, ⟨_, rfl, rfl⟩, ⟨_, rfl, rfl⟩, ⟨_, rfl, rfl⟩, ⟨_, rfl, rfl⟩, ⟨_, rfl, rfl⟩, ⟨_, rfl, rfl⟩, ⟨_, rfl, rfl⟩, ⟨_, rfl, rfl⟩, ⟨_, rfl, rfl⟩, ⟨_, rfl, rfl⟩, ⟨_, rfl, rfl⟩, ⟨_, rfl, ?_⟩, ⟨_, rfl, rfl⟩, ⟨_, rfl, rfl⟩, ⟨_, rfl, trivial⟩, ⟨_, rfl, ⟨rfl, rfl, rfl, fun _ _ => rfl⟩⟩, ⟨_, rfl, ⟨rfl, rfl, rfl, fun _ _ => rfl⟩⟩, ⟨_, rfl, ⟨rfl, rfl, rfl, fun _ _ => rfl⟩⟩, trivial⟩)
          refine ⟨rfl, fun j hj => ?_⟩
          show nI P.hd j = AV.int .i64 (bif j == (mFrom L).toNat then mx2 (P.hd j) (mTurn L) else P.hd j)
          cases hb : j == (mFrom L).toNat with
          | true =>
            have : j = (mFrom L).toNat := by simpa using hb
            rw [this]
            unfold mx2
            rw [if_neg hgt]; rfl
          | false => rfl
        intro _
        refine evC_seq ?_
        refine evC_goK (ps := [(0 : Int) ≤ 6, (6 : Int) ≤ 14, (14 : Int) ≤ ↑(ByteArray.size l), ByteArray.size (ByteArray.extract l (Int.toNat (6 : Int)) (Int.toNat (14 : Int))) ≤ (8 : Nat)]) (s' := ⟨[(0, 0, zP 1), (0, 4, zI 0), (0, 5, zV 4), (0, 9, zI (mFrom L)), (0, 10, zI (mTurn L)), (0, 11, zI (mFirst L)), (0, 12, zU (numL (blS (ByteArray.extract l (Int.toNat 6) (Int.toNat 14))))), (1, 0, zI P.me), (1, 1, zI P.n), (1, 2, zI P.turn), (1, 3, zI P.iss), (1, 4, .arr 8 (nI (recH P L))), (1, 12, zV 5), (1, 13, zV 6), (1, 14, .top), (4, 0, .vec 1 9 acc.length (nSt acc)), (5, 0, .vec 3 81 P.sets.length (rsF P.sets)), (6, 0, .vec 3 89 P.words.length (rwF P.words))], 135, 182⟩) ?_ ?_
        ·exact ⟨by decide, by decide, (by show (14 : Int) ≤ (l.size : Int); omega), s3⟩
        rw [show Int.toNat 6 = 6 from rfl, show Int.toNat 14 = 14 from rfl, x3, show numL ((L.drop 6).take 8) = mWord L from rfl]
        refine evC_goK (ps := [List.all [bif decide (mTurn L > (0 : Int)) then mWord L != (0 : Int) else false] id = true → (0 < 1 ∧ 0 < 5 ∧ 0 < 6 ∧ 1 ≠ 5 ∧ 1 ≠ 6 ∧ 5 ≠ 6) ∧ (∀ (i : Nat), i < P.sets.length → rsF P.sets i = rsF (rsL P.sets.length (rsF P.sets)) i) ∧ (∀ (i : Nat), i < P.words.length → rwF P.words i = rwF (rwL P.words.length (rwF P.words)) i) ∧ ∀ (i : Nat), i < (8 : Nat) → nI (recH P L) i = nI (If (nI (recH P L))) i, List.all [bif decide (mTurn L > (0 : Int)) then mWord L != (0 : Int) else false] id = true → List.length (rwL P.words.length (rwF P.words)) ≤ (1000000 : Nat)]) (s' := ⟨[(0, 0, zP 1), (0, 4, zI 0), (0, 5, zV 4), (0, 9, zI (mFrom L)), (0, 10, zI (mTurn L)), (0, 11, zI (mFirst L)), (0, 12, zU (mWord L)), (0, 133, zB (bif bif decide (mTurn L > 0) then mWord L != 0 else false then wordV { me := P.me, n := P.n, turn := P.turn, iss := P.iss, hd := If (nI (recH P L)), sets := rsL P.sets.length (rsF P.sets), words := rwL P.words.length (rwF P.words) } (mTurn L) (mFrom L) == 0 else false)), (1, 0, zI P.me), (1, 1, zI P.n), (1, 2, zI P.turn), (1, 3, zI P.iss), (1, 4, .arr 8 (nI (recH P L))), (1, 12, zV 5), (1, 13, zV 6), (1, 14, .top), (4, 0, .vec 1 9 acc.length (nSt acc)), (5, 0, .vec 3 81 P.sets.length (rsF P.sets)), (6, 0, .vec 3 89 P.words.length (rwF P.words))], 551, 182⟩) ?_ ?_
        ·exact ⟨fun _ => ref_side (⟨P.me, P.n, P.turn, P.iss, recH P L, P.sets, P.words⟩ : Peer) ⟨by decide, by decide, by decide, by decide, by decide, by decide⟩, fun _ => by rw [rwL_len]; exact hR.2.2⟩
        have hwz : ∀ a b c d e f, (wordV ⟨a, b, c, d, e, f, rwL P.words.length (rwF P.words)⟩ (mTurn L) (mFrom L) == 0) = !(kget P.words (mTurn L) (mFrom L)).isSome := fun a b c d e f => by
         unfold wordV
         rw [rwL_rwF]
         cases hk : kget P.words (mTurn L) (mFrom L) with
         | none => rfl
         | some v => simpa using hW _ (kget_in hk)
        rw [hwz, cond_and, cond_and]
        have hcw : (decide (mTurn L > 0) && mWord L != 0 && !(kget P.words (mTurn L) (mFrom L)).isSome) = (!(kget P.words (mTurn L) (mFrom L)).isSome && decide (mTurn L > 0) && (mWord L != 0)) := by
         cases (kget P.words (mTurn L) (mFrom L)).isSome <;> cases decide (mTurn L > 0) <;> cases mWord L != 0 <;> rfl
        rw [hcw]
        have hl1 := hN.2
        refine evC_cutThen (ι := Unit) (fun _ => ⟨[(0, 0, zP 1), (0, 4, zI 0), (0, 5, zV 4), (0, 9, zI (mFrom L)), (0, 10, zI (mTurn L)), (0, 11, zI (mFirst L)), (0, 12, zU (mWord L)), (0, 133, zB (!Option.isSome (kget P.words (mTurn L) (mFrom L)) && decide (mTurn L > 0) && mWord L != 0)), (1, 0, zI P.me), (1, 1, zI P.n), (1, 2, zI P.turn), (1, 3, zI P.iss), (1, 4, .arr 8 (nI (recH P L))), (1, 12, zV 5), (1, 13, zV 6), (1, 14, .top), (4, 0, .vec 1 9 acc.length (nSt acc)), (5, 0, .vec 3 81 P.sets.length (rsF P.sets)), (6, 0, .vec 3 89 (recW P L).length (rwF (recW P L)))], 7, 182⟩) ?_ ?_
        ·refine evC_if (q := !Option.isSome (kget P.words (mTurn L) (mFrom L)) && decide (mTurn L > 0) && mWord L != 0) (by kernel_rfl) (fun hc => ?_) (fun hc => ?_)
         ·have hno : kget P.words (mTurn L) (mFrom L) = none := by
           cases h : kget P.words (mTurn L) (mFrom L) with
           | none => rfl
           | some v => rw [h] at hc; simp at hc
          have hWc : recW P L = P.words ++ [((mTurn L, mFrom L), mWord L)] := by unfold recW; rw [hc, cond_true, kput_new hno]
          rw [hWc]
          refine evC_goLK (ps := [(P.words.length + (1 : Nat)) * 24 ≤ 140737488355328, P.words.length + (1 : Nat) ≤ maxLen, 1 = 0 ∨ 3 = 3, 3 = 3, 89 = 89]) (s' := ⟨[(0, 0, zP 1), (0, 4, zI 0), (0, 5, zV 4), (0, 9, zI (mFrom L)), (0, 10, zI (mTurn L)), (0, 11, zI (mFirst L)), (0, 12, zU (mWord L)), (0, 133, zB (!Option.isSome (kget P.words (mTurn L) (mFrom L)) && decide (mTurn L > 0) && mWord L != 0)), (1, 0, zI P.me), (1, 1, zI P.n), (1, 2, zI P.turn), (1, 3, zI P.iss), (1, 4, .arr 8 (nI (recH P L))), (1, 12, zV 5), (1, 13, zV 871), (1, 14, .top), (4, 0, .vec 1 9 acc.length (nSt acc)), (5, 0, .vec 3 81 P.sets.length (rsF P.sets)), (871, 0, .vec 3 89 (P.words.length + 1) (catF P.words.length (rwF P.words) (pget [(0, AV.agg ([AV.int IntKind.i64 (mTurn L), AV.int IntKind.i64 (mFrom L)] ++ AV.cells (AV.int IntKind.u64 (mWord L)) ++ []))])))], 999, 182⟩) ?_ ?_
          ·exact ⟨by omega, by unfold maxLen; omega, .inr rfl, rfl, rfl⟩
          refine cut_normal (()) (wk_go [4, 5, 871] rfl (by decide) rfl rfl ⟨⟨_, rfl, rfl⟩, ⟨_, rfl, rfl⟩, ⟨_, rfl, rfl⟩, ⟨_, rfl, rfl⟩, ⟨_, rfl, rfl⟩, ⟨_, rfl, rfl⟩, ⟨_, rfl, rfl⟩, ⟨_, rfl, rfl⟩, ⟨_, rfl, rfl⟩, ⟨_, rfl, rfl⟩, ⟨_, rfl, rfl⟩, ⟨_, rfl, rfl⟩, ⟨_, rfl, ⟨rfl, fun _ _ => rfl⟩⟩, ⟨_, rfl, rfl⟩, ⟨_, rfl, rfl⟩, ⟨_, rfl, trivial⟩, ⟨_, rfl, ⟨rfl, rfl, rfl, fun _ _ => rfl⟩⟩, ⟨_, rfl, ⟨rfl, rfl, rfl, fun _ _ => rfl⟩⟩, ⟨_, rfl, ?_⟩, trivial⟩)
          exact ⟨rfl, rfl, by rw [List.length_append]; rfl, fun i hi => cat_rw P.words ((mTurn L, mFrom L), mWord L) rfl i (by rw [List.length_append] at hi; exact hi)⟩
         ·have hWc : recW P L = P.words := by unfold recW; rw [hc]; rfl
          rw [hWc]
          refine evC_skip ?_
          refine cut_normal (()) (wk_go [4, 5, 6] rfl (by decide) rfl rfl ⟨⟨_, rfl, rfl⟩, ⟨_, rfl, rfl⟩, ⟨_, rfl, rfl⟩, ⟨_, rfl, rfl⟩, ⟨_, rfl, rfl⟩, ⟨_, rfl, rfl⟩, ⟨_, rfl, rfl⟩, ⟨_, rfl, rfl⟩, ⟨_, rfl, rfl⟩, ⟨_, rfl, rfl⟩, ⟨_, rfl, rfl⟩, ⟨_, rfl, rfl⟩, ⟨_, rfl, ⟨rfl, fun _ _ => rfl⟩⟩, ⟨_, rfl, rfl⟩, ⟨_, rfl, rfl⟩, ⟨_, rfl, trivial⟩, ⟨_, rfl, ⟨rfl, rfl, rfl, fun _ _ => rfl⟩⟩, ⟨_, rfl, ⟨rfl, rfl, rfl, fun _ _ => rfl⟩⟩, ⟨_, rfl, ⟨rfl, rfl, rfl, fun _ _ => rfl⟩⟩, trivial⟩)
        intro _
        refine evC_seq ?_
        refine evC_go0K (s' := ⟨[(0, 0, zP 1), (0, 4, zI 0), (0, 5, zV 4), (0, 9, zI (mFrom L)), (0, 11, zI (mFirst L)), (0, 13, zI 0), (1, 0, zI P.me), (1, 1, zI P.n), (1, 2, zI P.turn), (1, 3, zI P.iss), (1, 4, .arr 8 (nI (recH P L))), (1, 12, zV 5), (1, 13, zV 6), (1, 14, .top), (4, 0, .vec 1 9 acc.length (nSt acc)), (5, 0, .vec 3 81 P.sets.length (rsF P.sets)), (6, 0, .vec 3 89 (List.length (recW P L)) (rwF (recW P L)))], 39, 182⟩) ?_
        have hl2 := hN.1
        have hrU := recS_isU (q := mFrom L) (first := mFirst L) (S := P.sets) hR.1 fun S hS => (c1 S hS).2
        have hrl := recS_len (mFrom L) (mFirst L) acc P.sets
        generalize recW P L = W
        generalize recH P L = hd
        clear hcc
        generalize mFrom L = q at *
        generalize mFirst L = first at *
        refine evC_block ?_
        refine evC_loop (ι := { k : Nat // k ≤ acc.length }) (fun k => ⟨[(0, 0, zP 1), (0, 4, zI 0), (0, 5, zV 4), (0, 9, zI q), (0, 11, zI first), (0, 13, zI (k.1 : Nat)), (1, 0, zI P.me), (1, 1, zI P.n), (1, 2, zI P.turn), (1, 3, zI P.iss), (1, 4, Cont.arr 8 (nI hd)), (1, 12, zV 5), (1, 13, zV 6), (1, 14, Cont.top), (4, 0, Cont.vec 1 9 acc.length (nSt acc)), (5, 0, .vec 3 81 (recS q first acc P.sets k.1).length (rsF (recS q first acc P.sets k.1))), (6, 0, Cont.vec 3 89 W.length (rwF W))], 7, 182⟩) (fun k => acc.length - k.1) ⟨0, Nat.zero_le _⟩ (wk_go [4, 5, 6] rfl (by decide) rfl rfl ⟨⟨_, rfl, rfl⟩, ⟨_, rfl, rfl⟩, ⟨_, rfl, rfl⟩, ⟨_, rfl, rfl⟩, ⟨_, rfl, rfl⟩, ⟨_, rfl, rfl⟩, ⟨_, rfl, rfl⟩, ⟨_, rfl, rfl⟩, ⟨_, rfl, rfl⟩, ⟨_, rfl, rfl⟩, ⟨_, rfl, rfl, fun _ _ => rfl⟩, ⟨_, rfl, rfl⟩, ⟨_, rfl, rfl⟩, ⟨_, rfl, trivial⟩, ⟨_, rfl, rfl, rfl, rfl, fun _ _ => rfl⟩, ⟨_, rfl, ⟨rfl, rfl, rfl, fun _ _ => rfl⟩⟩, ⟨_, rfl, rfl, rfl, rfl, fun _ _ => rfl⟩, trivial⟩) ?_
        rintro ⟨k, hk⟩
        have hk : k ≤ acc.length := hk
        refine evC_seq ?_
        refine evC_go0K (s' := ⟨[(0, 0, zP 1), (0, 4, zI 0), (0, 5, zV 4), (0, 9, zI q), (0, 11, zI first), (0, 13, zI k), (0, 150, zB (decide ((↑k : Int) < ↑acc.length))), (1, 0, zI P.me), (1, 1, zI P.n), (1, 2, zI P.turn), (1, 3, zI P.iss), (1, 4, .arr 8 (nI hd)), (1, 12, zV 5), (1, 13, zV 6), (1, 14, .top), (4, 0, .vec 1 9 acc.length (nSt acc)), (5, 0, .vec 3 81 (List.length (recS q first acc P.sets k)) (rsF (recS q first acc P.sets k))), (6, 0, .vec 3 89 W.length (rwF W))], 135, 182⟩) ?_
        refine evC_if (q := decide ((↑k : Int) < (↑(List.length acc) : Int))) (by kernel_rfl) (fun hc => ?_) (fun hc => ?_)
        ·have hlt : k < acc.length := by have := of_decide_eq_true hc; omega
         clear hc
         have hrs : recS q first acc P.sets (k + 1) = bif kn (recS q first acc P.sets k) (first + (k : Nat)) q then recS q first acc P.sets k else kput (recS q first acc P.sets k) (first + (k : Nat)) q (acc.getD k []) := rfl
         have hSU := hrU k
         have hSl : (recS q first acc P.sets k).length ≤ 900255 := by
          have h1 := hrl k
          have h2 : P.sets.length ≤ 900000 := hl2
          have h3 : acc.length ≤ 255 := c2
          have h4 : k < acc.length := hlt
          omega
         generalize recS q first acc P.sets k = S at hrs hSU hSl ⊢
         refine evC_skip ?_
         refine then_normal ?_
         refine evC_seq ?_
         refine evC_block ?_
         refine evC_goK (ps := [(0 < 1 ∧ 0 < 5 ∧ 0 < 6 ∧ 1 ≠ 5 ∧ 1 ≠ 6 ∧ 5 ≠ 6) ∧ (∀ (i : Nat), i < S.length → rsF S i = rsF (rsL S.length (rsF S)) i) ∧ (∀ (i : Nat), i < W.length → rwF W i = rwF (rwL W.length (rwF W)) i) ∧ ∀ (i : Nat), i < (8 : Nat) → nI hd i = nI (If (nI hd)) i, List.length (rsL S.length (rsF S)) ≤ (1000000 : Nat)]) (s' := ⟨[(0, 0, zP 1), (0, 4, zI 0), (0, 5, zV 4), (0, 9, zI q), (0, 11, zI first), (0, 13, zI k), (0, 15, zB (knownB { me := P.me, n := P.n, turn := P.turn, iss := P.iss, hd := If (nI hd), sets := rsL S.length (rsF S), words := rwL W.length (rwF W) } (IntKind.i64.wrap (first + (↑k : Int))) q)), (1, 0, zI P.me), (1, 1, zI P.n), (1, 2, zI P.turn), (1, 3, zI P.iss), (1, 4, .arr 8 (nI hd)), (1, 12, zV 5), (1, 13, zV 6), (1, 14, .top), (4, 0, .vec 1 9 acc.length (nSt acc)), (5, 0, .vec 3 81 S.length (rsF S)), (6, 0, .vec 3 89 W.length (rwF W))], 487, 182⟩) ?_ ?_
         ·exact ⟨ref_side (⟨P.me, P.n, P.turn, P.iss, hd, S, W⟩ : Peer) ⟨by decide, by decide, by decide, by decide, by decide, by decide⟩, by rw [rsL_len]; exact Nat.le_trans hSl (by decide)⟩
         have hkn : ∀ a b c d e w, knownB ⟨a, b, c, d, e, rsL S.length (rsF S), w⟩ (first + (k : Int)) q = kn S (first + (k : Int)) q := fun a b c d e w => by unfold knownB kn; rw [rsL_rsF hSU]
         rw [i64_in (first + (k : Int)) (by omega), hkn]
         refine evC_go0K (s' := ⟨[(0, 0, zP 1), (0, 4, zI 0), (0, 5, zV 4), (0, 9, zI q), (0, 11, zI first), (0, 13, zI k), (0, 163, zB (!kn S (first + (↑k : Int)) q)), (1, 0, zI P.me), (1, 1, zI P.n), (1, 2, zI P.turn), (1, 3, zI P.iss), (1, 4, .arr 8 (nI hd)), (1, 12, zV 5), (1, 13, zV 6), (1, 14, .top), (4, 0, .vec 1 9 acc.length (nSt acc)), (5, 0, .vec 3 81 S.length (rsF S)), (6, 0, .vec 3 89 W.length (rwF W))], 551, 182⟩) ?_
         refine evC_if (q := !kn S (first + (↑k : Int)) q) (by kernel_rfl) (fun hc => ?_) (fun hc => ?_)
         ·have hb : kn S (first + (k : Int)) q = false := by simpa using hc
          have hno : kget S (first + (k : Int)) q = none := by
           unfold kn at hb
           cases h : kget S (first + (k : Int)) q with
           | none => rfl
           | some v => rw [h] at hb; simp at hb
          rw [hb, cond_false, kput_new hno] at hrs
          clear hc hb
          refine evC_goLK (ps := [(0 : Int) ≤ ↑k, (↑k : Int) < ↑acc.length, 1 = 1, (0 : Int) ≤ ↑k, (↑k : Int) < ↑acc.length, 1 = 1, (S.length + (1 : Nat)) * 32 ≤ 140737488355328, S.length + (1 : Nat) ≤ maxLen, 1 = 0 ∨ 3 = 3, 3 = 3, 81 = 81]) (s' := ⟨[(0, 0, zP 1), (0, 4, zI 0), (0, 5, zV 4), (0, 9, zI q), (0, 11, zI first), (0, 13, zI k), (1, 0, zI P.me), (1, 1, zI P.n), (1, 2, zI P.turn), (1, 3, zI P.iss), (1, 4, .arr 8 (nI hd)), (1, 12, zV 1031), (1, 13, zV 6), (1, 14, .top), (4, 0, .vec 1 9 acc.length (nSt acc)), (6, 0, .vec 3 89 W.length (rwF W)), (1031, 0, .vec 3 81 (S.length + 1) (catF S.length (rsF S) (pget [(0, AV.agg ([AV.int IntKind.i64 (IntKind.i64.wrap (first + (↑k : Int))), AV.int IntKind.i64 q] ++ AV.cells (nSt acc k) ++ []))])))], 1159, 182⟩) ?_ ?_
          ·have hlk : (k : Int) < (acc.length : Int) := by omega
           have hk0 : (0 : Int) ≤ (k : Int) := by omega
           exact ⟨hk0, hlk, rfl, hk0, hlk, rfl, by omega, by unfold maxLen; omega, .inr rfl, rfl, rfl⟩
          rw [i64_in (first + (k : Int)) (by omega)]
          refine block_normal ?_
          refine then_normal ?_
          refine evC_goL0K (s' := ⟨[(0, 0, zP 1), (0, 4, zI 0), (0, 5, zV 4), (0, 9, zI q), (0, 11, zI first), (0, 13, zI (IntKind.i64.wrap ((↑k : Int) + 1))), (1, 0, zI P.me), (1, 1, zI P.n), (1, 2, zI P.turn), (1, 3, zI P.iss), (1, 4, .arr 8 (nI hd)), (1, 12, zV 1031), (1, 13, zV 6), (1, 14, .top), (4, 0, .vec 1 9 acc.length (nSt acc)), (6, 0, .vec 3 89 W.length (rwF W)), (1031, 0, .vec 3 81 (S.length + 1) (catF S.length (rsF S) (pget [(0, AV.agg ([AV.int IntKind.i64 (first + (↑k : Int)), AV.int IntKind.i64 q] ++ AV.cells (nSt acc k) ++ []))])))], 1255, 182⟩) ?_
          rw [i64_in ((k : Int) + 1) (by omega)]
          refine round_normal (⟨k + 1, hlt⟩) (wk_go [4, 1031, 6] rfl (by decide) rfl rfl ⟨⟨_, rfl, rfl⟩, ⟨_, rfl, rfl⟩, ⟨_, rfl, rfl⟩, ⟨_, rfl, rfl⟩, ⟨_, rfl, rfl⟩, ⟨_, rfl, rfl⟩, ⟨_, rfl, rfl⟩, ⟨_, rfl, rfl⟩, ⟨_, rfl, rfl⟩, ⟨_, rfl, rfl⟩, ⟨_, rfl, ⟨rfl, fun _ _ => rfl⟩⟩, ⟨_, rfl, rfl⟩, ⟨_, rfl, rfl⟩, ⟨_, rfl, trivial⟩, ⟨_, rfl, ⟨rfl, rfl, rfl, fun _ _ => rfl⟩⟩, ⟨_, rfl, ?_⟩, ⟨_, rfl, ⟨rfl, rfl, rfl, fun _ _ => rfl⟩⟩, trivial⟩) ?_
          ·show CW _ (.vec 3 81 (recS q first acc P.sets (k + 1)).length (rsF (recS q first acc P.sets (k + 1)))) _
           rw [hrs]
           exact ⟨rfl, rfl, by rw [List.length_append]; rfl, fun i hi => cat_rs S ((first + (k : Int), q), acc.getD k []) rfl i (by rw [List.length_append] at hi; exact hi)⟩
          ·show acc.length - (k + 1) < acc.length - k
           omega
         ·have hb : kn S (first + (k : Int)) q = true := by simpa using hc
          rw [hb, cond_true] at hrs
          clear hc hb
          refine evC_skip ?_
          refine block_normal ?_
          refine then_normal ?_
          refine evC_goL0K (s' := ⟨[(0, 0, zP 1), (0, 4, zI 0), (0, 5, zV 4), (0, 9, zI q), (0, 11, zI first), (0, 13, zI (IntKind.i64.wrap ((↑k : Int) + 1))), (1, 0, zI P.me), (1, 1, zI P.n), (1, 2, zI P.turn), (1, 3, zI P.iss), (1, 4, .arr 8 (nI hd)), (1, 12, zV 5), (1, 13, zV 6), (1, 14, .top), (4, 0, .vec 1 9 acc.length (nSt acc)), (5, 0, .vec 3 81 S.length (rsF S)), (6, 0, .vec 3 89 W.length (rwF W))], 647, 182⟩) ?_
          rw [i64_in ((k : Int) + 1) (by omega)]
          refine round_normal (⟨k + 1, hlt⟩) (wk_go [4, 5, 6] rfl (by decide) rfl rfl ⟨⟨_, rfl, rfl⟩, ⟨_, rfl, rfl⟩, ⟨_, rfl, rfl⟩, ⟨_, rfl, rfl⟩, ⟨_, rfl, rfl⟩, ⟨_, rfl, rfl⟩, ⟨_, rfl, rfl⟩, ⟨_, rfl, rfl⟩, ⟨_, rfl, rfl⟩, ⟨_, rfl, rfl⟩, ⟨_, rfl, ⟨rfl, fun _ _ => rfl⟩⟩, ⟨_, rfl, rfl⟩, ⟨_, rfl, rfl⟩, ⟨_, rfl, trivial⟩, ⟨_, rfl, ⟨rfl, rfl, rfl, fun _ _ => rfl⟩⟩, ⟨_, rfl, ?_⟩, ⟨_, rfl, ⟨rfl, rfl, rfl, fun _ _ => rfl⟩⟩, trivial⟩) ?_
          ·show CW _ (.vec 3 81 (recS q first acc P.sets (k + 1)).length (rsF (recS q first acc P.sets (k + 1)))) _
           rw [hrs]
           exact ⟨rfl, rfl, rfl, fun i hi => rfl⟩
          ·show acc.length - (k + 1) < acc.length - k
           omega
        ·have hkN : k = acc.length := by have := of_decide_eq_false hc; omega
         subst hkN
         clear hc
         refine evC_exit ?_
         refine then_exit ?_
         refine round_exit ?_
         refine block_exit ?_
         refine then_normal ?_
         refine evC_go0K (s' := ⟨[(0, 4, zI 0), (1, 0, zI P.me), (1, 1, zI P.n), (1, 2, zI P.turn), (1, 3, zI P.iss), (1, 4, .arr 8 (nI hd)), (1, 12, zV 5), (1, 13, zV 6), (1, 14, .top), (5, 0, .vec 3 81 (List.length (recS q first acc P.sets acc.length)) (rsF (recS q first acc P.sets acc.length))), (6, 0, .vec 3 89 W.length (rwF W))], 167, 182⟩) ?_
         refine evC_ret ?_
         refine post_ret ?_
         refine ends_go [5, 6] (AV.int IntKind.i64 0) [(1, 0, zI P.me), (1, 1, zI P.n), (1, 2, zI P.turn), (1, 3, zI P.iss), (1, 4, .arr 8 (nI hd)), (1, 12, zV 4), (1, 13, zV 5), (1, 14, .top), (4, 0, .vec 3 81 (List.length (recS q first acc P.sets acc.length)) (rsF (recS q first acc P.sets acc.length))), (5, 0, .vec 3 89 W.length (rwF W))] rfl (by decide) rfl rfl (has_of _ rfl) rfl ⟨⟨_, rfl, rfl⟩, ⟨_, rfl, rfl⟩, ⟨_, rfl, rfl⟩, ⟨_, rfl, rfl⟩, ⟨_, rfl, ⟨rfl, fun _ _ => rfl⟩⟩, ⟨_, rfl, rfl⟩, ⟨_, rfl, rfl⟩, ⟨_, rfl, trivial⟩, ⟨_, rfl, ⟨rfl, rfl, rfl, fun _ _ => rfl⟩⟩, ⟨_, rfl, ⟨rfl, rfl, rfl, fun _ _ => rfl⟩⟩, trivial⟩ ⟨fun _ => ⟨1, _, rfl, rfl, rfl, ⟨has_of _ rfl, rfl⟩⟩, fun _ => ⟨1, _, rfl, rfl, rfl, ⟨has_of _ rfl, rfl⟩⟩, fun _ => ⟨1, _, rfl, rfl, rfl, ⟨has_of _ rfl, rfl⟩⟩, fun _ => ⟨1, _, rfl, rfl, rfl, ⟨has_of _ rfl, rfl⟩⟩, fun _ => ⟨1, _, rfl, rfl, rfl, ⟨rfl, fun _ _ => ⟨has_of _ rfl, rfl⟩⟩⟩, fun _ => ⟨1, _, rfl, rfl, rfl, ⟨has_of _ rfl, rfl⟩⟩, fun _ => ⟨1, _, rfl, rfl, rfl, ⟨has_of _ rfl, rfl⟩⟩, fun h => False.elim h, fun h => False.elim h, fun _ => ⟨4, _, rfl, rfl, rfl, ⟨rfl, rfl, rfl, fun _ _ => ⟨has_of _ rfl, rfl⟩⟩⟩, fun _ => ⟨5, _, rfl, rfl, rfl, ⟨rfl, rfl, rfl, fun _ _ => ⟨has_of _ rfl, rfl⟩⟩⟩, trivial⟩ ?_
         exact k5 _ _ rfl
 ·cases e
end Go.Eng.S25