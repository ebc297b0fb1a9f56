/- Seat 25: the document's peers as the heap has them. -/
import Derived.Test.YtodnecfgiimclaaEngX
import Derived.Test.YtodnecfgiimclaaS25P
set_option linter.unusedSimpArgs false
set_option linter.unusedVariables false
set_option maxHeartbeats 2000000
namespace Go.Eng.S25
open Go.Proofs Go.IntWalk
set_option maxRecDepth 10000
def blS (s : ByteArray) : List Int := s.data.toList.map fun b => (b.toNat : Int)
def strB (L : List Int) : ByteArray := mkStr L.length (nU L)
theorem strB_data (L : List Int) : (strB L).data.toList = L.map fun v => UInt8.ofNat v.toNat := by
 unfold strB
 rw [mkStr_data]
 refine List.ext_getElem (by simp) fun i h1 h2 => ?_
 simp at h1
 simp [nU, iv, h1]
theorem ba_ext {a b : ByteArray} (h : a.data.toList = b.data.toList) : a = b := by
 cases a; cases b
 simp at h
 simp [h]
theorem strB_blS (s : ByteArray) : strB (blS s) = s := by
 refine ba_ext ?_
 rw [strB_data]
 unfold blS
 rw [List.map_map]
 conv => rhs; rw [← List.map_id s.data.toList]
 refine List.map_congr_left fun b _ => ?_
 simp
theorem blS_strB {L : List Int} (h : IsU L) : blS (strB L) = L := by
 unfold blS
 rw [strB_data, List.map_map]
 conv => rhs; rw [← List.map_id L]
 refine List.map_congr_left fun v hv => ?_
 have := h v hv
 simp
 omega
theorem blS_isU (s : ByteArray) : IsU (blS s) := by
 intro x hx
 simp only [blS, List.mem_map] at hx
 obtain ⟨b, _, rfl⟩ := hx
 have : b.toNat < 256 := b.toNat_lt
 omega
theorem blS_len (s : ByteArray) : (blS s).length = s.size := by simp [blS]
theorem strB_size (L : List Int) : (strB L).size = L.length := mkStr_size _ _
theorem blS_ext (s : ByteArray) (i j : Nat) (hj : j ≤ s.size) : blS (s.extract i j) = ((blS s).drop i).take (j - i) := by
 unfold blS
 rw [ByteArray.data_extract]
 simp [List.map_take, List.map_drop]
theorem bt_blS (s : ByteArray) {i : Nat} (h : i < s.size) : bt s (i : Int) = (blS s).getD i 0 := by
 unfold bt blS
 rw [Int.toNat_natCast, dif_pos h]
 have h2 : s.data[i]? = some s.data[i] := Array.getElem?_eq_getElem h
 simp [List.getD, h2]
 rfl
theorem blS_inj {a b : ByteArray} (h : blS a = blS b) : a = b := by rw [← strB_blS a, ← strB_blS b, h]
theorem str_eq (a b : ByteArray) : (a.toList == b.toList) = (blS a == blS b) := by
 cases h : blS a == blS b with
 | true =>
   have := blS_inj (by simpa using h)
   rw [this]; simp
 | false =>
   have h : blS a ≠ blS b := by simpa using h
   have : a.toList ≠ b.toList := fun e => h (by
    rw [ByteArray.toList_eq, ByteArray.toList_eq] at e
    unfold blS; rw [e])
   simpa using this
def rsF (S : List ((Int × Int) × List Int)) : Nat → AV := fun i => .agg [.int .i64 (S.getD i ((0, 0), [])).1.1, .int .i64 (S.getD i ((0, 0), [])).1.2, .str (strB (S.getD i ((0, 0), [])).2)]
def rwF (W : List ((Int × Int) × Int)) : Nat → AV := fun i => .agg [.int .i64 (W.getD i ((0, 0), 0)).1.1, .int .i64 (W.getD i ((0, 0), 0)).1.2, .int .u64 (W.getD i ((0, 0), 0)).2]
def cst (k : Nat) : AV → ByteArray
 | .agg cs => match cs[k]? with
   | some (.str s) => s
   | _ => ByteArray.empty
 | _ => ByteArray.empty
def rsL (n : Nat) (f : Nat → AV) : List ((Int × Int) × List Int) := (List.range n).map fun i => ((cv 0 (f i), cv 1 (f i)), blS (cst 2 (f i)))
def rwL (n : Nat) (f : Nat → AV) : List ((Int × Int) × Int) := (List.range n).map fun i => ((cv 0 (f i), cv 1 (f i)), cv 2 (f i))
theorem rsL_len (n : Nat) (f : Nat → AV) : (rsL n f).length = n := by simp [rsL]
theorem rwL_len (n : Nat) (f : Nat → AV) : (rwL n f).length = n := by simp [rwL]
theorem rsF_flat (S : List ((Int × Int) × List Int)) (i : Nat) : Flat (rsF S i) := flat_of _ rfl
theorem rwF_flat (W : List ((Int × Int) × Int)) (i : Nat) : Flat (rwF W i) := flat_of _ rfl
theorem rsL_rsF {S : List ((Int × Int) × List Int)} (h : ∀ x ∈ S, IsU x.2) : rsL S.length (rsF S) = S := by
 refine List.ext_getElem (rsL_len _ _) fun i h1 h2 => ?_
 have : blS (strB S[i].2) = S[i].2 := blS_strB (h _ (List.getElem_mem h2))
 simp [rsL, rsF, cv, iv, cst, h2, this]
theorem rwL_rwF (W : List ((Int × Int) × Int)) : rwL W.length (rwF W) = W := by
 refine List.ext_getElem (rwL_len _ _) fun i h1 h2 => ?_
 simp [rwL, rwF, cv, iv, h2]
def rcon (n b c : Nat) (P : Peer) : Heap := [(n, 0, .cell (.int .i64 P.me)), (n, 1, .cell (.int .i64 P.n)), (n, 2, .cell (.int .i64 P.turn)), (n, 3, .cell (.int .i64 P.iss)), (n, 4, .arr 8 (nI P.hd)), (n, 12, .cell (.vs b)), (n, 13, .cell (.vs c)), (n, 14, .top), (b, 0, .vec 3 81 P.sets.length (rsF P.sets)), (c, 0, .vec 3 89 P.words.length (rwF P.words))]
def rnew (n b c nb : Nat) (P : Peer) : Heap := [(n, 0, .cell (.int .i64 P.me)), (n, 1, .cell (.int .i64 P.n)), (n, 2, .cell (.int .i64 P.turn)), (n, 3, .cell (.int .i64 P.iss)), (n, 4, .arr 8 (nI P.hd)), (n, 12, .cell (.vs nb)), (n, 13, .cell (.vs (nb + 1))), (b, 0, .dead), (c, 0, .dead), (nb, 0, .vec 3 81 P.sets.length (rsF P.sets)), (nb + 1, 0, .vec 3 89 P.words.length (rwF P.words))]
def withRef (hr : Rd) (v : AV) (k : Nat → Nat → Nat → Peer → Prop → List (Nat × Nat × Cont) → Option Out) : Option Out := match v with
 | .ptr n 0 => match hr n 0, hr n 1, hr n 2, hr n 3, hr n 4, hr n 12, hr n 13, hr n 14 with
   | some (.cell (.int .i64 me)), some (.cell (.int .i64 N)), some (.cell (.int .i64 t)), some (.cell (.int .i64 u)), some (.arr 8 f), some (.cell (.vs b)), some (.cell (.vs c)), some .top => match hr b 0, hr c 0 with
     | some (.vec 3 81 k1 g1), some (.vec 3 89 k2 g2) => k n b c ⟨me, N, t, u, If f, rsL k1 g1, rwL k2 g2⟩ ((0 < n ∧ 0 < b ∧ 0 < c ∧ n ≠ b ∧ n ≠ c ∧ b ≠ c) ∧ (∀ i, i < k1 → g1 i = rsF (rsL k1 g1) i) ∧ (∀ i, i < k2 → g2 i = rwF (rwL k2 g2) i) ∧ ∀ i, i < 8 → f i = nI (If f) i)
        [(n, 0, .cell (.int .i64 me)), (n, 1, .cell (.int .i64 N)), (n, 2, .cell (.int .i64 t)), (n, 3, .cell (.int .i64 u)), (n, 4, .arr 8 f), (n, 12, .cell (.vs b)), (n, 13, .cell (.vs c)), (n, 14, .top), (b, 0, .vec 3 81 k1 g1), (c, 0, .vec 3 89 k2 g2)]
     | _, _ => none
   | _, _, _, _, _, _, _, _ => none
 | _ => none
theorem ref_open {hr : Rd} {v : AV} {k : Nat → Nat → Nat → Peer → Prop → List (Nat × Nat × Cont) → Option Out} {out : Out} (e : withRef hr v k = some out) :
 ∃ n b c P s rd, v = .ptr n 0 ∧ k n b c P s rd = some out ∧ (∀ x ∈ rd, hr x.1 x.2.1 = some x.2.2) ∧
   (s → [n, b, c].Nodup ∧ (∀ z ∈ [n, b, c], 0 < z ∧ ∀ rd', (∀ x ∈ rd, x ∈ rd') → Whole rd' z) ∧ ∀ K' nb, ∀ x ∈ rcon 1 2 3 P, ∃ i m c', x.1 = i + 1 ∧ (n :: b :: c :: K')[i]? = some m ∧ (m, x.2.1, c') ∈ rd ∧ CW (can (n :: b :: c :: K') nb) x.2.2 c') ∧
   (s → ∀ K' nb fin up, (∀ x ∈ rcon 1 2 3 P, hget fin x.1 x.2.1 = some x.2.2) → KeptH (n :: b :: c :: K') nb true fin up rd) ∧
   (s → ∀ K' nb fin P' U, hget fin 1 14 = some .top → KeptH (n :: b :: c :: K') nb true fin (rcon n b c P' ++ U) rd) ∧
   (s → ∀ K' nb nb' fin P', hget fin 1 14 = some .top → KeptH (n :: b :: c :: K') nb true fin (rnew n b c nb' P') rd) := by
 unfold withRef at e
 split at e
 ·rename_i n
  split at e
  ·rename_i me N t u f b c e0 e1 e2 e3 e4 e5 e6 e7
   split at e
   ·rename_i l1 g1 l2 g2 e8 e9
    refine ⟨n, b, c, _, _, _, rfl, e, ?_, ?_, ?_, ?_, ?_⟩
    ·intro x hx
     simp only [List.mem_cons, List.not_mem_nil, or_false] at hx
     rcases hx with rfl | rfl | rfl | rfl | rfl | rfl | rfl | rfl | rfl | rfl <;> assumption
    ·rintro ⟨⟨p1, p2, p3, q1, q2, q3⟩, h1, h2, h3⟩
     refine ⟨by simp [q1, q2, q3], fun z hz => ?_, ?_⟩
     ·simp only [List.mem_cons, List.not_mem_nil, or_false] at hz
      rcases hz with rfl | rfl | rfl
      ·exact ⟨p1, fun rd' hs => whole_laid [.cell (.int .i64 me), .cell (.int .i64 N), .cell (.int .i64 t), .cell (.int .i64 u), .arr 8 f, .cell (.vs b), .cell (.vs c)] rfl fun x hx => hs x (by simp [laid, Cont.wd] at hx ⊢; rcases hx with h | h | h | h | h | h | h | h <;> simp [h])⟩
      ·exact ⟨p2, fun rd' hs => .vec 3 81 l1 g1 (hs _ (by simp))⟩
      ·exact ⟨p3, fun rd' hs => .vec 3 89 l2 g2 (hs _ (by simp))⟩
     ·intro K' nb
      refine InitH.get (K := n :: b :: c :: K') (nb := nb) ⟨⟨0, 0, _, _, rfl, rfl, rfl, rfl⟩, ⟨0, 1, _, _, rfl, rfl, rfl, rfl⟩, ⟨0, 2, _, _, rfl, rfl, rfl, rfl⟩, ⟨0, 3, _, _, rfl, rfl, rfl, rfl⟩, ⟨0, 4, _, _, rfl, rfl, rfl, rfl, fun i hi => (h3 i hi)⟩, ⟨0, 5, _, _, rfl, rfl, rfl, rfl⟩, ⟨0, 6, _, _, rfl, rfl, rfl, rfl⟩, ⟨0, 7, _, _, rfl, rfl, rfl, trivial⟩, ⟨1, 8, _, _, rfl, rfl, rfl, rfl, rfl, (rsL_len _ _).symm, fun i hi => ?_⟩, ⟨2, 9, _, _, rfl, rfl, rfl, rfl, rfl, (rwL_len _ _).symm, fun i hi => ?_⟩, trivial⟩
      ·rw [h1 i (by rw [← rsL_len l1 g1]; exact hi)]; rfl
      ·rw [h2 i (by rw [← rwL_len l2 g2]; exact hi)]; rfl
    ·rintro ⟨_, h1, h2, h3⟩ K' nb fin up hf
     simp only [rcon, List.mem_cons, List.not_mem_nil, or_false, forall_eq_or_imp, forall_eq] at hf
     obtain ⟨f0, f1, f2, f3, f4, f5, f6, f7, f8, f9⟩ := hf
     refine ⟨fun _ => .inr ⟨0, _, rfl, f0, .int _ _, rfl⟩, fun _ => .inr ⟨0, _, rfl, f1, .int _ _, rfl⟩, fun _ => .inr ⟨0, _, rfl, f2, .int _ _, rfl⟩, fun _ => .inr ⟨0, _, rfl, f3, .int _ _, rfl⟩, fun _ => .inr ⟨0, _, rfl, f4, rfl, fun i hi => ⟨.int _ _, h3 i hi⟩⟩, fun _ => .inr ⟨0, _, rfl, f5, .vs _ rfl, rfl⟩, fun _ => .inr ⟨0, _, rfl, f6, .vs _ rfl, rfl⟩, fun _ => .inr ⟨0, _, rfl, f7, trivial⟩, fun _ => .inr ⟨1, _, rfl, f8, rfl, rfl, (rsL_len _ _).symm, fun i hi => ⟨(rsF_flat _ i).has, ?_⟩⟩, fun _ => .inr ⟨2, _, rfl, f9, rfl, rfl, (rwL_len _ _).symm, fun i hi => ⟨(rwF_flat _ i).has, ?_⟩⟩, trivial⟩
     ·rw [(rsF_flat _ i).ren]; exact h1 i (by rw [← rsL_len l1 g1]; exact hi)
     ·rw [(rwF_flat _ i).ren]; exact h2 i (by rw [← rwL_len l2 g2]; exact hi)
    ·rintro _ K' nb fin P' U ht
     have ku : ∀ k, (k.1 = n ∧ (k.2 = 0 ∨ k.2 = 1 ∨ k.2 = 2 ∨ k.2 = 3 ∨ k.2 = 4 ∨ k.2 = 12 ∨ k.2 = 13) ∨ k = (b, 0) ∨ k = (c, 0)) → keyIn k (upKeys (rcon n b c P' ++ U)) = true := by
      rintro ⟨k1, k2⟩ hk
      simp only [Prod.mk.injEq] at hk
      rcases hk with ⟨rfl, h | h | h | h | h | h | h⟩ | ⟨rfl, rfl⟩ | ⟨rfl, rfl⟩ <;> (try subst h) <;> simp [keyIn, upKeys, rcon]
     refine ⟨fun _ => .inl ⟨ku _ (by simp), fun sz h => by cases h⟩, fun _ => .inl ⟨ku _ (by simp), fun sz h => by cases h⟩, fun _ => .inl ⟨ku _ (by simp), fun sz h => by cases h⟩, fun _ => .inl ⟨ku _ (by simp), fun sz h => by cases h⟩, fun _ => .inl ⟨ku _ (by simp), fun sz h => by cases h⟩, fun _ => .inl ⟨ku _ (by simp), fun sz h => by cases h⟩, fun _ => .inl ⟨ku _ (by simp), fun sz h => by cases h⟩, fun _ => .inr ⟨0, _, rfl, ht, trivial⟩, fun _ => .inl ⟨ku _ (by simp), fun sz h => by cases h⟩, fun _ => .inl ⟨ku _ (by simp), fun sz h => by cases h⟩, trivial⟩
    ·rintro _ K' nb nb' fin P' ht
     have ku : ∀ k, (k.1 = n ∧ (k.2 = 0 ∨ k.2 = 1 ∨ k.2 = 2 ∨ k.2 = 3 ∨ k.2 = 4 ∨ k.2 = 12 ∨ k.2 = 13) ∨ k = (b, 0) ∨ k = (c, 0)) → keyIn k (upKeys (rnew n b c nb' P')) = true := by
      rintro ⟨k1, k2⟩ hk
      simp only [Prod.mk.injEq] at hk
      rcases hk with ⟨rfl, h | h | h | h | h | h | h⟩ | ⟨rfl, rfl⟩ | ⟨rfl, rfl⟩ <;> (try subst h) <;> simp [keyIn, upKeys, rnew]
     refine ⟨fun _ => .inl ⟨ku _ (by simp), fun sz h => by cases h⟩, fun _ => .inl ⟨ku _ (by simp), fun sz h => by cases h⟩, fun _ => .inl ⟨ku _ (by simp), fun sz h => by cases h⟩, fun _ => .inl ⟨ku _ (by simp), fun sz h => by cases h⟩, fun _ => .inl ⟨ku _ (by simp), fun sz h => by cases h⟩, fun _ => .inl ⟨ku _ (by simp), fun sz h => by cases h⟩, fun _ => .inl ⟨ku _ (by simp), fun sz h => by cases h⟩, fun _ => .inr ⟨0, _, rfl, ht, trivial⟩, fun _ => .inl ⟨ku _ (by simp), fun sz h => by cases h⟩, fun _ => .inl ⟨ku _ (by simp), fun sz h => by cases h⟩, trivial⟩
   ·cases e
  ·cases e
 ·cases e
theorem rsF_self (S : List ((Int × Int) × List Int)) : ∀ i, i < S.length → rsF S i = rsF (rsL S.length (rsF S)) i := fun i hi => by
 have e : (rsL S.length (rsF S)).getD i ((0, 0), []) = ((S[i].1.1, S[i].1.2), blS (strB S[i].2)) := by simp [rsL, rsF, cv, iv, cst, hi]
 have e2 : S.getD i ((0, 0), []) = S[i] := by simp [hi]
 unfold rsF at e ⊢
 rw [e, e2, strB_blS]
theorem rwF_self (W : List ((Int × Int) × Int)) : ∀ i, i < W.length → rwF W i = rwF (rwL W.length (rwF W)) i := fun i _ => by rw [rwL_rwF]
theorem ref_side (P : Peer) {p : Prop} (hp : p) : p ∧ (∀ i, i < P.sets.length → rsF P.sets i = rsF (rsL P.sets.length (rsF P.sets)) i) ∧ (∀ i, i < P.words.length → rwF P.words i = rwF (rwL P.words.length (rwF P.words)) i) ∧ ∀ i, i < 8 → nI P.hd i = nI (If (nI P.hd)) i :=
 ⟨hp, rsF_self _, rwF_self _, fun _ _ => rfl⟩
def OkR (P : Peer) : Prop := (∀ x ∈ P.sets, IsU x.2) ∧ P.sets.length ≤ 1000000 ∧ P.words.length ≤ 1000000
def etR (P : Peer) : Peer := ⟨P.me, P.n, P.turn, P.iss, If (nI P.hd), rsL P.sets.length (rsF P.sets), rwL P.words.length (rwF P.words)⟩
theorem ref_eta {P : Peer} (h : OkR P) : etR P = P := by
 unfold etR
 rw [rsL_rsF h.1, rwL_rwF]; rfl
end Go.Eng.S25
/- Seat 25: the document's small functions, walked. -/
set_option linter.unusedSimpArgs false
set_option linter.unusedVariables false
set_option maxHeartbeats 2000000
namespace Go.Eng.S25
open Go.Proofs Go.IntWalk
set_option maxRecDepth 10000
def sRNew : Spec := fun args _ nb => match args with
 | [.int .i64 me, .int .i64 n] => some ⟨[], .ptr nb 0, [], rcon nb (nb + 1) (nb + 2) (newP me n)⟩
 | _ => none
theorem rnew_ok : SpecOK Try.prog 23 sRNew := by
 refine spec_own (by kernel_rfl) T_ok sget_nil Try.func23 rfl rfl fun args hr nb out e => ?_
 unfold sRNew at e
 split at e
 ·rename_i me n
  injection e with e; subst e
  refine ⟨(fun _ h => nomatch h), true, [.int .i64 me, .int .i64 n], rfl, fun hs => ⟨.cons _ _ _ _ (.same _ _ (.int _ _)) (.cons _ _ _ _ (.same _ _ (.int _ _)) .nil), ?_⟩⟩
  clear hs
  refine evC_go0K (s' := ⟨[(0, 0, zI me), (0, 1, zI n), (0, 4, .cell AV.nilp)], 33, 9⟩) ?_
  refine evC_go0K (s' := ⟨[(0, 4, zP 129), (129, 0, zI me), (129, 1, zI n), (129, 2, zI 0), (129, 3, zI 2), (129, 4, .arr 8 fun x => AV.int IntKind.i64 0), (129, 12, .cell AV.nils), (129, 13, .cell AV.nils), (129, 14, .top)], 193, 9⟩) ?_
  refine evC_wk _ (.nil 129 13 3 89 (fun _ => .nils) (Nat.le_of_ble_eq_true rfl) rfl) ?_
  refine evC_wk _ (.nil 129 12 3 81 (fun _ => .nils) (Nat.le_of_ble_eq_true rfl) rfl) ?_
  refine evC_ret ?_
  refine post_ret ?_
  refine ends_go [129, 194, 193] (AV.ptr 1 0) [(1, 0, zI me), (1, 1, zI n), (1, 2, zI 0), (1, 3, zI 2), (1, 4, .arr 8 fun x => AV.int IntKind.i64 0), (1, 12, zV 2), (1, 13, zV 3), (1, 14, .top), (2, 0, .vec 3 81 0 fun x => AV.nils), (3, 0, .vec 3 89 0 fun x => AV.nils)] rfl (by decide) rfl rfl (has_of _ rfl) rfl ⟨⟨_, rfl, rfl⟩, ⟨_, rfl, rfl⟩, ⟨_, rfl, rfl⟩, ⟨_, rfl, rfl⟩, ⟨_, rfl, ⟨rfl, fun _ _ => rfl⟩⟩, ⟨_, rfl, rfl⟩, ⟨_, rfl, rfl⟩, ⟨_, rfl, trivial⟩, ⟨_, rfl, ⟨rfl, rfl, rfl, fun _ _ => rfl⟩⟩, ⟨_, rfl, ⟨rfl, rfl, rfl, fun _ _ => rfl⟩⟩, trivial⟩ ⟨fun _ => ⟨1, _, rfl, rfl, rfl, ⟨has_of _ rfl, rfl⟩⟩, fun _ => ⟨1, _, rfl, rfl, rfl, ⟨has_of _ rfl, rfl⟩⟩, fun _ => ⟨1, _, rfl, rfl, rfl, ⟨has_of _ rfl, rfl⟩⟩, fun _ => ⟨1, _, rfl, rfl, rfl, ⟨has_of _ rfl, rfl⟩⟩, fun _ => ⟨1, _, rfl, rfl, rfl, ⟨rfl, fun _ _ => ⟨has_of _ rfl, rfl⟩⟩⟩, fun _ => ⟨1, _, rfl, rfl, rfl, ⟨has_of _ rfl, rfl⟩⟩, fun _ => ⟨1, _, rfl, rfl, rfl, ⟨has_of _ rfl, rfl⟩⟩, fun _ => ⟨1, _, rfl, rfl, rfl, trivial⟩, fun _ => ⟨2, _, rfl, rfl, rfl, ⟨rfl, rfl, rfl, fun _ hi => absurd hi (Nat.not_lt_zero _)⟩⟩, fun _ => ⟨3, _, rfl, rfl, rfl, ⟨rfl, rfl, rfl, fun _ hi => absurd hi (Nat.not_lt_zero _)⟩⟩, trivial⟩ (kept_nil _)
 ·cases e
def sROther : Spec := fun args hr _ => match args with
 | [v, .int .i64 q] => withRef hr v fun n b c P s rd => some ⟨[s], .bool (otherB P q), rd, []⟩
 | _ => none
theorem rother_ok : SpecOK Try.prog 36 sROther := by
 refine spec_at (by kernel_rfl) T_ok sget_nil Try.func36 rfl rfl fun args hr nb out e => ?_
 unfold sROther at e
 split at e
 ·rename_i v q
  obtain ⟨n, b, c, P, s, rd, rfl, e, hrd, hs0, hs1, hs2, hs3⟩ := ref_open e
  injection e with e; subst e
  refine ⟨hrd, true, [n, b, c], [.ptr 1 0, .int .i64 q], rcon 1 2 3 P, rfl, fun hs => ?_⟩
  obtain ⟨k1, k2, k3⟩ := hs0 (hs _ List.mem_cons_self)
  have k4 := hs1 (hs _ List.mem_cons_self) [] nb
  refine ⟨k1, fun z hz => ⟨(k2 z hz).1, (k2 z hz).2 _ fun x hx => hx⟩, .cons _ _ _ _ (.name _ _ _ rfl) (.cons _ _ _ _ (.same _ _ (.int _ _)) .nil), k3 _ _, ?_⟩
  clear hs hs0 hs1 hs2 hs3 k1 k2 k3 hrd
  unfold rcon
  refine evC_go0K (s' := ⟨[(0, 0, zP 1), (0, 1, zI q), (0, 4, zB false), (1, 0, zI P.me), (1, 1, zI P.n), (1, 2, zI P.turn), (1, 3, zI P.iss), (1, 4, .arr 8 (nI P.hd)), (1, 12, zV 2), (1, 13, zV 3), (1, 14, .top), (2, 0, .vec 3 81 P.sets.length (rsF P.sets)), (3, 0, .vec 3 89 P.words.length (rwF P.words))], 36, 23⟩) ?_
  refine evC_go0K (s' := ⟨[(0, 4, zB (bif bif decide (0 ≤ q) then decide (q < P.n) else false then q != P.me else false)), (1, 0, zI P.me), (1, 1, zI P.n), (1, 2, zI P.turn), (1, 3, zI P.iss), (1, 4, .arr 8 (nI P.hd)), (1, 12, zV 2), (1, 13, zV 3), (1, 14, .top), (2, 0, .vec 3 81 P.sets.length (rsF P.sets)), (3, 0, .vec 3 89 P.words.length (rwF P.words))], 644, 23⟩) ?_
  rw [cond_and, cond_and]
  refine evC_ret ?_
  refine post_ret ?_
  refine ends_go [] (AV.bool (decide (0 ≤ q) && decide (q < P.n) && q != P.me)) [(1, 0, zI P.me), (1, 1, zI P.n), (1, 2, zI P.turn), (1, 3, zI P.iss), (1, 4, .arr 8 (nI P.hd)), (1, 12, zV 2), (1, 13, zV 3), (1, 14, .top), (2, 0, .vec 3 81 P.sets.length (rsF P.sets)), (3, 0, .vec 3 89 P.words.length (rwF P.words))] rfl (by decide) rfl rfl (has_of _ rfl) rfl ⟨⟨_, rfl, rfl⟩, ⟨_, rfl, rfl⟩, ⟨_, rfl, rfl⟩, ⟨_, rfl, rfl⟩, ⟨_, rfl, ⟨rfl, fun _ _ => rfl⟩⟩, ⟨_, rfl, rfl⟩, ⟨_, rfl, rfl⟩, ⟨_, rfl, trivial⟩, ⟨_, rfl, ⟨rfl, rfl, rfl, fun _ _ => rfl⟩⟩, ⟨_, rfl, ⟨rfl, rfl, rfl, fun _ _ => rfl⟩⟩, trivial⟩ trivial ?_
  exact k4 _ _ (by simp [rcon, hget])
 ·cases e
def sRHeard : Spec := fun args hr _ => match args with
 | [v, .int .i64 q] => withRef hr v fun n b c P s rd => some ⟨[s, P.n ≤ 8], .int .i64 (heardV P q), rd, []⟩
 | _ => none
theorem rheard_ok : SpecOK Try.prog 30 sRHeard := by
 refine spec_at (by kernel_rfl) T_ok (sget_cons rother_ok sget_nil) Try.func30 rfl rfl fun args hr nb out e => ?_
 unfold sRHeard at e
 split at e
 ·rename_i v q
  obtain ⟨n, b, c, P, s, rd, rfl, e, hrd, hs0, hs1, hs2, hs3⟩ := ref_open e
  injection e with e; subst e
  refine ⟨hrd, true, [n, b, c], [.ptr 1 0, .int .i64 q], rcon 1 2 3 P, rfl, fun hs => ?_⟩
  obtain ⟨k1, k2, k3⟩ := hs0 (hs _ List.mem_cons_self)
  have k4 := hs1 (hs _ List.mem_cons_self) [] nb
  have hn := hs _ (List.mem_cons_of_mem _ List.mem_cons_self)
  refine ⟨k1, fun z hz => ⟨(k2 z hz).1, (k2 z hz).2 _ fun x hx => hx⟩, .cons _ _ _ _ (.name _ _ _ rfl) (.cons _ _ _ _ (.same _ _ (.int _ _)) .nil), k3 _ _, ?_⟩
  clear hs hs0 hs1 hs2 hs3 k1 k2 k3 hrd
  unfold heardV
  unfold rcon
  refine evC_go0K (s' := ⟨[(0, 0, zP 1), (0, 1, zI q), (0, 4, zI 0), (1, 0, zI P.me), (1, 1, zI P.n), (1, 2, zI P.turn), (1, 3, zI P.iss), (1, 4, .arr 8 (nI P.hd)), (1, 12, zV 2), (1, 13, zV 3), (1, 14, .top), (2, 0, .vec 3 81 P.sets.length (rsF P.sets)), (3, 0, .vec 3 89 P.words.length (rwF P.words))], 36, 25⟩) ?_
  refine evC_seq ?_
  refine evC_go0K (s' := ⟨[(0, 0, zP 1), (0, 1, zI q), (0, 4, zI 0), (0, 10, zB (q == P.me)), (1, 0, zI P.me), (1, 1, zI P.n), (1, 2, zI P.turn), (1, 3, zI P.iss), (1, 4, .arr 8 (nI P.hd)), (1, 12, zV 2), (1, 13, zV 3), (1, 14, .top), (2, 0, .vec 3 81 P.sets.length (rsF P.sets)), (3, 0, .vec 3 89 P.words.length (rwF P.words))], 228, 25⟩) ?_
  refine evC_if (q := q == P.me) (by kernel_rfl) (fun hc => ?_) (fun hc => ?_)
  ·rw [hc]
   simp only [cond_true]
   refine evC_go0K (s' := ⟨[(0, 0, zP 1), (0, 1, zI q), (0, 4, zI P.turn), (1, 0, zI P.me), (1, 1, zI P.n), (1, 2, zI P.turn), (1, 3, zI P.iss), (1, 4, .arr 8 (nI P.hd)), (1, 12, zV 2), (1, 13, zV 3), (1, 14, .top), (2, 0, .vec 3 81 P.sets.length (rsF P.sets)), (3, 0, .vec 3 89 P.words.length (rwF P.words))], 388, 25⟩) ?_
   refine evC_ret ?_
   refine then_ret ?_
   refine post_ret ?_
   refine ends_go [] (AV.int IntKind.i64 P.turn) [(1, 0, zI P.me), (1, 1, zI P.n), (1, 2, zI P.turn), (1, 3, zI P.iss), (1, 4, .arr 8 (nI P.hd)), (1, 12, zV 2), (1, 13, zV 3), (1, 14, .top), (2, 0, .vec 3 81 P.sets.length (rsF P.sets)), (3, 0, .vec 3 89 P.words.length (rwF P.words))] rfl (by decide) rfl rfl (has_of _ rfl) rfl ⟨⟨_, rfl, rfl⟩, ⟨_, rfl, rfl⟩, ⟨_, rfl, rfl⟩, ⟨_, rfl, rfl⟩, ⟨_, rfl, ⟨rfl, fun _ _ => rfl⟩⟩, ⟨_, rfl, rfl⟩, ⟨_, rfl, rfl⟩, ⟨_, rfl, trivial⟩, ⟨_, rfl, ⟨rfl, rfl, rfl, fun _ _ => rfl⟩⟩, ⟨_, rfl, ⟨rfl, rfl, rfl, fun _ _ => rfl⟩⟩, trivial⟩ trivial ?_
   exact k4 _ _ (by simp [rcon, hget])
  ·have hq : (q == P.me) = false := hc
   rw [hc]
   simp only [cond_false]
   clear hc
   refine evC_skip ?_
   refine then_normal ?_
   refine evC_seq ?_
   refine evC_goK (ps := [(0 < 1 ∧ 0 < 2 ∧ 0 < 3 ∧ 1 ≠ 2 ∧ 1 ≠ 3 ∧ 2 ≠ 3) ∧ (∀ (i : Nat), i < P.sets.length → rsF P.sets i = rsF (rsL P.sets.length (rsF P.sets)) i) ∧ (∀ (i : Nat), i < P.words.length → rwF P.words i = rwF (rwL P.words.length (rwF P.words)) i) ∧ ∀ (i : Nat), i < (8 : Nat) → nI P.hd i = nI (If (nI P.hd)) i]) (s' := ⟨[(0, 0, zP 1), (0, 1, zI q), (0, 4, zI 0), (0, 18, zB (!otherB (etR P) q)), (1, 0, zI P.me), (1, 1, zI P.n), (1, 2, zI P.turn), (1, 3, zI P.iss), (1, 4, .arr 8 (nI P.hd)), (1, 12, zV 2), (1, 13, zV 3), (1, 14, .top), (2, 0, .vec 3 81 P.sets.length (rsF P.sets)), (3, 0, .vec 3 89 P.words.length (rwF P.words))], 356, 25⟩) ?_ ?_
   ·exact ref_side P ⟨by decide, by decide, by decide, by decide, by decide, by decide⟩
   have ho : (!otherB (etR P) q) = (decide (q < 0) || decide (q ≥ P.n)) := by
    unfold etR otherB
    simp only [hq]
    by_cases a : q < 0 <;> by_cases b : q ≥ P.n <;> simp [a, b] <;> omega
   rw [ho]
   refine evC_if (q := decide (q < 0) || decide (q ≥ P.n)) (by kernel_rfl) (fun hc => ?_) (fun hc => ?_)
   ·rw [hc]
    simp only [cond_true]
    refine evC_go0K (s' := ⟨[(0, 0, zP 1), (0, 1, zI q), (0, 4, zI 0), (1, 0, zI P.me), (1, 1, zI P.n), (1, 2, zI P.turn), (1, 3, zI P.iss), (1, 4, .arr 8 (nI P.hd)), (1, 12, zV 2), (1, 13, zV 3), (1, 14, .top), (2, 0, .vec 3 81 P.sets.length (rsF P.sets)), (3, 0, .vec 3 89 P.words.length (rwF P.words))], 388, 25⟩) ?_
    refine evC_ret ?_
    refine then_ret ?_
    refine post_ret ?_
    refine ends_go [] (AV.int IntKind.i64 0) [(1, 0, zI P.me), (1, 1, zI P.n), (1, 2, zI P.turn), (1, 3, zI P.iss), (1, 4, .arr 8 (nI P.hd)), (1, 12, zV 2), (1, 13, zV 3), (1, 14, .top), (2, 0, .vec 3 81 P.sets.length (rsF P.sets)), (3, 0, .vec 3 89 P.words.length (rwF P.words))] rfl (by decide) rfl rfl (has_of _ rfl) rfl ⟨⟨_, rfl, rfl⟩, ⟨_, rfl, rfl⟩, ⟨_, rfl, rfl⟩, ⟨_, rfl, rfl⟩, ⟨_, rfl, ⟨rfl, fun _ _ => rfl⟩⟩, ⟨_, rfl, rfl⟩, ⟨_, rfl, rfl⟩, ⟨_, rfl, trivial⟩, ⟨_, rfl, ⟨rfl, rfl, rfl, fun _ _ => rfl⟩⟩, ⟨_, rfl, ⟨rfl, rfl, rfl, fun _ _ => rfl⟩⟩, trivial⟩ trivial ?_
    exact k4 _ _ (by simp [rcon, hget])
   ·rw [hc]
    simp only [cond_false]
    simp only [Bool.or_eq_false_iff, decide_eq_false_iff_not] at hc
    refine evC_skip ?_
    refine then_normal ?_
    refine evC_goK (ps := [(0 : Int) ≤ q, q < (↑(8 : Nat) : Int), (0 : Int) ≤ q, q < (↑(8 : Nat) : Int)]) (s' := ⟨[(0, 4, zI (P.hd (Int.toNat q))), (1, 0, zI P.me), (1, 1, zI P.n), (1, 2, zI P.turn), (1, 3, zI P.iss), (1, 4, .arr 8 (nI P.hd)), (1, 12, zV 2), (1, 13, zV 3), (1, 14, .top), (2, 0, .vec 3 81 P.sets.length (rsF P.sets)), (3, 0, .vec 3 89 P.words.length (rwF P.words))], 580, 25⟩) ?_ ?_
    ·(simp only [All]; (repeat' apply And.intro) <;> (try intro _) <;> (try intro _) <;> (repeat' apply And.intro) <;> (try intro _) <;> (try intro _) <;> first | trivial | assumption | exact .inr trivial | exact .inr rfl | omega | rfl | exact ⟨_, rfl, rfl⟩ | exact ⟨rfl, rfl⟩ | exact ⟨fun _ => rfl, fun _ => rfl⟩ | (unfold maxLen; omega) | (unfold i64R; first | omega | decide) | decide)
    refine evC_ret ?_
    refine post_ret ?_
    refine ends_go [] (AV.int IntKind.i64 (P.hd (Int.toNat q))) [(1, 0, zI P.me), (1, 1, zI P.n), (1, 2, zI P.turn), (1, 3, zI P.iss), (1, 4, .arr 8 (nI P.hd)), (1, 12, zV 2), (1, 13, zV 3), (1, 14, .top), (2, 0, .vec 3 81 P.sets.length (rsF P.sets)), (3, 0, .vec 3 89 P.words.length (rwF P.words))] rfl (by decide) rfl rfl (has_of _ rfl) rfl ⟨⟨_, rfl, rfl⟩, ⟨_, rfl, rfl⟩, ⟨_, rfl, rfl⟩, ⟨_, rfl, rfl⟩, ⟨_, rfl, ⟨rfl, fun _ _ => rfl⟩⟩, ⟨_, rfl, rfl⟩, ⟨_, rfl, rfl⟩, ⟨_, rfl, trivial⟩, ⟨_, rfl, ⟨rfl, rfl, rfl, fun _ _ => rfl⟩⟩, ⟨_, rfl, ⟨rfl, rfl, rfl, fun _ _ => rfl⟩⟩, trivial⟩ trivial ?_
    exact k4 _ _ (by simp [rcon, hget])
 ·cases e
theorem kget_at {α : Type} {d : (Int × Int) × α} {t q : Int} : ∀ {S : List ((Int × Int) × α)} {i : Nat}, i < S.length → (S.getD i d).1 = (t, q) → (∀ j, j < i → (S.getD j d).1 ≠ (t, q)) → kget S t q = some (S.getD i d).2
 | e :: S, 0, _, h, _ => by
   have h : e.1 = (t, q) := h
   show (bif t == e.1.1 && q == e.1.2 then some e.2 else kget S t q) = _
   rw [h, beq_self_eq_true, beq_self_eq_true]; rfl
 | e :: S, i + 1, hi, h, hn => by
   have h0 : e.1 ≠ (t, q) := hn 0 (Nat.zero_lt_succ _)
   have : (t == e.1.1 && q == e.1.2) = false := by
    cases hb : (t == e.1.1 && q == e.1.2) with
    | false => rfl
    | true =>
      simp only [Bool.and_eq_true, beq_iff_eq] at hb
      exact absurd (Prod.ext hb.1.symm hb.2.symm) h0
   show (bif t == e.1.1 && q == e.1.2 then some e.2 else kget S t q) = _
   rw [this]
   exact kget_at (d := d) (S := S) (i := i) (by simpa using hi) (by simpa using h) fun j hj => by simpa using hn (j + 1) (by omega)
theorem kget_no {α : Type} {d : (Int × Int) × α} {t q : Int} : ∀ {S : List ((Int × Int) × α)}, (∀ j, j < S.length → (S.getD j d).1 ≠ (t, q)) → kget S t q = none
 | [], _ => rfl
 | e :: S, hn => by
   have h0 : e.1 ≠ (t, q) := hn 0 (Nat.zero_lt_succ _)
   have : (t == e.1.1 && q == e.1.2) = false := by
    cases hb : (t == e.1.1 && q == e.1.2) with
    | false => rfl
    | true =>
      simp only [Bool.and_eq_true, beq_iff_eq] at hb
      exact absurd (Prod.ext hb.1.symm hb.2.symm) h0
   show (bif t == e.1.1 && q == e.1.2 then some e.2 else kget S t q) = _
   rw [this]
   exact kget_no (d := d) fun j hj => by simpa using hn (j + 1) (by simpa using hj)
def sRKnown : Spec := fun args hr _ => match args with
 | [v, .int .i64 t, .int .i64 q] => withRef hr v fun n b c P s rd => some ⟨[s, P.sets.length ≤ 1000000], .tup [.str (strB (knownL P t q)), .bool (knownB P t q)], rd, []⟩
 | _ => none
theorem rknown_ok : SpecOK Try.prog 37 sRKnown := by
 refine spec_at (by kernel_rfl) T_ok sget_nil Try.func37 rfl rfl fun args hr nb out e => ?_
 unfold sRKnown at e
 split at e
 ·rename_i v t q
  obtain ⟨n, b, c, P, s, rd, rfl, e, hrd, hs0, hs1, hs2, hs3⟩ := ref_open e
  injection e with e; subst e
  refine ⟨hrd, true, [n, b, c], [.ptr 1 0, .int .i64 t, .int .i64 q], rcon 1 2 3 P, rfl, fun hs => ?_⟩
  obtain ⟨k1, k2, k3⟩ := hs0 (hs _ List.mem_cons_self)
  have k4 := hs1 (hs _ List.mem_cons_self) [] nb
  have hS := hs _ (List.mem_cons_of_mem _ List.mem_cons_self)
  refine ⟨k1, fun z hz => ⟨(k2 z hz).1, (k2 z hz).2 _ fun x hx => hx⟩, .cons _ _ _ _ (.name _ _ _ rfl) (.cons _ _ _ _ (.same _ _ (.int _ _)) (.cons _ _ _ _ (.same _ _ (.int _ _)) .nil)), k3 _ _, ?_⟩
  clear hs hs0 hs1 hs2 hs3 k1 k2 k3 hrd
  unfold knownL knownB
  unfold rcon
  refine evC_go0K (s' := ⟨[(0, 0, zP 1), (0, 1, zI t), (0, 2, zI q), (0, 6, zS { data := #[] }), (0, 7, zB false), (1, 0, zI P.me), (1, 1, zI P.n), (1, 2, zI P.turn), (1, 3, zI P.iss), (1, 4, .arr 8 (nI P.hd)), (1, 12, zV 2), (1, 13, zV 3), (1, 14, .top), (2, 0, .vec 3 81 P.sets.length (rsF P.sets)), (3, 0, .vec 3 89 P.words.length (rwF P.words))], 68, 50⟩) ?_
  refine evC_seq ?_
  refine evC_go0K (s' := ⟨[(0, 0, zP 1), (0, 1, zI t), (0, 2, zI q), (0, 6, zS { data := #[] }), (0, 7, zB false), (0, 10, zB (decide (t < 2))), (1, 0, zI P.me), (1, 1, zI P.n), (1, 2, zI P.turn), (1, 3, zI P.iss), (1, 4, .arr 8 (nI P.hd)), (1, 12, zV 2), (1, 13, zV 3), (1, 14, .top), (2, 0, .vec 3 81 P.sets.length (rsF P.sets)), (3, 0, .vec 3 89 P.words.length (rwF P.words))], 132, 50⟩) ?_
  refine evC_if (q := decide (t < 2)) (by kernel_rfl) (fun hc => ?_) (fun hc => ?_)
  ·rw [hc]
   simp only [cond_true, Bool.true_or]
   refine evC_go0K (s' := ⟨[(0, 0, zP 1), (0, 1, zI t), (0, 2, zI q), (0, 6, zS { data := #[] }), (0, 7, zB true), (1, 0, zI P.me), (1, 1, zI P.n), (1, 2, zI P.turn), (1, 3, zI P.iss), (1, 4, .arr 8 (nI P.hd)), (1, 12, zV 2), (1, 13, zV 3), (1, 14, .top), (2, 0, .vec 3 81 P.sets.length (rsF P.sets)), (3, 0, .vec 3 89 P.words.length (rwF P.words))], 196, 50⟩) ?_
   refine evC_ret ?_
   refine then_ret ?_
   refine post_ret ?_
   refine ends_go [] (AV.tup [AV.str { data := #[] }, AV.bool true]) [(1, 0, zI P.me), (1, 1, zI P.n), (1, 2, zI P.turn), (1, 3, zI P.iss), (1, 4, .arr 8 (nI P.hd)), (1, 12, zV 2), (1, 13, zV 3), (1, 14, .top), (2, 0, .vec 3 81 P.sets.length (rsF P.sets)), (3, 0, .vec 3 89 P.words.length (rwF P.words))] rfl (by decide) rfl rfl (has_of _ rfl) rfl ⟨⟨_, rfl, rfl⟩, ⟨_, rfl, rfl⟩, ⟨_, rfl, rfl⟩, ⟨_, rfl, rfl⟩, ⟨_, rfl, ⟨rfl, fun _ _ => rfl⟩⟩, ⟨_, rfl, rfl⟩, ⟨_, rfl, rfl⟩, ⟨_, rfl, trivial⟩, ⟨_, rfl, ⟨rfl, rfl, rfl, fun _ _ => rfl⟩⟩, ⟨_, rfl, ⟨rfl, rfl, rfl, fun _ _ => rfl⟩⟩, trivial⟩ trivial ?_
   ·exact k4 _ _ (by simp [rcon, hget])
  ·rw [hc]
   simp only [cond_false, Bool.false_or]
   clear hc
   refine evC_skip ?_
   refine then_normal ?_
   refine evC_seq ?_
   refine evC_go0K (s' := ⟨[(0, 0, zP 1), (0, 1, zI t), (0, 2, zI q), (0, 6, zS { data := #[] }), (0, 7, zB false), (0, 8, zI 0), (1, 0, zI P.me), (1, 1, zI P.n), (1, 2, zI P.turn), (1, 3, zI P.iss), (1, 4, .arr 8 (nI P.hd)), (1, 12, zV 2), (1, 13, zV 3), (1, 14, .top), (2, 0, .vec 3 81 P.sets.length (rsF P.sets)), (3, 0, .vec 3 89 P.words.length (rwF P.words))], 164, 50⟩) ?_
   refine evC_block ?_
   refine evC_loop (ι := { i : Nat // i ≤ P.sets.length ∧ ∀ j, j < i → (P.sets.getD j ((0, 0), [])).1 ≠ (t, q) }) (fun i => ⟨[(0, 0, zP 1), (0, 1, zI t), (0, 2, zI q), (0, 6, zS { data := #[] }), (0, 7, zB false), (0, 8, zI (i.1 : Nat)), (1, 0, zI P.me), (1, 1, zI P.n), (1, 2, zI P.turn), (1, 3, zI P.iss), (1, 4, Cont.arr 8 (nI P.hd)), (1, 12, zV 2), (1, 13, zV 3), (1, 14, Cont.top), (2, 0, Cont.vec 3 81 P.sets.length (rsF P.sets)), (3, 0, Cont.vec 3 89 P.words.length (rwF P.words))], 4, 50⟩) (fun i => P.sets.length - i.1) ⟨0, Nat.zero_le _, fun j hj => absurd hj (Nat.not_lt_zero _)⟩ (wk_go [] rfl (by decide) rfl rfl ⟨⟨_, rfl, rfl⟩, ⟨_, rfl, rfl⟩, ⟨_, rfl, rfl⟩, ⟨_, rfl, rfl⟩, ⟨_, rfl, rfl⟩, ⟨_, rfl, rfl⟩, ⟨_, rfl, rfl⟩, ⟨_, rfl, rfl⟩, ⟨_, rfl, rfl⟩, ⟨_, rfl, rfl⟩, ⟨_, rfl, rfl, fun _ _ => rfl⟩, ⟨_, rfl, rfl⟩, ⟨_, rfl, rfl⟩, ⟨_, rfl, trivial⟩, ⟨_, rfl, rfl, rfl, rfl, fun _ _ => rfl⟩, ⟨_, rfl, rfl, rfl, rfl, fun _ _ => rfl⟩, trivial⟩) ?_
   rintro ⟨i, hi, hno⟩
   have hi : i ≤ P.sets.length := hi
   refine evC_seq ?_
   refine evC_go0K (s' := ⟨[(0, 0, zP 1), (0, 1, zI t), (0, 2, zI q), (0, 6, zS { data := #[] }), (0, 7, zB false), (0, 8, zI i), (0, 17, zB (decide ((↑i : Int) < ↑P.sets.length))), (1, 0, zI P.me), (1, 1, zI P.n), (1, 2, zI P.turn), (1, 3, zI P.iss), (1, 4, .arr 8 (nI P.hd)), (1, 12, zV 2), (1, 13, zV 3), (1, 14, .top), (2, 0, .vec 3 81 P.sets.length (rsF P.sets)), (3, 0, .vec 3 89 P.words.length (rwF P.words))], 228, 50⟩) ?_
   refine evC_if (q := decide ((↑i : Int) < ↑P.sets.length)) (by kernel_rfl) (fun hc => ?_) (fun hc => ?_)
   ·have hlt : i < P.sets.length := by have := of_decide_eq_true hc; omega
    clear hc
    refine evC_skip ?_
    refine then_normal ?_
    refine evC_seq ?_
    refine evC_block ?_
    refine evC_goK (ps := [(0 : Int) ≤ ↑i, (↑i : Int) < ↑P.sets.length, 3 = 3, (0 : Int) ≤ ↑i, (↑i : Int) < ↑P.sets.length, 3 = 3, List.all [Prod.fst (Prod.fst (List.getD P.sets i (((0 : Int), (0 : Int)), []))) == t] id = true → (0 : Int) ≤ ↑i, List.all [Prod.fst (Prod.fst (List.getD P.sets i (((0 : Int), (0 : Int)), []))) == t] id = true → (↑i : Int) < ↑P.sets.length, List.all [Prod.fst (Prod.fst (List.getD P.sets i (((0 : Int), (0 : Int)), []))) == t] id = true → 3 = 3, List.all [Prod.fst (Prod.fst (List.getD P.sets i (((0 : Int), (0 : Int)), []))) == t] id = true → (0 : Int) ≤ ↑i, List.all [Prod.fst (Prod.fst (List.getD P.sets i (((0 : Int), (0 : Int)), []))) == t] id = true → (↑i : Int) < ↑P.sets.length, List.all [Prod.fst (Prod.fst (List.getD P.sets i (((0 : Int), (0 : Int)), []))) == t] id = true → 3 = 3]) (s' := ⟨[(0, 0, zP 1), (0, 1, zI t), (0, 2, zI q), (0, 6, zS { data := #[] }), (0, 7, zB false), (0, 8, zI i), (0, 41, zB (bif Prod.fst (Prod.fst (List.getD P.sets i ((0, 0), []))) == t then Prod.snd (Prod.fst (List.getD P.sets i ((0, 0), []))) == q else false)), (1, 0, zI P.me), (1, 1, zI P.n), (1, 2, zI P.turn), (1, 3, zI P.iss), (1, 4, .arr 8 (nI P.hd)), (1, 12, zV 2), (1, 13, zV 3), (1, 14, .top), (2, 0, .vec 3 81 P.sets.length (rsF P.sets)), (3, 0, .vec 3 89 P.words.length (rwF P.words))], 932, 50⟩) ?_ ?_
    ·(simp only [All]; (repeat' apply And.intro) <;> (try intro _) <;> (try intro _) <;> (repeat' apply And.intro) <;> (try intro _) <;> (try intro _) <;> first | trivial | assumption | exact .inr trivial | exact .inr rfl | omega | rfl | exact ⟨_, rfl, rfl⟩ | exact ⟨rfl, rfl⟩ | exact ⟨fun _ => rfl, fun _ => rfl⟩ | (unfold maxLen; omega) | (unfold i64R; first | omega | decide) | decide)
    rw [cond_and]
    refine evC_if (q := Prod.fst (Prod.fst (List.getD P.sets i ((0, 0), []))) == t && Prod.snd (Prod.fst (List.getD P.sets i ((0, 0), []))) == q) (by kernel_rfl) (fun hc => ?_) (fun hc => ?_)
    ·have hat : (P.sets.getD i ((0, 0), [])).1 = (t, q) := by
      simp only [Bool.and_eq_true, beq_iff_eq] at hc
      exact Prod.ext hc.1 hc.2
     rw [kget_at hlt hat hno]
     refine evC_goK (ps := [(0 : Int) ≤ ↑i, (↑i : Int) < ↑P.sets.length, 3 = 3, (0 : Int) ≤ ↑i, (↑i : Int) < ↑P.sets.length, 3 = 3]) (s' := ⟨[(0, 0, zP 1), (0, 1, zI t), (0, 2, zI q), (0, 6, zS (strB (Prod.snd (List.getD P.sets i ((0, 0), []))))), (0, 7, zB true), (0, 8, zI i), (1, 0, zI P.me), (1, 1, zI P.n), (1, 2, zI P.turn), (1, 3, zI P.iss), (1, 4, .arr 8 (nI P.hd)), (1, 12, zV 2), (1, 13, zV 3), (1, 14, .top), (2, 0, .vec 3 81 P.sets.length (rsF P.sets)), (3, 0, .vec 3 89 P.words.length (rwF P.words))], 1252, 50⟩) ?_ ?_
     ·(simp only [All]; (repeat' apply And.intro) <;> (try intro _) <;> (try intro _) <;> (repeat' apply And.intro) <;> (try intro _) <;> (try intro _) <;> first | trivial | assumption | exact .inr trivial | exact .inr rfl | omega | rfl | exact ⟨_, rfl, rfl⟩ | exact ⟨rfl, rfl⟩ | exact ⟨fun _ => rfl, fun _ => rfl⟩ | (unfold maxLen; omega) | (unfold i64R; first | omega | decide) | decide)
     refine evC_ret ?_
     refine block_ret ?_
     refine then_ret ?_
     refine round_ret ?_
     refine block_ret ?_
     refine then_ret ?_
     refine post_ret ?_
     refine ends_go [] (AV.tup [AV.str (strB (Prod.snd (List.getD P.sets i ((0, 0), [])))), AV.bool true]) [(1, 0, zI P.me), (1, 1, zI P.n), (1, 2, zI P.turn), (1, 3, zI P.iss), (1, 4, .arr 8 (nI P.hd)), (1, 12, zV 2), (1, 13, zV 3), (1, 14, .top), (2, 0, .vec 3 81 P.sets.length (rsF P.sets)), (3, 0, .vec 3 89 P.words.length (rwF P.words))] rfl (by decide) rfl rfl (has_of _ rfl) rfl ⟨⟨_, rfl, rfl⟩, ⟨_, rfl, rfl⟩, ⟨_, rfl, rfl⟩, ⟨_, rfl, rfl⟩, ⟨_, rfl, ⟨rfl, fun _ _ => rfl⟩⟩, ⟨_, rfl, rfl⟩, ⟨_, rfl, rfl⟩, ⟨_, rfl, trivial⟩, ⟨_, rfl, ⟨rfl, rfl, rfl, fun _ _ => rfl⟩⟩, ⟨_, rfl, ⟨rfl, rfl, rfl, fun _ _ => rfl⟩⟩, trivial⟩ trivial ?_
     exact k4 _ _ (by simp [rcon, hget])
    ·have hne : (P.sets.getD i ((0, 0), [])).1 ≠ (t, q) := fun h => by
      rw [h, beq_self_eq_true, beq_self_eq_true] at hc; cases hc
     refine evC_skip ?_
     refine block_normal ?_
     refine then_normal ?_
     refine evC_goL0K (s' := ⟨[(0, 0, zP 1), (0, 1, zI t), (0, 2, zI q), (0, 6, zS { data := #[] }), (0, 7, zB false), (0, 8, zI (IntKind.i64.wrap ((↑i : Int) + 1))), (1, 0, zI P.me), (1, 1, zI P.n), (1, 2, zI P.turn), (1, 3, zI P.iss), (1, 4, .arr 8 (nI P.hd)), (1, 12, zV 2), (1, 13, zV 3), (1, 14, .top), (2, 0, .vec 3 81 P.sets.length (rsF P.sets)), (3, 0, .vec 3 89 P.words.length (rwF P.words))], 1028, 50⟩) ?_
     rw [wrap_add_one hlt (by omega)]
     refine round_normal (⟨i + 1, hlt, fun j hj => ?_⟩) (wk_go [] rfl (by decide) rfl rfl ⟨⟨_, rfl, rfl⟩, ⟨_, rfl, rfl⟩, ⟨_, rfl, rfl⟩, ⟨_, rfl, rfl⟩, ⟨_, rfl, rfl⟩, ⟨_, rfl, rfl⟩, ⟨_, rfl, rfl⟩, ⟨_, rfl, rfl⟩, ⟨_, rfl, rfl⟩, ⟨_, rfl, rfl⟩, ⟨_, rfl, ⟨rfl, fun _ _ => rfl⟩⟩, ⟨_, rfl, rfl⟩, ⟨_, rfl, rfl⟩, ⟨_, rfl, trivial⟩, ⟨_, rfl, ⟨rfl, rfl, rfl, fun _ _ => rfl⟩⟩, ⟨_, rfl, ⟨rfl, rfl, rfl, fun _ _ => rfl⟩⟩, trivial⟩) ?_
     ·rcases Nat.lt_or_ge j i with h | h
      ·exact hno j h
      ·have : j = i := by omega
       subst this; exact hne
     ·show P.sets.length - (i + 1) < P.sets.length - i; omega
   ·have hin : i = P.sets.length := by have := of_decide_eq_false hc; omega
    subst hin
    rw [kget_no hno]
    refine evC_exit ?_
    refine then_exit ?_
    refine round_exit ?_
    refine block_exit ?_
    refine then_normal ?_
    refine evC_go0K (s' := ⟨[(0, 6, zS { data := #[] }), (0, 7, zB false), (1, 0, zI P.me), (1, 1, zI P.n), (1, 2, zI P.turn), (1, 3, zI P.iss), (1, 4, .arr 8 (nI P.hd)), (1, 12, zV 2), (1, 13, zV 3), (1, 14, .top), (2, 0, .vec 3 81 P.sets.length (rsF P.sets)), (3, 0, .vec 3 89 P.words.length (rwF P.words))], 292, 50⟩) ?_
    refine evC_ret ?_
    refine post_ret ?_
    refine ends_go [] (AV.tup [AV.str { data := #[] }, AV.bool false]) [(1, 0, zI P.me), (1, 1, zI P.n), (1, 2, zI P.turn), (1, 3, zI P.iss), (1, 4, .arr 8 (nI P.hd)), (1, 12, zV 2), (1, 13, zV 3), (1, 14, .top), (2, 0, .vec 3 81 P.sets.length (rsF P.sets)), (3, 0, .vec 3 89 P.words.length (rwF P.words))] rfl (by decide) rfl rfl (has_of _ rfl) rfl ⟨⟨_, rfl, rfl⟩, ⟨_, rfl, rfl⟩, ⟨_, rfl, rfl⟩, ⟨_, rfl, rfl⟩, ⟨_, rfl, ⟨rfl, fun _ _ => rfl⟩⟩, ⟨_, rfl, rfl⟩, ⟨_, rfl, rfl⟩, ⟨_, rfl, trivial⟩, ⟨_, rfl, ⟨rfl, rfl, rfl, fun _ _ => rfl⟩⟩, ⟨_, rfl, ⟨rfl, rfl, rfl, fun _ _ => rfl⟩⟩, trivial⟩ trivial ?_
    exact k4 _ _ (by simp [rcon, hget])
 ·cases e
end Go.Eng.S25