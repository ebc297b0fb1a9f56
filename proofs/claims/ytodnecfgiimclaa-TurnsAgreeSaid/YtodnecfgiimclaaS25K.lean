/- Seat 25: a turn's end, walked. -/
import Derived.Test.YtodnecfgiimclaaEngX
import Derived.Test.YtodnecfgiimclaaS25J
set_option linter.unusedSimpArgs false
set_option linter.unusedVariables false
namespace Go.Eng.S25
open Go.Proofs Go.IntWalk
set_option maxRecDepth 10000

/-- The sets for the turn, of so many; are they known? -/
def advL (P : Peer) : Nat → List (List Int)
  | 0 => []
  | k + 1 => advL P k ++ [knownL P P.turn (k : Nat)]
def advK (P : Peer) : Nat → Bool
  | 0 => true
  | k + 1 => advK P k && knownB P P.turn (k : Nat)
theorem advK_not {P : Peer} : ∀ {n k : Nat}, k < n → knownB P P.turn (k : Nat) = false → advK P n = false
  | 0, k, hk, _ => by omega
  | n + 1, k, hk, h => by
    simp only [advK]
    rcases Nat.lt_or_ge k n with hlt | hge
    · rw [advK_not hlt h]; rfl
    · have : k = n := by omega
      subst this; rw [h, Bool.and_false]
theorem advL_len (P : Peer) : ∀ k, (advL P k).length = k
  | 0 => rfl
  | k + 1 => by rw [advL, List.length_append, advL_len P k]; rfl
def advE (P : Peer) : Int := bif advK P P.n.toNat then 0 else 6
def advP (P : Peer) : Peer := bif advK P P.n.toNat then ⟨P.me, P.n, P.turn + 1, P.iss, P.hd, P.sets, P.words⟩ else P
def advS (P : Peer) : List (List Int) := bif advK P P.n.toNat then advL P P.n.toNat else []
theorem knownL_ok {P : Peer} (h : OkP P) (t q : Int) : (knownL P t q).length ≤ 704 ∧ IsU (knownL P t q) := by
  unfold knownL
  cases decide (t < 2) with
  | true => exact ⟨Nat.zero_le _, fun x hx => by cases hx⟩
  | false =>
    show ((kget P.sets t q).getD []).length ≤ 704 ∧ IsU ((kget P.sets t q).getD [])
    cases e : kget P.sets t q with
    | none => exact ⟨Nat.zero_le _, fun x hx => by cases hx⟩
    | some L => exact h.sets _ (kget_mem e)
def sAdvance : Spec := fun args hr nb => match args with
  | [v] => withPeer hr v fun n b c P s rd => some ⟨[s, okT P, OkP P], .tup [.vs nb, .int .i64 (advE P)], rd, pcon n b c (advP P) ++ [(nb, 0, .vec 1 30 (advS P).length (nB (advS P)))]⟩
  | _ => none
theorem peer_eta (P : Peer) : (⟨P.me, P.n, P.turn, P.iss, If (nI P.hd), sOf (smap P.sets), wOf (wmap P.words)⟩ : Peer) = P := by
  rw [sOf_smap, wOf_wmap]
  rfl
theorem peer_side {q : Prop} (P : Peer) (h : q) : q ∧ smap P.sets = smap (sOf (smap P.sets)) ∧ wmap P.words = wmap (wOf (wmap P.words)) ∧ ∀ i, i < 8 → nI P.hd i = nI (If (nI P.hd)) i :=
  ⟨h, by rw [sOf_smap], by rw [wOf_wmap], fun i _ => rfl⟩
theorem advance_ok : SpecOK Try.prog 13 sAdvance := by
  refine spec_at (by kernel_rfl) T_ok (sget_cons known_ok sget_nil) Try.func13 rfl rfl fun args hr nb out e => ?_
  unfold sAdvance at e
  split at e
  · rename_i v
    obtain ⟨n, b, c, P, s, rd, rfl, e, hrd, hs0, hs1, hs2⟩ := peer_open e
    injection e with e; subst e
    refine ⟨hrd, true, [n, b, c], [.ptr 1 0], pcon 1 2 3 P, rfl, fun hs => ?_⟩
    obtain ⟨k1, k2, k3⟩ := hs0 (hs _ List.mem_cons_self)
    have k4 := fun fin P' U => hs2 (hs _ List.mem_cons_self) [] nb fin P' U
    obtain ⟨hT1, hT2⟩ := hs _ (List.mem_cons_of_mem _ List.mem_cons_self)
    have hok := hs _ (List.mem_cons_of_mem _ (List.mem_cons_of_mem _ List.mem_cons_self))
    refine ⟨k1, fun z hz => ⟨(k2 z hz).1, (k2 z hz).2 _ fun x hx => hx⟩, .cons _ _ _ _ (.name _ _ _ rfl) .nil, k3 _ _, ?_⟩
    clear hs hs0 hs1 hs2 k1 k2 k3 hrd
    obtain ⟨hn1, hn2⟩ := hok.n
    obtain ⟨N, hN⟩ := Int.eq_ofNat_of_zero_le (by omega : 0 ≤ P.n)
    have eE : advE P = bif advK P N then 0 else 6 := by unfold advE; rw [hN]; rfl
    have eP : advP P = bif advK P N then ⟨P.me, P.n, P.turn + 1, P.iss, P.hd, P.sets, P.words⟩ else P := by unfold advP; rw [hN]; rfl
    have eS : advS P = bif advK P N then advL P N else [] := by unfold advS; rw [hN]; rfl
    rw [eE, eP, eS]
    clear eE eP eS
    obtain ⟨A, hA⟩ : ∃ A, A = advK P N := ⟨_, rfl⟩
    rw [← hA]
    unfold pcon
    refine evC_go0 (dec := []) (ks := [(0, 0), (0, 2), (0, 3), (1, 0), (1, 1), (1, 2), (1, 3), (1, 4), (1, 12), (1, 13), (1, 14), (2, 0), (3, 0)]) (s' := ⟨[(0, 0, Cont.cell (AV.ptr 1 0)), (0, 2, Cont.cell AV.nils), (0, 3, Cont.cell (AV.int IntKind.i64 0)), (1, 0, Cont.cell (AV.int IntKind.i64 (Peer.me P))), (1, 1, Cont.cell (AV.int IntKind.i64 (Peer.n P))), (1, 2, Cont.cell (AV.int IntKind.i64 (Peer.turn P))), (1, 3, Cont.cell (AV.int IntKind.i64 (Peer.iss P))), (1, 4, Cont.arr 8 (nI (Peer.hd P))), (1, 12, Cont.cell (AV.mp 2)), (1, 13, Cont.cell (AV.mp 3)), (1, 14, Cont.top), (2, 0, Cont.map 2 (smap (Peer.sets P))), (3, 0, Cont.map 2 (wmap (Peer.words P)))], 68, 43⟩) (by kernel_rfl) (by kernel_rfl) ?_
    refine evC_go0 (dec := []) (ks := [(0, 0), (0, 2), (0, 3), (0, 4), (1, 0), (1, 1), (1, 2), (1, 3), (1, 4), (1, 12), (1, 13), (1, 14), (2, 0), (3, 0)]) (s' := ⟨[(0, 0, Cont.cell (AV.ptr 1 0)), (0, 2, Cont.cell AV.nils), (0, 3, Cont.cell (AV.int IntKind.i64 0)), (0, 4, Cont.cell AV.nils), (1, 0, Cont.cell (AV.int IntKind.i64 (Peer.me P))), (1, 1, Cont.cell (AV.int IntKind.i64 (Peer.n P))), (1, 2, Cont.cell (AV.int IntKind.i64 (Peer.turn P))), (1, 3, Cont.cell (AV.int IntKind.i64 (Peer.iss P))), (1, 4, Cont.arr 8 (nI (Peer.hd P))), (1, 12, Cont.cell (AV.mp 2)), (1, 13, Cont.cell (AV.mp 3)), (1, 14, Cont.top), (2, 0, Cont.map 2 (smap (Peer.sets P))), (3, 0, Cont.map 2 (wmap (Peer.words P)))], 100, 43⟩) (by kernel_rfl) (by kernel_rfl) ?_
    refine evC_wk _ (.nil 0 4 1 30 (fun _ => .nils) (Nat.le_of_ble_eq_true rfl) rfl) ?_
    refine evC_seq ?_
    refine evC_go0 (dec := []) (ks := [(0, 0), (0, 2), (0, 3), (0, 4), (0, 11), (0, 12), (1, 0), (1, 1), (1, 2), (1, 3), (1, 4), (1, 12), (1, 13), (1, 14), (2, 0), (3, 0), (100, 0)]) (s' := ⟨[(0, 0, Cont.cell (AV.ptr 1 0)), (0, 2, Cont.cell AV.nils), (0, 3, Cont.cell (AV.int IntKind.i64 0)), (0, 4, Cont.cell (AV.vs 100)), (0, 11, Cont.cell (AV.int IntKind.i64 (Peer.n P))), (0, 12, Cont.cell (AV.int IntKind.i64 0)), (1, 0, Cont.cell (AV.int IntKind.i64 (Peer.me P))), (1, 1, Cont.cell (AV.int IntKind.i64 (Peer.n P))), (1, 2, Cont.cell (AV.int IntKind.i64 (Peer.turn P))), (1, 3, Cont.cell (AV.int IntKind.i64 (Peer.iss P))), (1, 4, Cont.arr 8 (nI (Peer.hd P))), (1, 12, Cont.cell (AV.mp 2)), (1, 13, Cont.cell (AV.mp 3)), (1, 14, Cont.top), (2, 0, Cont.map 2 (smap (Peer.sets P))), (3, 0, Cont.map 2 (wmap (Peer.words P))), (100, 0, Cont.vec 1 30 0 fun x => AV.nils)], 261, 43⟩) (by kernel_rfl) (by kernel_rfl) ?_
    refine evC_block ?_
    refine evC_loop (ι := { k : Nat // k ≤ N ∧ advK P k = true }) (fun k => ⟨[(0, 0, Cont.cell (AV.ptr 1 0)), (0, 2, Cont.cell AV.nils), (0, 3, Cont.cell (AV.int IntKind.i64 0)), (0, 4, Cont.cell (AV.vs 4)), (0, 11, Cont.cell (AV.int IntKind.i64 (Peer.n P))), (0, 12, .cell (.int .i64 (k.1 : Nat))), (1, 0, Cont.cell (AV.int IntKind.i64 (Peer.me P))), (1, 1, Cont.cell (AV.int IntKind.i64 (Peer.n P))), (1, 2, Cont.cell (AV.int IntKind.i64 (Peer.turn P))), (1, 3, Cont.cell (AV.int IntKind.i64 (Peer.iss P))), (1, 4, Cont.arr 8 (nI (Peer.hd P))), (1, 12, Cont.cell (AV.mp 2)), (1, 13, Cont.cell (AV.mp 3)), (1, 14, Cont.top), (2, 0, Cont.map 2 (smap (Peer.sets P))), (3, 0, Cont.map 2 (wmap (Peer.words P))), (4, 0, .vec 1 30 (advL P k.1).length (nB (advL P k.1)))], 5, 43⟩) (fun k => N - k.1) ⟨0, Nat.zero_le _, rfl⟩ (wk_go [100] rfl (by decide) rfl rfl ⟨⟨_, rfl, rfl⟩, ⟨_, rfl, rfl⟩, ⟨_, rfl, rfl⟩, ⟨_, rfl, rfl⟩, ⟨_, rfl, rfl⟩, ⟨_, rfl, rfl⟩, ⟨_, rfl, rfl⟩, ⟨_, rfl, rfl⟩, ⟨_, rfl, rfl⟩, ⟨_, rfl, rfl⟩, ⟨_, rfl, rfl, fun _ _ => rfl⟩, ⟨_, rfl, rfl⟩, ⟨_, rfl, rfl⟩, ⟨_, rfl, trivial⟩, ⟨_, rfl, Go.Eng.S25.cw_smap _⟩, ⟨_, rfl, cw_map (Go.Eng.S25.flat_wmap _)⟩, ⟨_, rfl, ⟨rfl, rfl, rfl, fun _ hi => absurd hi (Nat.not_lt_zero _)⟩⟩, trivial⟩) ?_
    rintro ⟨k, hk, hK⟩
    refine evC_go0 (dec := []) (ks := [(0, 0), (0, 2), (0, 3), (0, 4), (0, 11), (0, 12), (0, 13), (1, 0), (1, 1), (1, 2), (1, 3), (1, 4), (1, 12), (1, 13), (1, 14), (2, 0), (3, 0), (4, 0)]) (s' := ⟨[(0, 0, Cont.cell (AV.ptr 1 0)), (0, 2, Cont.cell AV.nils), (0, 3, Cont.cell (AV.int IntKind.i64 0)), (0, 4, Cont.cell (AV.vs 4)), (0, 11, Cont.cell (AV.int IntKind.i64 (Peer.n P))), (0, 12, Cont.cell (AV.int IntKind.i64 (↑k : Int))), (0, 13, Cont.cell (AV.bool (decide ((↑k : Int) < Peer.n P)))), (1, 0, Cont.cell (AV.int IntKind.i64 (Peer.me P))), (1, 1, Cont.cell (AV.int IntKind.i64 (Peer.n P))), (1, 2, Cont.cell (AV.int IntKind.i64 (Peer.turn P))), (1, 3, Cont.cell (AV.int IntKind.i64 (Peer.iss P))), (1, 4, Cont.arr 8 (nI (Peer.hd P))), (1, 12, Cont.cell (AV.mp 2)), (1, 13, Cont.cell (AV.mp 3)), (1, 14, Cont.top), (2, 0, Cont.map 2 (smap (Peer.sets P))), (3, 0, Cont.map 2 (wmap (Peer.words P))), (4, 0, Cont.vec 1 30 (List.length (advL P k)) (nB (advL P k)))], 37, 43⟩) (by kernel_rfl) (by kernel_rfl) ?_
    refine evC_seq ?_
    refine evC_if (q := decide ((↑k : Int) < Peer.n P)) (by kernel_rfl) (fun hc => ?_) (fun hc => ?_)
    · have hlt : k < N := by have := of_decide_eq_true hc; omega
      clear hc
      have hkl := knownL_ok hok P.turn (k : Int)
      refine evC_skip ?_
      refine then_normal ?_
      refine evC_seq ?_
      refine evC_block ?_
      refine evC_go0 (dec := []) (ks := [(0, 0), (0, 2), (0, 3), (0, 4), (0, 5), (0, 11), (0, 12), (1, 0), (1, 1), (1, 2), (1, 3), (1, 4), (1, 12), (1, 13), (1, 14), (2, 0), (3, 0), (4, 0)]) (s' := ⟨[(0, 0, Cont.cell (AV.ptr 1 0)), (0, 2, Cont.cell AV.nils), (0, 3, Cont.cell (AV.int IntKind.i64 0)), (0, 4, Cont.cell (AV.vs 4)), (0, 5, Cont.cell (AV.int IntKind.i64 (↑k : Int))), (0, 11, Cont.cell (AV.int IntKind.i64 (Peer.n P))), (0, 12, Cont.cell (AV.int IntKind.i64 (↑k : Int))), (1, 0, Cont.cell (AV.int IntKind.i64 (Peer.me P))), (1, 1, Cont.cell (AV.int IntKind.i64 (Peer.n P))), (1, 2, Cont.cell (AV.int IntKind.i64 (Peer.turn P))), (1, 3, Cont.cell (AV.int IntKind.i64 (Peer.iss P))), (1, 4, Cont.arr 8 (nI (Peer.hd P))), (1, 12, Cont.cell (AV.mp 2)), (1, 13, Cont.cell (AV.mp 3)), (1, 14, Cont.top), (2, 0, Cont.map 2 (smap (Peer.sets P))), (3, 0, Cont.map 2 (wmap (Peer.words P))), (4, 0, Cont.vec 1 30 (List.length (advL P k)) (nB (advL P k)))], 101, 43⟩) (by kernel_rfl) (by kernel_rfl) ?_
      refine evC_go (dec := []) (ks := [(0, 0), (0, 2), (0, 3), (0, 4), (0, 6), (0, 7), (0, 11), (0, 12), (1, 0), (1, 1), (1, 2), (1, 3), (1, 4), (1, 12), (1, 13), (1, 14), (2, 0), (3, 0), (4, 0)]) (ps := [((0 : Nat) < (1 : Nat) ∧ (0 : Nat) < (2 : Nat) ∧ (0 : Nat) < (3 : Nat) ∧ (1 : Nat) ≠ (2 : Nat) ∧ (1 : Nat) ≠ (3 : Nat) ∧ (2 : Nat) ≠ (3 : Nat)) ∧ smap (Peer.sets P) = smap (sOf (smap (Peer.sets P))) ∧ wmap (Peer.words P) = wmap (wOf (wmap (Peer.words P))) ∧ ∀ (i : Nat), i < (8 : Nat) → nI (Peer.hd P) i = nI (If (nI (Peer.hd P))) i]) (s' := ⟨[(0, 0, Cont.cell (AV.ptr 1 0)), (0, 2, Cont.cell AV.nils), (0, 3, Cont.cell (AV.int IntKind.i64 0)), (0, 4, Cont.cell (AV.vs 4)), (0, 6, Cont.cell (AV.rs 1 (List.length (knownL { me := Peer.me P, n := Peer.n P, turn := Peer.turn P, iss := Peer.iss P, hd := If (nI (Peer.hd P)), sets := sOf (smap (Peer.sets P)), words := wOf (wmap (Peer.words P)) } (Peer.turn P) (↑k : Int))) false (nU (knownL { me := Peer.me P, n := Peer.n P, turn := Peer.turn P, iss := Peer.iss P, hd := If (nI (Peer.hd P)), sets := sOf (smap (Peer.sets P)), words := wOf (wmap (Peer.words P)) } (Peer.turn P) (↑k : Int))))), (0, 7, Cont.cell (AV.bool (knownB { me := Peer.me P, n := Peer.n P, turn := Peer.turn P, iss := Peer.iss P, hd := If (nI (Peer.hd P)), sets := sOf (smap (Peer.sets P)), words := wOf (wmap (Peer.words P)) } (Peer.turn P) (↑k : Int)))), (0, 11, Cont.cell (AV.int IntKind.i64 (Peer.n P))), (0, 12, Cont.cell (AV.int IntKind.i64 (↑k : Int))), (1, 0, Cont.cell (AV.int IntKind.i64 (Peer.me P))), (1, 1, Cont.cell (AV.int IntKind.i64 (Peer.n P))), (1, 2, Cont.cell (AV.int IntKind.i64 (Peer.turn P))), (1, 3, Cont.cell (AV.int IntKind.i64 (Peer.iss P))), (1, 4, Cont.arr 8 (nI (Peer.hd P))), (1, 12, Cont.cell (AV.mp 2)), (1, 13, Cont.cell (AV.mp 3)), (1, 14, Cont.top), (2, 0, Cont.map 2 (smap (Peer.sets P))), (3, 0, Cont.map 2 (wmap (Peer.words P))), (4, 0, Cont.vec 1 30 (List.length (advL P k)) (nB (advL P k)))], 517, 43⟩) (by kernel_rfl) (by kernel_rfl) ?_ ?_
      · exact peer_side P (by decide)
      rw [peer_eta]
      refine evC_seq ?_
      refine evC_go0 (dec := []) (ks := [(0, 0), (0, 2), (0, 3), (0, 4), (0, 6), (0, 11), (0, 12), (0, 27), (1, 0), (1, 1), (1, 2), (1, 3), (1, 4), (1, 12), (1, 13), (1, 14), (2, 0), (3, 0), (4, 0)]) (s' := ⟨[(0, 0, Cont.cell (AV.ptr 1 0)), (0, 2, Cont.cell AV.nils), (0, 3, Cont.cell (AV.int IntKind.i64 0)), (0, 4, Cont.cell (AV.vs 4)), (0, 6, Cont.cell (AV.rs 1 (List.length (knownL P (Peer.turn P) (↑k : Int))) false (nU (knownL P (Peer.turn P) (↑k : Int))))), (0, 11, Cont.cell (AV.int IntKind.i64 (Peer.n P))), (0, 12, Cont.cell (AV.int IntKind.i64 (↑k : Int))), (0, 27, Cont.cell (AV.bool !knownB P (Peer.turn P) (↑k : Int))), (1, 0, Cont.cell (AV.int IntKind.i64 (Peer.me P))), (1, 1, Cont.cell (AV.int IntKind.i64 (Peer.n P))), (1, 2, Cont.cell (AV.int IntKind.i64 (Peer.turn P))), (1, 3, Cont.cell (AV.int IntKind.i64 (Peer.iss P))), (1, 4, Cont.arr 8 (nI (Peer.hd P))), (1, 12, Cont.cell (AV.mp 2)), (1, 13, Cont.cell (AV.mp 3)), (1, 14, Cont.top), (2, 0, Cont.map 2 (smap (Peer.sets P))), (3, 0, Cont.map 2 (wmap (Peer.words P))), (4, 0, Cont.vec 1 30 (List.length (advL P k)) (nB (advL P k)))], 581, 43⟩) (by kernel_rfl) (by kernel_rfl) ?_
      refine evC_if (q := !knownB P (Peer.turn P) (↑k : Int)) (by kernel_rfl) (fun hc => ?_) (fun hc => ?_)
      · have hb : knownB P P.turn (k : Int) = false := by simpa using hc
        obtain rfl : A = false := by rw [hA, advK_not hlt hb]
        refine evC_go0 (dec := []) (ks := [(0, 0), (0, 2), (0, 3), (0, 4), (0, 6), (0, 11), (0, 12), (1, 0), (1, 1), (1, 2), (1, 3), (1, 4), (1, 12), (1, 13), (1, 14), (2, 0), (3, 0), (4, 0)]) (s' := ⟨[(0, 0, Cont.cell (AV.ptr 1 0)), (0, 2, Cont.cell AV.nils), (0, 3, Cont.cell (AV.int IntKind.i64 6)), (0, 4, Cont.cell (AV.vs 4)), (0, 6, Cont.cell (AV.rs 1 (List.length (knownL P (Peer.turn P) (↑k : Int))) false (nU (knownL P (Peer.turn P) (↑k : Int))))), (0, 11, Cont.cell (AV.int IntKind.i64 (Peer.n P))), (0, 12, Cont.cell (AV.int IntKind.i64 (↑k : Int))), (1, 0, Cont.cell (AV.int IntKind.i64 (Peer.me P))), (1, 1, Cont.cell (AV.int IntKind.i64 (Peer.n P))), (1, 2, Cont.cell (AV.int IntKind.i64 (Peer.turn P))), (1, 3, Cont.cell (AV.int IntKind.i64 (Peer.iss P))), (1, 4, Cont.arr 8 (nI (Peer.hd P))), (1, 12, Cont.cell (AV.mp 2)), (1, 13, Cont.cell (AV.mp 3)), (1, 14, Cont.top), (2, 0, Cont.map 2 (smap (Peer.sets P))), (3, 0, Cont.map 2 (wmap (Peer.words P))), (4, 0, Cont.vec 1 30 (List.length (advL P k)) (nB (advL P k)))], 645, 43⟩) (by kernel_rfl) (by kernel_rfl) ?_
        refine evC_wk _ (.nil 0 2 1 30 (fun _ => .nils) (Nat.le_of_ble_eq_true rfl) rfl) ?_
        refine evC_ret ?_
        refine then_ret ?_
        refine block_ret ?_
        refine then_ret ?_
        refine round_ret ?_
        refine block_ret ?_
        refine then_ret ?_
        refine post_ret ?_
        refine ends_go [645] (AV.tup [AV.vs 4, AV.int IntKind.i64 6]) [(1, 0, Cont.cell (AV.int IntKind.i64 (Peer.me P))), (1, 1, Cont.cell (AV.int IntKind.i64 (Peer.n P))), (1, 2, Cont.cell (AV.int IntKind.i64 (Peer.turn P))), (1, 3, Cont.cell (AV.int IntKind.i64 (Peer.iss P))), (1, 4, Cont.arr 8 (nI (Peer.hd P))), (1, 12, Cont.cell (AV.mp 2)), (1, 13, Cont.cell (AV.mp 3)), (1, 14, Cont.top), (2, 0, Cont.map 2 (smap (Peer.sets P))), (3, 0, Cont.map 2 (wmap (Peer.words P))), (4, 0, Cont.vec 1 30 0 fun x => AV.nils)] rfl (by decide) rfl rfl (has_of _ rfl) rfl ⟨⟨_, rfl, rfl⟩, ⟨_, rfl, rfl⟩, ⟨_, rfl, rfl⟩, ⟨_, rfl, rfl⟩, ⟨_, rfl, ⟨rfl, fun _ _ => rfl⟩⟩, ⟨_, rfl, rfl⟩, ⟨_, rfl, rfl⟩, ⟨_, rfl, trivial⟩, ⟨_, rfl, Go.Eng.S25.cw_smap _⟩, ⟨_, rfl, cw_map (Go.Eng.S25.flat_wmap _)⟩, ⟨_, rfl, ⟨rfl, rfl, rfl, fun _ _ => rfl⟩⟩, trivial⟩ ⟨fun _ => ⟨1, _, rfl, rfl, rfl, ⟨has_of _ rfl, rfl⟩⟩, fun _ => ⟨1, _, rfl, rfl, rfl, ⟨has_of _ rfl, rfl⟩⟩, fun _ => ⟨1, _, rfl, rfl, rfl, ⟨has_of _ rfl, rfl⟩⟩, fun _ => ⟨1, _, rfl, rfl, rfl, ⟨has_of _ rfl, rfl⟩⟩, fun _ => ⟨1, _, rfl, rfl, rfl, ⟨rfl, fun _ _ => ⟨has_of _ rfl, rfl⟩⟩⟩, fun _ => ⟨1, _, rfl, rfl, rfl, ⟨has_of _ rfl, rfl⟩⟩, fun _ => ⟨1, _, rfl, rfl, rfl, ⟨has_of _ rfl, rfl⟩⟩, fun _ => ⟨1, _, rfl, rfl, rfl, trivial⟩, fun _ => ⟨2, _, rfl, rfl, rfl, Go.Eng.S25.cf_smap _⟩, fun _ => ⟨3, _, rfl, rfl, rfl, cf_map (Go.Eng.S25.flat_wmap _)⟩, fun _ => ⟨4, _, rfl, rfl, rfl, ⟨rfl, rfl, rfl, fun _ hi => absurd hi (Nat.not_lt_zero _)⟩⟩, trivial⟩ ?_
        · exact k4 _ _ _ rfl
      · have hb : knownB P P.turn (k : Int) = true := by simpa using hc
        clear hc
        have hadv : advL P (k + 1) = advL P k ++ [knownL P P.turn (k : Int)] := rfl
        have hll := advL_len P k
        generalize knownL P P.turn (k : Int) = S at hkl hadv ⊢
        generalize advL P k = acc at hadv hll ⊢
        refine evC_skip ?_
        refine then_normal ?_
        refine evC_goL (dec := []) (ks := [(0, 0), (0, 2), (0, 3), (0, 4), (0, 11), (0, 12), (1, 0), (1, 1), (1, 2), (1, 3), (1, 4), (1, 12), (1, 13), (1, 14), (2, 0), (3, 0), (677, 0), (741, 0)]) (ps := [((0 : Nat) + List.length S) * (1 : Nat) ≤ (140737488355328 : Nat), (0 : Nat) + List.length S ≤ maxLen, List.length S = (0 : Nat) ∨ (1 : Nat) = (1 : Nat), (1 : Nat) = (1 : Nat), (5 : Nat) = (5 : Nat), (List.length acc + (1 : Nat)) * (24 : Nat) ≤ (140737488355328 : Nat), List.length acc + (1 : Nat) ≤ maxLen, (1 : Nat) = (0 : Nat) ∨ (1 : Nat) = (1 : Nat), (1 : Nat) = (1 : Nat), (30 : Nat) = (30 : Nat)]) (s' := ⟨[(0, 0, Cont.cell (AV.ptr 1 0)), (0, 2, Cont.cell AV.nils), (0, 3, Cont.cell (AV.int IntKind.i64 0)), (0, 4, Cont.cell (AV.vs 741)), (0, 11, Cont.cell (AV.int IntKind.i64 (Peer.n P))), (0, 12, Cont.cell (AV.int IntKind.i64 (↑k : Int))), (1, 0, Cont.cell (AV.int IntKind.i64 (Peer.me P))), (1, 1, Cont.cell (AV.int IntKind.i64 (Peer.n P))), (1, 2, Cont.cell (AV.int IntKind.i64 (Peer.turn P))), (1, 3, Cont.cell (AV.int IntKind.i64 (Peer.iss P))), (1, 4, Cont.arr 8 (nI (Peer.hd P))), (1, 12, Cont.cell (AV.mp 2)), (1, 13, Cont.cell (AV.mp 3)), (1, 14, Cont.top), (2, 0, Cont.map 2 (smap (Peer.sets P))), (3, 0, Cont.map 2 (wmap (Peer.words P))), (677, 0, Cont.vec 1 5 (0 + List.length S) (catF 0 (pget []) (nU S))), (741, 0, Cont.vec 1 30 (List.length acc + 1) (catF (List.length acc) (nB acc) (pget [(0, AV.vs 677)])))], 805, 43⟩) (by kernel_rfl) (by kernel_rfl) ?_ ?_
        · (simp only [All]; (repeat' apply And.intro) <;> (try intro _) <;> (try intro _) <;> (repeat' apply And.intro) <;> (try intro _) <;> (try intro _) <;> first | trivial | assumption | exact .inr trivial | exact .inr rfl | omega | rfl | exact ⟨_, rfl, rfl⟩ | exact ⟨rfl, rfl⟩ | exact ⟨fun _ => rfl, fun _ => rfl⟩ | (unfold maxLen; omega) | (unfold i64R; first | omega | decide) | decide)
        refine block_normal ?_
        refine then_normal ?_
        refine evC_wk (s' := ⟨[(0, 0, Cont.cell (AV.ptr 1 0)), (0, 2, Cont.cell AV.nils), (0, 3, Cont.cell (AV.int IntKind.i64 0)), (0, 4, Cont.cell (AV.vs 4)), (0, 11, Cont.cell (AV.int IntKind.i64 (Peer.n P))), (0, 12, Cont.cell (AV.int IntKind.i64 (↑k : Int))), (1, 0, Cont.cell (AV.int IntKind.i64 (Peer.me P))), (1, 1, Cont.cell (AV.int IntKind.i64 (Peer.n P))), (1, 2, Cont.cell (AV.int IntKind.i64 (Peer.turn P))), (1, 3, Cont.cell (AV.int IntKind.i64 (Peer.iss P))), (1, 4, Cont.arr 8 (nI (Peer.hd P))), (1, 12, Cont.cell (AV.mp 2)), (1, 13, Cont.cell (AV.mp 3)), (1, 14, Cont.top), (2, 0, Cont.map 2 (smap (Peer.sets P))), (3, 0, Cont.map 2 (wmap (Peer.words P))), (4, 0, Cont.vec 1 30 (List.length acc + 1) (catF (List.length acc) (nB acc) (pget [(0, AV.vs 5)]))), (5, 0, .vec 1 5 S.length (nU S))], 6, 43⟩) _ (wk_go [741, 677] rfl (by decide) rfl rfl ⟨⟨_, rfl, rfl⟩, ⟨_, rfl, rfl⟩, ⟨_, rfl, rfl⟩, ⟨_, rfl, rfl⟩, ⟨_, rfl, rfl⟩, ⟨_, rfl, rfl⟩, ⟨_, rfl, rfl⟩, ⟨_, rfl, rfl⟩, ⟨_, rfl, rfl⟩, ⟨_, rfl, rfl⟩, ⟨_, rfl, rfl, fun _ _ => rfl⟩, ⟨_, rfl, rfl⟩, ⟨_, rfl, rfl⟩, ⟨_, rfl, trivial⟩, ⟨_, rfl, Go.Eng.S25.cw_smap _⟩, ⟨_, rfl, cw_map (Go.Eng.S25.flat_wmap _)⟩, ⟨_, rfl, ?_⟩, ⟨_, rfl, ?_⟩, trivial⟩) ?_
        · exact cw_cat_vs _ _ _ _ _ _ rfl
        · exact ⟨rfl, rfl, Nat.zero_add _, fun i hi => rfl⟩
        refine evC_wk (s' := ⟨[(0, 0, Cont.cell (AV.ptr 1 0)), (0, 2, Cont.cell AV.nils), (0, 3, Cont.cell (AV.int IntKind.i64 0)), (0, 4, Cont.cell (AV.vs 4)), (0, 11, Cont.cell (AV.int IntKind.i64 (Peer.n P))), (0, 12, Cont.cell (AV.int IntKind.i64 (↑k : Int))), (1, 0, Cont.cell (AV.int IntKind.i64 (Peer.me P))), (1, 1, Cont.cell (AV.int IntKind.i64 (Peer.n P))), (1, 2, Cont.cell (AV.int IntKind.i64 (Peer.turn P))), (1, 3, Cont.cell (AV.int IntKind.i64 (Peer.iss P))), (1, 4, Cont.arr 8 (nI (Peer.hd P))), (1, 12, Cont.cell (AV.mp 2)), (1, 13, Cont.cell (AV.mp 3)), (1, 14, Cont.top), (2, 0, Cont.map 2 (smap (Peer.sets P))), (3, 0, Cont.map 2 (wmap (Peer.words P))), (4, 0, Cont.vec 1 30 (List.length acc + 1) (catF (List.length acc) (nB acc) (pget [(0, AV.rs 1 (List.length S) false (nU S))])))], 5, 43⟩) _ (.trans (.frz 5 1 5 (List.length S) (nU S) (Nat.le_of_ble_eq_true rfl) rfl) (wk_go [4] rfl (by decide) rfl rfl ⟨⟨_, rfl, rfl⟩, ⟨_, rfl, rfl⟩, ⟨_, rfl, rfl⟩, ⟨_, rfl, rfl⟩, ⟨_, rfl, rfl⟩, ⟨_, rfl, rfl⟩, ⟨_, rfl, rfl⟩, ⟨_, rfl, rfl⟩, ⟨_, rfl, rfl⟩, ⟨_, rfl, rfl⟩, ⟨_, rfl, rfl, fun _ _ => rfl⟩, ⟨_, rfl, rfl⟩, ⟨_, rfl, rfl⟩, ⟨_, rfl, trivial⟩, ⟨_, rfl, Go.Eng.S25.cw_sfrz _⟩, ⟨_, rfl, Go.Eng.S25.cw_wfrz _⟩, ⟨_, rfl, ?_⟩, trivial⟩)) ?_
        · exact cw_cat_frz _ _ _ _ _ _
        refine evC_wk (s' := ⟨[(0, 0, Cont.cell (AV.ptr 1 0)), (0, 2, Cont.cell AV.nils), (0, 3, Cont.cell (AV.int IntKind.i64 0)), (0, 4, Cont.cell (AV.vs 4)), (0, 11, Cont.cell (AV.int IntKind.i64 (Peer.n P))), (0, 12, Cont.cell (AV.int IntKind.i64 (↑k : Int))), (1, 0, Cont.cell (AV.int IntKind.i64 (Peer.me P))), (1, 1, Cont.cell (AV.int IntKind.i64 (Peer.n P))), (1, 2, Cont.cell (AV.int IntKind.i64 (Peer.turn P))), (1, 3, Cont.cell (AV.int IntKind.i64 (Peer.iss P))), (1, 4, Cont.arr 8 (nI (Peer.hd P))), (1, 12, Cont.cell (AV.mp 2)), (1, 13, Cont.cell (AV.mp 3)), (1, 14, Cont.top), (2, 0, Cont.map 2 (smap (Peer.sets P))), (3, 0, Cont.map 2 (wmap (Peer.words P))), (4, 0, .vec 1 30 (acc ++ [S]).length (nB (acc ++ [S])))], 5, 43⟩) _ (wk_go [4] rfl (by decide) rfl rfl ⟨⟨_, rfl, rfl⟩, ⟨_, rfl, rfl⟩, ⟨_, rfl, rfl⟩, ⟨_, rfl, rfl⟩, ⟨_, rfl, rfl⟩, ⟨_, rfl, rfl⟩, ⟨_, rfl, rfl⟩, ⟨_, rfl, rfl⟩, ⟨_, rfl, rfl⟩, ⟨_, rfl, rfl⟩, ⟨_, rfl, rfl, fun _ _ => rfl⟩, ⟨_, rfl, rfl⟩, ⟨_, rfl, rfl⟩, ⟨_, rfl, trivial⟩, ⟨_, rfl, Go.Eng.S25.cw_smap _⟩, ⟨_, rfl, cw_map (Go.Eng.S25.flat_wmap _)⟩, ⟨_, rfl, ?_⟩, trivial⟩) ?_
        · exact ⟨rfl, rfl, by rw [List.length_append]; rfl, fun i hi => cat_nB acc S i (by rw [List.length_append] at hi; exact hi)⟩
        refine evC_goL0 (dec := []) (ks := [(0, 0), (0, 2), (0, 3), (0, 4), (0, 11), (0, 12), (1, 0), (1, 1), (1, 2), (1, 3), (1, 4), (1, 12), (1, 13), (1, 14), (2, 0), (3, 0), (4, 0)]) (s' := ⟨[(0, 0, Cont.cell (AV.ptr 1 0)), (0, 2, Cont.cell AV.nils), (0, 3, Cont.cell (AV.int IntKind.i64 0)), (0, 4, Cont.cell (AV.vs 4)), (0, 11, Cont.cell (AV.int IntKind.i64 (Peer.n P))), (0, 12, Cont.cell (AV.int IntKind.i64 (IntKind.i64.wrap ((↑k : Int) + 1)))), (1, 0, Cont.cell (AV.int IntKind.i64 (Peer.me P))), (1, 1, Cont.cell (AV.int IntKind.i64 (Peer.n P))), (1, 2, Cont.cell (AV.int IntKind.i64 (Peer.turn P))), (1, 3, Cont.cell (AV.int IntKind.i64 (Peer.iss P))), (1, 4, Cont.arr 8 (nI (Peer.hd P))), (1, 12, Cont.cell (AV.mp 2)), (1, 13, Cont.cell (AV.mp 3)), (1, 14, Cont.top), (2, 0, Cont.map 2 (smap (Peer.sets P))), (3, 0, Cont.map 2 (wmap (Peer.words P))), (4, 0, Cont.vec 1 30 (List.length (acc ++ [S])) (nB (acc ++ [S])))], 69, 43⟩) (by kernel_rfl) (by kernel_rfl) ?_
        refine round_normal (⟨k + 1, hlt, by show (advK P k && knownB P P.turn (k : Int)) = true; rw [hK, hb]; rfl⟩) (wk_go [4] rfl (by decide) rfl rfl ⟨⟨_, rfl, rfl⟩, ⟨_, rfl, rfl⟩, ⟨_, rfl, rfl⟩, ⟨_, rfl, rfl⟩, ⟨_, rfl, rfl⟩, ⟨_, rfl, ?_⟩, ⟨_, rfl, rfl⟩, ⟨_, rfl, rfl⟩, ⟨_, rfl, rfl⟩, ⟨_, rfl, rfl⟩, ⟨_, rfl, ⟨rfl, fun _ _ => rfl⟩⟩, ⟨_, rfl, rfl⟩, ⟨_, rfl, rfl⟩, ⟨_, rfl, trivial⟩, ⟨_, rfl, Go.Eng.S25.cw_smap _⟩, ⟨_, rfl, cw_map (Go.Eng.S25.flat_wmap _)⟩, ⟨_, rfl, ?_⟩, trivial⟩) ?_
        · show AV.int .i64 _ = AV.int .i64 _
          rw [i64_in ((k : Int) + 1) (by omega)]
          rfl
        · refine ⟨rfl, rfl, ?_, fun i hi => ?_⟩
          · show (acc ++ [S]).length = (advL P (k + 1)).length
            rw [hadv]
          · show nB (acc ++ [S]) i = nB (advL P (k + 1)) i
            rw [hadv]
        · show N - (k + 1) < N - k
          omega
    · have hkN : k = N := by have := of_decide_eq_false hc; omega
      obtain rfl : A = true := by rw [hA, ← hkN]; exact hK
      clear hc
      simp only [cond_true]
      refine evC_exit ?_
      refine then_exit ?_
      refine round_exit ?_
      refine block_exit ?_
      refine then_normal ?_
      refine evC_go0 (dec := []) (ks := [(0, 2), (0, 3), (0, 4), (1, 0), (1, 1), (1, 2), (1, 3), (1, 4), (1, 12), (1, 13), (1, 14), (2, 0), (3, 0), (4, 0)]) (s' := ⟨[(0, 2, Cont.cell AV.nils), (0, 3, Cont.cell (AV.int IntKind.i64 0)), (0, 4, Cont.cell (AV.vs 4)), (1, 0, Cont.cell (AV.int IntKind.i64 (Peer.me P))), (1, 1, Cont.cell (AV.int IntKind.i64 (Peer.n P))), (1, 2, Cont.cell (AV.int IntKind.i64 (IntKind.i64.wrap (Peer.turn P + 1)))), (1, 3, Cont.cell (AV.int IntKind.i64 (Peer.iss P))), (1, 4, Cont.arr 8 (nI (Peer.hd P))), (1, 12, Cont.cell (AV.mp 2)), (1, 13, Cont.cell (AV.mp 3)), (1, 14, Cont.top), (2, 0, Cont.map 2 (smap (Peer.sets P))), (3, 0, Cont.map 2 (wmap (Peer.words P))), (4, 0, Cont.vec 1 30 (List.length (advL P k)) (nB (advL P k)))], 293, 43⟩) (by kernel_rfl) (by kernel_rfl) ?_
      rw [i64_in (P.turn + 1) (by omega)]
      refine evC_go0 (dec := []) (ks := [(0, 2), (0, 3), (1, 0), (1, 1), (1, 2), (1, 3), (1, 4), (1, 12), (1, 13), (1, 14), (2, 0), (3, 0), (4, 0)]) (s' := ⟨[(0, 2, Cont.cell (AV.vs 4)), (0, 3, Cont.cell (AV.int IntKind.i64 0)), (1, 0, Cont.cell (AV.int IntKind.i64 (Peer.me P))), (1, 1, Cont.cell (AV.int IntKind.i64 (Peer.n P))), (1, 2, Cont.cell (AV.int IntKind.i64 (Peer.turn P + 1))), (1, 3, Cont.cell (AV.int IntKind.i64 (Peer.iss P))), (1, 4, Cont.arr 8 (nI (Peer.hd P))), (1, 12, Cont.cell (AV.mp 2)), (1, 13, Cont.cell (AV.mp 3)), (1, 14, Cont.top), (2, 0, Cont.map 2 (smap (Peer.sets P))), (3, 0, Cont.map 2 (wmap (Peer.words P))), (4, 0, Cont.vec 1 30 (List.length (advL P k)) (nB (advL P k)))], 389, 43⟩) (by kernel_rfl) (by kernel_rfl) ?_
      refine evC_ret ?_
      refine post_ret ?_
      refine ends_go [4] (AV.tup [AV.vs 4, AV.int IntKind.i64 0]) [(1, 0, Cont.cell (AV.int IntKind.i64 (Peer.me P))), (1, 1, Cont.cell (AV.int IntKind.i64 (Peer.n P))), (1, 2, Cont.cell (AV.int IntKind.i64 (Peer.turn P + 1))), (1, 3, Cont.cell (AV.int IntKind.i64 (Peer.iss P))), (1, 4, Cont.arr 8 (nI (Peer.hd P))), (1, 12, Cont.cell (AV.mp 2)), (1, 13, Cont.cell (AV.mp 3)), (1, 14, Cont.top), (2, 0, Cont.map 2 (smap (Peer.sets P))), (3, 0, Cont.map 2 (wmap (Peer.words P))), (4, 0, Cont.vec 1 30 (List.length (advL P k)) (nB (advL P k)))] rfl (by decide) rfl rfl (has_of _ rfl) rfl ⟨⟨_, rfl, rfl⟩, ⟨_, rfl, rfl⟩, ⟨_, rfl, rfl⟩, ⟨_, rfl, rfl⟩, ⟨_, rfl, ⟨rfl, fun _ _ => rfl⟩⟩, ⟨_, rfl, rfl⟩, ⟨_, rfl, rfl⟩, ⟨_, rfl, trivial⟩, ⟨_, rfl, Go.Eng.S25.cw_smap _⟩, ⟨_, rfl, cw_map (Go.Eng.S25.flat_wmap _)⟩, ⟨_, rfl, ⟨rfl, rfl, rfl, fun _ _ => rfl⟩⟩, trivial⟩ ⟨fun _ => ⟨1, _, rfl, rfl, rfl, ⟨has_of _ rfl, rfl⟩⟩, fun _ => ⟨1, _, rfl, rfl, rfl, ⟨has_of _ rfl, rfl⟩⟩, fun _ => ⟨1, _, rfl, rfl, rfl, ⟨has_of _ rfl, rfl⟩⟩, fun _ => ⟨1, _, rfl, rfl, rfl, ⟨has_of _ rfl, rfl⟩⟩, fun _ => ⟨1, _, rfl, rfl, rfl, ⟨rfl, fun _ _ => ⟨has_of _ rfl, rfl⟩⟩⟩, fun _ => ⟨1, _, rfl, rfl, rfl, ⟨has_of _ rfl, rfl⟩⟩, fun _ => ⟨1, _, rfl, rfl, rfl, ⟨has_of _ rfl, rfl⟩⟩, fun _ => ⟨1, _, rfl, rfl, rfl, trivial⟩, fun _ => ⟨2, _, rfl, rfl, rfl, Go.Eng.S25.cf_smap _⟩, fun _ => ⟨3, _, rfl, rfl, rfl, cf_map (Go.Eng.S25.flat_wmap _)⟩, ?_, trivial⟩ ?_
      · rw [← hkN]
        exact fun _ => ⟨4, _, rfl, rfl, rfl, rfl, rfl, rfl, fun i hi => ⟨bs_has _, rfl⟩⟩
      · exact k4 _ ⟨P.me, P.n, P.turn + 1, P.iss, P.hd, P.sets, P.words⟩ _ rfl
  · cases e
end Go.Eng.S25
