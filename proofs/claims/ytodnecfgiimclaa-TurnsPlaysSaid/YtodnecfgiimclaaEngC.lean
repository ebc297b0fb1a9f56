/- The engine, part 3: what an operation, a region, a piece of code comes to, as a statement over abstract values alone. -/
import Derived.Test.YtodnecfgiimclaaEngB
set_option linter.unusedSimpArgs false
set_option linter.unusedVariables false
namespace Go.Eng
def AV.plain : AV → Bool
 | .whn _ _ | .tup _ | .arr _ _ => false
 | _ => true
def AV.one : AV → Bool
 | .agg _ => false
 | v => v.plain
inductive Und where
 | int (k : IntKind) | bool | str | ptr (e : Nat) | slice (e : Nat) | array (n e : Nat) | map (k e : Nat) | mapM (m : Bool) (k e : Nat) | struct (fs : List (Nat × Nat × Nat)) | iter (gf sz : Nat) | other
structure TI where
 cells : Nat
 bytes : Nat
 und : Und
 zero : List AV
abbrev Tab := List (Nat × TI)
def tget : Tab → Nat → Option TI
 | [], _ => none
 | (t', i) :: T, t => bif t' == t then some i else tget T t
def Und.isAgg : Und → Bool
 | .struct _ | .array _ _ => true
 | _ => false
structure Out where
 sides : List Prop
 val : AV
 rd : List (Nat × Nat × Cont)
 up : List (Nat × Nat × Cont)
def All : List Prop → Prop
 | [] => True
 | [p] => p
 | p :: ps => p ∧ All ps
def pureOut (v : AV) : Option Out := some ⟨[], v, [], []⟩
def skipC : List AV → Nat → Option (List AV)
 | cs, 0 => some cs
 | .arr k _ :: cs, n + 1 => bif Nat.ble k (n + 1) then skipC cs (n + 1 - k) else none
 | _ :: cs, n + 1 => skipC cs n
 | [], _ + 1 => none
def takeC : List AV → Nat → Option (List AV)
 | _, 0 => some []
 | .arr k f :: cs, n + 1 => bif Nat.ble k (n + 1) then (takeC cs (n + 1 - k)).map (.arr k f :: ·) else none
 | c :: cs, n + 1 => (takeC cs n).map (c :: ·)
 | [], _ + 1 => none
def widthC : List AV → Nat
 | [] => 0
 | .arr k _ :: cs => k + widthC cs
 | _ :: cs => widthC cs + 1
def ofCells (agg : Bool) (cs : List AV) : Option AV :=
 match agg, cs with
 | true, cs => some (.agg cs)
 | false, [c] => bif c.plain then some c else none
 | false, _ => none
def fillC (cs : List AV) (off : Nat) (new : List AV) : Option (List AV) :=
 match takeC cs off, skipC cs (off + widthC new) with
 | some a, some b => some (a ++ new ++ b)
 | _, _ => none
def gather (h : Nat → Nat → Option Cont) (n : Nat) : (fuel off left : Nat) → Option (List AV × List (Nat × Nat × Cont))
 | _, _, 0 => some ([], [])
 | 0, _, _ + 1 => none
 | fuel + 1, off, left + 1 =>
   match h n off with
   | some (.cell v) => (gather h n fuel (off + 1) left).map fun r => (v :: r.1, (n, off, .cell v) :: r.2)
   | some (.arr k f) => bif Nat.ble k (left + 1) then (gather h n fuel (off + k) (left + 1 - k)).map fun r => (.arr k f :: r.1, (n, off, .arr k f) :: r.2) else none
   | _ => none
def spread (n : Nat) : Nat → List AV → List (Nat × Nat × Cont)
 | _, [] => []
 | off, .arr k f :: cs => (n, off, .arr k f) :: spread n (off + k) cs
 | off, c :: cs => (n, off, .cell c) :: spread n (off + 1) cs
def sameKeys : List (Nat × Nat × Cont) → List (Nat × Nat × Cont) → Bool
 | [], [] => true
 | (n, o, .cell _) :: l, (n', o', .cell _) :: l' => n == n' && o == o' && sameKeys l l'
 | (n, o, .arr k _) :: l, (n', o', .arr k' _) :: l' => n == n' && o == o' && k == k' && sameKeys l l'
 | _, _ => false
def constAV : Value → Option AV
 | .int k n => some (.int k n)
 | .bool b => some (.bool b)
 | .string s => some (.str s)
 | .pointer none => some .nilp
 | .slice none 0 0 => some .nils
 | .map none => some .nilm
 | .nilFunc => some .nilf
 | _ => none
def mx2 (x y : Int) : Int := if y > x then y else x
def mn2 (x y : Int) : Int := if y < x then y else x
def bt (s : ByteArray) (i : Int) : Int := if h : i.toNat < s.size then ((s[i.toNat]'h).toNat : Int) else 0
def intOp (op : BinOp) (k : IntKind) (a b : Int) : Option Out :=
 match op with
 | .add => pureOut (.int k (k.wrap (a + b)))
 | .sub => pureOut (.int k (k.wrap (a - b)))
 | .mul => pureOut (.int k (k.wrap (a * b)))
 | .quo => some ⟨[b ≠ 0], .int k (k.wrap (a.tdiv b)), [], []⟩
 | .rem => some ⟨[b ≠ 0], .int k (a.tmod b), [], []⟩
 | .and => pureOut (.int k (k.wrap (BitVec.ofInt k.bits a &&& BitVec.ofInt k.bits b).toNat))
 | .or => pureOut (.int k (k.wrap (BitVec.ofInt k.bits a ||| BitVec.ofInt k.bits b).toNat))
 | .xor => pureOut (.int k (k.wrap (BitVec.ofInt k.bits a ^^^ BitVec.ofInt k.bits b).toNat))
 | .andNot => pureOut (.int k (k.wrap (BitVec.ofInt k.bits a &&& ~~~ BitVec.ofInt k.bits b).toNat))
 | .eql => pureOut (.bool (a == b))
 | .neq => pureOut (.bool (a != b))
 | .lss => pureOut (.bool (decide (a < b)))
 | .leq => pureOut (.bool (decide (a ≤ b)))
 | .gtr => pureOut (.bool (decide (a > b)))
 | .geq => pureOut (.bool (decide (a ≥ b)))
 | _ => none
def shiftOp (op : BinOp) (k : IntKind) (a b : Int) : Option Out :=
 match op with
 | .shl => some ⟨[0 ≤ b], .int k (k.wrap (a * 2 ^ min b.toNat k.bits)), [], []⟩
 | .shr => some ⟨[0 ≤ b], .int k (a.fdiv (2 ^ min b.toNat k.bits)), [], []⟩
 | _ => none
end Go.Eng
namespace Go.Eng
abbrev Rd := Nat → Nat → Option Cont
abbrev Spec := List AV → Rd → Nat → Option Out
abbrev Specs := List (Nat × Spec)
def sget : Specs → Nat → Option Spec
 | [], _ => none
 | (f', s) :: Γ, f => bif f' == f then some s else sget Γ f
def mapA {α β : Type} (f : α → Option β) : List α → Option (List β)
 | [] => some []
 | a :: l => match f a, mapA f l with
   | some b, some bs => some (b :: bs)
   | _, _ => none
def evLoad (T : Tab) (h : Rd) (t : Nat) (p : AV) : Option Out :=
 match tget T t with
 | none => none
 | some ti =>
   match p with
   | .ptr n off => (gather h n 64 off ti.cells).bind fun r => (ofCells ti.und.isAgg r.1).map fun v => ⟨[], v, r.2, []⟩
   | .pe n off i => match h n off with
     | some (.arr k f) => bif ti.cells == 1 && !ti.und.isAgg then some ⟨[0 ≤ i, i < (k : Int)], f i.toNat, [(n, off, .arr k f)], []⟩ else none
     | _ => none
   | .vp n sz i off => match h n 0 with
     | some (.vec sz' e k f) => ((skipC (f i.toNat).cells off).bind (takeC · ti.cells)).bind fun cs => (ofCells ti.und.isAgg cs).map fun v => ⟨[0 ≤ i, i < (k : Int), sz = sz'], v, [(n, 0, .vec sz' e k f)], []⟩
     | _ => none
   | .rp cs => (takeC cs ti.cells).bind fun cs => (ofCells ti.und.isAgg cs).map fun v => ⟨[], v, [], []⟩
   | _ => none
def evStore (T : Tab) (h : Rd) (t : Nat) (p v : AV) : Option Out :=
 match tget T t with
 | none => none
 | some ti =>
   match p with
   | .ptr n off => (gather h n 64 off ti.cells).bind fun r => bif v.plain && widthC r.1 == ti.cells && widthC v.cells == ti.cells && sameKeys r.2 (spread n off v.cells) then some ⟨[], .tup [], r.2, spread n off v.cells⟩ else none
   | .pe n off i => match h n off with
     | some (.arr k f) => bif v.one && ti.cells == 1 && !ti.und.isAgg then some ⟨[0 ≤ i, i < (k : Int)], .tup [], [(n, off, .arr k f)], [(n, off, .arr k fun j => bif j == i.toNat then v else f j)]⟩ else none
     | _ => none
   | .vp n sz i off => match h n 0 with
     | some (.vec sz' e k f) => (bif v.plain then (bif off == 0 && widthC v.cells == sz' then some v.cells else fillC (f i.toNat).cells off v.cells) else none).bind fun cs => (ofCells (!(sz' == 1)) cs).map fun x =>
        ⟨[0 ≤ i, i < (k : Int), sz = sz', widthC v.cells = ti.cells], .tup [], [(n, 0, .vec sz' e k f)], [(n, 0, .vec sz' e k fun j => bif j == i.toNat then x else f j)]⟩
     | _ => none
   | _ => none
def evField (T : Tab) (t : Nat) (p : AV) (j : Nat) : Option Out :=
 match tget T t with
 | some ⟨_, _, .struct fs, _⟩ =>
   match fs[j]? with
   | none => none
   | some (o, _, _) => match p with
     | .ptr n off => pureOut (.ptr n (off + o))
     | .vp n sz i off => pureOut (.vp n sz i (off + o))
     | .rp cs => (skipC cs o).bind fun cs => pureOut (.rp cs)
     | _ => none
 | _ => none
def srcOf (h : Rd) : AV → Option (Nat × Nat × (Nat → AV) × List (Nat × Nat × Cont))
 | .rs sz n _ f => some (sz, n, f, [])
 | .nils => some (0, 0, fun _ => .nils, [])
 | .vs k => match h k 0 with
   | some (.vec sz e n f) => some (sz, n, f, [(k, 0, .vec sz e n f)])
   | _ => none
 | .sub m sz lo n => match h m 0 with
   | some (.vec sz' e k f) => bif sz' == sz then some (sz, n, (fun i => f (lo + i)), [(m, 0, .vec sz' e k f)]) else none
   | _ => none
 | _ => none
def catF (n : Nat) (f g : Nat → AV) : Nat → AV := fun i => bif Nat.blt i n then f i else g (i - n)
def evAppFull (te : TI) (e m sx : Nat) (g : Nat → AV) (rx : List (Nat × Nat × Cont)) (nb : Nat) : AV → Option Out
 | .rs sz n full f => bif full then some ⟨[0 < m, (n + m) * te.bytes ≤ 140737488355328, n + m ≤ maxLen, sx = te.cells, sz = te.cells], .vs nb, rx, [(nb, 0, .vec te.cells e (n + m) (catF n f g))]⟩ else none
 | _ => none
def evAppend (T : Tab) (ts : List Nat) (h : Rd) (s x : AV) (nb : Nat) : Option Out :=
 match ts with
 | [t, t'] => bif t == t' then
     match tget T t with
     | some ⟨_, _, .slice e, _⟩ => match tget T e, srcOf h x with
       | some te, some (sx, m, g, rx) => match s with
         | .nils => some ⟨[m * te.bytes ≤ 140737488355328, m ≤ maxLen, m = 0 ∨ sx = te.cells], .vs nb, rx, [(nb, 0, .vec te.cells e m g)]⟩
         | .vs j => match h j 0 with
           | some (.vec sz e' n f) => some ⟨[(n + m) * te.bytes ≤ 140737488355328, n + m ≤ maxLen, m = 0 ∨ sx = te.cells, sz = te.cells, e' = e], .vs nb, (j, 0, .vec sz e' n f) :: rx, [(j, 0, .dead), (nb, 0, .vec te.cells e (n + m) (catF n f g))]⟩
           | _ => none
         | s => evAppFull te e m sx g rx nb s
       | _, _ => none
     | _ => none
   else none
 | _ => none
def evCut (T : Tab) (h : Rd) (t j : Nat) (lo hi mx : Option Int) (nb : Nat) : Option Out :=
 match tget T t, h j 0, mx with
 | some ⟨_, _, .slice e, _⟩, some (.vec sz e' n f), none => match tget T e with
   | some te => some ⟨[lo.getD 0 = 0, 0 ≤ hi.getD n, hi.getD n ≤ n, sz = te.cells], .vs nb, [(j, 0, .vec sz e' n f)], [(j, 0, .dead), (nb, 0, .vec sz e' (hi.getD n).toNat f)]⟩
   | none => none
 | _, _, _ => none
def fillAll (place : Nat → Option (Nat × Nat)) : List AV → List (Nat × AV) → Option (List AV)
 | cs, [] => some cs
 | cs, (j, v) :: ps => match place j with
   | some (o, sz) => bif v.plain && widthC v.cells == sz then (fillC cs o v.cells).bind (fillAll place · ps) else none
   | none => none
def placeOf (T : Tab) : Und → Option (Nat → Option (Nat × Nat))
 | .struct fs => some fun j => fs[j]?.map fun x => (x.1, x.2.2)
 | .array _ e => (tget T e).map fun te => fun j => some (j * te.cells, te.cells)
 | _ => none
def evBuild (T : Tab) (t : Nat) (parts : List (Nat × AV)) : Option Out :=
 match tget T t with
 | some ti => (placeOf T ti.und).bind fun pl => (fillAll pl ti.zero parts).bind fun cs => pureOut (.agg cs)
 | none => none
def mapP (g : Operand → Option AV) : List (Nat × Operand) → Option (List (Nat × AV))
 | [] => some []
 | (j, x) :: l => match g x, mapP g l with
   | some v, some vs => some ((j, v) :: vs)
   | _, _ => none
def litOK : Nat → Nat → List (Nat × AV) → Bool
 | _, _, [] => true
 | i, sz, (j, v) :: l => j == i && v.plain && widthC v.cells == sz && litOK (i + 1) sz l
def pget : List (Nat × AV) → Nat → AV
 | [], _ => .nils
 | p :: _, 0 => p.2
 | _ :: l, i + 1 => pget l i
theorem pget_map : ∀ (l : List (Nat × AV)) (i : Nat), pget l i = (l.map (·.2)).getD i .nils
 | [], _ => by simp [pget]
 | p :: l, 0 => by simp [pget]
 | p :: l, i + 1 => by simp only [pget]; rw [pget_map l i]; simp
def evLit (T : Tab) (t len : Nat) (parts : List (Nat × AV)) (nb : Nat) : Option Out :=
 match tget T t with
 | some ⟨_, _, .slice e, _⟩ => match tget T e with
   | some te => bif parts.length == len && litOK 0 te.cells parts && Nat.ble (len * te.cells) 16777216 then
      some ⟨[], .vs nb, [], [(nb, 0, .vec te.cells e len (pget parts))]⟩ else none
   | none => none
 | _ => none
def evMake (T : Tab) (t : Nat) (n m : AV) (nb : Nat) : Option Out :=
 match tget T t, n, m with
 | some ⟨_, _, .slice e, _⟩, .int .i64 n, .int .i64 m => match tget T e with
   | some te => (ofCells te.und.isAgg te.zero).map fun z => ⟨[0 ≤ n, m = n, (te.bytes : Int) * n ≤ 281474976710656, n ≤ 9223372036854775807], .vs nb, [], [(nb, 0, .vec te.cells e n.toNat fun _ => z)]⟩
   | none => none
 | _, _, _ => none
def iv : AV → Int
 | .int _ n => n
 | _ => 0
def bv : AV → Bool
 | .bool b => b
 | _ => false
def mget : List (List Int × AV) → List Int → Option AV
 | [], _ => none
 | e :: es, k => bif k == e.1 then some e.2 else mget es k
def mput : List (List Int × AV) → List Int → AV → List (List Int × AV)
 | [], k, v => [(k, v)]
 | e :: es, k, v => bif k == e.1 then (k, v) :: es else e :: mput es k v
def mdel : List (List Int × AV) → List Int → List (List Int × AV)
 | [], _ => []
 | e :: es, k => bif k == e.1 then es else e :: mdel es k
def keyOf : AV → Option (List Int)
 | .int .i64 a => some [a]
 | .agg [.int .i64 a, .int .i64 b] => some [a, b]
 | _ => none
def keyAr (T : Tab) (t : Nat) : Option Nat :=
 match tget T t with
 | some ⟨_, _, .int .i64, _⟩ => some 1
 | some ⟨_, _, .struct [(0, a, 1), (1, b, 1)], _⟩ => match tget T a, tget T b with
   | some ⟨_, _, .int .i64, _⟩, some ⟨_, _, .int .i64, _⟩ => some 2
   | _, _ => none
 | some ⟨_, _, .array 2 a, _⟩ => match tget T a with
   | some ⟨_, _, .int .i64, _⟩ => some 2
   | _ => none
 | _ => none
def rsn : AV → Nat
 | .rs _ n _ _ => n
 | _ => 0
def rsf : AV → Nat → AV
 | .rs _ _ _ f => f
 | _ => fun _ => .nils
def formOf (T : Tab) (te : TI) (v : AV) : Option (AV × List Prop) :=
 match te.und with
 | .int k => some (.int k (iv v), [v = .int k (iv v)])
 | .bool => some (.bool (bv v), [v = .bool (bv v)])
 | .slice e => (tget T e).map fun x => (.rs x.cells (rsn v) false (rsf v), [(∃ b, v = .rs x.cells (rsn v) b (rsf v)) ∨ v = .nils])
 | _ => none
def evLookup (T : Tab) (h : Rd) (t : Nat) (x i : AV) (ok : Bool) : Option Out :=
 match tget T t with
 | some ⟨_, _, .map kt et, _⟩ => match keyAr T kt, keyOf i, tget T et with
   | some ar, some ks, some te => match ofCells te.und.isAgg te.zero, x with
     | some z, .mp n => match h n 0 with
       | some (.map ar' es) => bif ar == ar' && ks.length == ar then (formOf T te ((mget es ks).getD z)).map fun r =>
          ⟨r.2, bif ok then .tup [r.1, .bool (mget es ks).isSome] else r.1, [(n, 0, .map ar' es)], []⟩ else none
       | some (.maps ar' es bs ck) => bif ar == ar' && ks.length == ar then (formOf T te ((mget es ks).getD z)).map fun r =>
          ⟨r.2, bif ok then .tup [r.1, .bool (mget es ks).isSome] else r.1, [(n, 0, .maps ar' es bs ck)], []⟩ else none
       | _ => none
     | some z, .nilm => bif ks.length == ar then some ⟨[], bif ok then .tup [z, .bool false] else z, [], []⟩ else none
     | _, _ => none
   | _, _, _ => none
 | _ => none
def evMapPut (T : Tab) (h : Rd) (t n : Nat) (i v : AV) : Option Out :=
 match tget T t with
 | some ⟨_, _, .map kt _, _⟩ => match keyAr T kt, keyOf i, h n 0 with
   | some ar, some ks, some (.map ar' es) => bif ar == ar' && ks.length == ar then some ⟨[], .tup [], [(n, 0, .map ar' es)], [(n, 0, .map ar' (mput es ks v))]⟩ else none
   | _, _, _ => none
 | _ => none
def evMapDel (T : Tab) (h : Rd) (t n : Nat) (i : AV) : Option Out :=
 match tget T t with
 | some ⟨_, _, .map kt _, _⟩ => match keyAr T kt, keyOf i, h n 0 with
   | some ar, some ks, some (.map ar' es) => bif ar == ar' && ks.length == ar then some ⟨[], .tup [], [(n, 0, .map ar' es)], [(n, 0, .map ar' (mdel es ks))]⟩ else none
   | _, _, _ => none
 | _ => none
def stampOf : List (List Int × AV) → List Nat → List Int → Int
 | e :: es, b :: bs, ks => bif ks == e.1 then (b : Int) else stampOf es bs ks
 | _, _, _ => 0
def setS : List (List Int × AV) → List Nat → Int → AV → List (List Int × AV)
 | e :: es, b :: bs, s, v => bif (b : Int) == s then (e.1, v) :: es else e :: setS es bs s v
 | es, _, _, _ => es
def evMapEntry (T : Tab) (h : Rd) (t n : Nat) (i : AV) : Option Out :=
 match tget T t with
 | some ⟨_, _, .mapM m kt et, _⟩ => match keyAr T kt, keyOf i, tget T et, h n 0 with
   | some ar, some ks, some te, some (.maps ar' es bs ck) => bif ar == ar' && ks.length == ar then
      (bif m then some ⟨[mget es ks = some (.vs (n + 1))], .tup [.vs (n + 1), .int .i64 (stampOf es bs ks)], [(n, 0, .maps ar' es bs ck)], [(n, 0, .maps ar' es bs ck)]⟩
      else (ofCells te.und.isAgg te.zero).map fun z => ⟨[mget es ks = none], .tup [z, .int .i64 ck], [(n, 0, .maps ar' es bs ck)], [(n, 0, .maps ar' (es ++ [(ks, z)]) (bs ++ [ck]) (ck + 1))]⟩) else none
   | _, _, _, _ => none
 | _ => none
def evEntryStore (h : Rd) (n : Nat) (s : Int) (v : AV) : Option Out :=
 match h n 0 with
 | some (.maps ar es bs ck) => some ⟨[∃ b ∈ bs, (b : Int) = s], .tup [], [(n, 0, .maps ar es bs ck)], [(n, 0, .maps ar (setS es bs s v) bs ck)]⟩
 | _ => none
def evCopy (T : Tab) (ts : List Nat) (h : Rd) (d x : AV) : Option Out :=
 match ts, d with
 | [t, _], .vs j => match tget T t, h j 0, srcOf h x with
   | some ⟨_, _, .slice e, _⟩, some (.vec sz e' n f), some (sx, m, g, rx) => match tget T e with
     | some te => some ⟨[sz = 1, te.cells = 1, m = n, m = 0 ∨ sx = 1], .int .i64 m, (j, 0, .vec sz e' n f) :: rx, [(j, 0, .vec sz e' n g)]⟩
     | none => none
   | _, _, _ => none
 | _, _ => none
def evBuiltin (T : Tab) (ts : List Nat) (b : Builtin) (h : Rd) (xs : List AV) (nb : Nat) : Option Out :=
 match b, xs with
 | .len, [x] => match ts with
   | [t] => match tget T t, x with
     | some ⟨_, _, .slice _, _⟩, .rs _ n _ _ => pureOut (.int .i64 n)
     | some ⟨_, _, .slice _, _⟩, .nils => pureOut (.int .i64 0)
     | some ⟨_, _, .str, _⟩, .str s => pureOut (.int .i64 s.size)
     | some ⟨_, _, .slice _, _⟩, .vs n => match h n 0 with
       | some (.vec sz e k f) => some ⟨[], .int .i64 k, [(n, 0, .vec sz e k f)], []⟩
       | _ => none
     | some ⟨_, _, .map _ _, _⟩, .mp n => match h n 0 with
       | some (.map ar es) => some ⟨[], .int .i64 es.length, [(n, 0, .map ar es)], []⟩
       | _ => none
     | some ⟨_, _, .slice _, _⟩, .sub _ _ _ n => pureOut (.int .i64 n)
     | _, _ => none
   | _ => none
 | .max, [.int k x, .int _ y] => pureOut (.int k (mx2 x y))
 | .min, [.int k x, .int _ y] => pureOut (.int k (mn2 x y))
 | .append, [s, x] => evAppend T ts h s x nb
 | .copy, [d, x] => evCopy T ts h d x
 | .delete, [.mp n, k] => match ts with
   | t :: _ => evMapDel T h t n k
   | _ => none
 | _, _ => none
def mkStr (n : Nat) (f : Nat → AV) : ByteArray := ((List.range n).map fun i => iv (f i)).foldl (fun r n => r.push (UInt8.ofNat n.toNat)) ByteArray.empty
def evToStr (T : Tab) (h : Rd) (e : Nat) (v : AV) : Option Out :=
 match tget T e, srcOf h v with
 | some ⟨_, _, .int .u8, _⟩, some (sz, n, f, rd) => some ⟨[n = 0 ∨ sz = 1, ∀ i, i < n → f i = .int .u8 (iv (f i))], .str (mkStr n f), rd, []⟩
 | _, _ => none
def evToBytes (T : Tab) (nb e : Nat) (s : ByteArray) : Option Out := match tget T e with
 | some ⟨_, _, .int .u8, _⟩ => some ⟨[s.size ≤ maxLen], .vs nb, [], [(nb, 0, .vec 1 e s.size fun i => .int .u8 (bt s i))]⟩
 | _ => none
def optInt : Option (Option AV) → Option (Option Int)
 | none => some none
 | some (some (.int _ n)) => some (some n)
 | _ => none
def allOnes : List AV → Bool
 | [] => true
 | v :: l => v.one && allOnes l
def evSlice (T : Tab) (t : Nat) (x : AV) (lo hi mx : Option Int) : Option Out :=
 match tget T t, x with
 | some ⟨_, _, .str, _⟩, .str s => match mx with
   | none => some ⟨[0 ≤ lo.getD 0, lo.getD 0 ≤ hi.getD s.size, hi.getD s.size ≤ s.size], .str (s.extract (lo.getD 0).toNat (hi.getD s.size).toNat), [], []⟩
   | some _ => none
 | some ⟨_, _, .slice e, _⟩, .rs sz n full f => match tget T e with
   | some te => some ⟨[0 ≤ lo.getD 0, lo.getD 0 ≤ hi.getD n, hi.getD n ≤ n, mx.getD (hi.getD n) = hi.getD n, sz = te.cells, mx.isSome = true → hi.isSome = true],
      .rs sz ((hi.getD n).toNat - (lo.getD 0).toNat) (match mx, hi with | some _, some _ => true | none, none => full | _, _ => false) (fun i => f ((lo.getD 0).toNat + i)), [], []⟩
   | none => none
 | some ⟨_, _, .array n e, _⟩, .rp cs => match tget T e, lo, hi, mx with
   | some te, none, none, none => bif te.cells == 1 && cs.length == n && (Nat.ble 1 n && Nat.ble n 1000000) && allOnes cs then some ⟨[], .rs 1 n true (fun i => cs.getD i .nils), [], []⟩ else none
   | _, _, _, _ => none
 | some ⟨_, _, .slice e, _⟩, .sub m sz l n => match tget T e, mx with
   | some te, none => some ⟨[0 ≤ lo.getD 0, lo.getD 0 ≤ hi.getD n, hi.getD n ≤ n, sz = te.cells], .sub m sz (l + (lo.getD 0).toNat) ((hi.getD n).toNat - (lo.getD 0).toNat), [], []⟩
   | _, _ => none
 | _, _ => none
def evSub (T : Tab) (h : Rd) (t j : Nat) (lo : Int) (hi : Option Int) : Option Out :=
 match tget T t, h j 0 with
 | some ⟨_, _, .slice e, _⟩, some (.vec sz e' n f) => match tget T e with
   | some te => some ⟨[0 ≤ lo, lo ≤ hi.getD n, hi.getD n ≤ n, sz = te.cells], .sub j sz lo.toNat ((hi.getD n).toNat - lo.toNat), [(j, 0, .vec sz e' n f)], []⟩
   | none => none
 | _, _ => none
def evPart (T : Tab) (h : Rd) (t j : Nat) (lo hi mx : Option Int) (nb : Nat) : Option Out := match lo, mx with
 | some l, none => evSub T h t j l hi
 | _, _ => evCut T h t j lo hi mx nb
def evValField (T : Tab) (t : Nat) (x : AV) (j : Nat) : Option Out :=
 match tget T t, x with
 | some ⟨_, _, .struct fs, _⟩, .agg cs => match fs[j]? with
   | none => none
   | some (o, ty, sz) => match tget T ty with
     | some tf => bif tf.cells == sz then (skipC cs o).bind fun ds => (takeC ds sz).bind fun es => (ofCells tf.und.isAgg es).bind pureOut else none
     | none => none
 | _, _ => none
def eqF (T : Tab) (ty : Nat) (c d : AV) : Option Bool :=
 match tget T ty, c, d with
 | some ⟨_, _, .int _, _⟩, .int k a, .int k' b => bif k == k' then some (a == b) else none
 | some ⟨_, _, .bool, _⟩, .bool a, .bool b => some (a == b)
 | some ⟨_, _, .str, _⟩, .str a, .str b => some (a.toList == b.toList)
 | _, _, _ => none
def eqArr (T : Tab) (ty k : Nat) (f g : Nat → AV) : Option (Bool × List Prop) :=
 match tget T ty with
 | some ⟨_, _, .array n e, _⟩ => bif n == k then match tget T e with
   | some ⟨_, _, .int _, _⟩ => some ((List.range k).all fun i => iv (f i) == iv (g i), [∀ i, i < k → ∃ q, f i = .int q (iv (f i)) ∧ g i = .int q (iv (g i))])
   | some ⟨_, _, .bool, _⟩ => some ((List.range k).all fun i => bv (f i) == bv (g i), [∀ i, i < k → f i = .bool (bv (f i)) ∧ g i = .bool (bv (g i))])
   | _ => none
   else none
 | _ => none
def arrOf : AV → Option (Nat × (Nat → AV))
 | .arr k f => some (k, f)
 | _ => none
def eqFs (T : Tab) : Nat → List (Nat × Nat × Nat) → List AV → List AV → Option (Bool × List Prop)
 | _, [], [], [] => some (true, [])
 | i, (o, ty, sz) :: fs, c :: cs, d :: ds => match arrOf c, arrOf d with
   | some (k, f), some (k', g) => bif o == i && sz == k && k == k' then
      match eqArr T ty k f g, eqFs T (i + k) fs cs ds with
      | some (x, ps), some (y, qs) => some (x && y, ps ++ qs)
      | _, _ => none
     else none
   | _, _ => bif o == i && sz == 1 then
      match eqF T ty c d, eqFs T (i + 1) fs cs ds with
      | some x, some (y, qs) => some (x && y, qs)
      | _, _ => none
     else none
 | _, _, _, _ => none
def evEq (T : Tab) (op : BinOp) (t : Nat) (cs ds : List AV) : Option Out :=
 match tget T t with
 | some ⟨_, _, .struct fs, _⟩ => match op, eqFs T 0 fs cs ds with
   | .eql, some (b, ps) => some ⟨ps, .bool b, [], []⟩
   | .neq, some (b, ps) => some ⟨ps, .bool (!b), [], []⟩
   | _, _ => none
 | some ⟨_, _, .array 2 e, _⟩ => match tget T e, cs, ds with
   | some ⟨_, _, .int _, _⟩, [.int k0 a0, .int k1 a1], [.int l0 b0, .int l1 b1] => bif k0 == l0 && k1 == l1 then (match op with
     | .eql => pureOut (.bool (a0 == b0 && a1 == b1))
     | .neq => pureOut (.bool (!(a0 == b0 && a1 == b1)))
     | _ => none) else none
   | _, _, _ => none
 | _ => none
def evIndex (T : Tab) (t : Nat) (x : AV) (i : Int) : Option Out :=
 match tget T t, x with
 | some ⟨_, _, .array n e, _⟩, .agg [.arr k f] => match tget T e with
   | some te => bif k == n && te.cells == 1 && !te.und.isAgg then some ⟨[0 ≤ i, i < (n : Int)], f i.toNat, [], []⟩ else none
   | none => none
 | some ⟨_, _, .array n e, _⟩, .agg cs => match tget T e with
   | some te => bif te.und.isAgg then ((skipC cs (i.toNat * te.cells)).bind (takeC · te.cells)).map fun ds => ⟨[0 ≤ i, i < (n : Int)], .agg ds, [], []⟩ else none
   | none => none
 | some ⟨_, _, .str, _⟩, .str s => some ⟨[0 ≤ i, i < (s.size : Int)], .int .u8 (bt s i), [], []⟩
 | _, _ => none
def evPtr (T : Tab) (op : BinOp) (t : Nat) (b : Bool) : Option Out :=
 match tget T t, op with
 | some ⟨_, _, .ptr _, _⟩, .eql => pureOut (.bool b)
 | some ⟨_, _, .ptr _, _⟩, .neq => pureOut (.bool (!b))
 | _, _ => none
def EntryOK (k v : AV) (seen bs : List Nat) (es : List (List Int × AV)) : Prop := ∃ (j : Nat) (ks : List Int), keyOf k = some ks ∧ es[j]? = some (ks, v) ∧ bs[j]? = seen.getLast?
def evOp (T : Tab) (Γ : Specs) (op : Op) (g : Operand → Option AV) (h : Rd) (nb : Nat) : Option Out :=
 match op with
 | .move x | .assign x => (g x).bind pureOut
 | .pick _ _ _ => none
 | .alloc e => (tget T e).bind fun ti => some ⟨[], .ptr nb 0, [], spread nb 0 ti.zero ++ [(nb, widthC ti.zero, .top)]⟩
 | .box _ x => (g x).bind fun v => bif v.plain then some ⟨[], .ptr nb 0, [], spread nb 0 v.cells ++ [(nb, widthC v.cells, .top)]⟩ else none
 | .load t a => (g a).bind (evLoad T h t)
 | .store t a x => match g a, g x with
   | some p, some v => evStore T h t p v
   | _, _ => none
 | .binOp op t x y _ => match g x, g y with
   | some (.int k a), some (.int k' b) => match op with
     | .shl | .shr => shiftOp op k a b
     | _ => bif k == k' then intOp op k a b else none
   | some (.str a), some (.str b) => match op with
     | .eql => pureOut (.bool (a.toList == b.toList))
     | .neq => pureOut (.bool (!(a.toList == b.toList)))
     | .add => some ⟨[a.size + b.size ≤ 1000000000], .str (a ++ b), [], []⟩
     | _ => none
   | some (.bool a), some (.bool b) => match tget T t, op with
     | some ⟨_, _, .bool, _⟩, .eql => pureOut (.bool (a == b))
     | some ⟨_, _, .bool, _⟩, .neq => pureOut (.bool (!(a == b)))
     | _, _ => none
   | some (.agg cs), some (.agg ds) => evEq T op t cs ds
   | some (.ptr _ _), some .nilp => evPtr T op t false
   | some .nilp, some .nilp => evPtr T op t true
   | _, _ => none
 | .unOp op _ x => match op, g x with
   | .not, some (.bool b) => pureOut (.bool !b)
   | .neg, some (.int k a) => pureOut (.int k (k.wrap (0 - a)))
   | _, _ => none
 | .convert src dst x => match tget T src, tget T dst, g x with
   | some _, some ⟨_, _, .int k, _⟩, some (.int _ a) => pureOut (.int k (k.wrap a))
   | some ⟨_, _, .slice e, _⟩, some ⟨_, _, .str, _⟩, some v => evToStr T h e v
   | some ⟨_, _, .str, _⟩, some ⟨_, _, .slice e, _⟩, some (.str s) => evToBytes T nb e s
   | _, _, _ => none
 | .fieldAddr t p j => (g p).bind fun p => evField T t p j
 | .indexAddr t x i => match tget T t, g x, g i with
   | some ⟨_, _, .slice e, _⟩, some (.rs sz n _ f), some (.int _ i) => match tget T e with
     | some te => some ⟨[0 ≤ i, i < (n : Int), sz = te.cells], .rp (f i.toNat).cells, [], []⟩
     | none => none
   | some ⟨_, _, .slice e, _⟩, some (.vs m), some (.int _ i) => match tget T e, h m 0 with
     | some te, some (.vec sz e' n f) => some ⟨[0 ≤ i, i < (n : Int), sz = te.cells], .vp m sz i 0, [(m, 0, .vec sz e' n f)], []⟩
     | _, _ => none
   | some ⟨_, _, .array n e, [.arr _ _]⟩, some (.ptr m off), some (.int _ i) => match tget T e with
     | some te => bif te.cells == 1 then some ⟨[0 ≤ i, i < (n : Int)], .pe m off i, [], []⟩ else none
     | none => none
   | some ⟨_, _, .array n e, _⟩, some (.ptr m off), some (.int _ i) => match tget T e with
     | some te => some ⟨[0 ≤ i, i < (n : Int)], .ptr m (off + i.toNat * te.cells), [], []⟩
     | none => none
   | _, _, _ => none
 | .index t x i => match g x, g i with
   | some x, some (.int _ i) => evIndex T t x i
   | _, _ => none
 | .extract x j => match g x with
   | some (.tup vs) => vs[j]?.bind pureOut
   | _ => none
 | .call c => match c.callee with
   | .builtin b => (mapA g c.args.toList).bind fun vs => evBuiltin T c.argTypes.toList b h vs nb
   | .value f => match g f, mapA g c.args.toList with
     | some (.fn f cap), some vs => (sget Γ f).bind fun s => s (vs ++ cap) h nb
     | _, _ => none
   | _ => none
 | .build t ps => (mapP g ps.toList).bind (evBuild T t)
 | .buildSlice t n ps => (mapP g ps.toList).bind fun vs => evLit T t n vs nb
 | .makeSlice t n m => match g n, g m with
   | some n, some m => evMake T t n m nb
   | _, _ => none
 | .slice t x lo hi mx => match g x, optInt (lo.map g), optInt (hi.map g), optInt (mx.map g) with
   | some (.vs j), some lo, some hi, some mx => evPart T h t j lo hi mx nb
   | some x, some lo, some hi, some mx => evSlice T t x lo hi mx
   | _, _, _, _ => none
 | .field t x j => (g x).bind fun x => evValField T t x j
 | .makeFunc (.func f) first cap => bif first.isEmpty then (mapA g cap.toList).bind fun vs => pureOut (.fn f vs) else none
 | .makeMap t none => match tget T t with
   | some ⟨_, _, .map k _, _⟩ => (keyAr T k).map fun ar => ⟨[], .mp nb, [], [(nb, 0, .map ar [])]⟩
   | _ => none
 | .lookup t x i ok => match g x, g i with
   | some x, some i => evLookup T h t x i ok
   | _, _ => none
 | .mapUpdate t m k v => match g m, g k, g v with
   | some (.mp n), some k, some v => evMapPut T h t n k v
   | _, _, _ => none
 | .mapEntry t m k => match g m, g k with
   | some (.mp n), some k => evMapEntry T h t n k
   | _, _ => none
 | .entryStore _ m s v => match g m, g s, g v with
   | some (.mp n), some (.int .i64 s), some v => evEntryStore h n s v
   | _, _, _ => none
 | .range t x => match tget T t, g x with
   | some ⟨_, _, .map _ _, _⟩, some (.mp n) => match h n 0 with
     | some (.maps ar es bs ck) => some ⟨[], .it nb, [(n, 0, .maps ar es bs ck)], [(nb, 0, .iter n ck [] ck .nilp .nilp)]⟩
     | _ => none
   | _, _ => none
 | .entry x => match g x with
   | some (.it n) => match h n 0 with
     | some (.iter m since seen c0 k v) => match h m 0 with
       | some (.maps ar es bs ck) => some ⟨[EntryOK k v seen bs es, c0 = ck, bs.Nodup], .tup [k, v], [(n, 0, .iter m since seen c0 k v), (m, 0, .maps ar es bs ck)], []⟩
       | _ => none
     | _ => none
   | _ => none
 | .nilCheck x => match g x with
   | some (.ptr n o) => pureOut (.ptr n o)
   | some (.rp cs) => pureOut (.rp cs)
   | some (.vp n sz i o) => pureOut (.vp n sz i o)
   | some (.fn f cap) => pureOut (.fn f cap)
   | _ => none
 | _ => none
structure St where
 h : Heap
 nx : Nat
 N : Nat
def allC : List Bool → List Prop → List Prop
 | [], ps => ps
 | cs, ps => ps.map fun p => cs.all id = true → p
def condsOf (h : Heap) (ops : Array Oper) : Option (Nat × Bool) → Option (List Bool)
 | none => some []
 | some (j, b) => match ops[j]?.bind (·.dst) with
   | none => none
   | some d => match hget h 0 d with
     | some (.cell (.bool g)) => some [bif b then g else !g]
     | some (.cell (.whn cs (.bool g))) => some ((bif b then g else !g) :: cs)
     | _ => none
def opnd (h : Heap) : Operand → Option AV
 | .tmp t => match hget h 0 t with
   | some (.cell (.whn _ v)) => some v
   | some (.cell v) => some v
   | _ => none
 | .const v => constAV v
 | .func f => some (.fn f [])
 | .global _ => none
def opndS (h : Heap) (co : List Bool) : Operand → List Prop
 | .tmp t => match hget h 0 t with
   | some (.cell (.whn cs _)) => [co.drop (co.length - cs.length) = cs]
   | _ => []
 | _ => []
def evPick (h : Heap) (co : List Bool) (c a b : Operand) : Option Out :=
 match opnd h c with
 | some (.bool q) => match opnd h a, opnd h b with
   | some (.bool x), some (.bool y) => some ⟨opndS h co c ++ opndS h (q :: co) a ++ opndS h ((!q) :: co) b, .bool (bif q then x else y), [], []⟩
   | some (.bool x), _ => some ⟨opndS h co c ++ opndS h (q :: co) a ++ [q = true], .bool x, [], []⟩
   | _, some (.bool y) => some ⟨opndS h co c ++ opndS h ((!q) :: co) b ++ [q = false], .bool y, [], []⟩
   | _, _ => none
 | _ => none
def evOper (T : Tab) (Γ : Specs) (h : Heap) (co : List Bool) (o : Oper) (nb : Nat) : Option Out :=
 match o.op with
 | .pick c a b => evPick h co c a b
 | op => (evOp T Γ op (opnd h) (hget h) nb).map fun out => { out with sides := op.operands.toList.flatMap (opndS h co) ++ out.sides }
structure Ent where
 rd : List (Nat × Nat)
 up : List (Nat × Nat × Cont)
def slotsOf (ops : Array Oper) (o : Oper) : List (Nat × Nat) :=
 (o.op.operands.toList.filterMap fun | .tmp t => some (0, t) | _ => none) ++ match o.guard with
   | none => []
   | some (j, _) => match ops[j]?.bind (·.dst) with
     | none => []
     | some d => [(0, d)]
def whnOf : List Bool → AV → AV
 | [], v => v
 | co, v => .whn co v
def dstUp (d : Option Nat) (v : AV) : List (Nat × Nat × Cont) :=
 match d with
 | none => []
 | some d => [(0, d, .cell v)]
def dstOK (N : Nat) : Option Nat → Bool
 | none => true
 | some d => Nat.blt d N
def upOK : List (Nat × Nat × Cont) → Bool
 | [] => true
 | x :: l => !(x.1 == 0) && upOK l
def dget : List (Nat × Bool) → Nat → Option Bool
 | [], _ => none
 | (i', b) :: dec, i => bif i' == i then some b else dget dec i
def deadUp : Option Nat → List (Nat × Nat × Cont)
 | none => []
 | some d => [(0, d, .dead)]
def evOne (T : Tab) (Γ : Specs) (ops : Array Oper) (N : Nat) (dec : List (Nat × Bool)) (h : Heap) (i : Nat) (o : Oper) (nb : Nat) : Option (List Prop × List (Nat × Nat) × List (Nat × Nat × Cont)) :=
 match condsOf h ops o.guard with
 | none => none
 | some co => match dget dec i with
   | none => match evOper T Γ h co o nb with
     | none => none
     | some out => bif (co.isEmpty || out.up.isEmpty) && dstOK N o.dst && upOK out.up then some (allC co out.sides, out.rd.map (fun x => (x.1, x.2.1)), out.up ++ dstUp o.dst (whnOf co out.val)) else none
   | some true => match evOper T Γ h [] o nb with
     | none => none
     | some out => bif dstOK N o.dst && upOK out.up then some ((co.all id = true) :: out.sides, out.rd.map (fun x => (x.1, x.2.1)), out.up ++ dstUp o.dst out.val) else none
   | some false => some ([co.all id = false], [], deadUp o.dst)
def evOps (T : Tab) (Γ : Specs) (ops : Array Oper) (nx : Nat) (N : Nat) (dec : List (Nat × Bool)) : Nat → List Oper → Heap → Option (List Prop × List Ent × Heap)
 | _, [], h => some ([], [], h)
 | i, o :: rest, h =>
   match evOne T Γ ops N dec h i o (nx + 32 * i) with
   | none => none
   | some (ps, rd, up) => (evOps T Γ ops nx N dec (i + 1) rest (hput h up)).map fun r => (ps ++ r.1, ⟨slotsOf ops o ++ rd, up⟩ :: r.2.1, r.2.2)
def predsL : List (List Nat) → List Oper → List (List Nat)
 | acc, [] => acc
 | acc, o :: l => predsL (acc ++ [let d := o.after.toList.filterMap fun e => bif Region.binds .any e then some e.on else none; d ++ d.flatMap fun j => acc.getD j []]) l
def keyIn (k : Nat × Nat) : List (Nat × Nat) → Bool
 | [] => false
 | x :: l => (x.1 == k.1 && x.2 == k.2) || keyIn k l
def upKeys (u : List (Nat × Nat × Cont)) : List (Nat × Nat) := u.map fun x => (x.1, x.2.1)
def apartL (ps : List (List Nat)) (i : Nat) (e : Ent) : Nat → List Ent → Bool
 | _, [] => true
 | j, f :: l => (!((upKeys f.up).any fun k => keyIn k e.rd || keyIn k (upKeys e.up)) && !((upKeys e.up).any fun k => keyIn k f.rd) || (ps.getD j []).contains i) && apartL ps i e (j + 1) l
def allApart (ps : List (List Nat)) : Nat → List Ent → Bool
 | _, [] => true
 | i, e :: l => apartL ps i e (i + 1) l && allApart ps (i + 1) l
def edgesOK : Nat → List Oper → Bool
 | _, [] => true
 | i, o :: l => (o.after.toList.all fun e => !Region.binds .any e || Nat.blt e.on i) && edgesOK (i + 1) l
def drawOK (ops : Array Oper) (ents : List Ent) : Bool := edgesOK 0 ops.toList && allApart (predsL [] ops.toList) 0 ents
def evRegion (T : Tab) (Γ : Specs) (ops : Array Oper) (draw : Bool) (dec : List (Nat × Bool)) (s : St) : Option (List Prop × St) :=
 (evOps T Γ ops s.nx s.N dec 0 ops.toList s.h).map fun r => (r.1 ++ bif draw then [drawOK ops r.2.1 = true] else [], ⟨r.2.2, s.nx + 32 * ops.size, s.N⟩)
end Go.Eng