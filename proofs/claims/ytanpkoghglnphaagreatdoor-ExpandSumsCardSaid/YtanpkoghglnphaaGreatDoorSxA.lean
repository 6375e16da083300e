import GoSem.Step
noncomputable section
namespace Go.Sx

/-! tries -/
inductive PT (α : Type) where
  | nil
  | node (l : PT α) (v : Option α) (r : PT α)
namespace PT
--BEGINPT
def get {α : Type} (t : PT α) : Nat → Option α :=
  @PT.rec α (fun _ => Nat → Option α) (fun _ => none)
    (fun _ v _ ihl ihr n => @Bool.rec (fun _ => Option α) (@Bool.rec (fun _ => Option α) (ihr (Nat.div (Nat.sub n 1) 2)) (ihl (Nat.div (Nat.sub n 1) 2)) ((Nat.mod n 2).beq 1)) v (n.beq 0)) t
def setF {α : Type} (f : Nat) : PT α → Nat → Option α → PT α :=
  @Nat.rec (fun _ => PT α → Nat → Option α → PT α) (fun t _ _ => t)
    (fun _ ih t n a => @PT.rec α (fun _ => PT α)
      (@Bool.rec (fun _ => PT α) (@Bool.rec (fun _ => PT α) (.node .nil none (ih .nil (Nat.div (Nat.sub n 1) 2) a)) (.node (ih .nil (Nat.div (Nat.sub n 1) 2) a) none .nil) ((Nat.mod n 2).beq 1)) (.node .nil a .nil) (n.beq 0))
      (fun l v r _ _ => @Bool.rec (fun _ => PT α) (@Bool.rec (fun _ => PT α) (.node l v (ih r (Nat.div (Nat.sub n 1) 2) a)) (.node (ih l (Nat.div (Nat.sub n 1) 2) a) v r) ((Nat.mod n 2).beq 1)) (.node l a r) (n.beq 0)) t) f
--ENDPT
def set {α : Type} (t : PT α) (n : Nat) (a : α) : PT α := setF (Nat.succ n) t n (some a)
def del {α : Type} (t : PT α) (n : Nat) : PT α := setF (Nat.succ n) t n none
def ofList {α : Type} : List α → Nat → PT α → PT α
  | [], _, t => t
  | a :: l, i, t => ofList l (Nat.succ i) (t.set i a)
end PT

/-! symbolic scalars -/
inductive SI where
  | lit (n : Int)
  | var (i : Nat)
  | add (a b : SI)
  | sub (a b : SI)
  | bin (o : BinOp) (k : IntKind) (a b : SI)
  | wrap (k : IntKind) (a : SI)
  | slen (i : Nat)
  | sbyte (i : Nat) (x : SI)
  | rlen (i : Nat)
  deriving Inhabited
inductive SP where
  | lit (bs : List UInt8)
  | var (i : Nat)
  | chr (n : SI)
  deriving Inhabited
abbrev SS := List SP
inductive SB where
  | lit (b : Bool)
  | var (i : Nat)
  | cmp (o : BinOp) (a b : SI)
  | seq (a b : SS)
  | not (b : SB)
  deriving Inhabited

def eqInt (a b : Int) : Bool := match a, b with
  | .ofNat a, .ofNat b => a.beq b
  | .negSucc a, .negSucc b => a.beq b
  | _, _ => false
def ltInt (a b : Int) : Bool := match a, b with
  | .ofNat a, .ofNat b => Nat.blt a b
  | .negSucc _, .ofNat _ => true
  | .ofNat _, .negSucc _ => false
  | .negSucc a, .negSucc b => Nat.blt b a
def eqKind (a b : IntKind) : Bool := a.ctorIdx.beq b.ctorIdx
def eqOp (a b : BinOp) : Bool := a.ctorIdx.beq b.ctorIdx
def eqByte (a b : UInt8) : Bool := a.toNat.beq b.toNat
def eqBool (a b : Bool) : Bool := bif a then b else bif b then false else true
def eqBytes : List UInt8 → List UInt8 → Bool
  | [], [] => true
  | a :: x, b :: y => bif eqByte a b then eqBytes x y else false
  | _, _ => false
def SI.beq : SI → SI → Bool
  | .lit a, .lit b => eqInt a b
  | .var i, .var j => i.beq j
  | .add a b, .add a' b' => bif SI.beq a a' then SI.beq b b' else false
  | .sub a b, .sub a' b' => bif SI.beq a a' then SI.beq b b' else false
  | .bin o k a b, .bin o' k' a' b' => bif eqOp o o' && eqKind k k' then (bif SI.beq a a' then SI.beq b b' else false) else false
  | .wrap k a, .wrap k' a' => bif eqKind k k' then SI.beq a a' else false
  | .slen i, .slen j => i.beq j
  | .sbyte i a, .sbyte j b => bif i.beq j then SI.beq a b else false
  | .rlen i, .rlen j => i.beq j
  | _, _ => false
def SP.beq : SP → SP → Bool
  | .lit a, .lit b => eqBytes a b
  | .var i, .var j => i.beq j
  | .chr a, .chr b => SI.beq a b
  | _, _ => false
def SS.beq : SS → SS → Bool
  | [], [] => true
  | a :: x, b :: y => bif SP.beq a b then SS.beq x y else false
  | _, _ => false
def SB.beq : SB → SB → Bool
  | .lit a, .lit b => eqBool a b
  | .var i, .var j => i.beq j
  | .cmp o a b, .cmp o' a' b' => bif eqOp o o' then (bif SI.beq a a' then SI.beq b b' else false) else false
  | .seq a b, .seq a' b' => bif SS.beq a a' then SS.beq b b' else false
  | .not a, .not b => SB.beq a b
  | _, _ => false

/-! abstract values -/
inductive Cap where
  | known (n : Nat)
  | rest (esz : Nat)
  | full
  deriving Inhabited
inductive AV where
  | bool (b : SB)
  | int (k : IntKind) (n : SI)
  | str (s : SS)
  | ptr (id off : Nat)
  | nilPtr
  | slice (id off : Nat) (len : SI) (cap : Cap)
  | eslice (id esz : Nat)
  | nilSlice
  | func (fn : Fn) (first captured : List AV)
  | nilFunc
  | iface (t : Nat) (v : AV)
  | nilIface
  | agg (cs : List AV)
  | tup (vs : List AV)
  | nilMap
  | iptr (id z : Nat) (i : SI) (off : Nat)
  deriving Inhabited
def AV.undef : AV := .tup []
def Cap.beq : Cap → Cap → Bool
  | .known a, .known b => a.beq b
  | .rest a, .rest b => a.beq b
  | .full, .full => true
  | _, _ => false
def eqFn (a b : Fn) : Bool := match a, b with
  | .func f, .func g => f.beq g
  | .yield f, .yield g => f.beq g
  | a, b => decide (a = b)
mutual
def AV.beq : AV → AV → Bool
  | .bool a, .bool b => SB.beq a b
  | .int k a, .int l b => bif eqKind k l then SI.beq a b else false
  | .str a, .str b => SS.beq a b
  | .ptr i o, .ptr j p => bif i.beq j then o.beq p else false
  | .nilPtr, .nilPtr => true
  | .slice i o l c, .slice j p m d => bif i.beq j && o.beq p then (bif SI.beq l m then Cap.beq c d else false) else false
  | .eslice i o, .eslice j p => bif i.beq j then o.beq p else false
  | .nilSlice, .nilSlice => true
  | .func f a b, .func g c d => bif eqFn f g then (bif AV.beqs a c then AV.beqs b d else false) else false
  | .nilFunc, .nilFunc => true
  | .iface t v, .iface u w => bif t.beq u then AV.beq v w else false
  | .nilIface, .nilIface => true
  | .agg a, .agg b => AV.beqs a b
  | .tup a, .tup b => AV.beqs a b
  | .nilMap, .nilMap => true
  | .iptr i z x o, .iptr j y w p => bif i.beq j && z.beq y then (bif SI.beq x w then o.beq p else false) else false
  | _, _ => false
def AV.beqs : List AV → List AV → Bool
  | [], [] => true
  | a :: x, b :: y => bif AV.beq a b then AV.beqs x y else false
  | _, _ => false
end

def SP.ofBytes (bs : List UInt8) : SS := match bs with | [] => [] | b :: r => [.lit (b :: r)]
mutual
def AV.ofVal : Value → Option AV
  | .bool b => some (.bool (.lit b))
  | .int k n => some (.int k (.lit n))
  | .string s => some (.str (SP.ofBytes s.data.toList))
  | .pointer none => some .nilPtr
  | .slice none 0 0 => some .nilSlice
  | .func (.func f) ⟨a⟩ ⟨b⟩ => match AV.ofVals a, AV.ofVals b with
    | some x, some y => some (.func (.func f) x y)
    | _, _ => none
  | .nilFunc => some .nilFunc
  | .nilIface => some .nilIface
  | .iface t v => match AV.ofVal v with | some x => some (.iface t x) | none => none
  | .agg ⟨cs⟩ => match AV.ofVals cs with | some x => some (.agg x) | none => none
  | .tuple ⟨cs⟩ => match AV.ofVals cs with | some x => some (.tup x) | none => none
  | .map none => some .nilMap
  | _ => none
def AV.ofVals : List Value → Option (List AV)
  | [] => some []
  | v :: l => match AV.ofVal v, AV.ofVals l with
    | some x, some y => some (x :: y)
    | _, _ => none
end

/-- rows of cells: those that a letter holds; known cells ahead of others -/
inductive RX where
  | v (r : Nat)
  | cs (l : List AV) (b : RX)
def RX.beq : RX → RX → Bool
  | .v r, .v s => r.beq s
  | .cs l b, .cs m c => bif AV.beqs l m then RX.beq b c else false
  | _, _ => false
def scalarAV (a : AV) : Bool := match a with
  | .bool _ => true
  | .int _ _ => true
  | .str _ => true
  | _ => false
/-! heap: a block of cells (ro: it is only read; pre: its head is a row of values that the letters hold), a block of bytes (fz: what is known of it may be shared with a string) -/
inductive ABlk where
  | cells (ro : Bool) (pre : Option (RX × Nat)) (cs : List AV) (elem : Nat)
  | bytes (s : SS) (elem : Nat) (fz : Bool)
  | loop (st : LoopState) (pending : Option Code) (fn n : Nat) (tmps : PT AV) (params : List Nat) (assign body : Code) (defers : Nat)
  | defd (taken : Bool)
  /-- rows that a letter holds, of z cells each; what stands in the i-th -/
  | rowv (ro : Bool) (r z : Nat) (i : SI) (cs : List AV) (elem : Nat)
structure Heap where
  t : PT ABlk
  next : Nat
def Heap.put (h : Heap) (id : Nat) (b : ABlk) : Heap := match h with
  | ⟨t, n⟩ => ⟨t.set id b, n⟩
def Heap.drop (h : Heap) (id : Nat) : Heap := match h with
  | ⟨t, n⟩ => ⟨t.del id, n⟩
def Heap.add (h : Heap) (b : ABlk) : Heap := match h with
  | ⟨t, n⟩ => ⟨t.set n b, Nat.succ n⟩

/-! the machine -/
inductive ATarget where
  | fn (fn : Fn) (captured : List AV)
  | collected (r : Nat)
structure ADef where
  target : ATarget
  args : List AV
structure APanic where
  v : AV
  recovered : Bool
inductive AMode where
  | run
  | returning
  | panicking (chain : List APanic)
inductive AItem where
  | code (c : Code)
  | inBlock (id : Nat)
  | inLoop (body : Code)
  | inScope (body : Code)
  | reg (ops : Array Oper) (i : Nat) (rest : List Oper)
  | draw (ops : Array Oper) (done : Nat) (pend : List Nat)
  | inRangeFunc (l : Nat)
  | endRangeFunc (l : Nat)
  | beginRound
structure AFr where
  fn : Nat
  n : Nat
  tmps : PT AV
  todo : List AItem
  defers : List ADef
  mode : AMode
  deferred : Bool
  round : Option Nat
abbrev Facts := List (SB × Bool)
structure AM where
  fr : AFr
  cs : List AFr
  h : Heap
  facts : Facts

/-! results -/
inductive Ev (α : Type) where
  | ok (a : α)
  | fork (c : SB)
  | panic (v : AV) (h : Heap)
  | fail (why : String)
def Ev.bind {α β : Type} (x : Ev α) (f : α → Ev β) : Ev β := match x with
  | .ok a => f a
  | .fork c => .fork c
  | .panic v h => .panic v h
  | .fail w => .fail w
def Ev.ofOpt {α : Type} (x : Option α) (why : String) : Ev α := match x with
  | some a => .ok a
  | none => .fail why

inductive ANext where
  | value (v : AV) (h : Heap)
  | enter (f : Nat) (args : List AV)
  | defer (d : ADef)
  | recover
  | round (l : Nat) (args : List AV)

end Go.Sx
end
noncomputable section
namespace Go.Sx

/-! linear forms: a number, and letters with factors; what is asked is '≤ 0' -/
structure Lin where
  c : Int
  l : List (SI × Int)
def Lin.ins : List (SI × Int) → SI → Int → List (SI × Int)
  | [], t, k => [(t, k)]
  | (u, j) :: l, t, k => bif SI.beq u t then (u, j + k) :: l else (u, j) :: Lin.ins l t k
def SI.lin : SI → Int → Lin → Lin
  | .lit n, m, L => ⟨L.c + m * n, L.l⟩
  | .add a b, m, L => SI.lin b m (SI.lin a m L)
  | .sub a b, m, L => SI.lin b (-m) (SI.lin a m L)
  | t, m, L => ⟨L.c, Lin.ins L.l t m⟩
def Lin.addAll (k : Int) : List (SI × Int) → List (SI × Int) → List (SI × Int)
  | [], acc => acc
  | (t, j) :: l, acc => Lin.addAll k l (Lin.ins acc t (k * j))
/-- L - M -/
def Lin.sub (L M : Lin) : Lin := ⟨L.c - M.c, Lin.addAll (-1) M.l L.l⟩
/-- a - b + d -/
def diff (a b : SI) (d : Int) : Lin := SI.lin b (-1) (SI.lin a 1 ⟨d, []⟩)
def isSByte (a : SI) : Bool := match a with | .sbyte _ _ => true | _ => false
def kindLo : SI → Option Int
  | .slen _ => some 0
  | .rlen _ => some 0
  | .sbyte _ _ => some 0
  | .wrap k _ => some k.min
  | .bin o _ a (.lit (.ofNat m)) => bif eqOp o .and && Nat.ble m 63 then some 0 else bif eqOp o .shr && m.beq 6 && isSByte a then some 0 else none
  | _ => none
/-- a number that is none below zero and not zero -/
def nzLe (a b : SI) : List Lin := match b with
  | .lit (.ofNat 0) => (match kindLo a with | some (.ofNat 0) => [diff (.lit 1) a 0] | _ => [])
  | _ => []
/-- what is known of two numbers, as forms that are ≤ 0 -/
def cmpLe (o : BinOp) (t : Bool) (a b : SI) : List Lin := match o, t with
  | .lss, true => [diff a b 1]
  | .lss, false => [diff b a 0]
  | .leq, true => [diff a b 0]
  | .leq, false => [diff b a 1]
  | .gtr, true => [diff b a 1]
  | .gtr, false => [diff a b 0]
  | .geq, true => [diff b a 0]
  | .geq, false => [diff a b 1]
  | .eql, true => [diff a b 0, diff b a 0]
  | .neq, false => [diff a b 0, diff b a 0]
  | .eql, false => nzLe a b
  | .neq, true => nzLe a b
  | _, _ => []
def factLe : SB × Bool → List Lin
  | (.cmp o a b, t) => cmpLe o t a b
  | _ => []
def Facts.lins : Facts → List Lin
  | [] => []
  | f :: F => factLe f ++ Facts.lins F
def kindHi : SI → Option Int
  | .sbyte _ _ => some 255
  | .wrap k _ => some k.max
  | .bin o _ a (.lit (.ofNat m)) => bif eqOp o .and && Nat.ble m 63 then some (.ofNat m) else bif eqOp o .shr && m.beq 6 && isSByte a then some 3 else none
  | _ => none
def minO (a b : Option Int) : Option Int := match a, b with
  | some x, some y => some (bif ltInt x y then x else y)
  | some x, none => some x
  | none, y => y
/-- the least bound that the forms give for a letter's multiple by 1 or -1 -/
def factHi (t : SI) (s : Int) : List Lin → Option Int
  | [] => none
  | ⟨c, l⟩ :: F => match l with
    | [(u, k)] => bif SI.beq u t && eqInt k s then minO (some (-c)) (factHi t s F) else factHi t s F
    | _ => factHi t s F
def termUb (F : List Lin) (t : SI) (k : Int) : Option Int :=
  bif eqInt k 0 then some 0
  else bif ltInt 0 k then (match minO (kindHi t) (factHi t 1 F) with | some h => some (k * h) | none => none)
  else (match minO (match kindLo t with | some x => some (-x) | none => none) (factHi t (-1) F) with | some h => some ((-k) * h) | none => none)
def ubL (F : List Lin) : List (SI × Int) → Int → Option Int
  | [], acc => some acc
  | (t, k) :: l, acc => match termUb F t k with
    | some u => ubL F l (acc + u)
    | none => none
def ubLe (F : List Lin) (L : Lin) : Bool := match ubL F L.l L.c with
  | some u => !ltInt 0 u
  | none => false
def leAny (F : List Lin) (L : Lin) : List Lin → Bool
  | [] => false
  | M :: r => bif ubLe F (L.sub M) then true else leAny F L r
def leAny2 (F : List Lin) (L : Lin) : List Lin → Bool
  | [] => false
  | M :: r => bif leAny F (L.sub M) F then true else leAny2 F L r
def le0 (F : List Lin) (L : Lin) : Bool := bif ubLe F L then true else bif leAny F L F then true else leAny2 F L F
def leSI (F : List Lin) (a b : SI) (d : Int) : Bool := le0 F (diff a b d)
def decCmp (F : List Lin) (o : BinOp) (a b : SI) : Option Bool := match o with
  | .lss => bif leSI F a b 1 then some true else bif leSI F b a 0 then some false else none
  | .leq => bif leSI F a b 0 then some true else bif leSI F b a 1 then some false else none
  | .gtr => bif leSI F b a 1 then some true else bif leSI F a b 0 then some false else none
  | .geq => bif leSI F b a 0 then some true else bif leSI F a b 1 then some false else none
  | .eql => bif leSI F a b 1 then some false else bif leSI F b a 1 then some false else bif leSI F a b 0 && leSI F b a 0 then some true else none
  | .neq => bif leSI F a b 1 then some true else bif leSI F b a 1 then some true else bif leSI F a b 0 && leSI F b a 0 then some false else none
  | _ => none
def Facts.find : Facts → SB → Option Bool
  | [], _ => none
  | (c, b) :: l, x => bif SB.beq c x then some b else Facts.find l x
def orElse (a b : Option Bool) : Option Bool := match a with | some x => some x | none => b
def Facts.dec (F : Facts) : SB → Option Bool
  | .lit b => some b
  | .not b => match Facts.dec F b with | some x => some (!x) | none => none
  | .cmp o a b => orElse (Facts.find F (.cmp o a b)) (decCmp F.lins o a b)
  | x => Facts.find F x
def test0 (F : Facts) (c : SB) : Ev Bool := match Facts.dec F c with
  | some b => .ok b
  | none => .fork c
/-- a fork is never on 'not' -/
def test (F : Facts) : SB → Ev Bool
  | .not b => (match test F b with
    | .ok r => .ok (!r)
    | x => x)
  | c => test0 F c

/-! ints -/
def SI.addS (a b : SI) : SI := match a, b with
  | .lit x, .lit y => .lit (x + y)
  | a, .lit y => bif eqInt y 0 then a else .add a (.lit y)
  | .lit x, b => bif eqInt x 0 then b else .add (.lit x) b
  | a, b => .add a b
def SI.subS (a b : SI) : SI := match a, b with
  | .lit x, .lit y => .lit (x - y)
  | a, .lit y => bif eqInt y 0 then a else .sub a (.lit y)
  | a, b => .sub a b
def fits (F : Facts) (k : IntKind) (t : SI) : Bool := let L := F.lins; leSI L t (.lit k.max) 0 && leSI L (.lit k.min) t 0
def SI.wrapS (F : Facts) (k : IntKind) (t : SI) : SI := match t with
  | .lit n => .lit (k.wrap n)
  | t => bif fits F k t then t else .wrap k t
def intBin (o : BinOp) (k : IntKind) (a b : Int) : Option Int := match o with
  | .add => some (k.wrap (a + b))
  | .sub => some (k.wrap (a - b))
  | .mul => some (k.wrap (a * b))
  | .quo => bif eqInt b 0 then none else some (k.wrap (a.tdiv b))
  | .rem => bif eqInt b 0 then none else some (a.tmod b)
  | .and => some (k.wrap (BitVec.ofInt k.bits a &&& BitVec.ofInt k.bits b).toNat)
  | .or => some (k.wrap (BitVec.ofInt k.bits a ||| BitVec.ofInt k.bits b).toNat)
  | .xor => some (k.wrap (BitVec.ofInt k.bits a ^^^ BitVec.ofInt k.bits b).toNat)
  | .andNot => some (k.wrap (BitVec.ofInt k.bits a &&& ~~~(BitVec.ofInt k.bits b)).toNat)
  | .shl => bif ltInt b 0 then none else some (k.wrap (a * 2 ^ (min b.toNat k.bits)))
  | .shr => bif ltInt b 0 then none else some (a.fdiv (2 ^ (min b.toNat k.bits)))
  | _ => none
def intCmp (o : BinOp) (a b : Int) : Option Bool := match o with
  | .eql => some (eqInt a b)
  | .neq => some (!eqInt a b)
  | .lss => some (ltInt a b)
  | .leq => some (!ltInt b a)
  | .gtr => some (ltInt b a)
  | .geq => some (!ltInt a b)
  | _ => none
def isCmp : BinOp → Bool
  | .eql | .neq | .lss | .leq | .gtr | .geq => true
  | _ => false
def SB.cmpS (o : BinOp) (a b : SI) : SB := match a, b with
  | .lit x, .lit y => match intCmp o x y with | some r => .lit r | none => .cmp o (.lit x) (.lit y)
  | a, b => .cmp o a b
def SB.notS : SB → SB
  | .lit b => .lit (!b)
  | .not b => b
  | b => .not b
/-- surely not below zero -/
def nonNeg (b : SI) : Bool := match b with
  | .lit y => !ltInt y 0
  | b => (match kindLo b with | some z => !ltInt z 0 | none => false)
/-- does the operation answer, whatever the first number is? -/
def opSafe (o : BinOp) (b : SI) : Bool := match o, b with
  | .add, _ | .sub, _ | .mul, _ | .and, _ | .or, _ | .xor, _ | .andNot, _ => true
  | .quo, .lit y | .rem, .lit y => !eqInt y 0
  | .shl, b | .shr, b => nonNeg b
  | _, _ => false
def symOp (F : Facts) (o : BinOp) (k : IntKind) (a b : SI) : Option SI := match o with
  | .add => some (SI.wrapS F k (SI.addS a b))
  | .sub => some (SI.wrapS F k (SI.subS a b))
  | o => bif opSafe o b then some (.bin o k a b) else none
def intOp (F : Facts) (o : BinOp) (k : IntKind) (a b : SI) : Option SI := match a, b with
  | .lit x, .lit y => match intBin o k x y with | some r => some (.lit r) | none => none
  | a, b => symOp F o k a b

/-! strings -/
def SS.len : SS → SI
  | [] => .lit 0
  | .lit bs :: r => SI.addS (.lit (Int.ofNat bs.length)) (SS.len r)
  | .var i :: r => SI.addS (.slen i) (SS.len r)
  | .chr _ :: r => SI.addS (.lit 1) (SS.len r)
def SS.cons (p : SP) (r : SS) : SS := match p with
  | .lit [] => r
  | .lit (x :: a) => (match r with
    | .lit b :: r => .lit (x :: a ++ b) :: r
    | r => .lit (x :: a) :: r)
  | p => p :: r
def SS.app : SS → SS → SS
  | [], y => y
  | [p], y => SS.cons p y
  | p :: x, y => p :: SS.app x y
def SS.nth (F : Facts) : SS → Nat → Option SI
  | [], _ => none
  | .lit bs :: r, i => match bs[i]? with
    | some b => some (.lit (Int.ofNat b.toNat))
    | none => SS.nth F r (i - bs.length)
  | .chr n :: r, i => bif i.beq 0 then (bif fits F .u8 n then some n else none) else SS.nth F r (i - 1)
  | .var v :: _, i => bif leSI F.lins (.lit (Int.ofNat (Nat.succ i))) (.slen v) 0 then some (.sbyte v (.lit (Int.ofNat i))) else none
def SS.drop : SS → Nat → Option SS
  | s, 0 => some s
  | [], _ + 1 => none
  | .lit bs :: r, n + 1 => bif Nat.blt (n + 1) bs.length then some (.lit (bs.drop (n + 1)) :: r) else SS.drop r (n + 1 - bs.length)
  | .chr _ :: r, n + 1 => SS.drop r n
  | .var _ :: _, _ + 1 => none
def SS.take : SS → Nat → Option SS
  | _, 0 => some []
  | [], _ + 1 => none
  | .lit bs :: r, n + 1 => bif Nat.ble (n + 1) bs.length then some [.lit (bs.take (n + 1))] else match SS.take r (n + 1 - bs.length) with
    | some t => some (.lit bs :: t)
    | none => none
  | .chr c :: r, n + 1 => match SS.take r n with
    | some t => some (.chr c :: t)
    | none => none
  | .var _ :: _, _ + 1 => none
def SS.toLit : SS → Option (List UInt8)
  | [] => some []
  | [.lit bs] => some bs
  | _ => none
def SB.seqS (a b : SS) : SB := match SS.toLit a, SS.toLit b with
  | some x, some y => .lit (eqBytes x y)
  | _, some [] => SB.cmpS .eql (SS.len a) (.lit 0)
  | some [], _ => SB.cmpS .eql (SS.len b) (.lit 0)
  | _, _ => bif SS.beq a b then .lit true else .seq a b
/-- the number that a form is -/
def Lin.zeros : List (SI × Int) → Bool
  | [] => true
  | (_, k) :: l => bif eqInt k 0 then Lin.zeros l else false
def constOf (t : SI) : Option Int := match SI.lin t 1 ⟨0, []⟩ with
  | ⟨c, l⟩ => bif Lin.zeros l then some c else none
def sameSI (a b : SI) : Bool := match constOf (.sub a b) with
  | some c => eqInt c 0
  | none => false
def SP.len : SP → SI
  | .lit bs => .lit (Int.ofNat bs.length)
  | .var i => .slen i
  | .chr _ => .lit 1
def charsOf (i : Nat) : Nat → Nat → SS
  | _, 0 => []
  | k, n + 1 => .chr (.sbyte i (.lit (Int.ofNat k))) :: charsOf i (Nat.succ k) n
def SS.takeN (F : Facts) : SS → Nat → Option SS
  | _, 0 => some []
  | [], _ + 1 => none
  | .lit bs :: r, n + 1 => bif Nat.ble (n + 1) bs.length then some [.lit (bs.take (n + 1))] else match SS.takeN F r (n + 1 - bs.length) with
    | some t => some (.lit bs :: t)
    | none => none
  | .chr c :: r, n + 1 => (match SS.takeN F r n with
    | some t => some (.chr c :: t)
    | none => none)
  | .var i :: _, n + 1 => bif Nat.ble n 8 && leSI F.lins (.lit (Int.ofNat (n + 1))) (.slen i) 0 then some (charsOf i 0 (n + 1)) else none
/-- what stands ahead of a place; what stands behind it -/
def SS.takeS (F : Facts) : SS → SI → Option SS
  | [], hh => (match constOf hh with | some (.ofNat c) => SS.takeN F [] c | _ => none)
  | p :: r, hh => match constOf hh with
    | some (.ofNat c) => SS.takeN F (p :: r) c
    | some _ => none
    | none => match SS.takeS F r (.sub hh p.len) with
      | some t => some (p :: t)
      | none => none
def SS.dropS : SS → SI → Option SS
  | [], hh => (match constOf hh with | some (.ofNat c) => SS.drop [] c | _ => none)
  | p :: r, hh => match constOf hh with
    | some (.ofNat c) => SS.drop (p :: r) c
    | some _ => none
    | none => SS.dropS r (.sub hh p.len)
/-- single bytes -/
def litBytes : List UInt8 → List SI → List SI
  | [], l => l
  | b :: bs, l => .lit (Int.ofNat b.toNat) :: litBytes bs l
def SS.flat (F : Facts) : SS → Option (List SI)
  | [] => some []
  | .lit bs :: r => (match SS.flat F r with | some l => some (litBytes bs l) | none => none)
  | .chr n :: r => bif fits F .u8 n then (match SS.flat F r with | some l => some (n :: l) | none => none) else none
  | .var _ :: _ => none
def eqFlat (F : Facts) : List SI → List SI → Ev Bool
  | [], [] => .ok true
  | x :: xs, y :: ys => (test F (SB.cmpS .eql x y)).bind fun t => bif t then eqFlat F xs ys else .ok false
  | _, _ => .ok false
def headNe (F : Facts) (a b : SS) : Bool := match SS.nth F a 0, SS.nth F b 0 with
  | some x, some y => (match decCmp F.lins .eql x y with | some false => true | _ => false)
  | _, _ => false
def strEq2 (F : Facts) (a b : SS) (x : SB) : Ev SB := match SS.flat F a, SS.flat F b with
  | some xs, some ys => (eqFlat F xs ys).bind fun r => .ok (.lit r)
  | _, _ => bif headNe F a b then .ok (.lit false) else .ok x
def strEq (F : Facts) (a b : SS) : Ev SB := match SB.seqS a b with
  | .lit r => .ok (.lit r)
  | x => strEq2 F a b x
def countSym (F : Facts) (c : SI) : List SI → Ev Nat
  | [] => .ok 0
  | x :: r => (test F (SB.cmpS .eql x c)).bind fun t => (countSym F c r).bind fun n => .ok (bif t then Nat.succ n else n)
def idxSym (F : Facts) (c : SI) : List SI → Nat → Ev (Option Nat)
  | [], _ => .ok none
  | x :: r, i => (test F (SB.cmpS .eql x c)).bind fun t => bif t then .ok (some i) else idxSym F c r (Nat.succ i)
end Go.Sx
end
noncomputable section
namespace Go.Sx

structure TyRow where
  u : TypeDesc
  size : Nat
  bytes : Nat
  zero : Option AV
inductive Ext where
  | noEscape | indexByteString | cmpstring | countString | overlaps
/-- a call that is known: what is handed in, and what of the heap is asked; what comes back, and what the heap is then -/
structure Orc where
  facts : Facts
  f : Nat
  args : List AV
  pre : List (Nat × ABlk)
  next : Nat
  v : AV
  post : List (Nat × ABlk)
  next' : Nat
/-- a call that is known, and leaves all that was there as it was; what is asked of the heap -/
structure POrc where
  facts : Facts
  f : Nat
  args : List AV
  pre : List (Nat × ABlk)
  v : AV
structure Ctx where
  fn : PT Func
  ty : PT TyRow
  ext : PT Ext
  lies : List (Nat × Nat × Nat)
  orc : List Orc
  por : List POrc
  hp : Option Nat := none

/-- does a text begin with known bytes? -/
def isPre : List UInt8 → List UInt8 → Bool
  | [], _ => true
  | _ :: _, [] => false
  | x :: a, y :: b => bif eqByte x y then isPre a b else false
def prefB (F : Facts) : List UInt8 → SS → Option Bool
  | [], _ => some true
  | x :: xs, s => match SS.toLit s with
    | some bs => some (isPre (x :: xs) bs)
    | none => (match SS.nth F s 0 with
      | some y => (match decCmp F.lins .eql y (.lit (Int.ofNat x.toNat)) with
        | some false => some false
        | some true => (match SS.drop s 1 with
          | some t => prefB F xs t
          | none => none)
        | none => none)
      | none => none)

/-! values -/
def SI.nat? : SI → Option Nat
  | .lit (.ofNat n) => some n
  | _ => none
def AV.cells : AV → List AV
  | .agg cs => cs
  | v => [v]
def isAgg (u : TypeDesc) : Bool := match u with | .struct _ | .array _ _ => true | _ => false
/-- a list with some of its values laid anew, from a place on -/
def setAt {α : Type} : List α → Nat → List α → Option (List α)
  | l, 0, [] => some l
  | _ :: l, 0, v :: vs => match setAt l 0 vs with | some r => some (v :: r) | none => none
  | [], 0, _ :: _ => none
  | a :: l, n + 1, vs => match setAt l n vs with | some r => some (a :: r) | none => none
  | [], _ + 1, _ => none
def getN {α : Type} (l : List α) (off n : Nat) : Option (List α) := bif ((l.drop off).take n).length.beq n then some ((l.drop off).take n) else none
def plain (v : AV) : Bool := match v with | .agg _ => false | .tup _ => false | _ => true
def byteAV (n : SI) : AV := .int .u8 n
def SS.nbytes (F : Facts) (s : SS) : Nat → Nat → Option (List AV)
  | _, 0 => some []
  | off, n + 1 => match SS.nth F s off with
    | some x => (match SS.nbytes F s (off + 1) n with | some r => some (byteAV x :: r) | none => none)
    | none => none
def ABlk.getN (F : Facts) (b : ABlk) (off n : Nat) : Option (List AV) := match b with
  | .cells _ none cs _ => Sx.getN cs off n
  | .bytes s _ _ => SS.nbytes F s off n
  | .rowv _ r z (.lit (.ofNat k)) cs _ => bif Nat.ble (k * z) off && Nat.ble (off + n) ((k + 1) * z) && leSI F.lins (.lit (.ofNat k)) (.rlen r) 1 then Sx.getN cs (off - k * z) n else none
  | .cells _ (some (.cs l _, _)) _ _ => bif l.all scalarAV then Sx.getN l off n else none
  | _ => none
def ABlk.setN (b : ABlk) (off : Nat) (vs : List AV) : Option ABlk := match b with
  | .cells false none cs e => bif vs.all plain then (match setAt cs off vs with | some r => some (.cells false none r e) | none => none) else none
  | _ => none
def Heap.getN (F : Facts) (h : Heap) (id off n : Nat) : Option (List AV) := match h.t.get id with
  | some b => b.getN F off n
  | none => none
def Heap.setN (h : Heap) (id off : Nat) (vs : List AV) : Option Heap := match h.t.get id with
  | some b => match b.setN off vs with
    | some b => some (h.put id b)
    | none => none
  | none => none

variable (C : Ctx)
def row (t : Nat) : Ev TyRow := Ev.ofOpt (C.ty.get t) "type"
def zeroAV (t : Nat) : Ev AV := (row C t).bind fun r => Ev.ofOpt r.zero "zero"
def isU8 (e : Nat) : Bool := match C.ty.get e with | some r => (match r.u with | .int .u8 => r.size.beq 1 | _ => false) | none => false

def loadAgg (F : Facts) (h : Heap) (id off n : Nat) : Ev AV := (Ev.ofOpt (h.getN F id off n) "load agg").bind fun cs => .ok (.agg cs)
def loadOne (F : Facts) (h : Heap) (id off : Nat) : Ev AV := match h.getN F id off 1 with
  | some [v] => .ok v
  | _ => .fail "load"
def loadRow (F : Facts) (h : Heap) (r : TyRow) (id z : Nat) (i : SI) (off : Nat) : Ev AV := match h.t.get id with
  | some (.rowv _ r' z' i' cs _) => bif z.beq z' && sameSI i i' && leSI F.lins i (.rlen r') 1 then (bif isAgg r.u then (Ev.ofOpt (getN cs off r.size) "load row").bind fun x => .ok (.agg x) else Ev.ofOpt (cs[off]?) "load row") else .fail "load row at"
  | _ => .fail "load row block"
def loadAt (F : Facts) (h : Heap) (t : Nat) (a : AV) : Ev AV := (row C t).bind fun r => match a with
  | .ptr id off => bif isAgg r.u then loadAgg F h id off r.size else loadOne F h id off
  | .iptr id z i off => loadRow F h r id z i off
  | _ => .fail "load: no ptr"
def storeAt (h : Heap) (t : Nat) (a v : AV) : Ev Heap := (row C t).bind fun r => match a with
  | .ptr id off => bif v.cells.length.beq r.size then Ev.ofOpt (h.setN id off v.cells) "store" else .fail "store size"
  | _ => .fail "store: no ptr"
def newVar (h : Heap) (t : Nat) (v : AV) : AV × Heap := (.ptr h.next 0, h.add (.cells false none v.cells t))
def fieldAt (s : Nat) (a : AV) (f : Nat) : Ev AV := (row C s).bind fun r => match r.u, a with
  | .struct fs, .ptr id off => (match fs.toList[f]? with
    | some fd => (row C fd.type).bind fun ft => bif ft.size.beq 0 then .fail "zero-size field" else .ok (.ptr id (off + fd.offset))
    | none => .fail "no field")
  | .struct fs, .iptr id z i off => (match fs.toList[f]? with
    | some fd => (row C fd.type).bind fun ft => bif ft.size.beq 0 then .fail "zero-size field" else .ok (.iptr id z i (off + fd.offset))
    | none => .fail "no field")
  | _, _ => .fail "fieldAddr"
def partOf (t : Nat) (cs : List AV) (off : Nat) : Ev AV := (row C t).bind fun r =>
  bif isAgg r.u then (Ev.ofOpt (getN cs off r.size) "part").bind fun x => .ok (.agg x)
  else Ev.ofOpt (cs[off]?) "part"
def fieldOf (s : Nat) (x : AV) (f : Nat) : Ev AV := (row C s).bind fun r => match r.u, x with
  | .struct fs, .agg cs => (match fs.toList[f]? with
    | some fd => partOf C fd.type cs fd.offset
    | none => .fail "no field")
  | _, _ => .fail "field"
/-- is 0 ≤ i < n ? -/
def within (F : Facts) (i n : SI) : Ev Bool := (test F (SB.cmpS .leq (.lit 0) i)).bind fun a => bif a then test F (SB.cmpS .lss i n) else .ok false
/-- which of a few numbers is it? -/
def pin (F : Facts) (i : SI) : Nat → Nat → Ev Nat
  | k, 0 => bif leSI F.lins i (.lit (.ofNat k)) 0 && leSI F.lins (.lit (.ofNat k)) i 0 then .ok k else .fail "pin"
  | k, n + 1 => (test F (.cmp .lss i (.lit (.ofNat (k + 1))))).bind fun a => bif a then (bif leSI F.lins i (.lit (.ofNat k)) 0 && leSI F.lins (.lit (.ofNat k)) i 0 then .ok k else .fail "pin") else pin F i (k + 1) n
/-- a masked number has few values -/
def few : SI → Option Nat
  | .bin o _ a (.lit (.ofNat m)) => bif eqOp o .and && Nat.ble m 15 then some m else bif eqOp o .shr && m.beq 6 && isSByte a then some 3 else none
  | _ => none
def elemPtr (F : Facts) (id off : Nat) (i : SI) (e : Nat) : Ev AV := (row C e).bind fun re => match i.nat? with
  | some k => .ok (.ptr id (off + k * re.size))
  | none => match few i with
    | some m => (pin F i 0 m).bind fun k => .ok (.ptr id (off + k * re.size))
    | none => .ok (.iptr id re.size i off)
def indexAddr (F : Facts) (t : Nat) (x ix : AV) : Ev AV := (row C t).bind fun r => match ix with
  | .int _ i => (match r.u, x with
    | .array n e, .ptr id off => (within F i (.lit n)).bind fun ok => bif ok then elemPtr C F id off i e else .fail "index range"
    | .slice e, .slice id off len _ => (within F i len).bind fun ok => bif ok then elemPtr C F id off i e else .fail "index range"
    | _, _ => .fail "indexAddr")
  | _ => .fail "indexAddr"
def strAtD (F : Facts) (s : SS) (i : SI) : Ev AV := (Ev.ofOpt (SS.dropS s i) "index sym").bind fun t => (Ev.ofOpt (SS.nth F t 0) "index sym").bind fun b => .ok (.int .u8 b)
/-- is the place in the first letter? -/
def strAtV (F : Facts) (s : SS) (i : SI) : Ev AV := match s with
  | .var v :: _ => bif leSI F.lins i (.slen v) 1 then .ok (.int .u8 (.sbyte v i)) else strAtD F s i
  | s => strAtD F s i
def strAt (F : Facts) (s : SS) (i : SI) : Ev AV := match i.nat? with
  | some k => (Ev.ofOpt (SS.nth F s k) "index str").bind fun b => .ok (.int .u8 b)
  | none => (match s with
    | [.var v] => .ok (.int .u8 (.sbyte v i))
    | s => strAtV F s i)
def indexOf (F : Facts) (t : Nat) (x ix : AV) : Ev AV := (row C t).bind fun r => match ix with
  | .int _ i => (match r.u, x with
    | .array n e, .agg cs => (within F i (.lit n)).bind fun ok => bif ok then (row C e).bind fun re => (match i.nat? with
        | some k => partOf C e cs (k * re.size)
        | none => .fail "index sym") else .fail "index range"
    | .string, .str s => (within F i (SS.len s)).bind fun ok => bif ok then strAt F s i else .fail "index range"
    | _, _ => .fail "index")
  | _ => .fail "index"
def asI : Option AV → SI → Ev SI
  | none, d => .ok d
  | some (.int _ n), _ => .ok n
  | _, _ => .fail "bound"
def ble3 (a b c : Nat) : Bool := bif Nat.ble a b then Nat.ble b c else false
/-- a part of a string -/
def strPart0 (F : Facts) (s : SS) (l h : SI) : Ev AV := match l, h with
  | .lit (.ofNat l'), .lit (.ofNat h') => bif Nat.ble l' h' then
      (Ev.ofOpt (SS.take s h') "slice take").bind fun s => (Ev.ofOpt (SS.drop s l') "slice drop").bind fun s => .ok (.str s) else .fail "slice range"
  | .lit (.ofNat l'), hh => bif SI.beq hh (SS.len s) then (Ev.ofOpt (SS.drop s l') "slice drop").bind fun s => .ok (.str s) else .fail "slice sym"
  | l, hh => (match s with
    | [.var v] => bif SI.beq hh (SI.addS l (.lit 1)) then
        (within F l (.slen v)).bind fun ok => bif ok then .ok (.str [.chr (.sbyte v l)]) else .fail "slice sym range"
      else .fail "slice sym"
    | _ => .fail "slice sym")
def strPart1 (F : Facts) (s : SS) (l h : SI) (w : String) : Ev AV := match SS.takeS F s h with
  | none => .fail w
  | some t => (match SS.dropS t l with
    | none => .fail w
    | some u => .ok (.str u))
def strPart (F : Facts) (s : SS) (l h : SI) : Ev AV := match strPart0 F s l h with
  | .fail w => strPart1 F s l h w
  | x => x
/-- how many elements there surely are from an offset on -/
def sureCap (h : Heap) (id off size : Nat) (cap : Cap) (len : SI) : Option Nat := match cap with
  | .known c => some c
  | .full => len.nat?
  | .rest z => bif z.beq size then (match h.t.get id with
    | some (.cells _ none cs _) => some ((cs.length - off) / size)
    | some (.bytes s _ _) => (match SS.len s with | .lit (.ofNat n) => bif size.beq 1 then some ((n - off) / size) else none | _ => none)
    | _ => none) else none
/-- a slice's part from l to h, at most m (of a known one) -/
def slicePart (h : Heap) (size id off : Nat) (len : SI) (cap : Cap) (l' h' : Nat) : Ev AV :=
  match sureCap h id off size cap len with
  | some c => bif ble3 l' h' c && !size.beq 0 then (match cap with
      | .rest z => bif l'.beq h' then .ok (bif l'.beq 0 then .slice id off (.lit 0) (.rest z) else .eslice id z) else .ok (.slice id (off + l' * size) (.lit (Int.ofNat (h' - l'))) (.rest z))
      | _ => .ok (.slice id (bif l'.beq c then off else off + l' * size) (.lit (Int.ofNat (h' - l'))) (.known (c - l')))) else .fail "slice cap"
  | none => .fail "slice most"
def slice3Part (h : Heap) (size id off : Nat) (len : SI) (cap : Cap) (l' h' m' : Nat) : Ev AV :=
  match sureCap h id off size cap len with
  | some c => bif ble3 l' h' m' && Nat.ble m' c then .ok (.slice id (bif l'.beq m' then off else off + l' * size) (.lit (Int.ofNat (h' - l'))) (.known (m' - l'))) else .fail "slice3 cap"
  | none => .fail "slice3 most"
/-- a beginning of a slice that is surely longer -/
def sliceHead1 (F : Facts) (id off : Nat) (len : SI) (cap : Cap) (l' h' : Nat) (w : String) : Ev AV := match cap with
  | .rest z => bif l'.beq 0 && leSI F.lins (.lit (Int.ofNat h')) len 0 then .ok (.slice id off (.lit (Int.ofNat h')) (.rest z)) else .fail w
  | _ => .fail w
def sliceHead (F : Facts) (id off : Nat) (len : SI) (cap : Cap) (l' h' : Nat) (x : Ev AV) : Ev AV := match x with
  | .fail w => sliceHead1 F id off len cap l' h' w
  | x => x
def sliceHeadV (F : Facts) (id off : Nat) (len : SI) (cap : Cap) (hh : SI) : Ev AV := match cap with
  | .rest z => bif leSI F.lins hh len 0 && leSI F.lins (.lit 0) hh 0 then .ok (.slice id off hh (.rest z)) else .fail "slice sym"
  | _ => .fail "slice sym"
def slice2 (F : Facts) (h : Heap) (size id off : Nat) (len : SI) (cap : Cap) (l hh : SI) : Ev AV := match l, hh with
  | .lit (.ofNat l'), .lit (.ofNat h') => sliceHead F id off len cap l' h' (slicePart h size id off len cap l' h')
  | .lit (.ofNat 0), hh => bif SI.beq hh len then .ok (.slice id off len cap) else sliceHeadV F id off len cap hh
  | _, _ => .fail "slice sym"
def slice3 (h : Heap) (size id off : Nat) (len : SI) (cap : Cap) (l hh m : SI) : Ev AV := match l, hh, m with
  | .lit (.ofNat l'), .lit (.ofNat h'), .lit (.ofNat m') => slice3Part h size id off len cap l' h' m'
  | .lit (.ofNat 0), hh, m => bif SI.beq hh len && SI.beq m len then .ok (.slice id off len .full) else .fail "slice3 sym"
  | _, _, _ => .fail "slice3 sym"
def isNone {α : Type} (o : Option α) : Bool := match o with | none => true | some _ => false
def sliceSlice (F : Facts) (h : Heap) (size : Nat) (x : AV) (lo hi mx : Option AV) : Ev AV := match x with
  | .slice id off len cap => (asI lo (.lit 0)).bind fun l => (asI hi len).bind fun hh => (match mx with
      | none => slice2 F h size id off len cap l hh
      | some (.int _ m) => bif isNone hi then .fail "slice3 high" else slice3 h size id off len cap l hh m
      | _ => .fail "slice3")
  | .nilSlice => (asI lo (.lit 0)).bind fun l => (asI hi (.lit 0)).bind fun hh => (asI mx (.lit 0)).bind fun m => (match l, hh, m with
      | .lit (.ofNat 0), .lit (.ofNat 0), .lit (.ofNat 0) => bif isNone hi && !isNone mx then .fail "slice3 nil" else .ok .nilSlice
      | _, _, _ => .fail "slice nil")
  | .eslice id z => (asI lo (.lit 0)).bind fun l => (asI hi (.lit 0)).bind fun hh => (match l, hh, mx with
      | .lit (.ofNat 0), .lit (.ofNat 0), none => .ok (.eslice id z)
      | _, _, _ => .fail "slice empty")
  | _ => .fail "slice"
def sliceStr (F : Facts) (s : SS) (lo hi : Option AV) : Ev AV := (asI lo (.lit 0)).bind fun l => (asI hi (SS.len s)).bind fun h =>
  (test F (SB.cmpS .leq h (SS.len s))).bind fun a => bif a then strPart F s l h else .fail "slice range"
def sliceArr (n size id off : Nat) (lo hi : Option AV) : Ev AV := (asI lo (.lit 0)).bind fun l => (asI hi (.lit n)).bind fun hh => match l, hh with
  | .lit (.ofNat l'), .lit (.ofNat h') => bif ble3 l' h' n then .ok (.slice id (bif l'.beq n then off else off + l' * size) (.lit (Int.ofNat (h' - l'))) (.known (n - l'))) else .fail "slice arr"
  | _, _ => .fail "slice sym"
def sliceOf (F : Facts) (h : Heap) (t : Nat) (x : AV) (lo hi mx : Option AV) : Ev AV := (row C t).bind fun r => match r.u with
  | .string => (match x, mx with
    | .str s, none => sliceStr F s lo hi
    | _, _ => .fail "slice")
  | .slice e => (row C e).bind fun re => sliceSlice F h re.size x lo hi mx
  | .array n e => (row C e).bind fun re => (match x, mx with
    | .ptr id off, none => sliceArr n re.size id off lo hi
    | _, _ => .fail "slice")
  | _ => .fail "slice"

def liesIn (e o t : Nat) : List (Nat × Nat × Nat) → Bool
  | [] => false
  | (a, b, c) :: l => bif a.beq e then (bif b.beq o && c.beq t then true else liesIn e o t l) else liesIn e o t l
/-- equality at a type -/
def eqAt (t : TypeDesc) (x y : AV) : Ev SB := match x, y with
  | .bool a, .bool b => (match t with
    | .bool => (match a, b with
      | .lit a, .lit b => .ok (.lit (eqBool a b))
      | a, .lit true => .ok a
      | a, .lit false => .ok (SB.notS a)
      | _, _ => .fail "eq bool")
    | _ => .fail "eq")
  | .nilPtr, .nilPtr => (match t with | .pointer _ => .ok (.lit true) | _ => .fail "eq")
  | .nilPtr, .ptr _ _ => (match t with | .pointer _ => .ok (.lit false) | _ => .fail "eq")
  | .ptr _ _, .nilPtr => (match t with | .pointer _ => .ok (.lit false) | _ => .fail "eq")
  | .nilIface, .nilIface => .fail "eq nil ifaces"
  | .nilIface, .iface _ _ => (match t with | .interface _ => .ok (.lit false) | _ => .fail "eq")
  | .iface _ _, .nilIface => (match t with | .interface _ => .ok (.lit false) | _ => .fail "eq")
  | .nilSlice, .nilSlice => (match t with | .slice _ => .ok (.lit true) | _ => .fail "eq")
  | .nilSlice, .slice _ _ _ _ => (match t with | .slice _ => .ok (.lit false) | _ => .fail "eq")
  | .slice _ _ _ _, .nilSlice => (match t with | .slice _ => .ok (.lit false) | _ => .fail "eq")
  | .nilFunc, .nilFunc => (match t with | .func _ _ _ => .ok (.lit true) | _ => .fail "eq")
  | .nilFunc, .func _ _ _ => (match t with | .func _ _ _ => .ok (.lit false) | _ => .fail "eq")
  | .func _ _ _, .nilFunc => (match t with | .func _ _ _ => .ok (.lit false) | _ => .fail "eq")
  | _, _ => .fail "eq"
def eqPtr (C : Ctx) (t : TypeDesc) (i o j p : Nat) : Ev SB := match t with
  | .pointer e => (row C e).bind fun re => bif re.size.beq 0 then .fail "eq ptr" else bif i.beq j then .ok (.lit (o.beq p)) else .fail "eq ptr"
  | _ => .fail "eq ptr"
def bytesLt : List UInt8 → List UInt8 → Bool
  | _, [] => false
  | [], _ :: _ => true
  | a :: x, b :: y => bif Nat.blt a.toNat b.toNat then true else bif eqByte a b then bytesLt x y else false
def strLt (a b : SS) : Ev AV := match SS.toLit a, SS.toLit b with
  | some a, some b => .ok (.bool (.lit (bytesLt a b)))
  | _, _ => .fail "str lss"
def strOp (F : Facts) (o : BinOp) (a b : SS) : Ev AV := match o with
  | .add => bif leSI F.lins (SI.addS (SS.len a) (SS.len b)) (.lit 4611686018427387904) 0 then .ok (.str (SS.app a b)) else .fail "str add"
  | .eql => (strEq F a b).bind fun r => .ok (.bool r)
  | .neq => (strEq F a b).bind fun r => .ok (.bool (SB.notS r))
  | .lss => strLt a b
  | .gtr => strLt b a
  | _ => .fail "strop"
def isShift (o : BinOp) : Bool := match o with | .shl | .shr => true | _ => false
def intsOp (F : Facts) (o : BinOp) (k k' : IntKind) (a b : SI) : Ev AV :=
  bif isShift o || eqKind k k' then (bif isCmp o then .ok (.bool (SB.cmpS o a b)) else (Ev.ofOpt (intOp F o k a b) "int").bind fun r => .ok (.int k r))
  else .fail "kinds"
def nilIfaceLit (x y : Operand) : Bool := match x, y with | .const _, _ => true | _, .const _ => true | _, _ => false
def eqAny (t : Nat) (xo yo : Operand) (x y : AV) : Ev SB := (row C t).bind fun r => match x, y with
  | .ptr i o, .ptr j p => eqPtr C r.u i o j p
  | .nilIface, .nilIface => (match r.u with | .interface _ => bif nilIfaceLit xo yo then .ok (.lit true) else .fail "eq nil ifaces" | _ => .fail "eq")
  | x, y => eqAt r.u x y
def binOpA (F : Facts) (o : BinOp) (t : Nat) (xo yo : Operand) (x y : AV) : Ev AV := match x, y with
  | .int k a, .int k' b => intsOp F o k k' a b
  | .str a, .str b => strOp F o a b
  | x, y => (match o with
    | .eql => (eqAny C t xo yo x y).bind fun b => .ok (.bool b)
    | .neq => (eqAny C t xo yo x y).bind fun b => .ok (.bool (SB.notS b))
    | _ => .fail "binop")
def unOpA (F : Facts) (o : UnOp) (x : AV) : Ev AV := match o, x with
  | .not, .bool b => .ok (.bool (SB.notS b))
  | .neg, .int k n => (Ev.ofOpt (intOp F .sub k (.lit 0) n) "neg").bind fun r => .ok (.int k r)
  | .xor, .int k n => (Ev.ofOpt (intOp F .xor k (.lit (bif k.signed then -1 else k.max)) n) "xor").bind fun r => .ok (.int k r)
  | _, _ => .fail "unop"
/-- lay parts into zero cells -/
def fillA (place : Nat → Option (Nat × Nat)) (cells : List AV) : List (Nat × AV) → Option (List AV)
  | [] => some cells
  | (i, v) :: rest => match place i with
    | none => none
    | some (off, size) => bif v.cells.length.beq size then (match setAt cells off v.cells with
      | some cs => fillA place cs rest
      | none => none) else none
def placesOf : List Field → Option (List (Nat × Nat))
  | [] => some []
  | f :: fs => match C.ty.get f.type, placesOf fs with
    | some r, some l => some ((f.offset, r.size) :: l)
    | _, _ => none
def buildA (t : Nat) (parts : List (Nat × AV)) : Ev AV := (row C t).bind fun r => (Ev.ofOpt r.zero "build zero").bind fun z => match r.u with
  | .struct fs => (Ev.ofOpt (placesOf C fs.toList) "places").bind fun ps => (Ev.ofOpt (fillA (fun i => ps[i]?) z.cells parts) "build").bind fun cs => .ok (.agg cs)
  | .array _ e => (row C e).bind fun re => (Ev.ofOpt (fillA (fun i => some (i * re.size, re.size)) z.cells parts) "build").bind fun cs => .ok (.agg cs)
  | _ => .fail "build"
def repCells (z : List AV) : Nat → List AV
  | 0 => []
  | n + 1 => z ++ repCells z n
def newSlice (h : Heap) (cs : List AV) (e len cap : Nat) : AV × Heap := (.slice h.next 0 (.lit (Int.ofNat len)) (.known cap), h.add (.cells false none cs e))
def buildSliceA (h : Heap) (t len : Nat) (parts : List (Nat × AV)) : Ev (AV × Heap) := (row C t).bind fun r => match r.u with
  | .slice e => (row C e).bind fun re => (Ev.ofOpt re.zero "zero").bind fun z => bif z.cells.length.beq re.size && Nat.ble (len * re.size) 16000000 then
      (Ev.ofOpt (fillA (fun i => some (i * re.size, re.size)) (repCells z.cells len) parts) "buildSlice").bind fun cs => .ok (newSlice h cs e len len) else .fail "buildSlice size"
  | _ => .fail "buildSlice"
def makeSliceA (h : Heap) (t : Nat) (len cap : AV) : Ev (AV × Heap) := (row C t).bind fun r => match r.u, len, cap with
  | .slice e, .int _ (.lit (.ofNat l)), .int _ (.lit (.ofNat c)) => (row C e).bind fun re => (Ev.ofOpt re.zero "zero").bind fun z =>
      bif Nat.ble l c && Nat.ble (re.bytes * c) 1000000 && Nat.ble c 1000000 && z.cells.length.beq re.size then .ok (newSlice h (repCells z.cells c) e l c) else .fail "makeSlice"
  | _, _, _ => .fail "makeSlice"
def RX.len (z : Nat) : RX → SI
  | .v r => .rlen r
  | .cs l b => SI.addS (.lit (Int.ofNat (l.length / z))) (RX.len z b)
/-- a slice's elements -/
inductive Src where
  | cells (pre : Option (RX × Nat)) (cs : List AV)
  | bytes (s : SS)
def sliceRow (h : Heap) (size : Nat) : AV → Ev Src
  | .nilSlice => .ok (.cells none [])
  | .eslice _ _ => .ok (.cells none [])
  | .str s => bif size.beq 1 then .ok (.bytes s) else .fail "row str"
  | .slice id off len _ => (match h.t.get id with
    | some (.cells _ none cs _) => (match len.nat? with
      | some n => (Ev.ofOpt (getN cs off (n * size)) "row").bind fun r => .ok (.cells none r)
      | none => .fail "row sym")
    | some (.cells _ (some p) cs _) => bif off.beq 0 && p.2.beq size && !size.beq 0 && (Nat.mod cs.length size).beq 0 && sameSI len (SI.addS (p.1.len size) (.lit (Int.ofNat (cs.length / size)))) then .ok (.cells (some p) cs) else .fail "row pre"
    | some (.bytes s _ _) => bif size.beq 1 then (match len.nat? with
      | some n => (Ev.ofOpt (SS.drop s off) "row drop").bind fun s => (Ev.ofOpt (SS.take s n) "row take").bind fun s => .ok (.bytes s)
      | none => bif off.beq 0 && SI.beq len (SS.len s) then .ok (.bytes s) else .fail "row sym") else .fail "row size"
    | some (.rowv _ r z _ _ _) => bif off.beq 0 && z.beq size && !size.beq 0 && sameSI len (.rlen r) then .ok (.cells (some (.v r, z)) []) else .fail "row row"
    | _ => .fail "row")
  | _ => .fail "row src"
def byteSS (n : SI) : SP := match n with | .lit n => .lit [UInt8.ofNat n.toNat] | n => .chr n
def cellsToSS (F : Facts) : List AV → Option SS
  | [] => some []
  | v :: r => match v with
    | .int k n => bif eqKind k .u8 && fits F .u8 n then (match cellsToSS F r with | some s => some (SS.cons (byteSS n) s) | none => none) else none
    | _ => none
def Src.toSS (F : Facts) : Src → Option SS
  | .bytes s => some s
  | .cells none cs => cellsToSS F cs
  | _ => none
def Src.app : Src → Src → Option Src
  | .cells none [], .cells q d => some (.cells q d)
  | .cells p c, .cells none d => some (.cells p (c ++ d))
  | .cells none c, .cells (some q) d => bif c.all scalarAV && !q.2.beq 0 && (Nat.mod c.length q.2).beq 0 then some (.cells (some (.cs c q.1, q.2)) d) else none
  | _, _ => none
def Src.len (size : Nat) : Src → SI
  | .cells none cs => .lit (Int.ofNat (cs.length / size))
  | .cells (some p) cs => SI.addS (p.1.len size) (.lit (Int.ofNat (cs.length / size)))
  | .bytes s => SS.len s
/-- does it surely fit (true), surely not (false)? -/
def fitA (F : Facts) (h : Heap) (size : Nat) (s : AV) (need : SI) : Option Bool := match s with
  | .nilSlice => some false
  | .slice id off len cap => (match cap with
    | .known c => decCmp F.lins .leq need (.lit (Int.ofNat c))
    | .full => decCmp F.lins .leq need len
    | .rest _ => (match sureCap h id off size cap len, need.nat? with
      | some c, some n => bif Nat.ble n c then some true else none
      | _, _ => none))
  | _ => none
/-- a new row of both -/
def freshRow (F : Facts) (h : Heap) (e size : Nat) (u8 : Bool) (old new : Src) (need : SI) : Ev (AV × Heap) :=
  bif u8 then (match Src.toSS F old, Src.toSS F new with
    | some a, some b => .ok (.slice h.next 0 need (.rest size), h.add (.bytes (SS.app a b) e false))
    | _, _ => .fail "append bytes")
  else (match Src.app old new with
    | some (.cells p cs) => .ok (.slice h.next 0 need (.rest size), h.add (.cells false p cs e))
    | _ => .fail "append cells")
def plainSrc (s : Src) : Bool := match s with | .cells _ cs => cs.all plain | _ => false
/-- both ways: the elder block is forgotten -/
def movedRow (F : Facts) (h : Heap) (e size id off : Nat) (u8 : Bool) (cap : Cap) (old new : Src) (need : SI) (atEnd : Bool) : Ev (AV × Heap) :=
  bif !(Cap.beq cap (.rest size)) || !off.beq 0 then .fail "append cap" else match h.t.get id with
  | some (.bytes _ e' fz) => bif e'.beq e && u8 && (!fz || atEnd) then (match Src.toSS F old, Src.toSS F new with
      | some a, some b => .ok (.slice h.next 0 need (.rest size), (h.drop id).add (.bytes (SS.app a b) e fz))
      | _, _ => .fail "append bytes") else .fail "append frozen"
  | some (.cells false _ bs e') => bif u8 || !e'.beq e || !Nat.ble off bs.length || !plainSrc new then .fail "append u8 cells" else (match Src.app old new with
      | some (.cells p cs) => .ok (.slice h.next 0 need (.rest size), (h.drop id).add (.cells false p cs e))
      | _ => .fail "append cells")
  | _ => .fail "append block"
def inPlace (h : Heap) (size id off : Nat) (n : Nat) (cap : Cap) (new : Src) (need : SI) : Ev (AV × Heap) := match new with
  | .cells none cs => (Ev.ofOpt (h.setN id (off + n * size) cs) "append in place").bind fun h => .ok (.slice id off need cap, h)
  | _ => .fail "append in place"
def capAfter (cap : Cap) (len : SI) : Cap := match cap with | .full => (match len.nat? with | some n => .known n | none => .full) | c => c
def isEnd (h : Heap) (id off : Nat) (len : SI) : Bool := match h.t.get id with
  | some (.bytes s _ _) => SI.beq (SI.addS len (.lit (Int.ofNat off))) (SS.len s)
  | _ => false
def zeroFits (re : TyRow) : Bool := match re.zero with | some z => z.cells.length.beq re.size | none => false
def sizeOk (F : Facts) (need : SI) (bytes : Nat) : Bool := leSI F.lins need (.lit 1000000000) 0 && Nat.ble bytes 10000
def appendGo (F : Facts) (h : Heap) (e : Nat) (re : TyRow) (s : AV) (old new : Src) : Ev (AV × Heap) :=
  let need := SI.addS (Src.len re.size old) (Src.len re.size new)
  bif !sizeOk F need re.bytes || re.size.beq 0 || !zeroFits re then .fail "append size" else
  match fitA F h re.size s need, s with
  | some false, .nilSlice => (test F (SB.cmpS .eql need (.lit 0))).bind fun z => bif z then .ok (.nilSlice, h) else freshRow F h e re.size (isU8 C e) old new need
  | some false, .slice _ _ _ _ => freshRow F h e re.size (isU8 C e) old new need
  | some true, .slice id off len cap => (match len.nat? with
    | some n => inPlace h re.size id off n (capAfter cap len) new need
    | none => .fail "append in place sym")
  | none, .slice id off len cap => movedRow F h e re.size id off (isU8 C e) cap old new need (isEnd h id off len)
  | _, _ => .fail "append"
def notMake (C : Ctx) : List Nat → Bool
  | [_, t] => (match C.ty.get t with | some r => (match r.u with | .int _ => false | _ => true) | none => false)
  | _ => false
def isSl (s : AV) : Bool := match s with | .nilSlice => true | .slice _ _ _ _ => true | .eslice _ _ => true | _ => false
def srcEmpty (s : Src) : Bool := match s with
  | .cells none [] => true
  | .bytes [] => true
  | _ => false
def appendA (F : Facts) (h : Heap) (ts : List Nat) (s x : AV) : Ev (AV × Heap) := bif !notMake C ts then .fail "append types" else match ts with
  | t :: _ => (row C t).bind fun r => match r.u with
    | .slice e => (row C e).bind fun re => (sliceRow h re.size s).bind fun old => (sliceRow h re.size x).bind fun new =>
        bif srcEmpty new && isSl s && !re.size.beq 0 then .ok (s, h) else appendGo C F h e re s old new
    | _ => .fail "append type"
  | [] => .fail "append"
def lenA (t : TypeDesc) (x : AV) : Ev AV := match t, x with
  | .string, .str s => .ok (.int .i64 (SS.len s))
  | .array n _, _ => .ok (.int .i64 (.lit (Int.ofNat n)))
  | .slice _, .slice _ _ n _ => .ok (.int .i64 n)
  | .slice _, .eslice _ _ => .ok (.int .i64 (.lit 0))
  | .slice _, .nilSlice => .ok (.int .i64 (.lit 0))
  | .map _ _, .nilMap => .ok (.int .i64 (.lit 0))
  | _, _ => .fail "len"
def capA (t : TypeDesc) (x : AV) : Ev AV := match t, x with
  | .slice _, .slice _ _ n c => (match c with | .known c => .ok (.int .i64 (.lit (Int.ofNat c))) | .full => .ok (.int .i64 n) | _ => .fail "cap rest")
  | .slice _, .nilSlice => .ok (.int .i64 (.lit 0))
  | _, _ => .fail "cap"
def copyA (h : Heap) (ts : List Nat) (d s : AV) : Ev (AV × Heap) := match ts with
  | t :: _ => (row C t).bind fun r => match r.u, d with
    | .slice e, .slice id off len _ => (row C e).bind fun re => (sliceRow h re.size s).bind fun src => (match src, len.nat? with
        | .cells none cs, some dl => bif re.size.beq 0 then .fail "copy" else
            (Ev.ofOpt (h.setN id off (cs.take (min (cs.length / re.size) dl * re.size))) "copy set").bind fun h => .ok (.int .i64 (.lit (Int.ofNat (min (cs.length / re.size) dl))), h)
        | _, _ => .fail "copy sym")
    | _, _ => .fail "copy"
  | [] => .fail "copy"
def minA (F : Facts) (mx : Bool) : List AV → Ev AV
  | [.int k a, .int _ b] => (test F (bif mx then SB.cmpS .gtr b a else SB.cmpS .lss b a)).bind fun t => .ok (.int k (bif t then b else a))
  | _ => .fail "min"
def convertA (F : Facts) (h : Heap) (s d : Nat) (x : AV) : Ev AV := (row C s).bind fun rs => (row C d).bind fun rd => match rd.u, x with
  | .int k, .int _ n => .ok (.int k (SI.wrapS F k n))
  | .string, .str s => .ok (.str s)
  | .string, .nilSlice => (match rs.u with | .slice e => bif isU8 C e then .ok (.str []) else .fail "runes" | _ => .fail "convert")
  | .string, .slice id off len c => (match rs.u with
    | .slice e => bif isU8 C e then (sliceRow h 1 (.slice id off len c)).bind fun r => (Ev.ofOpt (Src.toSS F r) "to string").bind fun s => .ok (.str s) else .fail "runes"
    | _ => .fail "convert")
  | .unsafePointer, .ptr i o => (match rs.u with | .pointer t => convPtr h t i o | _ => .fail "convert")
  | .unsafePointer, .nilPtr => (match rs.u with | .pointer _ => .ok .nilPtr | _ => .fail "convert")
  | .pointer t, .ptr i o => (match rs.u with | .unsafePointer => convBack h t i o | _ => .fail "convert")
  | .pointer _, .nilPtr => (match rs.u with | .unsafePointer => .ok .nilPtr | _ => .fail "convert")
  | _, _ => .fail "convert"
where
  /-- a pointer to a variable that lies in a block of cells -/
  convPtr (h : Heap) (t i o : Nat) : Ev AV := (row C t).bind fun r => match h.t.get i with
    | some (.cells _ none cs _) => bif Nat.blt o cs.length && !r.size.beq 0 then .ok (.ptr i o) else .fail "convert ptr"
    | _ => .fail "convert ptr"
  /-- back: the block is of one such variable -/
  convBack (h : Heap) (t i o : Nat) : Ev AV := (row C t).bind fun r => match h.t.get i with
    | some (.cells false none cs e) => bif liesIn e o t C.lies && !r.size.beq 0 then (row C e).bind (fun re => bif Nat.ble re.size cs.length && !re.size.beq 0 then .ok (.ptr i o) else .fail "convert back") else .fail "convert back"
    | _ => .fail "convert back"
def typeAssertA (x : AV) (asserted : Nat) (ok : Bool) : Ev AV := (row C asserted).bind fun r => match r.u with
  | .interface _ => .fail "assert iface"
  | _ => (match x with
    | .nilIface => bif ok then (Ev.ofOpt r.zero "zero").bind fun z => .ok (.tup [z, .bool (.lit false)]) else .fail "assert nil"
    | .iface t v => bif t.beq asserted then .ok (bif ok then .tup [v, .bool (.lit true)] else v)
      else bif ok then (Ev.ofOpt r.zero "zero").bind fun z => .ok (.tup [z, .bool (.lit false)]) else .fail "assert other"
    | _ => .fail "assert")
def findByte : List UInt8 → UInt8 → Nat → Option Nat
  | [], _, _ => none
  | b :: r, c, i => bif eqByte b c then some i else findByte r c (Nat.succ i)
def optI (x : Option Nat) : AV := .int .i64 (.lit (match x with | some n => Int.ofNat n | none => -1))
/-- where a byte that is a letter stands in a known text -/
def findSym (F : Facts) (c : SI) : List UInt8 → Nat → Ev AV
  | [], _ => .ok (optI none)
  | b :: r, i => (test F (SB.cmpS .eql c (.lit (Int.ofNat b.toNat)))).bind fun t => bif t then .ok (optI (some i)) else findSym F c r (Nat.succ i)
def countByte (c : UInt8) : List UInt8 → Nat
  | [] => 0
  | b :: r => bif eqByte b c then Nat.succ (countByte c r) else countByte c r
def ownCells (h : Heap) (i : Nat) : Bool := match h.t.get i with | some (.cells false none (_ :: _) _) => true | _ => false
def extA (F : Facts) (h : Heap) (e : Ext) (args : List AV) : Ev AV := match e, args with
  | .noEscape, [x] => .ok x
  | .indexByteString, [.str s, .int .u8 c] => (match SS.toLit s with
    | some bs => (match c with
      | .lit (.ofNat c) => .ok (optI (findByte bs (UInt8.ofNat c) 0))
      | c => bif fits F .u8 c then findSym F c bs 0 else .fail "indexByte sym")
    | none => bif fits F .u8 c then (Ev.ofOpt (SS.flat F s) "indexByte").bind fun l => (idxSym F c l 0).bind fun r => .ok (optI r) else .fail "indexByte sym")
  | .cmpstring, [.str s, .str p] => (Ev.ofOpt (SS.toLit s) "cmp").bind fun s => (Ev.ofOpt (SS.toLit p) "cmp").bind fun p => .ok (.int .i64 (.lit (bif bytesLt s p then -1 else bif eqBytes s p then 0 else 1)))
  | .countString, [.str s, .int .u8 (.lit (.ofNat c))] => (match SS.toLit s with
    | some s => .ok (.int .i64 (.lit (Int.ofNat (countByte (UInt8.ofNat c) s))))
    | none => bif Nat.blt c 256 then (Ev.ofOpt (SS.flat F s) "count").bind fun l => (countSym F (.lit (.ofNat c)) l).bind fun n => .ok (.int .i64 (.lit (Int.ofNat n))) else .fail "count")
  | .overlaps, [.slice _ _ _ _, .nilSlice] => .ok (.bool (.lit false))
  | .overlaps, [.nilSlice, _] => .fail "overlaps nil"
  | .overlaps, [.slice i _ _ _, .slice j _ _ _] => (bif !i.beq j && ownCells h i && ownCells h j then .ok (.bool (.lit false)) else .fail "overlaps two")
  | _, _ => .fail "ext"
end Go.Sx
end
noncomputable section
namespace Go.Sx
variable (C : Ctx)

def opnd (tm : PT AV) : Operand → Option AV
  | .tmp t => tm.get t
  | .const v => AV.ofVal v
  | .global g => bif Nat.blt g 64 then some (.ptr g 0) else none
  | .func f => some (.func (.func f) [] [])
def opnds (tm : PT AV) : List Operand → Option (List AV)
  | [] => some []
  | x :: l => match opnd tm x, opnds tm l with
    | some a, some b => some (a :: b)
    | _, _ => none
def parts (tm : PT AV) : List (Nat × Operand) → Option (List (Nat × AV))
  | [] => some []
  | (i, x) :: l => match opnd tm x, parts tm l with
    | some a, some b => some ((i, a) :: b)
    | _, _ => none
def ov (tm : PT AV) (x : Operand) : Ev AV := Ev.ofOpt (opnd tm x) "operand"
def ovo (tm : PT AV) : Option Operand → Ev (Option AV)
  | none => .ok none
  | some x => (ov tm x).bind fun a => .ok (some a)

def callFn (F : Facts) (h : Heap) (f : Nat) (args : List AV) : Ev ANext := match C.fn.get f with
  | none => .fail "no function"
  | some fn => match fn.body with
    | some _ => .ok (.enter f args)
    | none => match C.ext.get f with
      | some e => (extA F h e args).bind fun r => .ok (.value r h)
      | none => .fail "extern"
def invokeA (F : Facts) (h : Heap) (t : ATarget) (args : List AV) : Ev ANext := match t with
  | .fn (.func f) captured => callFn C F h f (args ++ captured)
  | .fn (.yield l) _ => .ok (.round l args)
  | _ => .fail "invoke"
def resolveA (f : AV) (args : List AV) : Ev ADef := match f with
  | .func fn first captured => .ok { target := .fn fn captured, args := first ++ args }
  | _ => .fail "call: function value"

def nV (h : Heap) (x : Ev AV) : Ev ANext := x.bind fun a => .ok (.value a h)
def nVH (x : Ev (AV × Heap)) : Ev ANext := x.bind fun a => .ok (.value a.1 a.2)
def bLen (h : Heap) (ts : List Nat) : List AV → Ev ANext
  | [x] => (match ts with | t :: _ => (row C t).bind fun r => nV h (lenA r.u x) | [] => .fail "len")
  | _ => .fail "len"
def bCap (h : Heap) (ts : List Nat) : List AV → Ev ANext
  | [x] => (match ts with | t :: _ => (row C t).bind fun r => nV h (capA r.u x) | [] => .fail "cap")
  | _ => .fail "cap"
def bAppend (F : Facts) (h : Heap) (ts : List Nat) : List AV → Ev ANext
  | [s, x] => nVH (appendA C F h ts s x)
  | _ => .fail "append"
def bCopy (h : Heap) (ts : List Nat) : List AV → Ev ANext
  | [d, s] => nVH (copyA C h ts d s)
  | _ => .fail "copy"
def bSliceData (F : Facts) (h : Heap) : List AV → Ev ANext
  | [.nilSlice] => .ok (.value .nilPtr h)
  | [.slice id off _ cap] => (match cap with
    | .known c => bif c.beq 0 then .fail "sliceData cap 0" else .ok (.value (.ptr id off) h)
    | .rest z => (match h.t.get id with
      | some (.bytes s _ _) => bif z.beq 1 && off.beq 0 then (test F (SB.cmpS .leq (.lit 1) (SS.len s))).bind fun t => bif t then .ok (.value (.ptr id off) h) else .fail "sliceData empty" else .fail "sliceData part"
      | _ => .fail "sliceData")
    | .full => .fail "sliceData full")
  | _ => .fail "sliceData"
/-- a string over all that is known of a block of bytes -/
def uStr (F : Facts) (h : Heap) (id ep : Nat) (n : SI) : Ev ANext := match h.t.get id with
  | some (.bytes s e _) => bif SI.beq n (SS.len s) && e.beq ep && leSI F.lins n (.lit 4611686018427387904) 0 then .ok (.value (.str s) (h.put id (.bytes s e true))) else .fail "unsafeString part"
  | _ => .fail "unsafeString"
def bUStr (F : Facts) (h : Heap) : List Nat → List AV → Ev ANext
  | [t, _], [p, .int .i64 n] => (match p with
    | .nilPtr => (match n with | .lit (.ofNat 0) => .ok (.value (.str []) h) | _ => .fail "unsafeString nil")
    | .ptr id off => (row C t).bind fun r => (match r.u with | .pointer e => bif off.beq 0 && isU8 C e then uStr F h id e n else .fail "unsafeString off" | _ => .fail "unsafeString type")
    | _ => .fail "unsafeString")
  | _, _ => .fail "unsafeString"
def builtinA (F : Facts) (h : Heap) (b : Builtin) (ts : List Nat) (args : List AV) : Ev ANext :=
  match b with
  | .len => bLen C h ts args
  | .cap => bCap C h ts args
  | .append => bAppend C F h ts args
  | .copy => bCopy C h ts args
  | .min => nV h (minA F false args)
  | .max => nV h (minA F true args)
  | .recover => .ok .recover
  | .unsafeSliceData => bSliceData F h args
  | .unsafeString => bUStr C F h ts args
  | _ => .fail "builtin"

def oMove (h : Heap) (tm : PT AV) (x : Operand) : Ev ANext := nV h (ov tm x)
def oPick (F : Facts) (h : Heap) (tm : PT AV) (c a b : Operand) : Ev ANext := (ov tm c).bind fun c => match c with
  | .bool c => (test F c).bind fun t => bif t then oMove h tm a else oMove h tm b
  | _ => .fail "pick"
def oAlloc (h : Heap) (t : Nat) : Ev ANext := (zeroAV C t).bind fun z => nVH (.ok (newVar h t z))
def oBox (h : Heap) (tm : PT AV) (t : Nat) (x : Operand) : Ev ANext := (ov tm x).bind fun x => nVH (.ok (newVar h t x))
def oBuild (h : Heap) (tm : PT AV) (t : Nat) (ps : List (Nat × Operand)) : Ev ANext := (Ev.ofOpt (parts tm ps) "parts").bind fun ps => nV h (buildA C t ps)
def oBuildSlice (h : Heap) (tm : PT AV) (t n : Nat) (ps : List (Nat × Operand)) : Ev ANext := (Ev.ofOpt (parts tm ps) "parts").bind fun ps => nVH (buildSliceA C h t n ps)
def oLoad (F : Facts) (h : Heap) (tm : PT AV) (t : Nat) (a : Operand) : Ev ANext := (ov tm a).bind fun a => nV h (loadAt C F h t a)
def oStore (h : Heap) (tm : PT AV) (t : Nat) (a x : Operand) : Ev ANext := (ov tm a).bind fun a => (ov tm x).bind fun x => (storeAt C h t a x).bind fun h => .ok (.value .undef h)
def nilCheckA (h : Heap) (x : AV) : Ev ANext := match x with
  | .ptr i o => .ok (.value (.ptr i o) h)
  | .iptr i z x o => .ok (.value (.iptr i z x o) h)
  | .func fn a b => (match fn with | .func f => .ok (.value (.func (.func f) a b) h) | _ => .fail "nilCheck method")
  | _ => .fail "nilCheck"
def oNilCheck (h : Heap) (tm : PT AV) (x : Operand) : Ev ANext := (ov tm x).bind fun x => nilCheckA h x
def oBinOp (F : Facts) (h : Heap) (tm : PT AV) (op : BinOp) (t : Nat) (x y : Operand) : Ev ANext := (ov tm x).bind fun a => (ov tm y).bind fun b => nV h (binOpA C F op t x y a b)
def oUnOp (F : Facts) (h : Heap) (tm : PT AV) (op : UnOp) (x : Operand) : Ev ANext := (ov tm x).bind fun x => nV h (unOpA F op x)
def oConvert (F : Facts) (h : Heap) (tm : PT AV) (s d : Nat) (x : Operand) : Ev ANext := (ov tm x).bind fun x => nV h (convertA C F h s d x)
def oMakeI (h : Heap) (tm : PT AV) (t : Nat) (x : Operand) : Ev ANext := (ov tm x).bind fun x => (row C t).bind fun r => match r.u with | .interface _ => .fail "makeInterface" | _ => .ok (.value (.iface t x) h)
def isYield (f : Fn) : Bool := match f with | .yield _ => true | _ => false
def oMakeF (h : Heap) (tm : PT AV) (fn : Fn) (a b : List Operand) : Ev ANext := bif isYield fn then .fail "mf yield" else (Ev.ofOpt (opnds tm a) "mf").bind fun a => (Ev.ofOpt (opnds tm b) "mf").bind fun b => .ok (.value (.func fn a b) h)
def oMakeS (h : Heap) (tm : PT AV) (t : Nat) (l c : Operand) : Ev ANext := (ov tm l).bind fun l => (ov tm c).bind fun c => nVH (makeSliceA C h t l c)
def oSlice (F : Facts) (h : Heap) (tm : PT AV) (t : Nat) (x : Operand) (lo hi mx : Option Operand) : Ev ANext := (ov tm x).bind fun x => (ovo tm lo).bind fun lo => (ovo tm hi).bind fun hi => (ovo tm mx).bind fun mx => nV h (sliceOf C F h t x lo hi mx)
def oFieldAddr (h : Heap) (tm : PT AV) (s : Nat) (x : Operand) (f : Nat) : Ev ANext := (ov tm x).bind fun x => nV h (fieldAt C s x f)
def oField (h : Heap) (tm : PT AV) (s : Nat) (x : Operand) (f : Nat) : Ev ANext := (ov tm x).bind fun x => nV h (fieldOf C s x f)
def oIndexAddr (F : Facts) (h : Heap) (tm : PT AV) (t : Nat) (x i : Operand) : Ev ANext := (ov tm x).bind fun x => (ov tm i).bind fun i => nV h (indexAddr C F t x i)
def oIndex (F : Facts) (h : Heap) (tm : PT AV) (t : Nat) (x i : Operand) : Ev ANext := (ov tm x).bind fun x => (ov tm i).bind fun i => nV h (indexOf C F t x i)
def oAssert (h : Heap) (tm : PT AV) (x : Operand) (a : Nat) (ok : Bool) : Ev ANext := (ov tm x).bind fun x => nV h (typeAssertA C x a ok)
def extractA (h : Heap) (i : Nat) (x : AV) : Ev ANext := match x with
  | .tup vs => (match vs[i]? with | some a => .ok (.value a h) | none => .fail "extract")
  | _ => .fail "extract"
def oExtract (h : Heap) (tm : PT AV) (x : Operand) (i : Nat) : Ev ANext := (ov tm x).bind fun x => extractA h i x
def oCallV (F : Facts) (h : Heap) (tm : PT AV) (f : Operand) (args : List AV) : Ev ANext := (ov tm f).bind fun f => (resolveA f args).bind fun d => invokeA C F h d.target d.args
def oCall (F : Facts) (h : Heap) (tm : PT AV) (c : Call) : Ev ANext := (Ev.ofOpt (opnds tm c.args.toList) "args").bind fun args => match c.callee with
  | .builtin b => builtinA C F h b c.argTypes.toList args
  | .value f => oCallV C F h tm f args
  | _ => .fail "invoke method"
def oDefer (tm : PT AV) (c : Call) : Ev ANext := (Ev.ofOpt (opnds tm c.args.toList) "args").bind fun args => match c.callee with
  | .value f => (ov tm f).bind fun f => (resolveA f args).bind fun d => .ok (.defer d)
  | _ => .fail "defer"
def panicA (h : Heap) (x : AV) : Ev ANext := match x with
  | .iface t v => .panic (.iface t v) h
  | _ => .fail "panic nil"
def oPanic (h : Heap) (tm : PT AV) (x : Operand) : Ev ANext := (ov tm x).bind fun x => panicA h x
def opB (F : Facts) (h : Heap) (tm : PT AV) (o : Op) : Ev ANext :=
  match o with
  | .move x => oMove h tm x
  | .assign x => oMove h tm x
  | .pick c a b => oPick F h tm c a b
  | .alloc t => oAlloc C h t
  | .box t x => oBox h tm t x
  | .build t ps => oBuild C h tm t ps.toList
  | .buildSlice t n ps => oBuildSlice C h tm t n ps.toList
  | .load t a => oLoad C F h tm t a
  | .store t a x => oStore C h tm t a x
  | .nilCheck x => oNilCheck h tm x
  | .binOp op t x y _ => oBinOp C F h tm op t x y
  | .unOp op _ x => oUnOp F h tm op x
  | .convert s d x => oConvert C F h tm s d x
  | .makeInterface t x => oMakeI C h tm t x
  | .makeFunc fn a b => oMakeF h tm fn a.toList b.toList
  | .makeSlice t l c => oMakeS C h tm t l c
  | .slice t x lo hi mx => oSlice C F h tm t x lo hi mx
  | .fieldAddr s x f => oFieldAddr C h tm s x f
  | .field s x f => oField C h tm s x f
  | .indexAddr t x i => oIndexAddr C F h tm t x i
  | .index t x i => oIndex C F h tm t x i
  | .typeAssert x _ a ok => oAssert C h tm x a ok
  | .extract x i => oExtract h tm x i
  | .call c => oCall C F h tm c
  | .defer c => oDefer tm c
  | _ => .fail "op"
def still (x : Ev ANext) : Ev ANext := match x with | .panic _ _ => .fail "panic" | x => x
def opA (F : Facts) (h : Heap) (tm : PT AV) (o : Op) : Ev ANext :=
  match o with
  | .panic x => oPanic h tm x
  | o => still (opB C F h tm o)

/-! frames -/
/-! records are rebuilt by matching: a projection of a projection would grow with each step -/
def AFr.goto (fr : AFr) (todo : List AItem) : AFr := match fr with
  | ⟨fn, n, tm, _, ds, md, df, rd⟩ => ⟨fn, n, tm, todo, ds, md, df, rd⟩
def AFr.put (fr : AFr) (dst : Option Nat) (v : AV) (todo : List AItem) : AFr := match fr with
  | ⟨fn, n, tm, _, ds, md, df, rd⟩ => match dst with
    | some d => bif Nat.blt d n then ⟨fn, n, tm.set d v, todo, ds, md, df, rd⟩ else ⟨fn, n, tm, todo, ds, md, df, rd⟩
    | none => ⟨fn, n, tm, todo, ds, md, df, rd⟩
def AFr.setTm (fr : AFr) (tm : PT AV) (todo : List AItem) : AFr := match fr with
  | ⟨fn, n, _, _, ds, md, df, rd⟩ => ⟨fn, n, tm, todo, ds, md, df, rd⟩
def AFr.setMode (fr : AFr) (md : AMode) : AFr := match fr with
  | ⟨fn, n, tm, td, ds, _, df, rd⟩ => ⟨fn, n, tm, td, ds, md, df, rd⟩
def AFr.setDefers (fr : AFr) (ds : List ADef) : AFr := match fr with
  | ⟨fn, n, tm, td, _, md, df, rd⟩ => ⟨fn, n, tm, td, ds, md, df, rd⟩
def AFr.push (fr : AFr) (d : ADef) : AFr := match fr with
  | ⟨fn, n, tm, td, ds, md, df, rd⟩ => ⟨fn, n, tm, td, d :: ds, md, df, rd⟩
def AM.setFr (m : AM) (fr : AFr) : AM := match m with
  | ⟨_, cs, h, F⟩ => ⟨fr, cs, h, F⟩
def AM.setFrH (m : AM) (fr : AFr) (h : Heap) : AM := match m with
  | ⟨_, cs, _, F⟩ => ⟨fr, cs, h, F⟩
def AM.setFrCs (m : AM) (fr : AFr) (cs : List AFr) : AM := match m with
  | ⟨_, _, h, F⟩ => ⟨fr, cs, h, F⟩
def AM.pushFr (m : AM) (g fr : AFr) (h : Heap) : AM := match m with
  | ⟨_, cs, _, F⟩ => ⟨g, fr :: cs, h, F⟩
def AM.setH (m : AM) (h : Heap) : AM := match m with
  | ⟨fr, cs, _, F⟩ => ⟨fr, cs, h, F⟩
def AM.addFact (m : AM) (c : SB) (b : Bool) : AM := match m with
  | ⟨fr, cs, h, F⟩ => ⟨fr, cs, h, (c, b) :: F⟩
def argTmps : List AV → Nat → PT AV → PT AV
  | [], _, t => t
  | a :: l, i, t => argTmps l (Nat.succ i) (t.set i a)
def enterFr (f : Nat) (args : List AV) (deferred : Bool) : Option AFr := match C.fn.get f with
  | some fn => match fn.body with
    | some b => bif Nat.ble args.length fn.ntmps then some ⟨f, fn.ntmps, argTmps args 0 .nil, [.code b], [], .run, deferred, none⟩ else none
    | none => none
  | none => none
def exitTo (id : Nat) : List AItem → Option (List AItem)
  | .inBlock j :: k => bif j.beq id then some k else exitTo id k
  | _ :: k => exitTo id k
  | [] => none
def gotoIn (l : Nat) : List AItem → Option (List AItem)
  | .inScope body :: k => match findLabel body l with
    | some rest => some (.code rest :: .inScope body :: k)
    | none => gotoIn l k
  | _ :: k => gotoIn l k
  | [] => none

inductive Out where
  | next (m : AM)
  | fork (c : SB) (m : AM)
  | done (v : AV) (m : AM)
  | dead (chain : List APanic) (m : AM)
  | fail (why : String) (m : AM)

def wipe : List Oper → PT AV → PT AV
  | [], t => t
  | o :: r, t => match o.dst with
    | some d => wipe r (t.del d)
    | none => wipe r t
/-- what a region whose order is drawn has laid is forgotten -/
def calm (todo : List AItem) (tm : PT AV) : PT AV := match todo with
  | .draw ops _ _ :: _ => wipe ops.toList tm
  | _ => tm
def raise (fr : AFr) (vs : List APanic) : AFr := match fr with
  | ⟨fn, n, tm, td, ds, md, df, rd⟩ => match md with
    | .panicking chain => ⟨fn, n, calm td tm, td, ds, .panicking (vs ++ chain), df, rd⟩
    | _ => ⟨fn, n, calm td tm, td, ds, .panicking vs, df, rd⟩

def yieldedA (ops : Array Oper) (tm : PT AV) (j : Nat) : Ev (Option SB) := match (ops.toList[j]?).bind (·.dst) with
  | some d => match tm.get d with
    | some (.bool b) => .ok (some b)
    | some _ => .ok none
    | none => .fail "yielded"
  | none => .ok none
def wantedA (F : Facts) (ops : Array Oper) (tm : PT AV) (o : Oper) : Ev Bool := match o.guard with
  | none => .ok true
  | some (j, want) => (yieldedA ops tm j).bind fun y => match y with
    | some b => (test F b).bind fun b => .ok (eqBool b want)
    | none => .ok false

/-! a region whose order is drawn -/
/-- all that stands ahead of an operation, as bits -/
def preds (ops : Array Oper) : List Nat := (Region.before ops).toList
def isE (o : Oper) : Bool := match o.op with
  | .move _ | .pick .. | .build .. | .load .. | .nilCheck _ | .binOp .. | .unOp .. | .makeInterface .. | .makeFunc .. | .slice .. | .fieldAddr .. | .field .. | .indexAddr .. | .index .. | .typeAssert .. | .extract .. => false
  | .convert .. => false
  | .call c => (match c.callee with | .builtin b => (match b with | .len | .cap | .min | .max | .unsafeSliceData => false | _ => true) | _ => true)
  | _ => true
def hasAll (mask p : Nat) : Bool := (Nat.land mask p).beq p
def bitAt (mask i : Nat) : Bool := Nat.testBit mask i
def withBit (mask i : Nat) : Nat := Nat.lor mask (Nat.pow 2 i)
def usesTmp (t : Nat) : List Operand → Bool
  | [] => false
  | .tmp u :: l => bif u.beq t then true else usesTmp t l
  | _ :: l => usesTmp t l
def dstIs (o : Oper) (t : Nat) : Bool := match o.dst with | some d => d.beq t | none => false
/-- of two operations i < j: no slot is written by both; what the one writes the other reads behind it, or the writer acts and stands behind the reader -/
def pairOK (oi : Oper) (i : Nat) (oj : Oper) (pj : Nat) : Bool :=
  (match oi.dst with | some d => !dstIs oj d && (!usesTmp d oj.op.operands.toList || bitAt pj i) | none => true) &&
  (match oj.dst with | some d => !usesTmp d oi.op.operands.toList || (isE oj && bitAt pj i) | none => true)
def guardOK (o : Oper) (p : Nat) : Bool := match o.guard with | none => true | some (j, _) => bitAt p j
def selfOK (o : Oper) : Bool := match o.dst with | some d => !usesTmp d o.op.operands.toList | none => true
def edgesOK (i : Nat) : List Edge → Bool
  | [] => true
  | e :: l => (!Region.binds .any e || Nat.blt e.on i) && edgesOK i l
def rowOK (ops : List Oper) (ps : List Nat) (oj : Oper) (pj : Nat) : List Oper → Nat → Bool
  | [], _ => true
  | oi :: r, i => pairOK oi i oj pj && rowOK ops ps oj pj r (Nat.succ i)
def drawFrom (ops : List Oper) (ps : List Nat) : List Oper → Nat → Bool
  | [], _ => true
  | o :: r, j => guardOK o (ps.getD j 0) && selfOK o && edgesOK j o.after.toList && rowOK ops ps o (ps.getD j 0) (ops.take j) 0 && drawFrom ops ps r (Nat.succ j)
def drawOK (ops : Array Oper) : Bool := drawFrom ops.toList (preds ops) ops.toList 0
/-- one operation that only computes or reads: its value -/
def quietA (F : Facts) (h : Heap) (tm : PT AV) (ops : Array Oper) (o : Oper) : Ev AV := (wantedA F ops tm o).bind fun w =>
  bif w then (opA C F h tm o.op).bind fun r => (match r with
    | .value v _ => .ok v
    | _ => .fail "quiet") else .ok .undef
def setDst (n : Nat) (tm : PT AV) (d : Option Nat) (v : AV) : PT AV := match d with | some d => bif Nat.blt d n then tm.set d v else tm | none => tm
structure Sat where
  tm : PT AV
  mask : Nat
  pend : List Nat
def dstLt (n : Nat) (d : Option Nat) : Bool := match d with | some d => Nat.blt d n | none => true
def satOne (F : Facts) (h : Heap) (ops : Array Oper) (n i : Nat) (o : Oper) (s : Sat) : Ev Sat := (quietA C F h s.tm ops o).bind fun v =>
  bif dstLt n o.dst then .ok ⟨setDst n s.tm o.dst v, withBit s.mask i, i :: s.pend⟩ else .fail "slot"
def saturate (F : Facts) (h : Heap) (ops : Array Oper) (ps : List Nat) (n : Nat) : List Oper → Nat → Sat → Ev Sat
  | [], _, s => .ok s
  | o :: rest, i, s =>
    bif isE o || bitAt s.mask i || !hasAll s.mask (ps.getD i 0) then saturate F h ops ps n rest (Nat.succ i) s
    else (satOne C F h ops n i o s).bind fun s => saturate F h ops ps n rest (Nat.succ i) s
def recheckOne (tm : PT AV) (o : Oper) (v : AV) : Bool := match o.dst with
  | some d => (match tm.get d with | some w => AV.beq v w | none => false)
  | none => true
def recheck (F : Facts) (h : Heap) (ops : Array Oper) (tm : PT AV) : List Nat → Ev Unit
  | [] => .ok ()
  | i :: r => match ops.toList[i]? with
    | some o => (quietA C F h tm ops o).bind fun v => bif recheckOne tm o v then recheck F h ops tm r else .fail "recheck"
    | none => .fail "recheck"
def allBehind (ps : List Nat) (mask i : Nat) : List Oper → Nat → Bool
  | [], _ => true
  | o :: rest, j => (!isE o || bitAt mask j || bitAt (ps.getD j 0) i) && allBehind ps mask i rest (Nat.succ j)
/-- the next operation that acts: it must be ready, and stand ahead of all others that act -/
def nextE (ps : List Nat) (mask : Nat) : List Oper → Nat → Option (Option (Nat × Oper))
  | [], _ => some none
  | o :: rest, i => bif !isE o || bitAt mask i then nextE ps mask rest (Nat.succ i)
    else bif hasAll mask (ps.getD i 0) && allBehind ps mask i rest (Nat.succ i) then some (some (i, o)) else none
def unsealed (ps : List Nat) (i : Nat) (pend : List Nat) : List Nat := pend.filter fun j => !bitAt (ps.getD i 0) j

/-- the value of a call or an operation is laid where it was asked for -/
def finDraw (fr : AFr) (k : List AItem) (ops : Array Oper) (ps : List Nat) (mask : Nat) (pend : List Nat) (i : Nat) (o : Oper) (v : AV) : AFr :=
  fr.put o.dst v (.draw ops (withBit mask i) (unsealed ps i pend) :: k)
def finish (fr : AFr) (v : AV) : Option AFr := match fr.todo with
  | it :: k => (match it with
    | .reg ops i rest => (match rest with | o :: rest => some (fr.put o.dst v (.reg ops (Nat.succ i) rest :: k)) | [] => none)
    | .draw ops mask pend => (match nextE (preds ops) mask ops.toList 0 with
      | some (some (i, o)) => some (finDraw fr k ops (preds ops) mask pend i o v)
      | _ => none)
    | .inRangeFunc l => some (fr.goto (.endRangeFunc l :: k))
    | _ => none)
  | [] => none

def doRecover (m : AM) (fr : AFr) (fin : AV → AFr) : Out := match fr.deferred, fr.round, m.cs with
  | true, none, c :: cs => (match c.mode with
    | .panicking (p :: older) => bif p.recovered then .next (m.setFr (fin .nilIface)) else .next (m.setFrCs (fin p.v) (c.setMode (.panicking (⟨p.v, true⟩ :: older)) :: cs))
    | _ => .next (m.setFr (fin .nilIface)))
  | _, _, _ => .fail "recover" m
def paramTmps : List Nat → List AV → Nat → PT AV → PT AV
  | t :: ts, a :: as, n, tm => paramTmps ts as n (bif Nat.blt t n then tm.set t a else tm)
  | _, _, _, tm => tm
def doRound (m : AM) (fr : AFr) (l : Nat) (args : List AV) : Out := match m.h.t.get l with
  | some (.loop _ _ f n tmps params assign body _) => bif args.length.beq params.length then
      .next (m.pushFr ⟨f, n, paramTmps params args n tmps, [.code assign, .beginRound, .code body], [], .run, false, some l⟩ fr m.h)
    else .fail "round args" m
  | _ => .fail "round" m
def doEnter (m : AM) (fr : AFr) (f : Nat) (args : List AV) (h : Heap) : Out := match enterFr C f args false with
  | some g => .next (m.pushFr g fr h)
  | none => .fail "enter" m
def eqON (a b : Option (RX × Nat)) : Bool := match a, b with
  | none, none => true
  | some (a, b), some (c, d) => RX.beq a c && b.beq d
  | _, _ => false
def ABlk.beq (a b : ABlk) : Bool := match a, b with
  | .cells r p cs e, .cells r' p' cs' e' => eqBool r r' && eqON p p' && e.beq e' && AV.beqs cs cs'
  | .bytes s e z, .bytes s' e' z' => e.beq e' && eqBool z z' && SS.beq s s'
  | _, _ => false
def ABlk.own (b : ABlk) : Bool := match b with
  | .cells ro _ _ _ => !ro
  | .rowv ro _ _ _ _ _ => !ro
  | _ => true
def subB (t : PT ABlk) : List (Nat × ABlk) → Bool
  | [] => true
  | (i, b) :: l => match t.get i with | some c => bif ABlk.beq b c then subB t l else false | none => false
/-- a block that says no more than the other one -/
def ABlk.cov (b c : ABlk) : Bool := bif ABlk.beq b c then true else match b, c with
  | .cells ro (some (.v r, z)) [] e, .rowv ro' r' z' _ _ e' => (ro || !ro') && (!ro || ro') && r.beq r' && z.beq z' && e.beq e'
  | .cells true p cs e, .cells false p' cs' e' => eqON p p' && AV.beqs cs cs' && e.beq e'
  | _, _ => false
def subC (t : PT ABlk) : List (Nat × ABlk) → Bool
  | [] => true
  | (i, b) :: l => match t.get i with | some c => bif ABlk.cov b c then subC t l else false | none => false
def delB : List (Nat × ABlk) → PT ABlk → PT ABlk
  | [], t => t
  | (i, b) :: l, t => bif b.own then delB l (t.del i) else delB l t
def putB : List (Nat × ABlk) → PT ABlk → PT ABlk
  | [], t => t
  | (i, b) :: l, t => bif b.own then putB l (t.set i b) else putB l t
def hasFact (c : SB) (b : Bool) : Facts → Bool
  | [] => false
  | (d, e) :: l => bif eqBool b e && SB.beq c d then true else hasFact c b l
def hasFacts (F : Facts) : Facts → Bool
  | [] => true
  | (c, b) :: l => bif hasFact c b F then hasFacts F l else false
def orcFits (F : Facts) (o : Orc) (f : Nat) (args : List AV) (h : Heap) : Bool := o.f.beq f && o.next.beq h.next && AV.beqs o.args args && hasFacts F o.facts && subC h.t o.pre
def findOrc (F : Facts) (f : Nat) (args : List AV) (h : Heap) : List Orc → Option Orc
  | [] => none
  | o :: l => bif orcFits F o f args h then some o else findOrc F f args h l
def porFits (F : Facts) (o : POrc) (f : Nat) (args : List AV) (h : Heap) : Bool := o.f.beq f && AV.beqs o.args args && hasFacts F o.facts && subC h.t o.pre
def findPor (F : Facts) (f : Nat) (args : List AV) (h : Heap) : List POrc → Option POrc
  | [] => none
  | o :: l => bif porFits F o f args h then some o else findPor F f args h l
def hpCall (F : Facts) (f : Nat) (args : List AV) : Option Bool := match C.hp with
  | none => none
  | some g => bif g.beq f then (match args with
    | [.str s, .str p] => (match SS.toLit p with
      | some bs => prefB F bs s
      | none => none)
    | _ => none) else none
def doCall (m : AM) (fr : AFr) (fin : AV → AFr) (f : Nat) (args : List AV) : Out := match findOrc m.facts f args m.h C.orc with
  | some o => .next (m.setFrH (fin o.v) ⟨putB o.post (delB o.pre m.h.t), o.next'⟩)
  | none => match findPor m.facts f args m.h C.por with
    | some o => .next (m.setFr (fin o.v))
    | none => match hpCall C m.facts f args with
      | some b => .next (m.setFr (fin (.bool (.lit b))))
      | none => doEnter C m fr f args m.h
def doDefer (m : AM) (d : ADef) (g : AFr) : Out := match g.round with
  | none => .next (m.setFr (g.push d))
  | some _ => .fail "defer in a round" m
def doNext (m : AM) (fr : AFr) (fin : AV → AFr) (r : ANext) : Out := match r with
  | .value v h => .next (m.setFrH (fin v) h)
  | .enter f args => doCall C m fr fin f args
  | .defer d => doDefer m d (fin .undef)
  | .recover => doRecover m fr fin
  | .round l args => doRound m fr l args
def doOp (m : AM) (fr : AFr) (fin : AV → AFr) (r : Ev ANext) : Out := match r with
  | .ok r => doNext C m fr fin r
  | .fork c => .fork c m
  | .panic v h => .next (m.setFrH (raise fr [⟨v, false⟩]) h)
  | .fail w => .fail w m
def stepOp (m : AM) (fr : AFr) (ops : Array Oper) (o : Oper) (fin : AV → AFr) : Out :=
  match wantedA m.facts ops fr.tmps o with
  | .ok w => bif w then doOp C m fr fin (opA C m.facts m.h fr.tmps o.op) else .next (m.setFr (fin .undef))
  | .fork c => .fork c m
  | .panic _ _ => .fail "guard" m
  | .fail w => .fail w m

def readResults (F : Facts) (h : Heap) (tm : PT AV) : List ResultVar → Ev (List AV)
  | [] => .ok []
  | .tmp t :: r => (readResults F h tm r).bind fun l => (Ev.ofOpt (tm.get t) "result").bind fun v => .ok (v :: l)
  | .cell a t :: r => (match tm.get a with
    | some p => (loadAt C F h t p).bind fun v => (readResults F h tm r).bind fun l => .ok (v :: l)
    | none => .fail "result")
def oneOr (l : List AV) : AV := match l with | [v] => v | l => .tup l

def settleA (c : AFr) : AFr := match c with
  | ⟨fn, n, tm, td, ds, md, df, rd⟩ => match md with
    | .panicking (p :: ps) => bif p.recovered then ⟨fn, n, tm, td, ds, .returning, df, rd⟩ else ⟨fn, n, tm, td, ds, .panicking (p :: ps), df, rd⟩
    | md => ⟨fn, n, tm, td, ds, md, df, rd⟩
def doReturn (m : AM) (fr : AFr) (v : AV) : Out := match m.cs with
  | c :: cs => bif fr.deferred then
      .next (m.setFrCs (settleA c) cs)
    else match c.mode, finish c v with
      | .run, some c => .next (m.setFrCs c cs)
      | _, _ => .fail "finish" m
  | [] => bif fr.deferred then .fail "deferred" m else .done v m

def noCs (l : List AFr) : Bool := match l with | [] => true | _ => false
def endRoundA (m : AM) (fr : AFr) (l : Nat) (jump : Option Code) : Out := match m.h.t.get l with
  | some (.loop _ _ f n tmps params assign body d) => bif noCs m.cs then .fail "round at the bottom" m else
    doReturn (m.setH (m.h.put l (.loop (bif jump.isNone then .ready else .done) jump f n tmps params assign body d))) fr (.bool (.lit jump.isNone))
  | _ => .fail "endRound" m

def leave (m : AM) (fr : AFr) (jump : Option Code) : Out := match fr.round with
  | none => (match jump with
    | none | some .ret => .next (m.setFr (fr.setMode .returning))
    | _ => .fail "leave" m)
  | some l => endRoundA m fr l jump

def toTodo (m : AM) (fr : AFr) (todo : List AItem) : Out := .next (m.setFr (fr.goto todo))
def condA (m : AM) (fr : AFr) (k : List AItem) (a e : Code) (c : Option AV) : Out := match c with
  | some (.bool s) => (match test m.facts s with
    | .ok t => toTodo m fr (.code (bif t then a else e) :: k)
    | .fork c => .fork c m
    | _ => .fail "cond" m)
  | _ => .fail "cond" m
def rangeFuncB (m : AM) (fr : AFr) (k : List AItem) (params : List Nat) (assign body : Code) (fv : AV) : Out :=
    match (resolveA fv [.func (.yield (Nat.succ m.h.next)) [] []]).bind fun d => invokeA C m.facts m.h d.target d.args with
     | .ok (.enter f args) => doEnter C m ((fr.goto (.inRangeFunc (Nat.succ m.h.next) :: k)).push ⟨.collected m.h.next, []⟩) f args ((m.h.add (.defd false)).add (.loop .ready none fr.fn fr.n fr.tmps params assign body m.h.next))
     | _ => .fail "rangeFunc" m
def rangeFuncA (m : AM) (fr : AFr) (k : List AItem) (f : Operand) (params : List Nat) (assign body : Code) : Out := match opnd fr.tmps f, fr.round with
  | some fv, none => rangeFuncB C m fr k params assign body fv
  | _, _ => .fail "rangeFunc" m
def exitA (m : AM) (fr : AFr) (k : List AItem) (id : Nat) : Out := match exitTo id k with | some k => toTodo m fr k | none => leave m fr (some (.exit id))
def gotoA (m : AM) (fr : AFr) (k : List AItem) (id : Nat) : Out := match gotoIn id k with | some k => toTodo m fr k | none => leave m fr (some (.goto id))
def regionA (m : AM) (fr : AFr) (k : List AItem) (ops : Array Oper) (d : Bool) : Out := bif d then (bif drawOK ops then toTodo m fr (.draw ops 0 [] :: k) else .fail "draw form" m) else toTodo m fr (.reg ops 0 ops.toList :: k)
def codeA (m : AM) (fr : AFr) (k : List AItem) (c : Code) : Out := match c with
  | .ret => leave m fr (some .ret)
  | .skip => toTodo m fr k
  | .label _ => toTodo m fr k
  | .seq a b => toTodo m fr (.code a :: .code b :: k)
  | .cond c a e => condA m fr k a e (opnd fr.tmps c)
  | .block id a => toTodo m fr (.code a :: .inBlock id :: k)
  | .loop a => toTodo m fr (.code a :: .inLoop a :: k)
  | .scope a => toTodo m fr (.code a :: .inScope a :: k)
  | .exit id => exitA m fr k id
  | .goto l => gotoA m fr k l
  | .region _ ops d => regionA m fr k ops d
  | .rangeFunc f params assign body => rangeFuncA C m fr k f params.toList assign body
  | .refuse w => .fail ("refuse " ++ w) m
def drawGo (m : AM) (fr : AFr) (k : List AItem) (ops : Array Oper) (ps : List Nat) (s : Sat) : Out :=
  match nextE ps s.mask ops.toList 0 with
  | some none => bif (Nat.succ s.mask).beq (Nat.pow 2 ops.size) then .next (m.setFr (fr.setTm s.tm k)) else .fail "draw end" m
  | some (some (i, o)) => stepOp C m (fr.setTm s.tm (.draw ops s.mask s.pend :: k)) ops o (fun v => finDraw (fr.setTm s.tm []) k ops ps s.mask s.pend i o v)
  | none => .fail "draw order" m
def drawA (m : AM) (fr : AFr) (k : List AItem) (ops : Array Oper) (mask : Nat) (pend : List Nat) (ps : List Nat) : Out :=
  match (recheck C m.facts m.h ops fr.tmps pend).bind fun _ => saturate C m.facts m.h ops ps fr.n ops.toList 0 ⟨fr.tmps, mask, pend⟩ with
  | .ok s => drawGo C m fr k ops ps s
  | .fork c => .fork c m
  | .fail w => .fail ("draw " ++ w) m
  | .panic _ _ => .fail "draw panic" m
def beginRoundA (m : AM) (fr : AFr) (k : List AItem) : Out := match fr.round with
  | some l => (match m.h.t.get l with
    | some (.loop .ready p f n tmps params assign body d) => .next (m.setFrH (fr.goto k) (m.h.put l (.loop .busy p f n tmps params assign body d)))
    | _ => .fail "beginRound" m)
  | none => .fail "beginRound" m
def endRangeFuncA (m : AM) (fr : AFr) (k : List AItem) (l : Nat) : Out := match m.h.t.get l with
  | some (.loop st p f n tmps params assign body d) => (match st with
    | .busy => .fail "endRangeFunc busy" m
    | _ => .next (m.setFrH (fr.goto ((p.map AItem.code).toList ++ k)) (m.h.put l (.loop .exhausted p f n tmps params assign body d))))
  | _ => .fail "endRangeFunc" m
def regA (m : AM) (fr : AFr) (k : List AItem) (ops : Array Oper) (i : Nat) (rest : List Oper) : Out := match rest with
  | [] => toTodo m fr k
  | o :: rest => stepOp C m fr ops o (fun v => fr.put o.dst v (.reg ops (Nat.succ i) rest :: k))
def itemA (m : AM) (fr : AFr) (k : List AItem) (it : AItem) : Out := match it with
  | .code c => codeA C m fr k c
  | .inBlock _ => toTodo m fr k
  | .inScope _ => toTodo m fr k
  | .inLoop a => toTodo m fr (.code a :: .inLoop a :: k)
  | .reg ops i rest => regA C m fr k ops i rest
  | .draw ops done pend => drawA C m fr k ops done pend (preds ops)
  | .inRangeFunc _ => .fail "inRangeFunc" m
  | .beginRound => beginRoundA m fr k
  | .endRangeFunc l => endRangeFuncA m fr k l
def stepRun (m : AM) (fr : AFr) : Out := match fr.todo with
  | [] => leave m fr none
  | it :: k => itemA C m fr k it

def unwindA (m : AM) (fr : AFr) (mode : AMode) : List ADef → Out
  | d :: ds => (match d.target with
    | .collected b => (match m.h.t.get b with
      | some (.defd false) => .next (m.setFrH (fr.setDefers ds) (m.h.put b (.defd true)))
      | _ => .fail "collected" m)
    | t => (match invokeA C m.facts m.h t d.args with
      | .ok (.enter f args) => (match enterFr C f args true with
        | some g => .next (m.pushFr g (fr.setDefers ds) m.h)
        | none => .fail "defer enter" m)
      | _ => .fail "defer" m))
  | [] => (match mode with
    | .returning => (match C.fn.get fr.fn with
      | some fn => (match readResults C m.facts m.h fr.tmps fn.results.toList with
        | .ok l => doReturn m fr (oneOr l)
        | _ => .fail "results" m)
      | none => .fail "return" m)
    | .panicking chain => (match m.cs, C.fn.get fr.fn with
      | c :: cs, some _ => .next (m.setFrCs (raise c chain) cs)
      | [], _ => .dead chain m
      | _, _ => .fail "no function" m)
    | .run => .fail "run" m)
def stepFr (m : AM) (fr : AFr) : Out := match fr.mode with
  | .run => stepRun C m fr
  | mode => unwindA C m fr mode fr.defers
def stepA (m : AM) : Out := stepFr C m m.fr

inductive Tree where
  | next (m : AM)
  | fork (c : SB) (a b : Tree)
  | done (v : AV) (m : AM)
  | dead (chain : List APanic) (m : AM)
  | fail (why : String) (m : AM)
def exec : Nat → AM → Tree
  | 0, m => .next m
  | n + 1, m => match stepA C m with
    | .next m => exec n m
    | .fork c m => .fork c (exec n (m.addFact c true)) (exec n (m.addFact c false))
    | .done v m => .done v m
    | .dead c m => .dead c m
    | .fail w m => .fail w m
end Go.Sx
end
noncomputable section
namespace Go.Sx
def extOf (f : Func) : Option Ext :=
  if f.name == "internal/abi.NoEscape" then some .noEscape
  else if f.name == "internal/bytealg.IndexByteString" then some .indexByteString
  else if f.name == "internal/bytealg.abigen_runtime_cmpstring" then some .cmpstring
  else if f.name == "internal/bytealg.CountString" then some .countString
  else if f.origin == "slices.overlaps" then some .overlaps else none
def rowOf (P : Program) (t : Nat) (i : TypeInfo) : TyRow := { u := (P.underlying t).getD i.desc, size := i.size, bytes := i.bytes, zero := i.zero.bind AV.ofVal }
def mkCtx (P : Program) (lies : List (Nat × Nat × Nat)) : Ctx := {
  fn := PT.ofList P.funcs.toList 0 .nil
  ty := PT.ofList (P.types.toList.zipIdx.map fun (i, t) => rowOf P t i) 0 .nil
  ext := P.funcs.toList.zipIdx.foldl (fun t (f, i) => match f.body, extOf f with | none, some e => t.set i e | _, _ => t) .nil
  lies, orc := [], por := [] }
def start (C : Ctx) (f : Nat) (args : List AV) (h : Heap) : Option AM := (enterFr C f args false).map fun fr => ⟨fr, [], h, []⟩
def startF (C : Ctx) (F : Facts) (f : Nat) (args : List AV) (h : Heap) : Option AM := (enterFr C f args false).map fun fr => ⟨fr, [], h, F⟩
end Go.Sx
end
