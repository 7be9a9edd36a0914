/-
 The pure interpreter 'E' of this project: the code of a loaded function is run over typed values and a small heap of named objects. Definitions only.
-/
import Derived.Test.YthklalefbhbhmaaGreatDoorKkFx
namespace Go.Kk
inductive CK where
 | i (k:IntKind)
 | b
 | s
 deriving DecidableEq
def qCb:List UInt8->Nat
 | []=>0
 | b :: r=>qCb r*256+(b.toNat+1)
def qIv:Nat->Nat->List UInt8
 | 0,_=>[]
 | f+1,n=>match n with
   | 0=>[]
   | m+1=>UInt8.ofNat (m % 256) :: qIv f (m / 256)
def qBL (s:ByteArray):Int:=Int.ofNat (qCb s.data.toList)
def qBK (n:Int):ByteArray:=match n with
 | .ofNat n=>⟨(qIv n n).toArray⟩
 | .negSucc _=>ByteArray.empty
inductive Kd where
 | i (k:IntKind)
 | b
 | str
 | p
 | sl (e:TypeId)
 | m (k e:TypeId)
 | f
 deriving DecidableEq
inductive SegT where
 | one (ks:List Kd)
 | arr (k:IntKind) (n:Nat)
 | barr (n:Nat)
 | rows (ks:List CK) (n:Nat)
 deriving DecidableEq
inductive Lay where
 | sc (kd:Kd)
 | st (segs:List SegT) (flds:List (Nat×Nat×TypeId))
 | ar (n m:Nat) (e:TypeId) (seg:SegT)
inductive S where
 | bad
 | i (k:IntKind) (n:Int)
 | b (x:Bool)
 | str (s:ByteArray)
 | nilp
 | ptr (o seg:Nat) (row:Option (Nat×Nat)) (col:Nat)
 | sl (o lo len:Nat) (full:Bool)
 | nilm
 | nils
 | mp (o:Nat)
 | it (o:Nat)
 | fn (f:FuncId) (caps:List Nat)
 | gp (g j:Nat)
 | vw (p j:Nat)
 | vp (p j i col:Nat)
inductive Seg where
 | one (vs:List S)
 | arr (k:IntKind) (n:Nat) (l:List Int)
 | barr (n:Nat) (l:List Bool)
 | rows (ks:List CK) (n:Nat) (xs:List (List Int))
inductive W where
 | s (x:S)
 | agg (segs:List Seg)
inductive V where
 | s (x:S)
 | agg (segs:List Seg)
 | tup (l:List W)
inductive PS where
 | a (k:IntKind) (ls:List (List Int))
 | r (ks:List CK) (xs:List (List (List Int)))
 deriving DecidableEq
def PS.len:PS->Nat
 | .a _ l=>l.length
 | .r _ l=>l.length
def PS.wd:PS->Nat
 | .a _ _=>1
 | .r ks _=>ks.length
def PS.seg:PS->Nat->Seg
 | .a k l,j=>.arr k (l.getD j []).length (l.getD j [])
 | .r ks l,j=>.rows ks (l.getD j []).length (l.getD j [])
def qAR {α:Type}:List α->Nat->α->List α
 | [],_,x=>[x]
 | y :: r,j,x=>match j with
   | 0=>x :: r
   | j+1=>y :: qAR r j x
def PS.put:PS->Nat->Seg->Option PS
 | .a k l,j,.arr k' _ x=>bif decide (k=k') then some (.a k (qAR l j x)) else none
 | .r ks l,j,.rows ks' _ x=>bif decide (ks=ks') then some (.r ks (qAR l j x)) else none
 | _,_,_=>none
def PS.of:Seg->Option PS
 | .arr k _ _=>some (.a k [])
 | .rows ks _ _=>some (.r ks [])
 | _=>none
def qW (r:List Int):List (List Int)->Nat
 | []=>0
 | k :: l=>bif k==r then 0 else qW r l+1
def qAj (r:List Int):List (List Int)->List (List Int)
 | []=>[r]
 | k :: l=>bif k==r then k :: l else k :: qAj r l
inductive Obj where
 | dead
 | cells (t:TypeId) (segs:List Seg)
 | rcells (t:TypeId) (segs:List Seg)
 | sli (e:TypeId) (ro:Bool) (sg:Seg)
 | map (ka va:Bool) (kks vks:List CK) (es:List (List Int×List Int))
 | iter (s:ByteArray) (pos:Nat)
 | maps (ka:Bool) (kks:List CK) (ks:List (List Int)) (p:Nat) (lent:Option Nat)
 | pol (t:TypeId) (ps:PS)
def W.v:W->V
 | .s x=>.s x
 | .agg l=>.agg l
def V.w?:V->Option W
 | .s x=>some (.s x)
 | .agg l=>some (.agg l)
 | .tup _=>none
def br {α:Type} (b:Bool) (x y:α):α:=match b with
 | true=>x
 | false=>y
def ob {α β:Type} (m:Option α) (k:α->Option β):Option β:=match m with
 | some a=>k a
 | none=>none
def sw {α β γ:Type} (t:α ⊕ β) (f:α->Option γ) (g:β->Option γ):Option γ:=match t with
 | .inl a=>f a
 | .inr b=>g b
def qC:Nat:=18446744073709551616
abbrev Hp:=List (Nat×Obj)
def Hp.get (h:Hp) (o:Nat):Obj:=match h with
 | []=>.dead
 | (k,x) :: r=>bif Nat.beq k o then x else Hp.get r o
abbrev Rg:=List (Nat×V)
def qCF:V:=.tup []
def Rg.get (ρ:Rg) (t:Nat):V:=match ρ with
 | []=>.s .bad
 | (k,x) :: r=>bif Nat.beq k t then x else Rg.get r t
def mk (c:CK) (n:Int):S:=match c with
 | .i k=>.i k n
 | .b=>.b (n != 0)
 | .s=>.str (qBK n)
def bi (b:Bool):Int:=br b 1 0
def mks:List CK->List Int->List S
 | [],_=>[]
 | c :: cs,r=>mk c (r.headD 0) :: mks cs r.tail
def qJu:List CK->Option CK
 | []=>none
 | k :: r=>bif r.all (fun c=>decide (c=k)) then some k else none
def qKP (ks:List CK) (c:Nat):Option CK:=match qJu ks with
 | some k=>some k
 | none=>ks[c]?
def qUo (ks:List CK) (c:Nat):Bool:=match qJu ks with
 | some _=>true
 | none=>Nat.blt c ks.length
def qYI (ks:List CK) (r:List Int) (c:Nat):S:=match qKP ks c with
 | some k=>mk k (r.getD c 0)
 | none=>.bad
def S.n?:S->Option Int
 | .i _ n=>some n
 | .b x=>some (bi x)
 | .str s=>some (qBL s)
 | _=>none
def S.ck?:S->Option CK
 | .i k _=>some (.i k)
 | .b _=>some .b
 | .str _=>some .s
 | _=>none
def ns?:List S->Option (List Int)
 | []=>some []
 | x :: r=>match x.n?,ns? r with
   | some n,some l=>some (n :: l)
   | _,_=>none
def cks?:List S->Option (List CK)
 | []=>some []
 | x :: r=>match x.ck?,cks? r with
   | some n,some l=>some (n :: l)
   | _,_=>none
def Kd.ck?:Kd->Option CK
 | .i k=>some (.i k)
 | .b=>some .b
 | .str=>some .s
 | _=>none
def kcks?:List Kd->Option (List CK)
 | []=>some []
 | x :: r=>match x.ck?,kcks? r with
   | some n,some l=>some (n :: l)
   | _,_=>none
def qAL:List SegT->Option (List CK)
 | []=>some []
 | .one ks :: r=>match kcks? ks,qAL r with
   | some a,some b=>some (a++b)
   | _,_=>none
 | .arr k n :: r=>match qAL r with
   | some b=>some (List.replicate n (.i k)++b)
   | none=>none
 | .barr n :: r=>match qAL r with
   | some b=>some (List.replicate n .b++b)
   | none=>none
 | .rows _ _ :: _=>none
def qCo:List SegT->List Int->Option (List Seg)
 | [],_=>some []
 | .one ks :: t,r=>match kcks? ks,qCo t (r.drop ks.length) with
   | some cs,some l=>some (.one (mks cs r) :: l)
   | _,_=>none
 | .arr k n :: t,r=>match qCo t (r.drop n) with
   | some l=>some (.arr k n (r.take n) :: l)
   | none=>none
 | .barr n :: t,r=>match qCo t (r.drop n) with
   | some l=>some (.barr n ((r.take n).map (· != 0)) :: l)
   | none=>none
 | .rows _ _ :: _,_=>none
def qDR:List Seg->Option (List CK×List Int)
 | []=>some ([],[])
 | .one vs :: r=>match ns? vs,cks? vs,qDR r with
   | some a,some c,some (cs,b)=>some (c++cs,a++b)
   | _,_,_=>none
 | .arr k n l :: r=>match qDR r with
   | some (cs,b)=>some (List.replicate n (.i k)++cs,l++b)
   | none=>none
 | .barr n l :: r=>match qDR r with
   | some (cs,b)=>some (List.replicate n .b++cs,l.map bi++b)
   | none=>none
 | .rows _ _ _ :: _=>none
def Seg.fits:Seg->SegT->Bool
 | .one vs,.one ks=>Nat.beq vs.length ks.length
 | .arr k n _,.arr k' n'=>decide (k=k')&&Nat.beq n n'
 | .barr n _,.barr n'=>Nat.beq n n'
 | .rows ks n _,.rows ks' n'=>decide (ks=ks')&&Nat.beq n n'
 | _,_=>false
def qBr:List Seg->List SegT->Bool
 | [],[]=>true
 | a :: r,b :: t=>a.fits b&&qBr r t
 | _,_=>false
def Seg.like:Seg->Seg->Bool
 | .one vs,.one ks=>Nat.beq vs.length ks.length
 | .arr k n _,.arr k' n' _=>decide (k=k')&&Nat.beq n n'
 | .barr n _,.barr n' _=>Nat.beq n n'
 | .rows ks n _,.rows ks' n' _=>decide (ks=ks')&&Nat.beq n n'
 | _,_=>false
def Seg.kin:Seg->Seg->Bool
 | .one vs,.one ks=>Nat.beq vs.length ks.length
 | .arr k _ _,.arr k' _ _=>decide (k=k')
 | .barr _ _,.barr _ _=>true
 | .rows ks _ _,.rows ks' _ _=>decide (ks=ks')
 | _,_=>false
def qAI:List Seg->List Seg->Bool
 | [],[]=>true
 | a :: r,b :: t=>a.like b&&qAI r t
 | _,_=>false
inductive Shp where
 | one (n:Nat)
 | tbl (w n:Nat)
 deriving DecidableEq
def Shp.size:Shp->Nat
 | .one n=>n
 | .tbl w n=>n*w
def Shp.width:Shp->Nat
 | .one _=>0
 | .tbl w _=>w
def Shp.rows:Shp->Nat
 | .one _=>0
 | .tbl _ n=>n
def Seg.shp:Seg->Shp
 | .one vs=>.one vs.length
 | .arr _ n _=>.tbl 1 n
 | .barr n _=>.tbl 1 n
 | .rows ks n _=>.tbl ks.length n
def SegT.shp:SegT->Shp
 | .one ks=>.one ks.length
 | .arr _ n=>.tbl 1 n
 | .barr n=>.tbl 1 n
 | .rows ks n=>.tbl ks.length n
def qFb:List SegT->Nat
 | []=>0
 | a :: r=>a.shp.size+qFb r
def loadAt (segs:List Seg) (sg:Nat) (row:Option (Nat×Nat)) (col:Nat) (L:Lay):Option V:=match L with
 | .sc _=>match segs[sg]?,row with
   | some (.one vs),none=>match vs[col]? with
     | some x=>some (.s x)
     | none=>none
   | some (.arr k _ l),some (j,_)=>some (.s (.i k (l.getD j 0)))
   | some (.barr _ l),some (j,_)=>some (.s (.b (l.getD j false)))
   | some (.rows ks _ xs),some (j,_)=>bif qUo ks col then some (.s (qYI ks (xs.getD j []) col)) else none
   | _,_=>none
 | .st ts _=>match row with
   | none=>match ts,segs[sg]? with
     | [.one ks],some (.one vs)=>bif Nat.ble (col+ks.length) vs.length then some (.agg [.one ((vs.drop col).take ks.length)]) else none
     | ts,_=>bif Nat.beq col 0&&qBr ((segs.drop sg).take ts.length) ts then some (.agg ((segs.drop sg).take ts.length)) else none
   | some (j,_)=>match segs[sg]?,qAL ts with
     | some (.rows ks _ xs),some cs=>bif decide ((ks.drop col).take cs.length=cs) then (match qCo ts (((xs.getD j []).drop col).take cs.length) with
       | some l=>some (.agg l)
       | none=>none) else none
     | _,_=>none
 | .ar _ _ _ t=>match segs[sg]?,row with
   | some g,none=>bif Nat.beq col 0&&g.fits t then some (.agg [g]) else none
   | some g,some (j,lim)=>match g,t with
     | .arr k _ l,.arr k' n'=>bif decide (k=k')&&Nat.ble n' lim then some (.agg [.arr k n' ((l.drop j).take n')]) else none
     | .rows ks _ xs,.arr k' n'=>bif decide ((ks.drop col).take n'=List.replicate n' (.i k')) then some (.agg [.arr k' n' (((xs.getD j []).drop col).take n')]) else none
     | _,_=>none
   | _,_=>none
def storeAt (segs:List Seg) (sg:Nat) (row:Option (Nat×Nat)) (col:Nat) (v:V):Option (List Seg):=match v with
 | .tup _=>none
 | .s x=>match segs[sg]?,row with
   | some (.one vs),none=>bif Nat.blt col vs.length then some (segs.set sg (.one (vs.set col x))) else none
   | some (.arr k n l),some (j,_)=>match x with
     | .i k' a=>bif decide (k=k') then some (segs.set sg (.arr k n (l.set j a))) else none
     | _=>none
   | some (.barr n l),some (j,_)=>match x with
     | .b a=>some (segs.set sg (.barr n (l.set j a)))
     | _=>none
   | some (.rows ks n xs),some (j,_)=>match qKP ks col,x with
     | some (.i k),.i k' a=>bif decide (k=k') then some (segs.set sg (.rows ks n (xs.set j ((xs.getD j []).set col a)))) else none
     | some .b,.b a=>some (segs.set sg (.rows ks n (xs.set j ((xs.getD j []).set col (bi a)))))
     | some .s,.str a=>some (segs.set sg (.rows ks n (xs.set j ((xs.getD j []).set col (qBL a)))))
     | _,_=>none
   | _,_=>none
 | .agg gs=>match row with
   | none=>match gs,segs[sg]? with
     | [.one ws],some (.one vs)=>bif Nat.ble (col+ws.length) vs.length then some (segs.set sg (.one (vs.take col++ws++vs.drop (col+ws.length)))) else none
     | gs,_=>bif Nat.beq col 0&&qAI gs ((segs.drop sg).take gs.length) then some (segs.take sg++gs++segs.drop (sg+gs.length)) else none
   | some (j,lim)=>match segs[sg]? with
     | some (.rows ks n xs)=>match qDR gs with
       | some (cs,r)=>bif decide ((ks.drop col).take cs.length=cs) then some (segs.set sg (.rows ks n (xs.set j ((xs.getD j []).take col++r++(xs.getD j []).drop (col+cs.length))))) else none
       | none=>none
     | some (.arr k n l)=>match gs with
       | [.arr k' n' l']=>bif decide (k=k')&&Nat.ble n' lim then some (segs.set sg (.arr k n (l.take j++l'++l.drop (j+n')))) else none
       | _=>none
     | _=>none
def qD (op:BinOp) (k:IntKind) (x y:Int):Int:=match op with
 | .and=>k.wrap (BitVec.ofInt k.bits x &&& BitVec.ofInt k.bits y).toNat
 | .or=>k.wrap (BitVec.ofInt k.bits x ||| BitVec.ofInt k.bits y).toNat
 | .xor=>k.wrap (BitVec.ofInt k.bits x ^^^ BitVec.ofInt k.bits y).toNat
 | _=>k.wrap (BitVec.ofInt k.bits x &&& ~~~BitVec.ofInt k.bits y).toNat
def IntKind.within:IntKind->IntKind->Bool
 | .i8,.i8 | .i8,.i16 | .i8,.i32 | .i8,.i64 | .i16,.i16 | .i16,.i32 | .i16,.i64 | .i32,.i32 | .i32,.i64 | .i64,.i64=>true
 | .u8,.u8 | .u8,.u16 | .u8,.u32 | .u8,.u64 | .u16,.u16 | .u16,.u32 | .u16,.u64 | .u32,.u32 | .u32,.u64 | .u64,.u64=>true
 | .u8,.i16 | .u8,.i32 | .u8,.i64 | .u16,.i32 | .u16,.i64 | .u32,.i64=>true
 | _,_=>false
def conv (k k':IntKind) (n:Int):Int:=bif IntKind.within k k' then n else k'.wrap n
section
variable {R:Type}
def qDC (op:BinOp) (k:IntKind) (a b:Int) (K:S->Option R):Option R:=match op with
 | .add=>K (.i k (k.wrap (a+b)))
 | .sub=>K (.i k (k.wrap (a - b)))
 | .mul=>K (.i k (k.wrap (a*b)))
 | .quo=>br (decide (b=0)) none (K (.i k (k.wrap (a.tdiv b))))
 | .rem=>br (decide (b=0)) none (K (.i k (a.tmod b)))
 | .and=>K (.i k (qD .and k a b))
 | .or=>K (.i k (qD .or k a b))
 | .xor=>K (.i k (qD .xor k a b))
 | .andNot=>K (.i k (qD .andNot k a b))
 | .shl=>br (decide (b<0)) none (K (.i k (k.wrap (a*2 ^ min b.toNat k.bits))))
 | .shr=>br (decide (b<0)) none (K (.i k (a.fdiv (2 ^ min b.toNat k.bits))))
 | .eql=>K (.b (a==b))
 | .neq=>K (.b (a != b))
 | .lss=>K (.b (decide (a<b)))
 | .leq=>K (.b (decide (a<=b)))
 | .gtr=>K (.b (decide (a>b)))
 | .geq=>K (.b (decide (a >= b)))
def S.eq?:S->S->Option Bool
 | .i k a,.i k' c=>bif decide (k=k') then some (a==c) else none
 | .b a,.b c=>some (a==c)
 | _,_=>none
def ones?:List S->List S->Option Bool
 | [],[]=>some true
 | [x],[y]=>x.eq? y
 | x :: r,y :: t=>match x.eq? y,ones? r t with
   | some a,some b=>some (a&&b)
   | _,_=>none
 | _,_=>none
def Seg.eq?:Seg->Seg->Option Bool
 | .one a,.one b=>ones? a b
 | .arr k n a,.arr k' n' b=>bif decide (k=k')&&Nat.beq n n' then some (a==b) else none
 | .barr n a,.barr n' b=>bif Nat.beq n n' then some (a==b) else none
 | .rows ks n a,.rows ks' n' b=>bif decide (ks=ks')&&Nat.beq n n' then some (a==b) else none
 | _,_=>none
def segs?:List Seg->List Seg->Option Bool
 | [],[]=>some true
 | [x],[y]=>x.eq? y
 | x :: r,y :: t=>match x.eq? y,segs? r t with
   | some a,some b=>some (a&&b)
   | _,_=>none
 | _,_=>none
end
abbrev Tab:=List (TypeId×Lay)
def Tab.get (t:Tab) (i:TypeId):Option Lay:=match t with
 | []=>none
 | (k,x) :: r=>bif Nat.beq k i then some x else Tab.get r i
def qz:Option Lay->Option Seg
 | some (.sc (.i k))=>some (.arr k 0 [])
 | some (.sc .b)=>some (.barr 0 [])
 | some (.sc .str)=>some (.rows [.s] 0 [])
 | some (.st ts _)=>match qAL ts with
   | some ks=>some (.rows ks 0 [])
   | none=>none
 | _=>none
def qB1 (tab:Tab):List Kd->Nat->Option (List S×Hp×Nat)
 | [],nx=>some ([],[],nx)
 | k :: r,nx=>match k with
   | .sl e=>match qz (tab.get e),qB1 tab r (nx+1) with
     | some g,some (l,h,nx')=>some (.sl nx 0 0 true :: l,(nx,.sli e false g) :: h,nx')
     | _,_=>none
   | k => match (match k with
       | Kd.i k=>some (S.i k 0)
       | Kd.b=>some (S.b false)
       | Kd.p=>some .nilp
       | .m _ _=>some .nilm
       | .str=>some (.str ByteArray.empty)
       | _=>none),qB1 tab r nx with
     | some x,some (l,h,nx')=>some (x :: l,h,nx')
     | _,_=>none
def qAd (tab:Tab):List SegT->Nat->Option (List Seg×Hp×Nat)
 | [],nx=>some ([],[],nx)
 | t :: r,nx=>match t with
   | .one ks=>match qB1 tab ks nx with
     | some (vs,h,nx')=>match qAd tab r nx' with
       | some (l,h',nx'')=>some (.one vs :: l,h++h',nx'')
       | none=>none
     | none=>none
   | .arr k n=>match qAd tab r nx with
     | some (l,h,nx')=>some (.arr k n (List.replicate n 0) :: l,h,nx')
     | none=>none
   | .barr n=>match qAd tab r nx with
     | some (l,h,nx')=>some (.barr n (List.replicate n false) :: l,h,nx')
     | none=>none
   | .rows ks n=>match qAd tab r nx with
     | some (l,h,nx')=>some (.rows ks n (List.replicate n (List.replicate ks.length 0)) :: l,h,nx')
     | none=>none
def Lay.segTs:Lay->List SegT
 | .sc kd=>[.one [kd]]
 | .st ts _=>ts
 | .ar _ _ _ t=>[t]
def S.good:S->Bool
 | .bad=>false
 | _=>true
def Seg.good:Seg->Bool
 | .one vs=>vs.all S.good
 | _=>true
def V.good:V->Bool
 | .s x=>x.good
 | .agg l=>l.all Seg.good
 | .tup _=>false
def V.segs?:V->Option (List Seg)
 | .s x=>some [.one [x]]
 | .agg l=>some l
 | .tup _=>none
def S.refs:S->List Nat
 | .ptr o _ _ _=>[o]
 | .sl o _ _ _=>[o]
 | .mp o=>[o]
 | .it o=>[o]
 | .fn _ c=>c
 | .vw p _=>[p]
 | .vp p _ _ _=>[p]
 | _=>[]
def Seg.refs:Seg->List Nat
 | .one vs=>vs.flatMap S.refs
 | _=>[]
def qIB (l:List Seg):List Nat:=l.flatMap Seg.refs
def W.refs:W->List Nat
 | .s x=>x.refs
 | .agg l=>qIB l
def V.refs:V->List Nat
 | .s x=>x.refs
 | .agg l=>qIB l
 | .tup l=>l.flatMap W.refs
def Obj.segs:Obj->List Seg
 | .cells _ l=>l
 | .rcells _ l=>l
 | .sli _ _ g=>[g]
 | _=>[]
def Obj.live:Obj->Bool
 | .dead=>false
 | _=>true
def Seg.isTbl:Seg->Bool
 | .one _=>false
 | _=>true
def Obj.isCell:Obj->Bool
 | .cells _ _=>true
 | .rcells _ _=>true
 | _=>false
def Obj.isSli:Obj->Bool
 | .sli _ _ _=>true
 | _=>false
def Obj.isMem:Obj->Bool
 | .cells _ _=>true
 | .rcells _ _=>true
 | .sli _ _ _=>true
 | _=>false
def qKa:Option Seg->SegT->Bool
 | some g,t=>g.fits t
 | none,_=>false
def qDS (x:Obj) (sg:Nat):Nat:=match x.segs[sg]? with
 | some (.arr _ _ _)=>1
 | some (.barr _ _)=>1
 | some (.rows ks _ _)=>ks.length
 | _=>0
def qD4:Option Seg->Nat->Nat->SegT->Bool
 | some (.rows ks _ _),col,n,.arr k _=>(match qJu ks with
   | some (.i k')=>decide (k=k')&&Nat.ble (col+n) ks.length
   | _=>false)
 | _,_,_,_=>false
def qBa:Obj->Option Seg->Bool
 | .sli _ _ (.arr k _ _),some (.arr k' _ _)=>decide (k=k')
 | .sli _ _ (.barr _ _),some (.barr _ _)=>true
 | .sli _ _ (.rows ks _ _),some (.rows ks' _ _)=>decide (ks=ks')&&Nat.blt 0 ks.length
 | _,_=>false
def Obj.refs:Obj->List Nat
 | .cells _ l=>qIB l
 | .rcells _ l=>qIB l
 | .maps _ _ _ p _=>[p]
 | _=>[]
def S.ren (g:Nat->Nat):S->S
 | .ptr o x y z=>.ptr (g o) x y z
 | .sl o x y z=>.sl (g o) x y z
 | .mp o=>.mp (g o)
 | .it o=>.it (g o)
 | .fn f c=>.fn f (c.map g)
 | .vw p j=>.vw (g p) j
 | .vp p x y z=>.vp (g p) x y z
 | x=>x
def Seg.ren (g:Nat->Nat):Seg->Seg
 | .one vs=>.one (vs.map (S.ren g))
 | x=>x
def W.ren (g:Nat->Nat):W->W
 | .s x=>.s (x.ren g)
 | .agg l=>.agg (l.map (Seg.ren g))
def V.ren (g:Nat->Nat):V->V
 | .s x=>.s (x.ren g)
 | .agg l=>.agg (l.map (Seg.ren g))
 | .tup l=>.tup (l.map (W.ren g))
def Obj.ren (g:Nat->Nat):Obj->Obj
 | .cells t l=>.cells t (l.map (Seg.ren g))
 | .rcells t l=>.rcells t (l.map (Seg.ren g))
 | .maps a b c p l=>.maps a b c (g p) l
 | x=>x
def qDG (x:Nat):List Nat->Bool
 | []=>false
 | y :: r=>Nat.beq y x||qDG x r
def qAE (x:Nat):List Nat->Nat
 | []=>0
 | y :: r=>bif Nat.beq y x then 0 else qAE x r+1
def qAC (d:Nat):List Nat->Nat->Nat
 | [],i=>d+i
 | y :: r,i=>match i with
   | 0=>y
   | i+1=>qAC d r i
def qB9 (h:Hp):Nat->List Nat->List Nat->List Nat
 | 0,acc,_=>acc
 | _+1,acc,[]=>acc
 | f+1,acc,o :: t=>bif qDG o acc then qB9 h f acc t else qB9 h f (acc++[o]) (t++(h.get o).refs)
def qGB:List Nat->Bool
 | []=>true
 | x :: r=>!qDG x r&&qGB r
def cut (h:Hp) (ks:List Nat):List Obj:=ks.map fun o=>(h.get o).ren (fun x=>qAE x ks)
def qEv (ks:List Nat) (l:List Nat):Bool:=l.all fun x=>qDG x ks
def qH:List Nat->Nat->List Obj->Hp
 | _,_,[]=>[]
 | [],nx,x :: r=>(nx,x) :: qH [] (nx+1) r
 | k :: ks,nx,x :: r=>(k,x) :: qH ks nx r
section
variable {α:Type}
def fN (n:Nat) (K:Nat->α):α:=match n with
 | 0=>K 0
 | m+1=>K (m+1)
def fNs:List Nat->(List Nat->α)->α
 | [],K=>K []
 | n :: r,K=>fN n fun n'=>fNs r fun r'=>K (n' :: r')
def fS (x:S) (K:S->α):α:=match x with
 | .ptr o sg row col=>fN o fun o=>fN sg fun sg=>(match row with
   | none=>fN col fun col=>K (.ptr o sg none col)
   | some p=>K (.ptr o sg (some p) col))
 | .sl o lo len full=>fN o fun o=>K (.sl o lo len full)
 | .mp o=>fN o fun o=>K (.mp o)
 | .it o=>fN o fun o=>K (.it o)
 | .fn f caps=>fNs caps fun caps=>K (.fn f caps)
 | .bad=>K .bad
 | .i k n=>K (.i k n)
 | .b x=>K (.b x)
 | .str s=>K (.str s)
 | .nilp=>K .nilp
 | .nilm=>K .nilm
 | .nils=>K .nils
 | .gp g j=>fN g fun g=>K (.gp g j)
 | .vw p j=>fN p fun p=>K (.vw p j)
 | .vp p x y col=>fN p fun p=>fN col fun col=>K (.vp p x y col)
def fSs:List S->(List S->α)->α
 | [],K=>K []
 | x :: r,K=>fS x fun x'=>fSs r fun r'=>K (x' :: r')
def qKW (g:Seg) (K:Seg->α):α:=match g with
 | .one vs=>fSs vs fun vs=>K (.one vs)
 | .arr k n l=>K (.arr k n l)
 | .barr n l=>K (.barr n l)
 | .rows ks n xs=>K (.rows ks n xs)
def qFw:List Seg->(List Seg->α)->α
 | [],K=>K []
 | x :: r,K=>qKW x fun x'=>qFw r fun r'=>K (x' :: r')
def fW (w:W) (K:W->α):α:=match w with
 | .s x=>fS x fun x=>K (.s x)
 | .agg l=>qFw l fun l=>K (.agg l)
def fWs:List W->(List W->α)->α
 | [],K=>K []
 | x :: r,K=>fW x fun x'=>fWs r fun r'=>K (x' :: r')
def fV (v:V) (K:V->α):α:=match v with
 | .s x=>fS x fun x=>K (.s x)
 | .agg l=>qFw l fun l=>K (.agg l)
 | .tup l=>fWs l fun l=>K (.tup l)
def fVs:List V->(List V->α)->α
 | [],K=>K []
 | x :: r,K=>fV x fun x'=>fVs r fun r'=>K (x' :: r')
def qKV (x:Obj) (K:Obj->α):α:=match x with
 | .dead=>K .dead
 | .cells t l=>qFw l fun l=>K (.cells t l)
 | .rcells t l=>qFw l fun l=>K (.rcells t l)
 | .sli e ro g=>qKW g fun g=>K (.sli e ro g)
 | .map x y a b es=>K (.map x y a b es)
 | .iter s pos=>K (.iter s pos)
 | .maps a b c p l=>fN p fun p=>(match l with
   | none=>K (.maps a b c p none)
   | some j=>K (.maps a b c p (some j)))
 | .pol t ps=>K (.pol t ps)
def qIy:List Obj->(List Obj->α)->α
 | [],K=>K []
 | x :: r,K=>qKV x fun x'=>qIy r fun r'=>K (x' :: r')
def fHp:Hp->(Hp->α)->α
 | [],K=>K []
 | (k,x) :: r,K=>fN k fun k'=>qKV x fun x'=>fHp r fun r'=>K ((k',x') :: r')
def fRg:Rg->(Rg->α)->α
 | [],K=>K []
 | (k,x) :: r,K=>fN k fun k'=>fV x fun x'=>fRg r fun r'=>K ((k',x') :: r')
def qIa:Hp->Hp->(Hp->α)->α
 | [],h,K=>K h
 | (k,x) :: r,h,K=>qIa r h fun h'=>K ((k,x) :: h')
theorem qGp:∀ (u h:Hp) (K:Hp->α),qIa u h K=K (u++h)
 | [],_,_=>rfl
 | (k,x) :: r,h,K=>by simp only[qIa,qGp r,List.cons_append]
theorem qCM (n:Nat) (K:Nat->α):fN n K=K n:=by cases n<;>rfl
theorem qHE:∀ (l:List Nat) (K:List Nat->α),fNs l K=K l
 | [],_=>rfl
 | n :: r,K=>by simp only[fNs,qCM,qHE r]
theorem qN2 (x:S) (K:S->α):fS x K=K x:=by
 cases x<;>simp only[fS,qCM,qHE]
 rename_i row _
 cases row<;>rfl
theorem qVL:∀ (l:List S) (K:List S->α),fSs l K=K l
 | [],_=>rfl
 | n :: r,K=>by simp only[fSs,qN2,qVL r]
theorem qVK (x:Seg) (K:Seg->α):qKW x K=K x:=by cases x<;>simp only[qKW,qVL]
theorem qKX:∀ (l:List Seg) (K:List Seg->α),qFw l K=K l
 | [],_=>rfl
 | n :: r,K=>by simp only[qFw,qVK,qKX r]
theorem qg2 (x:W) (K:W->α):fW x K=K x:=by cases x<;>simp only[fW,qN2,qKX]
theorem qVM:∀ (l:List W) (K:List W->α),fWs l K=K l
 | [],_=>rfl
 | n :: r,K=>by simp only[fWs,qg2,qVM r]
theorem qFx (x:V) (K:V->α):fV x K=K x:=by cases x<;>simp only[fV,qN2,qKX,qVM]
theorem qN3:∀ (l:List V) (K:List V->α),fVs l K=K l
 | [],_=>rfl
 | n :: r,K=>by simp only[fVs,qFx,qN3 r]
theorem qVI (x:Obj) (K:Obj->α):qKV x K=K x:=by
 cases x<;>simp only[qKV,qKX,qVK,qCM]
 rename_i l
 cases l<;>rfl
theorem qN1:∀ (l:List Obj) (K:List Obj->α),qIy l K=K l
 | [],_=>rfl
 | n :: r,K=>by simp only[qIy,qVI,qN1 r]
theorem qE0:∀ (l:Hp) (K:Hp->α),fHp l K=K l
 | [],_=>rfl
 | (k,x) :: r,K=>by simp only[fHp,qCM,qVI,qE0 r]
theorem qVJ:∀ (l:Rg) (K:Rg->α),fRg l K=K l
 | [],_=>rfl
 | (k,x) :: r,K=>by simp only[fRg,qCM,qFx,qVJ r]
end
def Obj.toRO:Obj->Obj
 | .cells t l=>.rcells t l
 | .sli e _ g=>.sli e true g
 | x=>x
def Kd.isInt (k:IntKind):Kd->Bool
 | .i k'=>decide (k=k')
 | _=>false
def qB4:List S->List Kd->Bool
 | [],[]=>true
 | .i k _ :: r,d :: t=>d.isInt k&&qB4 r t
 | .b _ :: r,.b :: t=>qB4 r t
 | _,_=>false
def Seg.kinds:Seg->SegT->Bool
 | .one vs,.one ks=>qB4 vs ks
 | g,t=>g.fits t
def qCQ:List Seg->List SegT->Bool
 | [],[]=>true
 | g :: r,t :: ts=>g.kinds t&&qCQ r ts
 | _,_=>false
def qC0 (t:TypeId):List TypeId->Bool
 | []=>false
 | x :: r=>Nat.beq x t||qC0 t r
inductive Ex where
 | normal
 | exit (id:Nat)
 | ret
def byN (t:TypeId):List (TypeId×Nat)->Option Nat
 | []=>none
 | (k,n) :: r=>bif Nat.beq k t then some n else byN t r
structure Ctx where
 tab:Tab
 eqs:List TypeId
 bytes:List (TypeId×Nat)
 nt:Nat
 orc:{R:Type}->FuncId->List V->List Obj->(Bool->V->List Obj->Option R)->Option R
 keeps:List (Nat×List Nat×List Nat)
 lp:{R:Type}->Nat->List V->List Obj->(Ex->List V->List Obj->Option R)->Option R
 brg:{R:Type}->Bool->Option R->Option R->Option R:=br
def qNr:Value->V
 | .int k n=>bif decide (k.wrap n=n) then .s (.i k n) else .s .bad
 | .bool b=>.s (.b b)
 | .string s=>.s (.str s)
 | .pointer none=>.s .nilp
 | .map none=>.s .nilm
 | .slice none 0 0=>.s .nils
 | _=>.s .bad
def qI0 (g:Nat):List (Nat×IntKind×List Int)->Option (IntKind×List Int)
 | []=>none
 | (k,x) :: r=>bif Nat.beq k g then some x else qI0 g r
def qBN (g:Nat):Option (IntKind×List Int):=qI0 g fx
def ev (ρ:Rg):Operand->V
 | .tmp t=>ρ.get t
 | .const v=>qNr v
 | .func f=>.s (.fn f [])
 | .global g=>match qBN g with
   | some (_,_ :: _)=>.s (.gp g 0)
   | _=>.s .bad
section
variable {R:Type}
abbrev Kt (R:Type):=V->Hp->Nat->Option R
def qNi (c:Ctx) (h:Hp) (nx:Nat) (f:FuncId) (args:List V) (K:Kt R):Option R:=
 fNs (qB9 h 64 [] (args.flatMap V.refs)) fun ks=>qIy (cut h ks) fun objs=>
 bif qGB ks&&ks.all (fun o=>Nat.blt o nx)&&qEv ks (args.flatMap V.refs)&&ks.all (fun o=>qEv ks (h.get o).refs) then
  fVs (args.map (V.ren fun x=>qAE x ks)) fun args'=>c.orc f args' objs fun p v objs'=>match p with
   | true=>K (v.ren (qAC nx ks)) (qH [] nx (objs'.map (Obj.ren (qAC nx ks)))) (nx+objs'.length)
   | false=>bif Nat.ble ks.length objs'.length then
     K (v.ren (qAC nx ks)) (qH ks nx (objs'.map (Obj.ren (qAC nx ks)))) (nx+(objs'.length - ks.length))
   else none
 else none
def qYT (c:Ctx) (e:TypeId) (nx:Nat) (K:Kt R):Option R:=match qz (c.tab.get e) with
 | some g=>K (.s (.sl nx 0 0 true)) [(nx,.sli e false g)] (nx+1)
 | none=>none
def qDq (c:Ctx) (ρ:Rg) (x:Operand) (ty:TypeId) (nx:Nat) (K:Kt R):Option R:=match x with
 | .const (.slice none 0 0)=>match c.tab.get ty with
   | some (.sc (.sl e))=>qYT c e nx K
   | _=>none
 | x=>match ev ρ x with
   | .s z=>K (.s z) [] nx
   | .agg l=>K (.agg l) [] nx
   | .tup l=>K (.tup l) [] nx
def qMK:List Seg->Nat
 | []=>0
 | g :: r=>g.shp.size+qMK r
def V.size?:V->Option Nat
 | .s _=>some 1
 | .agg l=>some (qMK l)
 | .tup _=>none
def Lay.sizeN:Lay->Nat:=fun L=>qFb L.segTs
def qCn:Option Lay->V->Bool
 | some L,v=>match v.size? with
   | some n=>Nat.beq n L.sizeN
   | none=>false
 | none,_=>false
def qIC (tab:Tab) (fl:List (Nat×Nat×TypeId)):List (Nat×V)->List Seg->Option (List Seg)
 | [],l=>some l
 | (j,v) :: r,l=>match fl[j]? with
   | some (fs,fc,ft)=>bif v.good&&qCn (tab.get ft) v then (match storeAt l fs none fc v with
     | some l'=>qIC tab fl r l'
     | none=>none) else none
   | none=>none
def qCC (tab:Tab) (e:TypeId) (n m:Nat):List (Nat×V)->List Seg->Option (List Seg)
 | [],l=>some l
 | (j,v) :: r,l=>bif Nat.blt j n&&v.good&&qCn (tab.get e) v then (match storeAt l 0 (some (j*m,m)) 0 v with
   | some l'=>qCC tab e n m r l'
   | none=>none) else none
def inB (x:Int) (n:Nat):Bool:=decide (0<=x)&&decide (x<n)
def qBB (es:List (List Int×List Int)) (r d:List Int):List Int:=match es with
 | []=>d
 | (k,v) :: t=>bif k==r then v else qBB t r d
def qBC (es:List (List Int×List Int)) (r:List Int):Bool:=match es with
 | []=>false
 | (k,_) :: t=>k==r||qBC t r
def qAK (es:List (List Int×List Int)) (r v:List Int):List (List Int×List Int):=match es with
 | []=>[(r,v)]
 | (k,u) :: t=>bif k==r then (k,v) :: t else (k,u) :: qAK t r v
def qJD (c:Ctx) (t:TypeId):Option ((Lay×List CK)×(Lay×List CK)):=match c.tab.get t with
 | some (.sc (.m k e))=>match c.tab.get k,c.tab.get e with
   | some Lk,some Le=>match qAL Lk.segTs,qAL Le.segTs with
     | some a,some b=>bif qC0 k c.eqs then some ((Lk,a),(Le,b)) else none
     | _,_=>none
   | _,_=>none
 | _=>none
def V.row?:V->Option (Bool×List CK×List Int)
 | .s x=>match x.ck?,x.n? with
   | some c,some n=>some (false,[c],[n])
   | _,_=>none
 | .agg l=>match qDR l with
   | some (c,r)=>some (true,c,r)
   | none=>none
 | .tup _=>none
def qLz (L:Lay) (r:List Int):Option W:=match L with
 | .sc k=>match k.ck? with
   | some c=>some (.s (mk c (r.headD 0)))
   | none=>none
 | L=>match qCo L.segTs r with
   | some l=>some (.agg l)
   | none=>none
def unE (op:UnOp):S->Option S
 | .b x=>match op with
   | .not=>some (.b (!x))
   | _=>none
 | .i k n=>match op with
   | .neg=>some (.i k (k.wrap (0 - n)))
   | .xor=>some (.i k (qD .xor k (if k.signed then -1 else k.max) n))
   | _=>none
 | _=>none
def qEF (op:BinOp) (z:Bool) (K:V->Option R):Option R:=match op with
 | .eql=>K (.s (.b z))
 | .neq=>K (.s (.b (!z)))
 | _=>none
def Lay.isAgg:Lay->Bool
 | .sc _=>false
 | _=>true
def Seg.part (lo n:Nat):Seg->Seg
 | .arr k _ l=>.arr k n ((l.drop lo).take n)
 | .barr _ l=>.barr n ((l.drop lo).take n)
 | .rows ks _ xs=>.rows ks n ((xs.drop lo).take n)
 | .one vs=>.one vs
def Seg.join:Seg->Seg->Option Seg
 | .arr k n l,.arr k' n' l'=>bif decide (k=k') then some (.arr k (n+n') (l++l')) else none
 | .barr n l,.barr n' l'=>some (.barr (n+n') (l++l'))
 | .rows ks n l,.rows ks' n' l'=>bif decide (ks=ks') then some (.rows ks (n+n') (l++l')) else none
 | _,_=>none
def Seg.zeros (n:Nat):Seg->Seg
 | .arr k _ _=>.arr k n (List.replicate n 0)
 | .barr _ _=>.barr n (List.replicate n false)
 | .rows ks _ _=>.rows ks n (List.replicate n (List.replicate ks.length 0))
 | .one vs=>.one vs
def qMg (c:Ctx) (t:TypeId) (x y:V) (h:Hp) (nx:Nat) (K:Kt R):Option R:=match c.tab.get t,x,y with
 | some (.sc (.sl e)),.s (.sl ob _ len full),.s (.sl ob2 lo2 m _)=>match h.get ob,h.get ob2,byN e c.bytes with
   | .sli e' false g,.sli _ _ g2,some by_=>
     bif full&&Nat.beq e e' && !Nat.beq ob ob2&&Nat.blt 0 by_&&qBa (h.get ob) (qz (c.tab.get e))&&qBa (h.get ob2) (qz (c.tab.get e)) then
      br (decide ((len+m)*by_<=140737488355328)) (match Seg.join (g.part 0 len) (g2.part lo2 m) with
       | some g'=>K (.s (.sl nx 0 (len+m) true)) [(nx,.sli e false g'),(ob,.dead)] (nx+1)
       | none=>none) none else none
   | _,_,_=>none
 | _,_,_=>none
def qLB (mn:Bool):List V->Option S
 | [.s (.i k a),.s (.i k' d)]=>bif decide (k=k') then some (.i k (bif mn then (bif decide (d<a) then d else a) else (bif decide (d>a) then d else a))) else none
 | _=>none
def qC6 (c:Ctx) (b:Builtin) (args:List Operand) (tys:List TypeId) (ρ:Rg) (h:Hp) (nx:Nat) (K:Kt R):Option R:=match b with
 | .len=>match args,tys with
   | [x],[t]=>match ev ρ x,c.tab.get t with
     | .s (.sl ob _ len _),some (.sc (.sl _))=>bif (h.get ob).isSli then K (.s (.i .i64 len)) [] nx else none
     | .s (.mp ob),some (.sc (.m _ _))=>match h.get ob with
       | .map _ _ _ _ es=>br (decide (es.length<=140737488355328)) (K (.s (.i .i64 es.length)) [] nx) none
       | _=>none
     | _,_=>none
   | _,_=>none
 | .append=>match args,tys with
   | [x,y],[t,t']=>bif Nat.beq t t' then qMg c t (ev ρ x) (ev ρ y) h nx K else none
   | _,_=>none
 | .min=>match qLB true (args.map (ev ρ)) with
   | some z=>K (.s z) [] nx
   | none=>none
 | .max=>match qLB false (args.map (ev ρ)) with
   | some z=>K (.s z) [] nx
   | none=>none
 | _=>none
def qOr (x:Int) (n:Nat):Bool:=decide (0<=x)&&decide (x<=n)
def hiE (ρ:Rg) (len:Nat) (hi:Option Operand) (K:Nat->Option R):Option R:=match hi with
 | none=>K len
 | some y=>match ev ρ y with
   | .s (.i _ n)=>br (qOr n len) (K n.toNat) none
   | _=>none
def loE (ρ:Rg) (h:Nat) (lo:Option Operand) (K:Nat->Bool->Option R):Option R:=match lo with
 | none=>K 0 true
 | some y=>match ev ρ y with
   | .s (.i _ n)=>br (decide (0<=n)&&decide (n<h)) (K n.toNat false) none
   | _=>none
def mxE (ρ:Rg) (len h:Nat) (hi mx:Option Operand) (K:Bool->Option R):Option R:=match mx with
 | none=>K true
 | some y=>match hi,ev ρ y with
   | some _,.s (.i _ n)=>br (decide ((h:Int)<=n)&&decide (n<=len)) (K false) none
   | _,_=>none
def qIO (ρ:Rg) (ob l len:Nat) (full:Bool) (lo hi mx:Option Operand) (nx:Nat) (K:Kt R):Option R:=
 hiE ρ len hi fun h'=>mxE ρ len h' hi mx fun f1=>loE ρ h' lo fun l' f2=>K (.s (.sl ob (l+l') (h' - l') (full&&f1&&f2))) [] nx
def qDd (ρ:Rg) (h:Hp):List Operand->Option (List Nat)
 | []=>some []
 | x :: r=>match ev ρ x,qDd ρ h r with
   | .s (.ptr q 0 none 0),some l=>bif (h.get q).isCell then some (q :: l) else none
   | _,_=>none
def qWk (c:UInt8):List UInt8->Option Nat
 | []=>none
 | b :: l=>bif b==c then some 0 else (qWk c l).map (·+1)
def qgL (s:ByteArray) (n:Int):Int:=Int.ofNat (s.data.toList.count (UInt8.ofNat n.toNat))
def qic (s:ByteArray) (n:Int):Int:=match qWk (UInt8.ofNat n.toNat) s.data.toList with
 | some i=>Int.ofNat i
 | none=>-1
def qg0 (k:Nat) (s:ByteArray) (n:Int):Int:=match k with
 | 0=>qgL s n
 | _=>qic s n
def qYn:Option Seg->Nat->Bool
 | some (.one vs),col=>match vs[col]? with
   | some (.sl _ _ _ false)=>true
   | _=>false
 | _,_=>false
def stk (l:List Seg) (sg:Nat) (row:Option (Nat×Nat)) (col:Nat) (v:V):V:=match v,row with
 | .s (.sl o lo len true),none=>bif qYn l[sg]? col then .s (.sl o lo len false) else v
 | v,_=>v
def qk (c:Ctx) (o:Oper) (ρ:Rg) (h:Hp) (nx:Nat) (K:Kt R):Option R:=match o.op with
 | .move x=>qDq c ρ x o.type nx K
 | .assign x=>qDq c ρ x o.type nx K
 | .pick t x y=>match ev ρ t with
   | .s (.b z)=>br z (qDq c ρ x o.type nx K) (qDq c ρ y o.type nx K)
   | _=>none
 | .alloc t=>match c.tab.get t with
   | some L=>match qAd c.tab L.segTs (nx+1) with
     | some (l,h',nx')=>K (.s (.ptr nx 0 none 0)) ((nx,.cells t l) :: h') nx'
     | none=>none
   | none=>none
 | .box t x=>match (ev ρ x).segs? with
   | some l=>bif (ev ρ x).good then K (.s (.ptr nx 0 none 0)) [(nx,.cells t l)] (nx+1) else none
   | none=>none
 | .build t ps=>match c.tab.get t with
   | some (.st ts fl)=>match qAd c.tab ts nx with
     | some (l,h',nx')=>match qIC c.tab fl (ps.toList.map fun p=>(p.1,ev ρ p.2)) l with
       | some l'=>K (.agg l') h' nx'
       | none=>none
     | none=>none
   | some (.ar n m e t')=>match qAd c.tab [t'] nx with
     | some (l,h',nx')=>match qCC c.tab e n m (ps.toList.map fun p=>(p.1,ev ρ p.2)) l with
       | some l'=>K (.agg l') h' nx'
       | none=>none
     | none=>none
   | _=>none
 | .load t x=>match ev ρ x with
   | .s (.ptr ob sg row col)=>match h.get ob,c.tab.get t with
     | .cells _ l,some L=>match loadAt l sg row col L with
       | some v=>K v [] nx
       | none=>none
     | .rcells _ l,some L=>match loadAt l sg row col L with
       | some v=>K v [] nx
       | none=>none
     | .sli _ _ g,some L=>match loadAt [g] sg row col L with
       | some v=>K v [] nx
       | none=>none
     | _,_=>none
   | .s (.gp g j)=>match qBN g,c.tab.get t with
     | some (k,l),some (.sc (.i k'))=>bif decide (k=k') then K (.s (.i k (l.getD j 0))) [] nx else none
     | _,_=>none
   | _=>none
 | .store ty x y=>match ev ρ x with
   | .s (.ptr ob sg row col)=>bif (ev ρ y).good&&qCn (c.tab.get ty) (ev ρ y) then (match h.get ob with
     | .cells t l=>match storeAt l sg row col (stk l sg row col (ev ρ y)) with
       | some l'=>K qCF [(ob,.cells t l')] nx
       | none=>none
     | .sli e false g=>match storeAt [g] sg row col (ev ρ y) with
       | some [g']=>bif g'.isTbl then K qCF [(ob,.sli e false g')] nx else none
       | _=>none
     | _=>none) else none
   | _=>none
 | .nilCheck x=>match ev ρ x with
   | .s (.ptr ob sg row col)=>bif (h.get ob).live then K (.s (.ptr ob sg row col)) [] nx else none
   | _=>none
 | .binOp op t x y _=>match ev ρ x,ev ρ y with
   | .s (.i k a),.s (.i k' d)=>match op with
     | .shl=>qDC .shl k a d fun z=>K (.s z) [] nx
     | .shr=>qDC .shr k a d fun z=>K (.s z) [] nx
     | op=>bif decide (k=k') then qDC op k a d fun z=>K (.s z) [] nx else none
   | .agg l,.agg m=>match c.tab.get t with
     | some L=>bif qC0 t c.eqs&&L.isAgg&&qCQ l L.segTs&&qCQ m L.segTs then (match segs? l m with
       | some z=>qEF op z fun z=>K z [] nx
       | none=>none) else none
     | none=>none
   | .s a,.s d=>match c.tab.get t,a,d with
     | some (.sc .b),.b x,.b y=>qEF op (x==y) fun z=>K z [] nx
     | some (.sc .p),.nilp,.nilp=>qEF op true fun z=>K z [] nx
     | some (.sc .p),.nilp,.ptr ob _ _ _=>bif (h.get ob).isMem then qEF op false fun z=>K z [] nx else none
     | some (.sc .p),.ptr ob _ _ _,.nilp=>bif (h.get ob).isMem then qEF op false fun z=>K z [] nx else none
     | _,_,_=>none
   | _,_=>none
 | .unOp op _ x=>match ev ρ x with
   | .s x=>match unE op x with
     | some z=>K (.s z) [] nx
     | none=>none
   | _=>none
 | .convert src dst x=>match ev ρ x,c.tab.get dst,c.tab.get src with
   | .s (.i k n),some (.sc (.i k')),some _=>K (.s (.i k' (conv k k' n))) [] nx
   | _,_,_=>none
 | .fieldAddr t x f=>match ev ρ x,c.tab.get t with
   | .s (.ptr ob sg row col),some (.st ts fl)=>match fl[f]? with
     | some (fs,fc,_)=>match row with
       | none=>bif Nat.beq fs 0&&(h.get ob).isMem then K (.s (.ptr ob sg none (col+fc))) [] nx
         else bif Nat.beq col 0&&(h.get ob).isCell&&qBr (((h.get ob).segs.drop sg).take fs) (ts.take fs) then K (.s (.ptr ob (sg+fs) none fc)) [] nx else none
       | some r=>bif Nat.blt (col+qFb (ts.take fs)+fc) (qDS (h.get ob) sg) then fN (col+qFb (ts.take fs)+fc) (fun cl=>K (.s (.ptr ob sg (some r) cl)) [] nx) else none
     | none=>none
   | _,_=>none
 | .field t x f=>match ev ρ x,c.tab.get t with
   | .agg l,some (.st ts fl)=>match fl[f]? with
     | some (fs,fc,ft)=>match c.tab.get ft with
       | some L=>match bif qBr (l.take fs) (ts.take fs) then loadAt l fs none fc L else none with
         | some v=>K v [] nx
         | none=>none
       | none=>none
     | none=>none
   | _,_=>none
 | .indexAddr t x y=>match ev ρ x,ev ρ y,c.tab.get t with
   | .s (.ptr ob sg row col),.s (.i _ j),some (.ar n m _ t')=>br (inB j n) (match row with
     | none=>bif Nat.beq col 0&&((h.get ob).isCell&&qKa ((h.get ob).segs[sg]?) t') then (bif Nat.beq m 1 then K (.s (.ptr ob sg (some (j.toNat,1)) 0)) [] nx else K (.s (.ptr ob sg (some (j.toNat*m,m)) 0)) [] nx) else none
     | some (r,lim)=>bif qD4 ((h.get ob).segs[sg]?) col (n*m) t' then K (.s (.ptr ob sg (some (r,lim)) (col+j.toNat*m))) [] nx else bif Nat.beq (qDS (h.get ob) sg) 1&&Nat.ble (n*m) lim&&Nat.beq t'.shp.width 1 then (bif Nat.beq m 1 then K (.s (.ptr ob sg (some (r+j.toNat,1)) col)) [] nx else K (.s (.ptr ob sg (some (r+j.toNat*m,m)) col)) [] nx) else none) none
   | .s (.sl ob lo len full),.s (.i _ j),some (.sc (.sl e))=>bif qBa (h.get ob) (qz (c.tab.get e))&&(bif full then Nat.beq lo 0 else true) then
     br (inB j len) (bif full then K (.s (.ptr ob 0 (some (j.toNat,1)) 0)) [] nx else K (.s (.ptr ob 0 (some (lo+j.toNat,1)) 0)) [] nx) none else none
   | .s (.gp g 0),.s (.i _ j),some (.ar n 1 _ (.arr k' _))=>match qBN g with
     | some (k,l)=>bif decide (k=k')&&Nat.beq l.length n then c.brg (inB j n) (K (.s (.gp g j.toNat)) [] nx) none else none
     | none=>none
   | _,_,_=>none
 | .index t x y=>match ev ρ x,ev ρ y,c.tab.get t with
   | .agg [g],.s (.i _ j),some (.ar n m e t')=>match c.tab.get e with
     | some L=>br (inB j n) (match bif g.fits t' then loadAt [g] 0 (some (bif Nat.beq m 1 then j.toNat else j.toNat*m,m)) 0 L else none with
       | some v=>K v [] nx
       | none=>none) none
     | none=>none
   | _,_,_=>none
 | .extract x j=>match ev ρ x with
   | .tup l=>match l[j]? with
     | some w=>K w.v [] nx
     | none=>none
   | _=>none
 | .call cl=>match cl.callee with
   | .value f=>match ev ρ f with
     | .s (.fn f caps)=>bif caps.all (fun q=>(h.get q).isCell) then qNi c h nx f ((cl.args.toList.map (ev ρ))++caps.map fun q=>.s (.ptr q 0 none 0)) K else none
     | _=>none
   | .builtin b=>qC6 c b cl.args.toList cl.argTypes.toList ρ h nx K
   | _=>none
 | .makeSlice t x y=>match ev ρ x,ev ρ y,c.tab.get t with
   | .s (.i _ n),.s (.i _ n'),some (.sc (.sl e))=>match qz (c.tab.get e),byN e c.bytes with
     | some g,some by_=>bif Nat.blt 0 by_&&Nat.blt 0 g.shp.width then br (decide (0<=n)) (br (decide (n<=n')) (br (decide ((by_:Int)*n'<=281474976710656)) (K (.s (.sl nx 0 n.toNat true)) [(nx,.sli e false (g.zeros n.toNat))] (nx+1)) none) none) none else none
     | _,_=>none
   | _,_,_=>none
 | .buildSlice t n ps=>match c.tab.get t with
   | some (.sc (.sl e))=>match qz (c.tab.get e) with
     | some g=>bif Nat.blt 0 g.shp.width&&Nat.ble (n*g.shp.width) 16777216 then (match qCC c.tab e n 1 (ps.toList.map fun p=>(p.1,ev ρ p.2)) [g.zeros n] with
       | some [g']=>K (.s (.sl nx 0 n true)) [(nx,.sli e false g')] (nx+1)
       | _=>none) else none
     | none=>none
   | _=>none
 | .slice t x lo hi mx=>match ev ρ x,c.tab.get t with
   | .s (.sl ob l len full),some (.sc (.sl e))=>bif qBa (h.get ob) (qz (c.tab.get e)) then qIO ρ ob l len full lo hi mx nx K else none
   | _,_=>none
 | .makeFunc (.func f) first caps=>match first.toList,qDd ρ h caps.toList with
   | [],some qs=>K (.s (.fn f qs)) [] nx
   | _,_=>none
 | .makeMap t none=>match qJD c t with
   | some ((Lk,a),(Le,b))=>K (.s (.mp nx)) [(nx,.map Lk.isAgg Le.isAgg a b [])] (nx+1)
   | none=>none
 | .mapUpdate t m x y=>match ev ρ m,qJD c t with
   | .s (.mp ob),some ((Lk,a),(Le,b))=>match h.get ob,(ev ρ x).row?,(ev ρ y).row? with
     | .map ka va ks vs es,some (ka',a',r),some (va',b',v)=>
       bif ka'==ka&&va'==va&&ka==Lk.isAgg&&va==Le.isAgg&&decide (a'=ks)&&decide (b'=vs)&&decide (a=ks)&&decide (b=vs) then K qCF [(ob,.map ka va ks vs (qAK es r v))] nx else none
     | _,_,_=>none
   | _,_=>none
 | .lookup t m x ok=>match ev ρ m,qJD c t with
   | .s (.mp ob),some ((Lk,a),(Le,b))=>match h.get ob,(ev ρ x).row? with
     | .map ka va ks vs es,some (ka',a',r)=>
       bif ka'==ka&&ka==Lk.isAgg&&va==Le.isAgg&&decide (a'=ks)&&decide (a=ks)&&decide (b=vs) then (match qLz Le (qBB es r (List.replicate b.length 0)) with
        | some w=>K (bif ok then .tup [w,.s (.b (qBC es r))] else w.v) [] nx
        | none=>none) else none
     | _,_=>none
   | _,_=>none
 | _=>none
def qHe (c:Ctx) (t:TypeId):Option ((Lay×List CK)×TypeId):=match c.tab.get t with
 | some (.sc (.m k e))=>match c.tab.get k,c.tab.get e with
   | some Lk,some (.sc (.sl e'))=>match qAL Lk.segTs with
     | some a=>bif qC0 k c.eqs then some ((Lk,a),e') else none
     | none=>none
   | _,_=>none
 | _=>none
def Obj.isMaps:Obj->Bool
 | .maps _ _ _ _ _=>true
 | _=>false
def S.isVw:V->Bool
 | .s (.vw _ _)=>true
 | .s (.vp _ _ _ _)=>true
 | _=>false
def qKs (h:Hp):V->Bool
 | .s (.mp o)=>(h.get o).isMaps
 | _=>false
def qdV (ρ:Rg):List Operand->Bool
 | x :: _=>S.isVw (ev ρ x)
 | []=>false
def qCO (c:Ctx) (op:Op) (ρ:Rg) (h:Hp):Bool:=match op with
 | .load _ x=>S.isVw (ev ρ x)
 | .nilCheck x=>S.isVw (ev ρ x)
 | .fieldAddr _ x _=>S.isVw (ev ρ x)
 | .indexAddr _ x _=>S.isVw (ev ρ x)
 | .call cl=>match cl.callee with
   | .builtin .len=>qdV ρ cl.args.toList
   | .builtin .append=>qdV ρ cl.args.toList
   | _=>false
 | .lookup _ m _ _=>qKs h (ev ρ m)
 | .mapUpdate _ m _ _=>qKs h (ev ρ m)
 | .makeMap t none=>(qHe c t).isSome
 | _=>false
def qP0 (p:Nat):Hp->Option Nat
 | []=>none
 | (k,.maps _ _ _ q _) :: r=>bif Nat.beq p q then some k else qP0 p r
 | _ :: r=>qP0 p r
def qOl (c:Ctx) (t:TypeId) (x y:V) (h:Hp) (nx:Nat) (K:Kt R):Option R:=match c.tab.get t,x,y with
 | some (.sc (.sl e)),.s (.vw p j),.s (.sl ob2 lo2 m _)=>match h.get p,h.get ob2,byN e c.bytes with
   | .pol e' ps,.sli _ _ g2,some by_=>
     bif Nat.beq e e'&&Nat.blt 0 by_&&qBa (.sli e false (ps.seg j)) (qz (c.tab.get e))&&qBa (h.get ob2) (qz (c.tab.get e)) then
      br (decide (((ps.seg j).shp.rows+m)*by_<=140737488355328)) (match Seg.join (ps.seg j) (g2.part lo2 m),qP0 p h with
       | some g',some o=>match h.get o with
         | .maps ka kks ks q none=>bif Nat.beq q p then K (.s (.sl nx 0 ((ps.seg j).shp.rows+m) true)) [(nx,.sli e false g'),(nx+1,.pol e ps),(p,.dead),(o,.maps ka kks ks (nx+1) (some j))] (nx+2) else none
         | _=>none
       | _,_=>none) none else none
   | _,_,_=>none
 | _,_,_=>none
def qIf (l:Option Nat) (i:Nat):Bool:=match l with
 | none=>true
 | some j=>Nat.beq j i
def qC1 (c : Ctx) (o:Oper) (ρ:Rg) (h:Hp) (nx:Nat) (K:Kt R):Option R:=match o.op with
 | .load t x=>match ev ρ x with
   | .s (.vp p j i col)=>match h.get p,c.tab.get t with
     | .pol _ ps,some L=>match loadAt [ps.seg j] 0 (some (i,1)) col L with
       | some v=>K v [] nx
       | none=>none
     | _,_=>none
   | _=>none
 | .nilCheck x=>match ev ρ x with
   | .s (.vp p j i col)=>bif (h.get p).live then K (.s (.vp p j i col)) [] nx else none
   | _=>none
 | .indexAddr t x y=>match ev ρ x,ev ρ y,c.tab.get t with
   | .s (.vw p j),.s (.i _ n),some (.sc (.sl e))=>match h.get p with
     | .pol _ ps=>bif qBa (.sli e false (ps.seg j)) (qz (c.tab.get e)) then br (inB n (ps.seg j).shp.rows) (K (.s (.vp p j n.toNat 0)) [] nx) none else none
     | _=>none
   | _,_,_=>none
 | .call cl=>match cl.callee with
   | .builtin .len=>match cl.args.toList,cl.argTypes.toList with
     | [x],[t]=>match ev ρ x,c.tab.get t with
       | .s (.vw p j),some (.sc (.sl _))=>match h.get p with
         | .pol _ ps=>K (.s (.i .i64 (ps.seg j).shp.rows)) [] nx
         | _=>none
       | _,_=>none
     | _,_=>none
   | .builtin .append=>match cl.args.toList,cl.argTypes.toList with
     | [x,y],[t,t']=>bif Nat.beq t t' then qOl c t (ev ρ x) (ev ρ y) h nx K else none
     | _,_=>none
   | _=>none
 | .makeMap t none=>match qHe c t with
   | some ((Lk,a),e)=>match qz (c.tab.get e) with
     | some g=>match PS.of g with
       | some ps=>K (.s (.mp nx)) [(nx,.maps Lk.isAgg a [] (nx+1) none),(nx+1,.pol e ps)] (nx+2)
       | none=>none
     | none=>none
   | none=>none
 | .lookup t m x ok=>match ev ρ m,qHe c t with
   | .s (.mp ob),some ((Lk,a),_)=>match h.get ob,(ev ρ x).row? with
     | .maps ka kks ks p none,some (ka',a',r)=>
       bif !ok&&ka'==ka&&ka==Lk.isAgg&&decide (a'=kks)&&decide (a=kks) then K (.s (.vw p (qW r ks))) [] nx else none
     | _,_=>none
   | _,_=>none
 | .mapUpdate t m x y=>match ev ρ m,qHe c t with
   | .s (.mp ob),some ((Lk,a),e)=>match h.get ob,(ev ρ x).row?,ev ρ y with
     | .maps ka kks ks p l,some (ka',a',r),.s (.sl ob2 _ len true)=>match h.get p,h.get ob2 with
       | .pol e' ps,.sli e'' false g=>
         bif ka'==ka&&ka==Lk.isAgg&&decide (a'=kks)&&decide (a=kks)&&Nat.beq e e'&&Nat.beq e e'' then
          br (qIf l (qW r ks)) (match PS.put ps (qW r ks) (g.part 0 len) with
           | some ps'=>K qCF [(nx,.pol e ps'),(ob2,.dead),(p,.dead),(ob,.maps ka kks (qAj r ks) nx none)] (nx+1)
           | none=>none) none else none
       | _,_=>none
     | _,_,_=>none
   | _,_=>none
 | _=>none
def opE (c:Ctx) (o:Oper) (ρ:Rg) (h:Hp) (nx:Nat) (K:Kt R):Option R:=bif qCO c o.op ρ h then qC1 c o ρ h nx K else qk c o ρ h nx K
def qEz:List Oper->Nat->Option Tmp
 | [],_=>none
 | o :: r,j=>match j with
   | 0=>o.dst
   | j+1=>qEz r j
def qDM (c:Ctx) (o:Oper) (h:Hp) (nx:Nat) (K:Rg->Hp->Nat->Option R) (ρ:Rg):Option R:=opE c o ρ h nx fun v up nx'=>fV v fun v=>fHp up fun up=>fN nx' fun nx'=>match o.dst with
 | some d=>bif Nat.blt d c.nt then qIa up h fun h=>K ((d,v) :: ρ) h nx' else none
 | none=>qIa up h fun h=>K ρ h nx'
def qIN (c:Ctx) (o:Oper) (h:Hp) (nx:Nat) (K:Rg->Hp->Nat->Option R) (ρ:Rg):Option R:=match o.dst with
 | some d=>bif Nat.blt d c.nt then K ((d,qCF) :: ρ) h nx else none
 | none=>K ρ h nx
def qFj (c:Ctx) (ops:List Oper) (o:Oper) (ρ:Rg) (h:Hp) (nx:Nat) (K:Rg->Hp->Nat->Option R):Option R:=match o.guard with
 | none=>match o.op with
   | .pick (.tmp t) _ _=>match ρ.get t with
     | .s (.b z)=>br z (qDM c o h nx K ((t,.s (.b true)) :: ρ)) (qDM c o h nx K ((t,.s (.b false)) :: ρ))
     | _=>qDM c o h nx K ρ
   | _=>qDM c o h nx K ρ
 | some (j,want)=>match qEz ops j with
   | none=>qIN c o h nx K ρ
   | some t=>match ρ.get t with
     | .s (.b z)=>br z (bif want then qDM c o h nx K ((t,.s (.b true)) :: ρ) else qIN c o h nx K ((t,.s (.b true)) :: ρ)) (bif want then qIN c o h nx K ((t,.s (.b false)) :: ρ) else qDM c o h nx K ((t,.s (.b false)) :: ρ))
     | .tup []=>qIN c o h nx K ρ
     | _=>none
def qPy (c:Ctx) (ops:List Oper):List Oper->Rg->Hp->Nat->(Rg->Hp->Nat->Option R)->Option R
 | [],ρ,h,nx,K=>K ρ h nx
 | o :: r,ρ,h,nx,K=>qFj c ops o ρ h nx fun ρ h nx=>qPy c ops r ρ h nx K
def Operand.noSl:Operand->Bool
 | .const (.slice _ _ _)=>false
 | _=>true
def qA0:Op->Bool
 | .move x=>Operand.noSl x
 | .assign x=>Operand.noSl x
 | .pick _ x y=>Operand.noSl x&&Operand.noSl y
 | .load _ _=>true
 | .nilCheck _=>true
 | .binOp _ _ _ _ _=>true
 | .unOp _ _ _=>true
 | .convert _ _ _=>true
 | .fieldAddr _ _ _=>true
 | .field _ _ _=>true
 | .indexAddr _ _ _=>true
 | .index _ _ _=>true
 | .extract _ _=>true
 | .slice _ _ _ _ _=>true
 | .makeFunc _ _ _=>true
 | .lookup _ _ _ _=>true
 | .call cl=>match cl.callee with
   | .builtin .len=>true
   | .builtin .min=>true
   | .builtin .max=>true
   | _=>false
 | _=>false
def qBR (ρ:Rg) (o:Oper):List Nat:=o.op.operands.toList.flatMap fun x=>match ev ρ x with
 | .s z=>z.refs
 | _=>[]
def qIo (ρ:Rg) (cl:Call) (caps:List Nat):List V:=(cl.args.toList.map (ev ρ))++caps.map fun q=>.s (.ptr q 0 none 0)
def qAm:Op->Bool
 | .call cl=>match cl.callee with
   | .value _=>true
   | _=>false
 | _=>false
def qBg:Op->Bool
 | .build _ _=>true
 | _=>false
def qAy (ρ:Rg) (h:Hp) (o:Oper):List Nat:=match o.op with
 | .call cl=>match cl.callee with
   | .value f=>match ev ρ f with
     | .s (.fn _ caps)=>qB9 h 64 [] ((qIo ρ cl caps).flatMap V.refs)
     | _=>[]
   | _=>qBR ρ o
 | _=>qBR ρ o
def qC3 (o:Oper) (up:Hp) (nx nx':Nat) (h:Hp) (rd:List Nat):Bool:=
 qA0 o.op||((qAm o.op||qBg o.op)&&up.isEmpty&&Nat.beq nx' nx&&rd.all fun q=>(h.get q).live)
def qA9:List Oper->List Nat->List Nat
 | [],tb=>tb
 | o :: r,tb=>qA9 r (tb++[o.after.toList.foldr (fun e m=>bif Region.binds .any e then m ||| 1 <<< e.on ||| tb.getD e.on 0 else m) 0])
def qAl (ops:List Oper) (o:Oper):List Nat:=
 (o.op.operands.toList.flatMap fun | .tmp t=>[t] | _=>[])++match o.guard with
  | some (g,_)=>(match qEz ops g with
    | some t=>[t]
    | none=>[])
  | none=>[]
def qCL (d:Option Tmp) (l:List Nat):Bool:=match d with
 | some t=>qDG t l
 | none=>false
def qCr (d e:Option Tmp):Bool:=match d,e with
 | some t,some u=>Nat.beq t u
 | _,_=>false
def qLR (ops:List Oper) (x:Oper) (tx:List Nat) (m:Nat):Nat->List Oper->Bool
 | _,[]=>true
 | i,y :: r=>(Nat.testBit m i||(!qCL x.dst (qAl ops y) && !qCL y.dst tx && !qCr x.dst y.dst))&&qLR ops x tx m (i+1) r
def qFu (o:Oper) (i:Nat):Bool:=o.after.toList.all fun e=>!Region.binds .any e||Nat.blt e.on i
def qLS (ops:List Oper) (tb:List Nat):Nat->List Oper->List Oper->Bool
 | _,_,[]=>true
 | i,pre,o :: r=>qFu o i&&qLR ops o (qAl ops o) (tb.getD i 0) 0 pre&&qLS ops tb (i+1) (pre++[o]) r
def qBp:Op->Bool
 | .load _ _=>true
 | .call _=>true
 | .lookup _ _ _ _=>true
 | .convert _ _ _=>true
 | _=>false
def qAD:Obj->Obj->Bool
 | .dead,.dead=>true
 | .cells t l,.cells t' l'=>Nat.beq t t'&&qAI l l'
 | .rcells t l,.rcells t' l'=>Nat.beq t t'&&qAI l l'
 | .sli e ro g,.sli e' ro' g'=>Nat.beq e e'&&(ro==ro')&&g.kin g'
 | .map ka va a b _,.map ka' va' a' b' _=>(ka==ka')&&(va==va')&&decide (a=a')&&decide (b=b')
 | .iter _ _,.iter _ _=>true
 | .maps ka a ks p l,.maps ka' a' ks' p' l'=>(ka==ka')&&decide (a=a')&&decide (ks=ks')&&Nat.beq p p'&&decide (l=l')
 | .pol t ps,.pol t' ps'=>Nat.beq t t'&&decide (ps=ps')
 | _,_=>false
def qJa:Obj->Obj->Bool
 | .maps _ _ _ _ _,_=>false
 | .pol _ _,_=>false
 | x,y=>qAD x y
theorem qpI {x y:Obj} (h:qJa x y=true):qAD x y=true:=by
 unfold qJa at h
 split at h
 ·cases h
 ·cases h
 ·exact h
structure Lg where
 soft:Bool
 deep:Bool
 reads:List Nat
 writes:List Nat
 turned:List Nat
 fr:Bool
 tm:List Nat
 dt:Option Tmp
def Lg.hurts (y:Lg) (deep:Bool):List Nat:=match deep with
 | true=>y.writes
 | false=>y.turned
def qEc (h:Hp):Hp->List Nat
 | []=>[]
 | (k,x) :: r=>bif qJa x (h.get k) then qEc h r else k :: qEc h r
def qGo:List Nat->List Nat->Bool
 | [],_=>true
 | x :: r,l=>!qDG x l&&qGo r l
def qK8 (x:Lg) (m:Nat):Nat->List Lg->Bool
 | _,[]=>true
 | i,y :: r=>(Nat.testBit m i||((x.soft||y.soft||x.fr)&&qGo x.reads (y.hurts x.deep)&&qGo y.reads (x.hurts y.deep)))&&qK8 x m (i+1) r
def qKd (x:Lg) (m:Nat):Nat->Nat->List Lg->Bool
 | _,_,[]=>true
 | i,hm,y :: r=>((!y.fr && !x.fr) || !qCr x.dt y.dt)&&(!y.fr||((Nat.testBit m i&&Nat.beq (hm &&& m) hm)||(!qCL y.dt x.tm&&qGo x.reads (y.hurts x.deep))))&&qKd x m (i+1) (bif y.soft then hm else hm ||| 1 <<< i) r
def qHc (tb:List Nat):Nat->List Lg->List Lg->Bool
 | _,_,[]=>true
 | i,pre,x :: r=>(qK8 x (tb.getD i 0) 0 pre&&qKd x (tb.getD i 0) 0 0 pre)&&qHc tb (i+1) (pre++[x]) r
def qu (o:Oper):Bool:=match o.op,o.guard,o.dst with
 | .alloc _,none,some _=>true
 | .buildSlice _ _ _,none,some _=>true
 | .makeMap _ none,none,some _=>true
 | _,_,_=>false
def qLQ (c:Ctx) (ops:List Oper):List Oper->List Lg->Rg->Hp->Nat->(List Lg->Rg->Hp->Nat->Option R)->Option R
 | [],lg,ρ,h,nx,K=>K lg ρ h nx
 | o :: r,lg,ρ,h,nx,K=>qFj c ops o ρ h nx fun ρ' h' nx'=>
   fNs (qAy ρ h o) fun rd=>fHp (h'.take (h'.length - h.length)) fun up=>fNs (up.map (·.1)) fun wr=>
   qLQ c ops r (lg++[⟨qC3 o up nx nx' h rd,qBp o.op,rd,wr,qEc h up,qu o,qAl ops o,o.dst⟩]) ρ' h' nx' K
def qRr (c:Ctx) (ops:List Oper) (draw:Bool) (ρ:Rg) (h:Hp) (nx:Nat) (K:Rg->Hp->Nat->Option R):Option R:=
 bif draw then fNs (qA9 ops []) fun tb=>
  bif qLS ops tb 0 [] ops then
   qLQ c ops ops [] ρ h nx fun lg ρ h nx=>bif qHc tb 0 [] lg then K ρ h nx else none
  else none
 else qPy c ops ops ρ h nx K
structure St where
 ρ:Rg
 h:Hp
 nx:Nat
def qC9:Code->Option Nat
 | .region id _ _=>some id
 | .seq a b=>match qC9 a with
   | some x=>some x
   | none=>qC9 b
 | .cond _ a b=>match qC9 a with
   | some x=>some x
   | none=>qC9 b
 | .block _ c=>qC9 c
 | .loop c=>qC9 c
 | .scope c=>qC9 c
 | _=>none
def qBw:Nat->Nat->List Nat
 | _,0=>[]
 | a,n+1=>a :: qBw (a+1) n
def qEW (m:Nat) (h:Hp) (nx:Nat) (vs:List V) (K:List Nat->List V->List Obj->Option R):Option R:=
 fNs (qB9 h 64 (qBw 0 m) ((qBw 0 m).flatMap (fun o=>(h.get o).refs)++vs.flatMap V.refs)) fun ks=>
 bif qGB ks&&ks.all (fun o=>Nat.blt o nx)&&qEv ks (vs.flatMap V.refs)&&ks.all (fun o=>qEv ks (h.get o).refs) then
  fVs (vs.map (V.ren fun x=>qAE x ks)) fun vs'=>qIy (cut h ks) fun objs=>K ks vs' objs
 else none
def qKt:List (Nat×List Nat×List Nat)->Nat->Option (List Nat×List Nat)
 | [],_=>none
 | (q,x) :: r,k=>bif Nat.beq q k then some x else qKt r k
def qBE:List Nat->List V->Rg
 | t :: r,v :: l=>(t,v) :: qBE r l
 | _,_=>[]
def qFs:List Nat->Hp
 | []=>[]
 | k :: r=>(k,.dead) :: qFs r
def qeV (m:Nat) (ks kout:List Nat) (h:Hp) (nx:Nat) (vs:List V) (objs:List Obj):St:=
 ⟨qBE kout (vs.map (V.ren (qAC nx (ks.take m)))),qH (ks.take m) nx (objs.map (Obj.ren (qAC nx (ks.take m))))++(qFs (ks.drop m)++h),nx+(objs.length - m)⟩
def wS {α:Type} (s:St) (f:Rg->Hp->Nat->α):α:=match s with
 | ⟨ρ,h,nx⟩=>f ρ h nx
theorem qJw {α:Type} (s:St) (f:Rg->Hp->Nat->α):wS s f=f s.ρ s.h s.nx:=rfl
def fSt {α:Type} (s:St) (K:St->α):α:=fRg s.ρ fun ρ=>fHp s.h fun h=>fN s.nx fun nx=>K ⟨ρ,h,nx⟩
theorem qg1 {α:Type} (s:St) (K:St->α):fSt s K=K s:=by unfold fSt;rw[qVJ,qE0,qCM]
def qPe (c:Ctx) (m:Nat) (b:Code) (s:St) (K:Ex->St->Option R):Option R:=match qC9 b with
 | some q=>match qKt c.keeps q with
   | some (kin,kout)=>wS s fun ρ h nx=>qEW m h nx (kin.map ρ.get) fun ks vs objs=>
     c.lp q vs objs fun e vs' objs'=>bif Nat.ble m objs'.length then fSt (qeV m ks kout h nx vs' objs') fun s=>K e s else none
   | none=>none
 | none=>none
def qDe (c:Ctx) (m:Nat):Code->St->(Ex->St->Option R)->Option R
 | .skip,s,K=>K .normal s
 | .region _ ops draw,s,K=>wS s fun ρ h nx=>qRr c ops.toList draw ρ h nx fun ρ h nx=>K .normal ⟨ρ,h,nx⟩
 | .seq a b,s,K=>qDe c m a s fun e s'=>match e with
   | .normal=>qDe c m b s' K
   | e=>K e s'
 | .cond x a b,s,K=>match x with
   | .tmp t=>wS s fun ρ h nx=>match ρ.get t with
     | .s (.b z)=>br z (qDe c m a ⟨(t,.s (.b true)) :: ρ,h,nx⟩ K) (qDe c m b ⟨(t,.s (.b false)) :: ρ,h,nx⟩ K)
     | _=>none
   | _=>none
 | .block id b,s,K=>qDe c m b s fun e s'=>match e with
   | .exit j=>bif Nat.beq j id then K .normal s' else K (.exit j) s'
   | e=>K e s'
 | .loop b,s,K=>qPe c m b s K
 | .exit j,s,K=>K (.exit j) s
 | .ret,s,K=>K .ret s
 | _,_,_=>none
def qh (c:Ctx) (m:Nat) (kin kout:List Nat) (b:Code):Nat->List V->List Obj->(Ex->List V->List Obj->Option R)->Option R
 | 0,_,_,_=>none
 | f+1,vs,objs,K=>qDe c m b ⟨qBE kin vs,qH [] 0 objs,objs.length⟩ fun e s=>wS s fun ρ h nx=>match e with
   | .normal=>qEW m h nx (kin.map ρ.get) fun _ vs' objs'=>qh c m kin kout b f vs' objs' K
   | e=>qEW m h nx (kout.map ρ.get) fun _ vs' objs'=>K e vs' objs'
def qGW (c:Ctx) (s:St):List ResultVar->Option (List W)
 | []=>some []
 | .tmp t :: r=>match (s.ρ.get t).w?,qGW c s r with
   | some w,some l=>some (w :: l)
   | _,_=>none
 | .cell a t :: r=>match s.ρ.get a with
   | .s (.ptr ob sg row col)=>match s.h.get ob,c.tab.get t with
     | .cells _ g,some L=>match loadAt g sg row col L with
       | some v=>match v.w?,qGW c s r with
         | some w,some l=>some (w :: l)
         | _,_=>none
       | none=>none
     | _,_=>none
   | _=>none
def one?:List W->V
 | [w]=>w.v
 | l=>.tup l
def fnE (c:Ctx) (fn:Func) (args:List V) (objs:List Obj) (K:V->List Obj->Option R):Option R:=match fn.body with
 | none=>none
 | some b=>bif Nat.beq fn.ntmps c.nt&&Nat.ble args.length c.nt then
   qDe c objs.length b ⟨qBE (qBw 0 args.length) args,qH [] 0 objs,objs.length⟩ fun e s=>wS s fun ρ h nx=>match e with
    | .exit _=>none
    | _ => match qGW c ⟨ρ,h,nx⟩ fn.results.toList with
      | some l=>qEW objs.length h nx [one? l] fun _ vs objs'=>match vs with
        | [v]=>K v objs'
        | _=>none
      | none=>none
   else none
end
end Go.Kk
