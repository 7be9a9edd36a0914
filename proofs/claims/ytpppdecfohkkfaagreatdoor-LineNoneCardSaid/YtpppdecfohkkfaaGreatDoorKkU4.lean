/- What the program's functions come to, told plainly: the texts of this project that this claim leans on, cut down to what is used. -/
import Derived.Test.YtpppdecfohkkfaaGreatDoorKkU3
import Derived.Test.YtpppdecfohkkfaaGreatDoorKkU2
namespace Go.Kk.Pl
def fl9 (a:Int):Int:=if 49<=a /\ a<=57 then a - 49 else -1
def rk9 (b:Int):Int:=if 97<=b /\ b<=105 then b - 97 else -1
def kd7 (a:Int):Int:=if a=80 then 0 else if a=76 then 1 else if a=78 then 2 else if a=83 then 3 else if a=71 then 4 else if a=66 then 5 else if a=82 then 6 else -1
def sq2 (a b:Int):Int:=if fl9 a<0 \/ rk9 b<0 then -1 else 9*fl9 a+rk9 b
def qC6:Int×Int×Int×Bool×Int:=(0,0,0,false,70)
def pI:List Int->Int×Int×Int×Bool×Int
 | [a,b,c,d]=>if b=42 then (if kd7 a<0 \/ sq2 c d<0 then qC6 else (0,sq2 c d,kd7 a+1,false,0)) else (if sq2 a b<0 \/ sq2 c d<0 \/ sq2 a b=sq2 c d then qC6 else (sq2 a b,sq2 c d,0,false,0))
 | [a,b,c,d,e]=>if b=42 then qC6 else (if sq2 a b<0 \/ sq2 c d<0 \/ sq2 a b=sq2 c d \/ e≠43 then qC6 else (sq2 a b,sq2 c d,0,true,0))
 | _=>qC6
theorem pI4 (a b c d:Int):pI [a,b,c,d]=if b=42 then (if kd7 a<0 \/ sq2 c d<0 then qC6 else (0,sq2 c d,kd7 a+1,false,0)) else (if sq2 a b<0 \/ sq2 c d<0 \/ sq2 a b=sq2 c d then qC6 else (sq2 a b,sq2 c d,0,false,0)):=rfl
theorem pI5 (a b c d e:Int):pI [a,b,c,d,e]=if b=42 then qC6 else (if sq2 a b<0 \/ sq2 c d<0 \/ sq2 a b=sq2 c d \/ e≠43 then qC6 else (sq2 a b,sq2 c d,0,true,0)):=rfl
theorem qJD {L:List Int} (h4:L.length≠4) (h5:L.length≠5):pI L=qC6:=by
 match L,h4,h5 with
 | [],_,_=>rfl
 | [_],_,_=>rfl
 | [_,_],_,_=>rfl
 | [_,_,_],_,_=>rfl
 | [_,_,_,_],h4,_=>exact absurd rfl h4
 | [_,_,_,_,_],_,h5=>exact absurd rfl h5
 | _ :: _ :: _ :: _ :: _ :: _ :: _,_,_=>rfl
theorem qis (a:Int):-1<=fl9 a /\ fl9 a<=8 /\ (128<=a->fl9 a = -1):=by unfold fl9;split<;>omega
theorem qqf (a:Int):-1<=rk9 a /\ rk9 a<=8 /\ (128<=a->rk9 a = -1):=by unfold rk9;split<;>omega
theorem qWd (a:Int):-1<=kd7 a /\ kd7 a<=6 /\ (128<=a->kd7 a = -1):=by
 unfold kd7
 repeat' split
 all_goals omega
theorem qJd (a b:Int):-1<=sq2 a b /\ sq2 a b<=80 /\ (128<=a \/ 128<=b->sq2 a b = -1):=by
 have h1:=qis a
 have h2:=qqf b
 unfold sq2
 split<;>omega
theorem qZM {L:List Int} {r:Int} (hr:r∈L) (h:128<=r):pI L=qC6:=by
 by_cases h4:L.length=4
 ·match L,h4 with
  | [a,b,c,d],_=>
    have s1:=qJd a b
    have s2:=qJd c d
    have k1:=qWd a
    simp only [List.mem_cons,List.not_mem_nil,or_false] at hr
    rw [pI4]
    by_cases hb:b=42
    ·rw [if_pos hb,if_pos (by omega)]
    ·rw [if_neg hb,if_pos (by omega)]
 ·by_cases h5:L.length=5
  ·match L,h5 with
   | [a,b,c,d,e],_=>
     have s1:=qJd a b
     have s2:=qJd c d
     simp only [List.mem_cons,List.not_mem_nil,or_false] at hr
     rw [pI5]
     by_cases hb:b=42
     ·rw [if_pos hb]
     ·rw [if_neg hb,if_pos (by omega)]
  ·exact qJD h4 h5
theorem qHf {a b:Int} (ha:0<=a /\ a<=2147483647) (hb:0<=b /\ b<=2147483647):qDA a b=some (sq2 a b,decide (sq2 a b >= 0)):=by
 have w:∀ {n:Int},0<=n+1000->n<=2147483647->conv .i32 .i64 (IntKind.wrap .i32 n)=n:=by
  intro n h1 h2
  have e1:IntKind.wrap .i32 n=n:=qA9 (by show (-2147483648:Int)<=n;omega) (by show n<=(2147483647:Int);omega)
  rw [e1]
  have e2:IntKind.wrap .i64 n=n:=qMq (by omega) (by omega)
  unfold conv
  cases IntKind.within .i32 .i64 with
  | true=>rfl
  | false=>exact e2
 unfold qDA qCD
 rw [w (n:=a - 49) (by omega) (by omega),w (n:=b - 97) (by omega) (by omega)]
 have h:(br (decide (a - 49<0)) (some (-1)) (br (decide (a - 49>8)) (some (-1)) (br (decide (b - 97<0)) (some (-1)) (br (decide (b - 97>8)) (some (-1)) (some (IntKind.wrap .i64 (IntKind.wrap .i64 (9*(a - 49))+(b - 97))))))))=some (sq2 a b):=by
  unfold sq2 fl9 rk9
  by_cases g1:a - 49<0
  ·rw [qi g1,if_neg (c:=49<=a /\ a<=57) (by omega),if_pos (.inl (by omega))]
  ·rw [qY g1]
   by_cases g2:a - 49>8
   ·rw [qD (by simpa using g2),if_neg (c:=49<=a /\ a<=57) (by omega),if_pos (.inl (by omega))]
   ·rw [qH (by simpa using g2)]
    by_cases g3:b - 97<0
    ·rw [qi g3,if_neg (c:=97<=b /\ b<=105) (by omega),if_pos (.inr (by omega))]
    ·rw [qY g3]
     by_cases g4:b - 97>8
     ·rw [qD (by simpa using g4),if_neg (c:=97<=b /\ b<=105) (by omega),if_pos (.inr (by omega))]
     ·rw [qH (by simpa using g4),if_pos (c:=49<=a /\ a<=57) (by omega),if_pos (c:=97<=b /\ b<=105) (by omega),if_neg (by omega),w_s (n:=9*(a - 49)) (by omega) (by omega),w_s (by omega) (by omega)]
 rw [h,qA]
def qK2:ByteArray:={data:=#[32,80,76,78,83,71,66,82,75]}
theorem qlD:∀ k,k<9->qAW qK2 k<128 /\ qBg qK2 k=1:=by decide +kernel
theorem qml {r:Int} (hr:128<=r) (s:Int):∀ (n i:Nat),i+n=9->∀ F,qDn (F+n+1) r false s qK2 i=some (.inr ()):=by
 intro n
 induction n with
 | zero=>
   intro i hi F
   rw [qDn.eq_2]
   unfold qLc
   rw [qH (by rw [show i=9 by omega];rfl)]
 | succ n ih=>
   intro i hi F
   obtain ⟨d1,d2⟩:=qlD i (by omega)
   rw [qDn.eq_2]
   unfold qLc
   rw [qD (by rw [Nat.blt_eq];show i<9;omega),d2]
   by_cases h0:i=0
   ·subst h0
    rw [qD (by rfl)]
    exact ih 1 (by omega) F
   ·rw [qH (by rw [beq_eq_false_iff_ne];simp only [Int.ofNat_eq_natCast];omega),qD (by rw [bne_iff_ne];omega)]
    exact ih (i+1) (by omega) F
def qUu (n:Nat):Bool:=match qFN (Int.ofNat n) false with
 | some v=>(match qAL v with
   | some sd=>bif decide (kd7 (Int.ofNat n)<0) then (sd != 0||v==8) else (sd==0&&(v != 8&&v==kd7 (Int.ofNat n)+1))
   | none=>false)
 | none=>false
theorem qhu:∀ n,n<128->qUu n=true:=by decide +kernel
theorem qZs {r:Int} (hr:0<=r):∃ v sd,qFN r false=some v /\ qAL v=some sd /\ (kd7 r<0->sd≠0 \/ v=8) /\ (0<=kd7 r->sd=0 /\ v≠8 /\ v=kd7 r+1):=by
 by_cases h:r<128
 ·obtain ⟨n,rfl⟩:∃ n:Nat,r=Int.ofNat n:=⟨r.toNat,by simp only [Int.ofNat_eq_natCast];omega⟩
  have hn:n<128:=by simp only [Int.ofNat_eq_natCast] at h;omega
  have hc:=qhu n hn
  unfold qUu at hc
  split at hc
  ·rename_i v hv
   split at hc
   ·rename_i sd hs
    refine ⟨v,sd,hv,hs,fun hk=>?_,fun hk=>?_⟩
    ·rw [decide_eq_true hk] at hc
     simp only [cond_true,Bool.or_eq_true,bne_iff_ne,beq_iff_eq] at hc
     exact hc
    ·rw [decide_eq_false (by omega)] at hc
     simp only [cond_false,Bool.and_eq_true,bne_iff_ne,beq_iff_eq] at hc
     exact hc
   ·cases hc
  ·cases hc
 ·have hk:=(qWd r).2.2 (by omega)
  have hg:qDn qB r false 0 qK2 0=some (.inr ()):=by
   obtain ⟨g,hg⟩:=qk 9 (by omega)
   have:=qml (r:=r) (by omega) 0 9 0 (by omega) g
   rw [<- hg] at this
   exact this
  refine ⟨0,-1,?_,by rfl,fun _=>.inl (by decide),fun h=>by omega⟩
  unfold qFN
  rw [qD (by simp;omega),qH (by simp;omega)]
  refine (congrArg (fun m=>ob m _) hg).trans ?_
  rfl
theorem qqw:Utf8.runeError=65533:=rfl
theorem qiB {s:ByteArray} {i:Nat} (h:128<=(s.get! i).toNat):128<=(Utf8.decode s i).1:=by
 unfold Utf8.decode
 simp only [Nat.add_zero,qqw]
 rw [if_neg (by omega)]
 repeat' split
 all_goals (try simp only [ge_iff_le,Bool.and_eq_true,decide_eq_true_eq] at *)
 all_goals omega
theorem qcK (s:ByteArray) (pos:Nat):0<=qAW s pos /\ qAW s pos<=2147483647:=by
 unfold qAW
 refine ⟨Int.natCast_nonneg _,?_⟩
 have : (Utf8.decode s pos).1<=2147483647:=by
  unfold Utf8.decode
  have h0:=UInt8.toNat_lt (s.get! (pos+0))
  simp only [Utf8.runeError]
  split
  ·simp only;omega
  ·split
   ·split
    ·simp only;omega
    ·simp
   ·split
    ·split
     ·simp only;omega
     ·simp
    ·split
     ·split
      ·simp only;omega
      ·simp
     ·simp
 have e:Int.ofNat (Utf8.decode s pos).1=((Utf8.decode s pos).1:Int):=rfl
 omega
theorem qqc (x:List UInt8):∀ (n:Nat) (L:List Int) (pos:Nat),L.length+n=6->(∀ r∈L,0<=r /\ r<=2147483647)->∀ F,∃ L',(L++L').length<=6 /\ (∀ r∈L++L',0<=r /\ r<=2147483647) /\
  qBC (F+n+1) L.length 0 0 0 false L.length L (bts x) pos=some ((L++L').length,0,0,0,false,(L++L').length,L++L'):=by
 intro n
 induction n with
 | zero=>
   intro L pos hL hr F
   refine ⟨[],by simp;omega,by simpa using hr,?_⟩
   rw [qBC.eq_2]
   unfold qCR
   rw [qD (b:=(Int.ofNat L.length==6)) (by rw [beq_iff_eq];simp only [Int.ofNat_eq_natCast];omega),List.append_nil]
   cases Nat.blt pos (bts x).size<;>rfl
 | succ n ih=>
   intro L pos hL hr F
   by_cases hp:Nat.blt pos (bts x).size=true
   ·have hd:=qcK (bts x) pos
    obtain ⟨L',h1,h2,h3⟩:=ih (L++[qAW (bts x) pos]) (pos+qBg (bts x) pos) (by simp;omega) (fun r hm=>by
     rcases List.mem_append.1 hm with hm | hm
     ·exact hr r hm
     ·simp at hm;subst hm;exact hd) F
    refine ⟨qAW (bts x) pos :: L',by simpa using h1,by simpa using h2,?_⟩
    rw [qBC.eq_2]
    unfold qCR
    rw [qD hp,qH (by rw [beq_eq_false_iff_ne];simp only [Int.ofNat_eq_natCast];omega),qC0 (by omega)]
    have e:List.append (List.take L.length L) [qAW (bts x) pos]=L++[qAW (bts x) pos]:=by rw [List.take_length];rfl
    rw [e]
    have el:(L++[qAW (bts x) pos]).length=L.length+1:=by simp
    rw [el] at h3
    refine h3.trans ?_
    simp
   ·refine ⟨[],by simp;omega,by simpa using hr,?_⟩
    rw [qBC.eq_2]
    unfold qCR
    rw [qH (by rw [Bool.eq_false_iff];exact hp),List.append_nil]
theorem qF5 (x:List UInt8):(qo x).length=x.length:=by simp [qo]
theorem qOp (x:List UInt8):∀ r∈qo x,0<=r /\ r<=2147483647:=by
 intro r hr
 obtain ⟨b,_,rfl⟩:=List.mem_map.1 hr
 have:=UInt8.toNat_lt b
 simp only [Int.ofNat_eq_natCast]
 omega
theorem qqx (x:List UInt8):∀ (n i:Nat),i+n=6->i<=x.length->∀ F,∃ L,L.length<=6 /\ (∀ r∈L,0<=r /\ r<=2147483647) /\
  qBC (F+n+1) i 0 0 0 false i (qo (x.take i)) (bts x) i=some (L.length,0,0,0,false,L.length,L) /\ (L=qo (x.take 6) \/ ((∃ r∈L,128<=r) /\ ∃ r∈qo (x.take 6),128<=r)):=by
 intro n
 induction n with
 | zero=>
   intro i hi hx F
   have hl:(qo (x.take i)).length=i:=by rw [qF5,List.length_take];omega
   refine ⟨qo (x.take i),by omega,qOp _,?_,.inl (by rw [show i=6 by omega])⟩
   rw [qBC.eq_2]
   unfold qCR
   rw [qD (b:=(Int.ofNat i==6)) (by rw [beq_iff_eq];simp only [Int.ofNat_eq_natCast];omega),hl]
   cases Nat.blt i (bts x).size<;>rfl
 | succ n ih=>
   intro i hi hx F
   have hl:(qo (x.take i)).length=i:=by rw [qF5,List.length_take];omega
   by_cases hlt:i<x.length
   ·by_cases ha:x[i].toNat<128
    ·obtain ⟨L,h1,h2,h3,h4⟩:=ih (i+1) (by omega) (by omega) F
     refine ⟨L,h1,h2,?_,h4⟩
     have hd:Utf8.decode (bts x) i=(x[i].toNat,1):=by
      rw [qU9 (by rw [qIu hlt];exact ha),qIu hlt]
     rw [qBC.eq_2]
     unfold qCR
     rw [qD (by rw [Nat.blt_eq];exact hlt),qH (by rw [beq_eq_false_iff_ne];simp only [Int.ofNat_eq_natCast];omega),qC0 (by omega)]
     unfold qAW qBg
     rw [hd]
     have e2:List.append (List.take i (qo (List.take i x))) [Int.ofNat x[i].toNat]=qo (x.take (i+1)):=by
      unfold qo
      rw [List.take_of_length_le (by simp;omega),List.append_eq,List.take_succ_eq_append_getElem hlt,List.map_append]
      rfl
     show qBC (F+(n+1)) (i+1) 0 0 0 false (i+1) (List.append (List.take i (qo (List.take i x))) [Int.ofNat x[i].toNat]) (bts x) (i+1)=_
     rw [e2]
     exact h3
    ·have hge:(128:Int)<=qAW (bts x) i:=by
      have:=qiB (s:=bts x) (i:=i) (by rw [qIu hlt];omega)
      unfold qAW
      simp only [Int.ofNat_eq_natCast]
      omega
     have hd:=qcK (bts x) i
     obtain ⟨L',h1,h2,h3⟩:=qqc x n (qo (x.take i)++[qAW (bts x) i]) (i+qBg (bts x) i) (by simp [hl];omega) (fun r hm=>by
      rcases List.mem_append.1 hm with hm | hm
      ·exact qOp _ r hm
      ·simp at hm;subst hm;exact hd) F
     refine ⟨_,h1,h2,?_,.inr ⟨⟨qAW (bts x) i,by simp,hge⟩,Int.ofNat x[i].toNat,?_,by simp only [Int.ofNat_eq_natCast];omega⟩⟩
     ·rw [qBC.eq_2]
      unfold qCR
      rw [qD (by rw [Nat.blt_eq];exact hlt),qH (by rw [beq_eq_false_iff_ne];simp only [Int.ofNat_eq_natCast];omega),qC0 (by omega)]
      have e:List.append (List.take i (qo (x.take i))) [qAW (bts x) i]=qo (x.take i)++[qAW (bts x) i]:=by rw [List.take_of_length_le (by omega)];rfl
      rw [e]
      have el:(qo (x.take i)++[qAW (bts x) i]).length=i+1:=by simp [hl]
      rw [el] at h3
      exact h3
     ·refine List.mem_map.2 ⟨x[i],?_,rfl⟩
      have:(x.take 6)[i]'(by simp;omega)=x[i]:=List.getElem_take
      rw [<- this]
      exact List.getElem_mem _
   ·refine ⟨qo (x.take i),by omega,qOp _,?_,.inl (by rw [List.take_of_length_le (by omega),List.take_of_length_le (by omega)])⟩
    rw [qBC.eq_2]
    unfold qCR
    rw [qH (by rw [Bool.eq_false_iff,ne_eq,Nat.blt_eq,qDI];omega),hl]
theorem qY0 {x:List UInt8} (hl:x.length<=1000000):qDk (bts x)=some (pI (qo x)):=by
 obtain ⟨g,hg⟩:=qk 6 (by omega)
 obtain ⟨L,h1,h2,h3,h4⟩:=qqx x 6 0 (by omega) (by omega) g
 rw [<- hg] at h3
 have hpi:pI (qo x)=pI L:=by
  rcases h4 with h4 | ⟨⟨r,hr,hr1⟩,r',hr',hr2⟩
  ·by_cases h6:x.length<=6
   ·rw [h4,List.take_of_length_le h6]
   ·have e:(qo (x.take 6)).length=6:=by rw [qF5,List.length_take];omega
    rw [h4,qJD (L:=qo x) (by rw [qF5];omega) (by rw [qF5];omega),qJD (by omega) (by omega)]
  ·rw [qZM hr hr1,qZM (L:=qo x) (r:=r') _ hr2]
   obtain ⟨b,hb,rfl⟩:=List.mem_map.1 hr'
   exact List.mem_map.2 ⟨b,List.mem_of_mem_take hb,rfl⟩
 rw [hpi]
 unfold qDk
 rw [qD (qSX hl)]
 refine (congrArg (fun m=>ob m _) h3).trans ?_
 rw [qA]
 simp only
 by_cases l4:L.length=4
 ·match L,l4,h2 with
  | [a, b,c,d],_,h2=>
    have ra:=h2 a (by simp)
    have rb:=h2 b (by simp)
    have rc:=h2 c (by simp)
    have rd:=h2 d (by simp)
    rw [qH (by rfl),qD (by rfl)]
    simp only [List.getD_cons_zero,List.getD_cons_succ]
    rw [pI4]
    by_cases hb:b=42
    ·obtain ⟨v,sd,p1,p2,p3,p4⟩:=qZs ra.1
     have s2:=qJd c d
     rw [qD (by simpa using hb),if_pos hb,qD (by rfl),p1,qA,qD (by rfl),qD (by rfl),qHf rc rd,qA]
     simp only
     rw [p2,qA]
     by_cases g1:kd7 a<0
     ·rw [if_pos (.inl g1)]
      rcases p3 g1 with h | h
      ·rw [qD (by simpa using h)];rfl
      ·by_cases hs:sd=0
       ·rw [qH (by simpa using hs),qD (by simpa using h)];rfl
       ·rw [qD (by simpa using hs)];rfl
     ·obtain ⟨q1,q2,q3⟩:=p4 (by omega)
      rw [qH (by simpa using q1),qH (by simpa using q2)]
      by_cases g2:sq2 c d<0
      ·rw [if_pos (.inr g2),decide_eq_false (p:=sq2 c d >= 0) (by omega),qD (by rfl)];rfl
      ·rw [if_neg (by omega),decide_eq_true (p:=sq2 c d >= 0) (by omega),qH (by rfl),qH (by rfl),q3]
    ·rw [qH (by simpa using hb),if_neg hb,qD (by rfl),qD (by rfl),qHf ra rb,qA]
     simp only
     rw [qD (by rfl),qD (by rfl),qHf rc rd,qA]
     simp only
     by_cases g1:sq2 a b<0
     ·rw [if_pos (.inl g1),decide_eq_false (p:=sq2 a b >= 0) (by omega),qD (by rfl)];rfl
     ·by_cases g2:sq2 c d<0
      ·rw [if_pos (.inr (.inl g2)),decide_eq_true (p:=sq2 a b >= 0) (by omega),decide_eq_false (p:=sq2 c d >= 0) (by omega),qH (by rfl),qD (by rfl)];rfl
      ·rw [decide_eq_true (p:=sq2 a b >= 0) (by omega),decide_eq_true (p:=sq2 c d >= 0) (by omega),qH (by rfl),qH (by rfl)]
       by_cases g3:sq2 a b=sq2 c d
       ·rw [if_pos (.inr (.inr g3)),qD (by simpa using g3)];rfl
       ·rw [if_neg (by omega),qH (by simpa using g3),qH (by rfl)]
        rfl
 ·by_cases l5:L.length=5
  ·match L,l5,h2 with
   | [a, b,c,d,e],_,h2=>
     have ra:=h2 a (by simp)
     have rb:=h2 b (by simp)
     have rc:=h2 c (by simp)
     have rd:=h2 d (by simp)
     rw [qD (by rfl),qH (by rfl),qD (by rfl)]
     simp only [List.getD_cons_zero,List.getD_cons_succ]
     rw [pI5]
     by_cases hb:b=42
     ·obtain ⟨v,sd,p1,p2,p3,p4⟩:=qZs ra.1
      rw [qD (by simpa using hb),if_pos hb,qD (by rfl),p1,qA,qD (by rfl),qD (by rfl),qHf rc rd,qA]
      simp only
      rw [p2,qA]
      by_cases hs:sd=0
      ·rw [qH (by simpa using hs)]
       by_cases hv:v=8
       ·rw [qD (by simpa using hv)];rfl
       ·rw [qH (by simpa using hv)]
        cases decide (sq2 c d >= 0)<;>rfl
      ·rw [qD (by simpa using hs)];rfl
     ·rw [qH (by simpa using hb),if_neg hb,qD (by rfl),qD (by rfl),qHf ra rb,qA]
      simp only
      rw [qD (by rfl),qD (by rfl),qHf rc rd,qA]
      simp only
      by_cases g1:sq2 a b<0
      ·rw [if_pos (.inl g1),decide_eq_false (p:=sq2 a b >= 0) (by omega),qD (by rfl)];rfl
      ·by_cases g2:sq2 c d<0
       ·rw [if_pos (.inr (.inl g2)),decide_eq_true (p:=sq2 a b >= 0) (by omega),decide_eq_false (p:=sq2 c d >= 0) (by omega),qH (by rfl),qD (by rfl)];rfl
       ·rw [decide_eq_true (p:=sq2 a b >= 0) (by omega),decide_eq_true (p:=sq2 c d >= 0) (by omega),qH (by rfl),qH (by rfl)]
        by_cases g3:sq2 a b=sq2 c d
        ·rw [if_pos (.inr (.inr (.inl g3))),qD (by simpa using g3)];rfl
        ·rw [qH (by simpa using g3),qD (by rfl),qD (by rfl)]
         by_cases g4:e=43
         ·rw [if_neg (by omega),qH (by rw [g4];rfl)]
          rfl
         ·rw [if_pos (.inr (.inr (.inr g4))),qD (by simpa using g4)];rfl
  ·rw [qJD l4 l5,qD (by rw [bne_iff_ne];simp only [Int.ofNat_eq_natCast];omega),qD (by rw [bne_iff_ne];simp only [Int.ofNat_eq_natCast];omega)]
   rfl
end Go.Kk.Pl
namespace Go.Kk.Pl
theorem qhw {b:List Int} (hc:Clean b) {s:Int} (hs:s=0 \/ s=1) {k':Nat} (hk':KS b (1 - s) k') (hno:inC b (1 - s)=false) {q:Int} (hq:0<=q /\ q<81) (h0:at_ b q=0) {c:Nat} (hcc:c<81) (hch:chs (pb b s q) (1 - s) c=true):c=q.toNat:=by
 have hs':1 - s=0 \/ 1 - s=1:=by omega
 have hP:=qQM hs hq h0
 have hk2:KS (pb b s q) (1 - s) k':=by rw [qGD];exact qKt hc hs hP hk'
 apply Classical.byContradiction
 intro hne
 rw [qE3 hs' (hk2.kg hs') hk2.1] at hch
 have hg:(pb b s q).getD c 0=b.getD c 0:=by
  rw [qGD,qER hc hs hP hcc,if_neg hne,if_neg (by simp)]
 have ha:atk b (1 - s) k' c=true:=by
  simp only [atk,enm,Bool.and_eq_true] at hch ⊢
  rw [hg] at hch
  refine ⟨hch.1,?_⟩
  rw [qBz] at hch ⊢
  refine hch.2.imp id fun hh=>⟨hh.1,fun i hi=>?_⟩
  have:=hh.2 i hi
  rw [qGD,qSr hc hs hP (qIc hcc hk'.1 hi)] at this
  unfold tk2 fof at this
  simp only [Bool.or_eq_false_iff,decide_eq_false_iff_not] at this
  have h2:=this.2
  rw [if_neg (by simp),decide_eq_false this.1] at h2
  simpa using h2
 unfold inC at hno
 have hE:isE (chs b (1 - s))=true:=by simpa using hno
 have:=qCm.mp hE c hcc
 rw [qE3 hs' (hk'.kg hs') hk'.1,ha] at this
 cases this
theorem ql3 {b:List Int} (hc:Clean b) {s:Int} (hs:s=0 \/ s=1) {k':Nat} (hk':KS b (1 - s) k') (hno:inC b (1 - s)=false) {q:Int} (hq:0<=q /\ q<81) (h0:at_ b q=0) (hh:List Int):
  pmS b s q=(inC (pb b s q) (1 - s)&&qSm (pb b s q) hh (1 - s)):=by
 have hs':1 - s=0 \/ 1 - s=1:=by omega
 have hP:=qQM hs hq h0
 have hk2:KS (pb b s q) (1 - s) k':=by rw [qGD];exact qKt hc hs hP hk'
 have hc2:Clean (pb b s q):=hc.put q _
 have hq81:q.toNat<81:=by omega
 have e1:inC (pb b s q) (1 - s)=chs (pb b s q) (1 - s) q.toNat:=by
  unfold inC
  cases hch:chs (pb b s q) (1 - s) q.toNat with
  | true=>
    cases hE:isE (chs (pb b s q) (1 - s)) with
    | false=>rfl
    | true=>rw [qCm.mp hE _ hq81] at hch;cases hch
  | false=>
    have:isE (chs (pb b s q) (1 - s))=true:=by
     rw [qCm]
     intro i hi
     cases hx:chs (pb b s q) (1 - s) i with
     | false=>rfl
     | true=>rw [qhw hc hs hk' hno hq h0 hi hx] at hx;rw [hx] at hch;cases hch
    rw [this];rfl
 unfold pmS
 rw [decide_eq_true hq,decide_eq_true h0,Bool.true_and,Bool.true_and,e1]
 cases hch:chs (pb b s q) (1 - s) q.toNat with
 | false=>rfl
 | true =>
   rw [Bool.true_and,Bool.true_and]
   unfold qSm
   rw [show mvs (pb b s q) hh (1 - s)=qx (pb b s q) (1 - s) T_++qAS (pb b s q) hh (1 - s) T_ from rfl,List.all_append]
   have hB:((qx (pb b s q) (1 - s) T_).all fun m=>!g1 (pb b s q) (1 - s) m)=(qx (pb b s q) (1 - s) T_).all fun m=>!qDF (pb b s q) (1 - s) m:=by
    rw [Bool.eq_iff_iff,List.all_eq_true,List.all_eq_true]
    have:∀ m∈qx (pb b s q) (1 - s) T_,g1 (pb b s q) (1 - s) m=qDF (pb b s q) (1 - s) m:=by
     intro m hm
     obtain ⟨_,a2,a3⟩:=qLO hc2 hh hs' hm
     have:=qL6 hc2 hs' (qHe a2).2 hk2
     unfold qDF mbM g1
     rw [this,if_pos a3]
    constructor
    ·intro h m hm;rw [<- this m hm];exact h m hm
    ·intro h m hm;rw [this m hm];exact h m hm
   have hD:((qAS (pb b s q) hh (1 - s) T_).all fun m=>!qDF (pb b s q) (1 - s) m)=true:=by
    rw [List.all_eq_true]
    intro m hm
    obtain ⟨_,a2,_,a4,_,_⟩:=qP7 hc2 hs' hm
    have hPm:=(qHe a2).2
    have:=qL6 hc2 hs' hPm hk2
    unfold qDF mbM
    rw [this,if_neg (by omega),Bool.not_eq_true']
    cases ho:qw (pb b s q) (1 - s) (m1 m).toNat with
    | false=>rfl
    | true=>
      exfalso
      rw [qJB hs' hk2] at ho
      rw [qE3 hs' (hk2.kg hs') hk2.1] at hch
      have hgq:(pb b s q).getD q.toNat 0=16*s+1:=by
       rw [qGD,qER hc hs hP hq81,if_pos rfl]
       unfold laid
       rw [if_pos (by simp)]
      rcases ho _ hq81 hch with h1 | h1
      ·have h2:=(hPm.drop (by omega)).2.2.2.2.2
       rw [qBJ hPm.to_,h1,hgq] at h2
       omega
      ·simp only [atk,Bool.and_eq_true] at hch
       rcases qBz.mp hch.2 with h2 | h2
       ·rw [qMZ h2] at h1;cases h1
       ·have h3:=of_decide_eq_true h2.1
        rw [hgq,qHL hs (by omega) (by omega) (by omega)] at h3
        unfold slK at h3
        omega
   rw [hB,hD,Bool.and_true]
theorem qGF {b h:List Int} {s:Int} (hl:b.length=81) (hz:qCK b h s=0):Clean b /\ (s=0 \/ s=1) /\ inC b (1 - s)=false /\ ∃ k k',KS b s k /\ KS b (1 - s) k':=by
 have h1:qAx b h s=0 /\ inC b (1 - s)=false:=by
  unfold qCK at hz
  split at hz
  ·rename_i h;exact absurd hz h
  ·rename_i h
   refine ⟨by simpa using h,?_⟩
   cases hi:inC b (1 - s) with
   | false=>rfl
   | true=>rw [hi] at hz;simp at hz
 obtain ⟨hc,hs⟩:=qIi hl h1.1
 obtain ⟨k,hk⟩:=qKu h1.1 hs
 obtain ⟨k',hk'⟩:=qKu h1.1 (s:=1 - s) (by omega)
 exact ⟨hc,hs,h1.2,k,k',hk,hk'⟩
theorem qYK {b:List Int} (hc:Clean b) (h:List Int) {s:Int} (hs:s=0 \/ s=1) (hno:inC b (1 - s)=false) {k k':Nat} (hk:KS b s k) (hk':KS b (1 - s) k'):lgL b h s=rlL b h s:=by
 unfold lgL rlL
 rw [show mvs b h s=qx b s T_++qAS b h s T_ from rfl,List.filter_append,qP9,List.filter_filter]
 congr 1
 ·apply List.filter_congr
  intro m hm
  obtain ⟨_,a2,a3⟩:=qLO hc h hs hm
  have:=qL6 hc hs (qHe a2).2 hk
  unfold qI0 qDF mbM g1
  rw [this,if_pos a3,decide_eq_true (p:=m2 m≠1) (by omega),Bool.true_or,Bool.and_true]
 ·apply List.filter_congr
  intro m hm
  obtain ⟨_,a2,a3,a4,a5,a6⟩:=qP7 hc hs hm
  have hP:=(qHe a2).2
  have:=qL6 hc hs hP hk
  unfold qI0 qDF g2
  rw [show inC (mbM b s m) s=inC (mb b s (m0 m) (m1 m) (m2 m) (m3 m)) s from rfl,this,if_neg (by omega)]
  cases ho:qw b s (m1 m).toNat with
  | false=>simp
  | true=>
    rw [Bool.and_true,Bool.true_and]
    by_cases hd:m2 m=1
    ·have hdr:=hP.drop (by omega)
     rw [decide_eq_true hd,decide_eq_false (p:=m2 m≠1) (by simpa using hd),Bool.true_and,Bool.false_or,ql3 hc hs hk' hno hP.to_ hdr.2.2.2.2.2 (mhM b h s m)]
     have:mbM b s m=pb b s (m1 m):=by
      unfold mbM
      rw [a3,hd,a6,qGD]
     rw [this]
    ·rw [decide_eq_false hd,decide_eq_true (p:=m2 m≠1) hd];rfl
theorem qjv (b h:List Int) (S:Int) (by_ sd_:List (List Int)) (f t d:Int) (p:Bool) (N:Nat) (M:List (List Int)) (hM:∀ m∈M,Mv4 m) (hl:M.length<=100000):∀ (n i:Nat),i+n=M.length->∀ F,
  qFI (F+n+1) M.length M.length i b h S by_ sd_ f t d p N M=some (if (M.drop i).contains [f,t,d,bi p] then .inl (true,b,h,S,by_,sd_) else .inr (b,h,S,by_,sd_)):=by
 intro n
 induction n with
 | zero=>
   intro i hi F
   show qHU (qFI (F+0)) _ _ _ _ _ _ _ _ _ _ _ _ _ _=_
   unfold qHU
   rw [qY (by omega),List.drop_eq_nil_of_le (by omega)]
   rfl
 | succ n ih=>
   intro i hi F
   show qHU (qFI (F+n+1)) _ _ _ _ _ _ _ _ _ _ _ _ _ _=_
   unfold qHU
   have hil:i<M.length:=by omega
   obtain ⟨hm1,_⟩:=hM M[i] (List.getElem_mem hil)
   rw [qi (by omega),qn (by omega) (by omega),tn,atL hil]
   simp only [hdM]
   rw [w_s (n:=(i:Int)+1) (by omega) (by omega),List.drop_eq_getElem_cons hil,List.contains_cons]
   have e:(m0 M[i]==f&&(m1 M[i]==t&&(m2 M[i]==d&&m3 M[i]==p)))=([f,t,d,bi p]==M[i]):=by
    rw [Bool.eq_iff_iff,beq_iff_eq]
    simp only [Bool.and_eq_true,beq_iff_eq]
    constructor
    ·rintro ⟨h1,h2,h3,h4⟩
     rw [hm1,h1,h2,h3,h4]
    ·intro he
     rw [<- he]
     refine ⟨rfl,rfl,rfl,?_⟩
     show (bi p != 0)=p
     cases p<;>rfl
   rw [e]
   cases hb:([f,t,d,bi p]==M[i]) with
   | true=>rw [b_t];rfl
   | false=>
     rw [b_f,Bool.false_or]
     exact ih (i+1) (by omega) F
theorem qGn (p:Bool):(bi p != 0)=p:=by cases p<;>rfl
theorem qXf {b:List Int} (_hc:Clean b) {h:List Int} {s:Int} (_hs:s=0 \/ s=1) {m:List Int} (hm:m∈lgL b h s):m∈mvs b h s:=by
 unfold lgL at hm
 rw [List.mem_append] at hm
 rcases hm with hm | hm
 ·exact List.mem_append_left _ (List.mem_filter.mp hm).1
 ·have:=(List.mem_filter.mp hm).1
  rw [qP9] at this
  exact List.mem_append_right _ (List.mem_filter.mp this).1
theorem qkp {b:List Int} (hc:Clean b) (h:List Int) {s:Int} (hs:s=0 \/ s=1) {k k':Nat} (hk:KS b s k) (hk':KS b (1 - s) k') (f t d:Int) (p:Bool):
  qHT f t d p b h s (qR b) (qV b)=some ((lgL b h s).contains [f,t,d,bi p],b,h,s,qR b,qV b):=by
 unfold qHT
 rw [qXG hc h hs hk hk',qA]
 simp only
 have hlen:=qlE b h s
 obtain ⟨g,hg⟩:=qk (lgL b h s).length (by omega)
 have:=qjv b h s (qR b) (qV b) f t d p (lgL b h s).length (lgL b h s) (fun m hm=>(qLP hc hs (qXf hc hs hm)).1) (by omega) (lgL b h s).length 0 (by omega) g
 rw [<- hg,List.drop_zero] at this
 rw [show qFI qB (lgL b h s).length (Int.ofNat (lgL b h s).length) 0 b h s (qR b) (qV b) f t d p (lgL b h s).length (lgL b h s)=_ from this,qA]
 cases (lgL b h s).contains [f,t,d,bi p]<;>rfl
end Go.Kk.Pl
namespace Go.Kk.Pl
end Go.Kk.Pl
namespace Go.Kk.Pl
theorem qmC (f t d:Int) (p:Bool):qDj f t d p=some (qDV f t d p):=by
 unfold qDj qDV
 by_cases h1:t<0
 ·rw [qi h1,if_pos (by omega)]
 rw [qY h1]
 by_cases h2:t >= 81
 ·rw [qDP h2,if_pos (by omega)]
 rw [qCd h2,if_neg (by omega)]
 by_cases hd:d=0
 ·rw [qAf hd,if_neg (by simpa using hd)]
  by_cases h3:f<0
  ·rw [qi h3,if_pos (by omega)]
  rw [qY h3]
  by_cases h4:f >= 81
  ·rw [qDP h4,if_pos (by omega)]
  rw [qCd h4,if_neg (by omega)]
  by_cases h5:f=t
  ·rw [qr h5,if_pos h5]
  ·rw [qp h5,if_neg h5]
 ·rw [qAR hd,if_pos hd]
  by_cases h3:d<0
  ·rw [qi h3,if_neg (by omega)]
  rw [qY h3]
  by_cases h4:d >= 8
  ·rw [qDP h4,if_neg (by omega)]
  rw [qCd h4]
  by_cases h5:f=0
  ·rw [qAf h5]
   cases p with
   | true=>rw [b_t,if_neg (by simp)]
   | false=>rw [b_f,if_pos ⟨by omega,by omega,h5,rfl⟩]
  ·rw [qAR h5,if_neg (by omega)]
theorem qhY (b h:List Int) {s:Int} (hs:s=0 \/ s=1) (f t d:Int) (p:Bool) (K:Int) (n:Nat) (by_ sides:List (List Int)) (m:Nat) (st:List (List Int)):
  qEG f t d p K n b h s by_ sides m st=some (qDT b h s f t d p):=by
 unfold qEG qDT
 rw [qmC,qA]
 by_cases hm:qDV f t d p=0
 ·obtain ⟨ht,hd,hmv⟩:=qUt hm
  have main:(br (d != 0)
    (ob (qCg s d b h s by_ sides) fun a14=>
    br (decide (a14>0))
     (ob (qAi t b h s by_ sides) fun a15=>
     some (a15==0))
     (some (false)))
    (ob (qAi f b h s by_ sides) fun a14=>
    ob (qAi t b h s by_ sides) fun a15=>
    ob (qAL a14) fun a16=>
    br (a16==s)
     (ob (qAL a15) fun a17=>
     br (a17 != s)
      (ob (qAE a15) fun a18=>
      br (a18 != 8)
       (br (!p)
        (some (true))
        (ob (qAE a14) fun a19=>
        ob (qCt a19) fun a20=>
        some (a20 != 0)))
       (some (false)))
      (some (false)))
     (some (false))))=some (if d≠0 then decide (0<hd_ h s d)&&decide (at_ b t=0)
 else decide (sd (at_ b f)=s /\ sd (at_ b t)≠s /\ kd (at_ b t)≠8)&&(!p||decide (up_ (kd (at_ b f))≠0))):=by
   by_cases h0:d=0
   ·rw [qAf h0,if_neg (by simpa using h0),qCy,qA,qCy,qA,qDH,qA]
    by_cases e1:sd (at_ b f)=s
    ·rw [qr e1,qDH,qA]
     by_cases e2:sd (at_ b t)=s
     ·rw [qAf e2,decide_eq_false (p:=sd (at_ b f)=s /\ sd (at_ b t)≠s /\ kd (at_ b t)≠8) (fun h=>h.2.1 e2)];rfl
     ·rw [qAR e2,qBZ,qA]
      by_cases e3:kd (at_ b t)=8
      ·rw [qAf e3,decide_eq_false (p:=sd (at_ b f)=s /\ sd (at_ b t)≠s /\ kd (at_ b t)≠8) (fun h=>h.2.2 e3)];rfl
      ·rw [qAR e3,decide_eq_true (p:=sd (at_ b f)=s /\ sd (at_ b t)≠s /\ kd (at_ b t)≠8) ⟨e1,e2,e3⟩]
       cases p with
       | false=>rfl
       | true=>
         rw [Bool.not_true,b_f,qBZ,qA,qJt,qA]
         by_cases e4:up_ (kd (at_ b f))=0<;>simp [e4]
    ·rw [qp e1,decide_eq_false (p:=sd (at_ b f)=s /\ sd (at_ b t)≠s /\ kd (at_ b t)≠8) (fun h=>e1 h.1)];rfl
   ·have:=hd h0
    rw [qAR h0,if_pos h0,qKk hs (by omega) (by omega),qA]
    by_cases e1:hd_ h s d>0
    ·rw [qCz e1,qCy,qA,decide_eq_true (p:=0<hd_ h s d) e1,Bool.true_and]
     by_cases e2:at_ b t=0<;>simp [e2]
    ·rw [qCe e1,decide_eq_false (p:=0<hd_ h s d) e1,Bool.false_and]
  rw [qAf hm,decide_eq_true hm,decide_eq_true hs,Bool.true_and,Bool.true_and,<- main]
  rcases hs with rfl | rfl<;>rfl
 ·rw [qAR hm,decide_eq_false hm,Bool.false_and]
theorem qXe {b:List Int} (hc:Clean b) {h:List Int} {s:Int} (hs:s=0 \/ s=1) {k k':Nat} (hno:inC b (1 - s)=false) (hk:KS b s k) (hk':KS b (1 - s) k') {m:List Int} (hm:m∈lgL b h s):
  Mv4 m /\ qA1 b h s (m0 m) (m1 m) (m2 m) (m3 m)=true /\ qI0 b h s m=true /\ qDF b s m=true:=by
 have h1:=qLP hc hs (qXf hc hs hm)
 rw [qYK hc h hs hno hk hk'] at hm
 have h2:=(List.mem_filter.mp hm).2
 refine ⟨h1.1,h1.2,h2,?_⟩
 unfold qI0 at h2
 rw [Bool.and_eq_true] at h2
 exact h2.1
theorem qmB {b h:List Int} {s f t d:Int} {p:Bool} (hm:qA1 b h s f t d p=true):qDT b h s f t d p=true:=by
 unfold qA1 at hm
 rw [Bool.and_eq_true] at hm
 exact hm.1
end Go.Kk.Pl
namespace Go.Kk.Pl
theorem qEr {p:Nat->Bool} {a n:Nat}:(List.range' a n).any p=false ↔ ∀ i,a<=i->i<a+n->p i=false:=by
 rw [List.any_eq_false]
 constructor
 ·intro h i h1 h2
  have:=h i (List.mem_range'_1.mpr ⟨h1,h2⟩)
  simpa using this
 ·intro h i hi
  obtain ⟨h1,h2⟩:=List.mem_range'_1.mp hi
  rw [h i h1 h2];simp
structure ChkP (b h:List Int) (s:Int):Prop where
 side:s=0 \/ s=1
 good:∀ i,i<81->bsP b i=false
 hands:∀ k,k<8->∀ j,j<2->bsH h k j=false
 kings:nP b 8=1 /\ nP b 24=1
 over:∀ k,1<=k->k<8->qBw b h k=false
 dead:∀ i,i<81->qA5 (b.getD i 0) i=false
 nifu:∀ f,f<9->qBM b f=false
theorem qUv {b h:List Int} {s:Int}:qAx b h s=0↔ChkP b h s:=by
 constructor
 ·intro hz
  unfold qAx at hz
  split at hz
  ·omega
  rename_i h1
  split at hz
  ·omega
  rename_i h2
  split at hz
  ·omega
  rename_i h3
  split at hz
  ·omega
  rename_i h4
  split at hz
  ·omega
  rename_i h5
  split at hz
  ·omega
  rename_i h6
  split at hz
  ·omega
  rename_i h7
  rw [Bool.not_eq_true,qEr] at h2 h3 h5 h6 h7
  refine ⟨by omega,fun i hi=>h2 i (by omega) (by omega),fun k hk j hj=>?_,by simpa using h4,fun k k1 k2=>h5 k k1 (by omega),fun i hi=>h6 i (by omega) (by omega),fun f hf=>h7 f (by omega) (by omega)⟩
  have:=h3 k (by omega) (by omega)
  rw [qEr] at this
  exact this j (by omega) (by omega)
 ·intro ⟨a1,a2,a3,a4,a5,a6,a7⟩
  unfold qAx
  rw [if_neg (by omega),if_neg (by rw [qEr.mpr fun i _ hi=>a2 i (by omega)];simp),if_neg (by rw [qEr.mpr fun k _ hk=>qEr.mpr fun j _ hj=>a3 k (by omega) j (by omega)];simp),if_neg (by simpa using a4),
   if_neg (by rw [qEr.mpr fun k k1 hk=>a5 k k1 (by omega)];simp),if_neg (by rw [qEr.mpr fun i _ hi=>a6 i (by omega)];simp),if_neg (by rw [qEr.mpr fun i _ hi=>a7 i (by omega)];simp)]
theorem qte {n:Nat} {p:Nat->Bool}:(List.range n).countP p<=1 ↔ ∀ i j,i<n->j<n->p i=true->p j=true->i=j:=by
 rw [List.countP_eq_length_filter]
 have hn:((List.range n).filter p).Nodup:=List.Nodup.sublist List.filter_sublist List.nodup_range
 have hm:∀ i,i∈(List.range n).filter p↔i<n /\ p i=true:=by
  intro i;rw [List.mem_filter,List.mem_range]
 match he:(List.range n).filter p with
 | []=>
   rw [he] at hm
   refine ⟨fun _ i j hi _ h1 _=>?_,fun _=>by simp⟩
   have:=(hm i).mpr ⟨hi,h1⟩
   cases this
 | [a]=>
   rw [he] at hm
   refine ⟨fun _ i j hi hj h1 h2=>?_,fun _=>by simp⟩
   have e1:=(hm i).mpr ⟨hi,h1⟩
   have e2:=(hm j).mpr ⟨hj,h2⟩
   rw [List.mem_singleton] at e1 e2
   rw [e1,e2]
 | a :: c :: L=>
   rw [he] at hm hn
   refine ⟨fun h=>?_,fun h=>?_⟩
   ·simp at h
   ·exfalso
    have ea:=(hm a).mp (by simp)
    have ec:=(hm c).mp (by simp)
    have:=h a c ea.1 ec.1 ea.2 ec.2
    subst this
    simp at hn
theorem qmb {b:List Int} {x:Int} {f:Nat}:nF b x f<=1 ↔ ∀ r r',r<9->r'<9->b.getD (9*f+r) 0=x->b.getD (9*f+r') 0=x->r=r':=by
 unfold nF
 rw [qte]
 constructor
 ·intro h r r' hr hr' e e'
  exact h r r' hr hr' (by simpa using e) (by simpa using e')
 ·intro h r r' hr hr' e e'
  exact h r r' hr hr' (by simpa using e) (by simpa using e')
theorem qmc {b:List Int} {x:Int} {f:Nat}:nF b x f=0 ↔ ∀ r,r<9->b.getD (9*f+r) 0≠x:=by
 unfold nF
 rw [List.countP_eq_zero]
 constructor
 ·intro h r hr e
  exact h r (List.mem_range.mpr hr) (by simpa using e)
 ·intro h r hr e
  exact h r (List.mem_range.mp hr) (by simpa using e)
theorem qY4 {b:List Int} {s:Int} {k:Nat} (h:KS b s k):nP b (pc s 8)=1:=by
 show qAy (fun i=>b.getD i 0==pc s 8)=1
 rw [qGz]
 exact ⟨k,h.1,fun i hi=>by rw [beq_iff_eq];exact h.2 i hi⟩
theorem qdQ {b h:List Int} {s:Int} (hl:b.length=81) (hf:qAV h) (hz:qAx b h s=0):Sound b h s:=by
 obtain ⟨hc,_⟩:=qIi hl hz
 obtain ⟨v,hv,hS⟩:=qhd hc hf s
 rw [qb9 hl hf] at hv
 exact hS (by rw [<- Option.some.inj hv];exact hz)
theorem qhv {b h:List Int} {s f t d:Int} {p:Bool} (hl:b.length=81) (hf:qAV h) (hh:h.length=16) (hz:qAx b h s=0) (hm:qA1 b h s f t d p=true):qAx (mb b s f t d p) (mh b h s t d) (1 - s)=0:=by
 obtain ⟨hc,hs⟩:=qIi hl hz
 have hP:=(qHe hm).2
 have hS:=qdQ hl hf hz
 have hC:=qUv.mp hz
 have hs':1 - s=0 \/ 1 - s=1:=by omega
 obtain ⟨k,hk⟩:=qKu hz hs
 obtain ⟨k',hk'⟩:=qKu hz hs'
 have ht:=hP.to_
 have hla:=qHN hs hP
 have hc2:Clean (mb b s f t d p):=qYW hc _ _ _ _ _
 have hmv:if d≠0 then (!qFy (16*s+d) t&&(decide (d≠1)||decide (nF b (16*s+d) (t.toNat / 9)=0)))=true
   else (rch (at_ b f) f.toNat t.toNat (tk b)&&if p=true then qDi (at_ b f) f t else !qET (at_ b f) t)=true:=by
  have:=hm
  unfold qA1 at this
  rw [Bool.and_eq_true] at this
  have:=this.2
  by_cases hd:d=0
  ·rw [if_neg (by simpa using hd)] at this ⊢
   exact this
  ·rw [if_pos hd] at this ⊢
   exact this
 have hhand:∀ j:Int,(j=0 \/ j=1)->∀ i:Int,0<=i->i<8->(hd_ (mh b h s t d) j i=hd_ h j i \/ (1<=i /\ 0<=hd_ (mh b h s t d) j i)):=by
  intro j hj i i0 i8
  unfold mh
  by_cases hd:d=0
  ·have hmm:=hP.move hd
   rw [if_neg (by simpa using hd)]
   by_cases h0:at_ b t=0
   ·rw [if_pos h0];exact .inl rfl
   ·rw [if_neg h0]
    have hr:=qJU ((hc.at_ t).resolve_left h0) hmm.2.2.2.2.2.1
    rw [qFC hh hs (by omega) (by omega) 1 hj i0 i8]
    split
    ·right
     rename_i he
     have h1:=hS.hands (rw_ (kd (at_ b t))) (by omega) (by omega)
     have h2:=hS.counts (rw_ (kd (at_ b t))) (by omega) (by omega)
     have h3:0<=hd_ h s (rw_ (kd (at_ b t))) /\ hd_ h s (rw_ (kd (at_ b t)))<=18:=by
      rcases hs with rfl | rfl<;>omega
     rw [w_8 (by omega) (by omega)]
     omega
    ·exact .inl rfl
  ·have hmm:=hP.drop hd
   rw [if_pos hd,qFC hh hs (by omega) (by omega) (-1) hj i0 i8]
   split
   ·right
    have:=qG4 hf s d
    rw [w_8 (by omega) (by omega)]
    omega
   ·exact .inl rfl
 rw [qUv]
 refine ⟨hs',fun i hi=>?_,fun i hi j hj=>?_,?_,fun i i1 i2=>?_,fun i hi=>?_,fun g hg=>?_⟩
 ·unfold bsP
  rw [decide_eq_false_iff_not]
  rintro ⟨h1,h2⟩
  have:=hc2.at_ i
  rw [qBJ (by omega),tn] at this
  exact this.elim h1 (fun h=>h h2)
 ·have h1:=hC.hands i hi j hj
  unfold bsH at h1 ⊢
  rw [decide_eq_false_iff_not] at h1 ⊢
  have h2:=hhand j (by omega) i (by omega) (by omega)
  unfold hd_ at h2
  rw [show (j:Int).toNat*8+(i:Int).toNat=j*8+i from rfl] at h2
  omega
 ·have e1:=qY4 (qPA hc hs hP hk)
  have e2:=qY4 (qKt hc hs hP hk')
  rw [pc8 hs] at e1
  rw [pc8 hs'] at e2
  rcases hs with rfl | rfl
  ·exact ⟨e1,e2⟩
  ·exact ⟨e2,e1⟩
 ·have h1:=hC.over i i1 i2
  unfold qBw at h1 ⊢
  rw [decide_eq_false_iff_not] at h1 ⊢
  have:=qoE hS hf hh hP (k:=(i:Int)) (by omega) (by omega)
  omega
 ·rw [qER hc hs hP hi]
  by_cases h1:i=t.toNat
  ·rw [if_pos h1,h1]
   unfold laid
   by_cases hd:d=0
   ·rw [if_neg (by simpa using hd)]
    rw [if_neg (by simpa using hd)] at hmv
    have hmm:=hP.move hd
    cases p with
    | true=>
      rw [if_pos rfl]
      obtain ⟨u1,u2,u3⟩:=qIR (hmm.2.2.2.2.2.2 rfl)
      have:9<=up_ (kd (at_ b f)):=by
       have hu:=hmm.2.2.2.2.2.2 rfl
       unfold up_ at hu ⊢
       split
       ·omega
       ·rename_i h;rw [if_neg h] at hu;exact absurd rfl hu
      unfold qA5
      rw [qHL hs u1 u2 u3,decide_eq_false_iff_not]
      omega
    | false=>
      rw [if_neg (by simp)]
      rw [if_neg (by simp),Bool.and_eq_true] at hmv
      have h2:=hmv.2
      cases hdd:qA5 (at_ b f) t.toNat with
      | false=>rfl
      | true=>
        exfalso
        have hk:kd (at_ b f)=1 \/ kd (at_ b f)=2 \/ kd (at_ b f)=3:=by
         have:=of_decide_eq_true hdd
         omega
        unfold qET at h2
        rw [show t=((t.toNat:Nat):Int) by omega,qOE _ (by omega),hdd] at h2
        have:up_ (kd (at_ b f))≠0:=by unfold up_;rw [if_pos (by omega)];omega
        rw [decide_eq_true this] at h2
        cases h2
   ·rw [if_pos hd]
    rw [if_pos hd,Bool.and_eq_true] at hmv
    have h2:=hmv.1
    rw [show t=((t.toNat:Nat):Int) by omega,qOE _ (by omega)] at h2
    simpa using h2
  ·rw [if_neg h1]
   by_cases h2:d=0 /\ i=f.toNat
   ·rw [if_pos h2]
    unfold qA5
    rw [qFE]
    simp
   ·rw [if_neg h2];exact hC.dead i hi
 ·have key:∀ x:Int,(x=1 \/ x=17)->nF (mb b s f t d p) x g<=1:=by
   intro x hx
   have hxk:kd x=1:=by rcases hx with rfl | rfl<;>decide
   have hold:nF b x g<=1:=by
    have:=hC.nifu g hg
    unfold qBM at this
    simp only [Bool.or_eq_false_iff,decide_eq_false_iff_not] at this
    rcases hx with rfl | rfl<;>omega
   rw [qmb] at hold ⊢
   have from_:∀ r,r<9->(mb b s f t d p).getD (9*g+r) 0=x->(b.getD (9*g+r) 0=x /\ ¬ (d=0 /\ 9*g+r=f.toNat)) \/ 9*g+r=t.toNat:=by
    intro r hr e
    rw [qER hc hs hP (by omega)] at e
    by_cases h1:9*g+r=t.toNat
    ·exact .inr h1
    ·rw [if_neg h1] at e
     by_cases h2:d=0 /\ 9*g+r=f.toNat
     ·rw [if_pos h2] at e
      rcases hx with rfl | rfl<;>omega
     ·rw [if_neg h2] at e
      exact .inl ⟨e,h2⟩
   have lay:∀ r,r<9->9*g+r=t.toNat->(mb b s f t d p).getD (9*g+r) 0=x->∀ r',r'<9->(b.getD (9*g+r') 0=x /\ ¬ (d=0 /\ 9*g+r'=f.toNat))->False:=by
    intro r hr he e r' hr' e'
    rw [qER hc hs hP (by omega),if_pos he] at e
    unfold laid at e
    by_cases hd:d=0
    ·rw [if_neg (by simpa using hd)] at e hmv
     have hmm:=hP.move hd
     cases p with
     | true=>
       rw [if_pos rfl] at e
       have hu:=hmm.2.2.2.2.2.2 rfl
       obtain ⟨u1,u2,u3⟩:=qIR hu
       have:kd (16*s+up_ (kd (at_ b f)))=1:=by rw [e,hxk]
       rw [qHL hs u1 u2 u3] at this
       unfold up_ at this
       split at this<;>omega
     | false=>
       rw [if_neg (by simp)] at e
       rw [Bool.and_eq_true] at hmv
       have hr1:=hmv.1
       have hfl:df f.toNat t.toNat=0:=by
        rcases qBz.mp hr1 with h1 | h1
        ·have h2:=of_decide_eq_true h1
         rw [e,hxk] at h2
         unfold qB2 at h2
         omega
        ·have h2:=of_decide_eq_true h1.1
         rw [e,hxk] at h2
         unfold slK at h2
         omega
       unfold df fl at hfl
       have hfe:f.toNat=9*g+f.toNat % 9:=by omega
       have:b.getD (9*g+f.toNat % 9) 0=x:=by
        rw [<- hfe,<- qBJ ⟨hmm.1,hmm.2.1⟩];exact e
       have:=hold (f.toNat % 9) r' (by omega) hr' this e'.1
       exact e'.2 ⟨hd,by omega⟩
    ·rw [if_pos hd] at e hmv
     rw [Bool.and_eq_true] at hmv
     have hdd:=hP.drop hd
     have hd1:d=1:=by rcases hs with rfl | rfl<;>rcases hx with rfl | rfl<;>omega
     have hz0:nF b (16*s+d) (t.toNat / 9)=0:=by
      have:=hmv.2
      rw [decide_eq_false (p:=d≠1) (by simpa using hd1),Bool.false_or,decide_eq_true_eq] at this
      exact this
     rw [e,show t.toNat / 9=g by omega,qmc] at hz0
     exact hz0 r' hr' e'.1
   intro r r' hr hr' e e'
   rcases from_ r hr e with h1 | h1
   ·rcases from_ r' hr' e' with h2 | h2
    ·exact hold r r' hr hr' h1.1 h2.1
    ·exact (lay r' hr' h2 e' r hr h1).elim
   ·rcases from_ r' hr' e' with h2 | h2
    ·exact (lay r hr h1 e r' hr' h2).elim
    ·omega
  unfold qBM
  have k1:=key 1 (.inl rfl)
  have k2:=key 17 (.inr rfl)
  rw [decide_eq_false (by omega),decide_eq_false (by omega)]
  rfl
theorem qfi {b h:List Int} {s f t d:Int} {p:Bool} (hl:b.length=81) (hf:qAV h) (hh:h.length=16) (hz:qAx b h s=0) (hm:qA1 b h s f t d p=true) (hsafe:inC (mb b s f t d p) s=false):qCK (mb b s f t d p) (mh b h s t d) (1 - s)=0:=by
 have h1:=qhv hl hf hh hz hm
 unfold qCK
 rw [if_neg (by rw [h1];simp),show 1 - (1 - s)=s by omega,hsafe]
 rfl
theorem qTG {b h:List Int} {s:Int} (hz:qCK b h s=0):qAx b h s=0:=by
 unfold qCK at hz
 split at hz
 ·rename_i h;exact absurd hz h
 ·rename_i h;simpa using h
end Go.Kk.Pl
namespace Go.Kk.Pl
end Go.Kk.Pl
namespace Go.Kk.Pl
theorem qjb (h:List Int) (s k:Nat) (hk:k<8):(List.take 8 (List.drop (s*7+s) h)).getD k 0=h.getD (s*8+k) 0:=by
 rw [List.getD_eq_getElem?_getD,List.getD_eq_getElem?_getD,List.getElem?_take,if_pos hk,List.getElem?_drop,show s*7+s+k=s*8+k by omega]
abbrev B64:=BitVec 64
def bv (n:Int):B64:=BitVec.ofInt 64 n
def un (x:B64):Int:=(x.toNat:Int)
theorem qBW (x:B64):bv (un x)=x:=by
 unfold bv un
 rw [BitVec.ofInt_natCast,BitVec.ofNat_toNat];simp
theorem qEn (a b:Int):qI .xor .u64 a b=un (bv a ^^^ bv b):=by
 show IntKind.wrap .u64 _=_
 have h:IntKind.wrap .u64 ((BitVec.ofInt 64 a ^^^ BitVec.ofInt 64 b).toNat:Int)=((BitVec.ofInt 64 a ^^^ BitVec.ofInt 64 b).toNat:Int):=
  qA9 (by show (0:Int)<=_;omega) (by show _<=(18446744073709551615:Int);have:=(BitVec.ofInt 64 a ^^^ BitVec.ofInt 64 b).isLt;omega)
 exact h
def pcB (q x:Int):B64:=bv ((qB7 q x).getD 0)
def hnB (s k n:Int):B64:=bv ((qCn s k n).getD 0)
def sdB:B64:=bv (qCp.getD 0)
theorem qOu (x:Int):∃ v:B64,qDh x=some (un v):=by
 unfold qDh
 rw [qEn]
 exact ⟨_,rfl⟩
theorem qSu {m:Option Int} (h:∃ v:B64,m=some (un v)):m=some (un (bv (m.getD 0))):=by
 obtain ⟨v,rfl⟩:=h
 simp [qBW]
theorem qKK {b:Bool} {x y:Option Int} (hx:∃ v:B64,x=some (un v)) (hy:∃ v:B64,y=some (un v)):∃ v:B64,br b x y=some (un v):=by cases b<;>assumption
theorem qY8 {α:Type} {m:Option α} {k:α->Option Int} (hm:∃ v,m=some v) (hk:∀ a,m=some a->∃ v:B64,k a=some (un v)):∃ v:B64,ob m k=some (un v):=by
 obtain ⟨a,rfl⟩:=hm
 exact hk a rfl
theorem qWZ (q x:Int):qB7 q x=some (un (pcB q x)):=qSu (by
 unfold qB7
 refine qY8 (qW6 _) fun a _=>?_
 refine qKK ⟨0,rfl⟩ (qKK ⟨0,rfl⟩ (qKK ⟨0,rfl⟩ (qY8 (qLK _) fun a ha=>?_)))
 obtain ⟨v,hv⟩:=qOu _
 rw [hv] at ha
 cases ha
 exact ⟨v,rfl⟩)
theorem qWY (s k n:Int):qCn s k n=some (un (hnB s k n)):=qSu (by
 have tail:∀ x:Int,∃ v:B64,(ob (qDh x) fun r=>some r)=some (un v):=fun x=>by
  obtain ⟨v,hv⟩:=qOu x
  exact ⟨v,by rw [hv];rfl⟩
 unfold qCn
 repeat first | exact ⟨0,rfl⟩ | exact tail _ | apply qKK)
theorem qWa:qCp=some (un sdB):=qSu (by
 unfold qCp
 obtain ⟨v,hv⟩:=qOu 1048576
 exact ⟨v,by rw [hv];rfl⟩)
def qAd (b:List Int):Nat->B64
 | 0=>0
 | n+1=>qAd b n ^^^ pcB n (b.getD n 0)
def qBL (h:List Int) (s:Nat):Nat->B64
 | 0=>0
 | n+1=>qBL h s n ^^^ hnB s n (conv .i8 .i64 (h.getD (s*8+n) 0))
def qDd (h:List Int):B64:=qBL h 0 8 ^^^ qBL h 1 8
theorem qfB (a b:B64):a ^^^ (b ^^^ a)=b:=by rw [BitVec.xor_comm b a,<- BitVec.xor_assoc,BitVec.xor_self,BitVec.zero_xor]
theorem qhK:∀ (n:Nat) (q:Nat) (acc:B64) (b c d:List Int) (e:Int) (f:Nat),q+n=81->
  qCP (f+n+1) (un acc) b q c d e=some (un (acc ^^^ qAd b q ^^^ qAd b 81),c,d,e):=by
 intro n
 induction n with
 | zero=>
   intro q acc b c d e f hq
   have:q=81:=by omega
   subst this
   show qDf (qCP (f+0)) (un acc) b _ c d e=_
   unfold qDf
   rw [qH (by decide),BitVec.xor_assoc,BitVec.xor_self,BitVec.xor_zero]
 | succ n ih=>
   intro q acc b c d e f hq
   show qDf (qCP (f+n+1)) (un acc) b q c d e=_
   unfold qDf
   rw [qD (by simp;omega),qD (qAO (by omega) (by omega))]
   simp only [cond_true,Int.toNat_natCast]
   rw [qWZ]
   show qCP (f+n+1) (qI .xor .u64 (un acc) (un (pcB q (b.getD q 0)))) b (IntKind.wrap .i64 ((q:Int)+1)) c d e=_
   rw [qAQ (by omega) (by omega),qEn,qBW,qBW]
   have:=ih (q+1) (acc ^^^ pcB q (b.getD q 0)) b c d e f (by omega)
   rw [Int.natCast_add] at this
   rw [show ((q:Int)+1)=(q:Int)+(1:Nat) from rfl,this]
   congr 3
   show acc ^^^ pcB q (b.getD q 0) ^^^ (qAd b q ^^^ pcB q (b.getD q 0)) ^^^ qAd b 81=_
   rw [BitVec.xor_assoc acc,qfB]
theorem qjg (s:Nat):∀ (n:Nat) (k:Nat) (acc:B64) (h x2:List Int) (x3:Int) (x6 x7:List Int) (x8:Int) (f:Nat),k+n=8->
  qCo (f+n+1) (un acc) s x2 x3 (List.take 8 (List.drop (s*7+s) h)) k x6 x7 x8=some (un (acc ^^^ qBL h s k ^^^ qBL h s 8),x2,x3,x6,x7,x8):=by
 intro n
 induction n with
 | zero=>
   intro k acc h x2 x3 x6 x7 x8 f hk
   have:k=8:=by omega
   subst this
   show qDe (qCo (f+0)) (un acc) s x2 x3 _ _ x6 x7 x8=_
   unfold qDe
   rw [qH (by decide),BitVec.xor_assoc,BitVec.xor_self,BitVec.xor_zero]
 | succ n ih=>
   intro k acc h x2 x3 x6 x7 x8 f hk
   show qDe (qCo (f+n+1)) (un acc) s x2 x3 _ k x6 x7 x8=_
   unfold qDe
   rw [qD (by simp;omega),qD (qAO (by omega) (by omega))]
   simp only [cond_true,Int.toNat_natCast]
   rw [qjb h s k (by omega),qWY]
   show qCo (f+n+1) (qI .xor .u64 (un acc) (un (hnB s k (conv .i8 .i64 (h.getD (s*8+k) 0))))) s x2 x3 _ (IntKind.wrap .i64 ((k:Int)+1)) x6 x7 x8=_
   rw [qAQ (by omega) (by omega),qEn,qBW,qBW]
   have:=ih (k+1) (acc ^^^ hnB s k (conv .i8 .i64 (h.getD (s*8+k) 0))) h x2 x3 x6 x7 x8 f (by omega)
   rw [Int.natCast_add] at this
   rw [show ((k:Int)+1)=(k:Int)+(1:Nat) from rfl,this]
   congr 3
   show acc ^^^ hnB s k (conv .i8 .i64 (h.getD (s*8+k) 0)) ^^^ (qBL h s k ^^^ hnB s k (conv .i8 .i64 (h.getD (s*8+k) 0))) ^^^ qBL h s 8=_
   rw [BitVec.xor_assoc acc,qfB]
theorem qji (acc:B64) (h c:List Int) (e:Int):qBu qB (un acc) h 0 c h e=some (un (acc ^^^ qDd h),c,h,e):=by
 obtain ⟨f,hf⟩:=qk 2 (by omega)
 obtain ⟨g,hg⟩:=qk 8 (by omega)
 have step:∀ (s:Nat) (hs:s<2) (acc:B64) (f:Nat),qBu (f+1) (un acc) h s c h e=qBu f (un (acc ^^^ qBL h s 8)) h (s+1:Nat) c h e:=by
  intro s hs acc f
  show qDg (qBu f) (un acc) h s c h e=_
  unfold qDg
  rw [qD (by simp;omega),qD (qAO (by omega) (by omega)),hg]
  show ob (qCo (g+8+1) (un acc) s h s (List.take 8 (List.drop (Int.toNat s*7+Int.toNat s) h)) (0:Nat) c h e) _=_
  rw [Int.toNat_natCast,qjg s 8 0 acc h h s c h e g (by omega)]
  show qBu f (un (acc ^^^ 0 ^^^ qBL h s 8)) h (IntKind.wrap .i64 ((s:Int)+1)) c h e=_
  have z:acc ^^^ (0:B64)=acc:=by simp
  rw [qAQ (by omega) (by omega),z]
  rfl
 rw [hf]
 have e1:=step 0 (by omega) acc (f+2)
 have e2:=step 1 (by omega) (acc ^^^ qBL h 0 8) (f+1)
 rw [show f+2+1=f+2+1 from rfl,show (0:Int)=((0:Nat):Int) from rfl,e1]
 rw [show f+2=f+1+1 from rfl,e2]
 show qDg (qBu f) _ h 2 c h e=_
 unfold qDg
 rw [qH (by decide),BitVec.xor_assoc]
 rfl
def qAY (b h:List Int) (s:Int):B64:=bif s==1 then qAd b 81 ^^^ qDd h ^^^ sdB else qAd b 81 ^^^ qDd h
theorem qj3 (b h:List Int) (s:Int):qEN b h s=some (un (qAY b h s)):=by
 obtain ⟨g,hg⟩:=qk 81 (by omega)
 have e2:qCP qB 0 b 0 b h s=some (un (qAd b 81),b,h,s):=by
  rw [hg]
  have:=qhK 81 0 0 b b h s g (by omega)
  rw [show (0:B64) ^^^ qAd b 0 ^^^ qAd b 81=qAd b 81 by show (0:B64) ^^^ 0 ^^^ _=_;simp] at this
  exact this
 unfold qEN
 rw [e2]
 show ob (qBu qB (un (qAd b 81)) h 0 b h s) _=_
 rw [qji]
 show br (s==1) (ob qCp fun r10=>some (qI .xor .u64 (un (qAd b 81 ^^^ qDd h)) r10)) (some (un (qAd b 81 ^^^ qDd h)))=_
 unfold qAY
 cases hs:s==1
 ·rfl
 ·rw [qWa]
  show some (qI .xor .u64 _ _)=_
  rw [qEn,qBW,qBW]
  rfl
theorem qgT (b:List Int) (i:Nat) (x:Int) (hi:i<b.length):∀ n,qAd (b.set i x) n=if i<n then qAd b n ^^^ pcB i (b.getD i 0) ^^^ pcB i x else qAd b n:=by
 intro n
 induction n with
 | zero=>rfl
 | succ n ih=>
   show qAd (b.set i x) n ^^^ pcB n ((b.set i x).getD n 0)=_
   rw [ih]
   rcases Nat.lt_trichotomy i n with h | h | h
   ·rw [if_pos h,if_pos (by omega)]
    have:(b.set i x).getD n 0=b.getD n 0:=by
     rw [List.getD_eq_getElem?_getD,List.getD_eq_getElem?_getD,List.getElem?_set_ne (by omega)]
    rw [this]
    show qAd b n ^^^ pcB i (b.getD i 0) ^^^ pcB i x ^^^ pcB n (b.getD n 0)=qAd b n ^^^ pcB n (b.getD n 0) ^^^ pcB i (b.getD i 0) ^^^ pcB i x
    ac_rfl
   ·subst h
    rw [if_neg (by omega),if_pos (by omega)]
    have:(b.set i x).getD i 0=x:=by
     rw [List.getD_eq_getElem?_getD,List.getElem?_set_self hi];rfl
    rw [this]
    show qAd b i ^^^ pcB i x=qAd b i ^^^ pcB i (b.getD i 0) ^^^ pcB i (b.getD i 0) ^^^ pcB i x
    rw [BitVec.xor_assoc (qAd b i),BitVec.xor_self,BitVec.xor_zero]
   ·rw [if_neg (by omega),if_neg (by omega)]
    have:(b.set i x).getD n 0=b.getD n 0:=by
     rw [List.getD_eq_getElem?_getD,List.getD_eq_getElem?_getD,List.getElem?_set_ne (by omega)]
    rw [this]
    rfl
theorem qWQ (h:List Int) (s0 k0:Nat) (x:Int) (hk:k0<8) (hi:s0*8+k0<h.length) (s:Nat):∀ n,n<=8->qBL (h.set (s0*8+k0) x) s n =
  if s=s0 /\ k0<n then qBL h s n ^^^ hnB s0 k0 (conv .i8 .i64 (h.getD (s0*8+k0) 0)) ^^^ hnB s0 k0 (conv .i8 .i64 x) else qBL h s n:=by
 intro n
 induction n with
 | zero=>intro _;rw [if_neg (by omega)];rfl
 | succ n ih=>
   intro hn
   show qBL (h.set (s0*8+k0) x) s n ^^^ hnB s n (conv .i8 .i64 ((h.set (s0*8+k0) x).getD (s*8+n) 0))=_
   rw [ih (by omega)]
   by_cases hq:s*8+n=s0*8+k0
   ·have e1:s=s0:=by omega
    have e2:n=k0:=by omega
    subst e1
    subst e2
    rw [if_neg (by omega),if_pos (by omega)]
    have:(h.set (s*8+n) x).getD (s*8+n) 0=x:=by
     rw [List.getD_eq_getElem?_getD,List.getElem?_set_self hi];rfl
    rw [this]
    show qBL h s n ^^^ hnB s n (conv .i8 .i64 x)=qBL h s n ^^^ hnB s n (conv .i8 .i64 (h.getD (s*8+n) 0)) ^^^ hnB s n (conv .i8 .i64 (h.getD (s*8+n) 0)) ^^^ hnB s n (conv .i8 .i64 x)
    rw [BitVec.xor_assoc (qBL h s n),BitVec.xor_self,BitVec.xor_zero]
   ·have:(h.set (s0*8+k0) x).getD (s*8+n) 0=h.getD (s*8+n) 0:=by
     rw [List.getD_eq_getElem?_getD,List.getD_eq_getElem?_getD,List.getElem?_set_ne (by omega)]
    rw [this]
    by_cases hc:s=s0 /\ k0<n
    ·rw [if_pos hc,if_pos (by omega)]
     show _=qBL h s n ^^^ hnB s n (conv .i8 .i64 (h.getD (s*8+n) 0)) ^^^ _ ^^^ _
     ac_rfl
    ·rw [if_neg hc,if_neg (by omega)]
     rfl
theorem qjh (h:List Int) (s0 k0:Nat) (x:Int) (hs:s0<2) (hk:k0<8) (hh:h.length=16):
  qDd (h.set (s0*8+k0) x)=qDd h ^^^ hnB s0 k0 (conv .i8 .i64 (h.getD (s0*8+k0) 0)) ^^^ hnB s0 k0 (conv .i8 .i64 x):=by
 unfold qDd
 rw [qWQ h s0 k0 x hk (by omega) 0 8 (Nat.le_refl _),qWQ h s0 k0 x hk (by omega) 1 8 (Nat.le_refl _)]
 have:s0=0 \/ s0=1:=by omega
 rcases this with rfl | rfl
 ·rw [if_pos (by omega),if_neg (by omega)];ac_rfl
 ·rw [if_neg (by omega),if_pos (by omega)];ac_rfl
theorem qKs (b h:List Int) (s:Int):kof b h s=un (qAY b h s):=by unfold kof;rw [qj3];rfl
theorem qW7 (q x:Int):kp q x=un (pcB q x):=by unfold kp;rw [qWZ];rfl
theorem qW5 (s k n:Int):kh s k n=un (hnB s k n):=by unfold kh;rw [qWY];rfl
theorem qkf:qIx=un sdB:=by unfold qIx;rw [qWa];rfl
theorem qnp {q x:Int} (h:kd x=0):pcB q x=pcB q 0:=by
 have e:∀ y,kd y=0->qB7 q y=some 0:=by
  intro y hy
  unfold qB7
  rw [qBZ,qA,hy]
  rfl
 unfold pcB
 rw [e x h,e 0 qFE]
theorem qj8 {b:List Int} (hl:b.length=81) {q:Int} (hq:0<=q /\ q<81) (x:Int) (h:List Int) (s:Int):qAY (put b q x) h s=qAY b h s ^^^ pcB q (at_ b q) ^^^ pcB q x:=by
 have e:pcB q (if kd x=0 then 0 else x)=pcB q x:=by
  split
  ·rename_i h;exact (qnp h).symm
  ·rfl
 unfold qAY put at_
 rw [if_pos hq,if_pos hq]
 revert e
 generalize (if kd x=0 then 0 else x)=y
 intro e
 have qz:=qgT b q.toNat y (by omega) 81
 rw [if_pos (show q.toNat<81 by omega),show ((q.toNat:Nat):Int)=q by omega,e] at qz
 rw [qz]
 cases s==1<;>simp only [cond_true,cond_false]<;>ac_rfl
theorem qj7 {h:List Int} (hh:h.length=16) {s k:Int} (hs:s=0 \/ s=1) (k0:0<=k) (k1:k<8) (d:Int) (b:List Int) (S:Int):
  qAY b (qz h s k d) S=qAY b h S ^^^ hnB s k (hd_ h s k) ^^^ hnB s k (IntKind.wrap .i8 (hd_ h s k+d)):=by
 have e2:∀ x,conv .i8 .i64 x=x:=fun _=>rfl
 have hset':=qjh h s.toNat k.toNat (IntKind.wrap .i8 (hd_ h s k+d)) (by omega) (by omega) hh
 rw [e2,e2,show ((s.toNat:Nat):Int)=s by omega,show ((k.toNat:Nat):Int)=k by omega] at hset'
 unfold qAY qz
 rw [hset']
 unfold hd_
 cases S==1<;>simp only [cond_true,cond_false]<;>ac_rfl
theorem qj9 {s:Int} (hs:s=0 \/ s=1) (b h:List Int):qAY b h (1 - s)=qAY b h s ^^^ sdB:=by
 rcases hs with rfl | rfl
 ·rfl
 ·show qAd b 81 ^^^ qDd h=qAd b 81 ^^^ qDd h ^^^ sdB ^^^ sdB
  rw [BitVec.xor_assoc _ sdB,BitVec.xor_self,BitVec.xor_zero]
theorem qHM {b:List Int} (hl:b.length=81) {q:Int} (hq:0<=q /\ q<81) (x:Int) (h:List Int) (s:Int):qCQ (un (qAY b h s)) b q x=un (qAY (put b q x) h s):=by
 unfold qCQ
 rw [qW7,qW7,qEn,qEn,qBW,qBW,qBW,qBW,qj8 hl hq,BitVec.xor_assoc]
theorem qO8 {h:List Int} (hh:h.length=16) {s k:Int} (hs:s=0 \/ s=1) (k0:0<=k) (k1:k<8) {d:Int} (b:List Int) (S:Int) (r0:-128<=hd_ h s k+d) (r1:hd_ h s k+d<=127):
  qFG (un (qAY b h S)) h s k d=un (qAY b (qz h s k d) S):=by
 unfold qFG
 rw [qW5,qW5,qEn,qEn,qBW,qBW,qBW,qBW,qj7 hh hs k0 k1,BitVec.xor_assoc,qAQ (by omega) (by omega),qFk r0 r1]
theorem qKw {s:Int} (hs:s=0 \/ s=1) (b h:List Int):qKv (un (qAY b h s))=un (qAY b h (1 - s)):=by
 unfold qKv
 rw [qkf,qEn,qBW,qBW,qj9 hs]
theorem ql9 {b h:List Int} {s:Int} (hS:Sound b h s) (hf:qAV h) (hh:h.length=16) {f t d:Int} {p:Bool} (hP:CanP b h s f t d p):
  qHd (kof b h s) b h s f t d p=kof (mb b s f t d p) (mh b h s t d) (1 - s):=by
 rw [qKs,qKs]
 unfold qHd mb mh
 by_cases hd:d=0
 ·obtain ⟨f0,f1,f2,g1,g2,g3,g4⟩:=hP.move hd
  simp only [if_neg (show ¬ (d≠0) from fun h=>h hd)]
  rw [qHM hS.clean.len ⟨f0,f1⟩,qHM (hS.clean.put f 0).len hP.to_]
  by_cases ht:at_ b t=0
  ·simp only [if_pos ht]
   rw [qKw hS.side]
  ·have hk:=(hS.clean.at_ t).resolve_left ht
   obtain ⟨r1,r2⟩:=qJU hk g3
   have hc:=hS.counts _ r1 r2
   have h0:=hS.hands (rw_ (kd (at_ b t))) (by omega) r2
   have hsd:=hS.side
   simp only [if_neg ht]
   rw [qO8 hh hS.side (by omega) r2 _ _ (by rcases hsd with rfl | rfl<;>omega) (by rcases hsd with rfl | rfl<;>omega),qKw hS.side]
 ·obtain ⟨d0,d1,d2,d3,g1,g2⟩:=hP.drop hd
  have hb:=qG4 hf s d
  simp only [if_pos (show d≠0 from hd)]
  rw [qO8 hh hS.side (by omega) d1 _ _ (by omega) (by omega),qHM hS.clean.len hP.to_,qKw hS.side]
end Go.Kk.Pl
namespace Go.Kk.Pl
structure Going (b h:List Int) (s:Int):Prop where
 sound:Sound b h s
 fits:qAV h
 len:h.length=16
end Go.Kk.Pl
namespace Go.Kk.Pl
theorem qUY {b c:List Int} (hb:b.length=81) (hc:c.length=81) (h:∀ q,0<=q->q<81->at_ b q=at_ c q):b=c:=by
 refine List.ext_getElem (by rw [hb,hc]) fun j h1 h2=>?_
 have:=h j (by omega) (by omega)
 unfold at_ at this
 rw [if_pos (by omega),if_pos (by omega),Int.toNat_natCast,List.getD_eq_getElem?_getD,List.getD_eq_getElem?_getD,List.getElem?_eq_getElem h1,List.getElem?_eq_getElem h2] at this
 exact this
theorem qU1 {b:List Int} (hc:Clean b) (q:Int):(if kd (at_ b q)=0 then 0 else at_ b q)=at_ b q:=by
 rcases hc.at_ q with h | h
 ·rw [h];rfl
 ·rw [if_neg h]
theorem qgB {b:List Int} (hc:Clean b) {t:Int} (ht:0<=t /\ t<81) (h0:at_ b t=0) (x:Int):put (put b t x) t 0=b:=by
 refine qUY ((hc.put _ _).put _ _).len hc.len fun q q0 q1=>?_
 rw [qDO (hc.put _ _).len ht,qDO hc.len ht]
 split
 ·rename_i e;subst e;rw [h0];rfl
 ·rfl
theorem qgD {b:List Int} (hc:Clean b) {f t:Int} (hf:0<=f /\ f<81) (ht:0<=t /\ t<81) (x:Int):put (put (put (put b f 0) t x) t (at_ b t)) f (at_ b f)=b:=by
 have c1:=hc.put f 0
 have c2:=c1.put t x
 have c3:=c2.put t (at_ b t)
 refine qUY (c3.put _ _).len hc.len fun q q0 q1=>?_
 rw [qDO c3.len hf,qDO c2.len ht,qDO c1.len ht,qDO hc.len hf,qU1 hc,qU1 hc]
 split
 ·rename_i e;subst e;rfl
 ·split
  ·rename_i e;subst e;rfl
  ·rfl
theorem qOm {h:List Int} (hl:h.length=16) {s k:Int} (hs:s=0 \/ s=1) (k0:0<=k) (k1:k<8) {d:Int} (r0:-128<=hd_ h s k /\ hd_ h s k<=127) (r1:-128<=hd_ h s k+d /\ hd_ h s k+d<=127):
  qz (qz h s k d) s k (-d)=h:=by
 have e:=qFC hl hs k0 k1 d hs k0 k1
 rw [if_pos ⟨rfl,rfl⟩,qFk r1.1 r1.2] at e
 rw [show qz (qz h s k d) s k (-d)=(qz h s k d).set (s.toNat*8+k.toNat) (IntKind.wrap .i8 (hd_ (qz h s k d) s k+-d)) from rfl,e,show hd_ h s k+d+-d=hd_ h s k by omega,qFk r0.1 r0.2]
 have hi:s.toNat*8+k.toNat<h.length:=by rcases hs with rfl | rfl<;>simp<;>omega
 have hg:hd_ h s k=h[s.toNat*8+k.toNat]:=by
  unfold hd_
  rw [List.getD_eq_getElem?_getD,List.getElem?_eq_getElem hi]
  rfl
 unfold qz
 rw [List.set_set,hg,List.set_getElem_self]
end Go.Kk.Pl
namespace Go.Kk.Pl
theorem qHH {b:List Int} (hc:Clean b) (q x K:Int) (n:Nat) (h:List Int) (s:Int) (m:Nat) (st:List (List Int)):
  qB5 q x K n b h s (qR b) (qV b) m st=some (qCQ K b q x,n,put b q x,h,s,qR (put b q x),qV (put b q x),m,st):=by
 unfold qB5
 simp only [qCy,qA,qke,qQV hc]
 rfl
theorem qje {b:List Int} (hc:Clean b) (h:List Int) (s:Int):qG0 b h s=some (kof b h s,0,b,h,s,qR b,qV b,0,[]):=by
 unfold qG0
 rw [qQA hc.len,qN8 hc,qA]
 simp only
 rw [qkd,qA]
theorem ql0 {b:List Int} (hc:Clean b) (h:List Int) {s:Int} (hs:s=0 \/ s=1) (f t d:Int) (p:Bool):∃ c,(∀ K n m st,qEG f t d p K n b h s (qR b) (qV b) m st=some c) /\
  ((c=false /\ ∀ K n m st,qE4 f t d p K n b h s (qR b) (qV b) m st=some (.inl (false,K,n,b,h,s,qR b,qV b,m,st))) \/
   (c=true /\ CanP b h s f t d p /\ ∀ K n m st,(n+1)*40<=140737488355328->qE4 f t d p K n b h s (qR b) (qV b) m st =
    some (.inr (true,qHd K b h s f t d p,n+1,mb b s f t d p,mh b h s t d,1 - s,qR (mb b s f t d p),qV (mb b s f t d p),n+1,List.append (List.take n st) [[f,t,d,bi p,at_ b t,was b s f d]])))):=by
 obtain ⟨c,hcan,hP⟩:=qhZ b h hs f t d p
 refine ⟨c,fun K n m st=>hcan K n _ _ m st,?_⟩
 cases c with
 | false=>
   refine .inl ⟨rfl,fun K n m st=>?_⟩
   unfold qE4
   rw [hcan,qA,qD (by rfl)]
 | true=>
   have hP:=hP rfl
   refine .inr ⟨rfl,hP,fun K n m st hn=>?_⟩
   have hn':decide ((n+1)*40<=140737488355328)=true:=by simpa using hn
   unfold qE4
   rw [hcan,qA,qH (by rfl),qCy,qA]
   by_cases hd:d=0
   ·obtain ⟨f0,f1,f2,g1,g2,g3,g4⟩:=hP.move hd
    rw [qH (by simpa using hd),qCy,qA]
    have hx:∀ {α:Type} (k:Int->Option α),(br p (ob (qAE (at_ b f)) fun a16=>ob (qCt a16) fun a17=>ob (qAm s a17) k) (k (at_ b f)))=k (laid b s f d p):=by
     intro α k
     unfold laid
     rw [if_neg (by simpa using hd)]
     cases p with
     | false=>rfl
     | true=>
       obtain ⟨u1,u2,u3⟩:=qIR (g4 rfl)
       rw [qD rfl,qBZ,qA,qJt,qA,qLS hs u1 u2 u3,qA,if_pos rfl]
    have p1:=qHH hc f 0 K n h s m st
    have p2:=qHH (hc.put f 0) t (laid b s f d p) (qCQ K b f 0) n h s m st
    have tail:(br (at_ b t != 0)
      (ob (qAE (at_ b t)) fun a37=>
      ob (qCs a37) fun a38=>
      ob (qDZ s a38 1 (qCQ (qCQ K b f 0) (put b f 0) t (laid b s f d p)) n (put (put b f 0) t (laid b s f d p)) h s (qR (put (put b f 0) t (laid b s f d p))) (qV (put (put b f 0) t (laid b s f d p))) m st) fun (a39_0,a39_1,a39_2,a39_3,a39_4,a39_5,a39_6,a39_7,a39_8)=>
      ob (qCh a39_0 a39_1 a39_2 a39_3 a39_4 a39_5 a39_6 a39_7 a39_8) fun (a48_0,a48_1,a48_2,a48_3,a48_4,a48_5,a48_6,_,a48_8)=>
      br (decide ((a48_1+1)*40<=140737488355328))
       (some (Sum.inr (true,a48_0,a48_1+1,a48_2,a48_3,a48_4,a48_5,a48_6,a48_1+1,List.append (List.take a48_1 a48_8) [[f,t,d,bi p,at_ b t,at_ b f]])))
       (none))
      (ob (qCh (qCQ (qCQ K b f 0) (put b f 0) t (laid b s f d p)) n (put (put b f 0) t (laid b s f d p)) h s (qR (put (put b f 0) t (laid b s f d p))) (qV (put (put b f 0) t (laid b s f d p))) m st) fun (a37_0,a37_1,a37_2,a37_3,a37_4,a37_5,a37_6,_,a37_8)=>
      br (decide ((a37_1+1)*40<=140737488355328))
       (some (Sum.inr (true,a37_0,a37_1+1,a37_2,a37_3,a37_4,a37_5,a37_6,a37_1+1,List.append (List.take a37_1 a37_8) [[f,t,d,bi p,at_ b t,at_ b f]])))
       (none)):Option ((Bool×Int×Nat×List Int×List Int×Int×List (List Int)×List (List Int)×Nat×List (List Int))⊕(Bool×Int×Nat×List Int×List Int×Int×List (List Int)×List (List Int)×Nat×List (List Int)))) =
      some (.inr (true,qHd K b h s f t d p,n+1,mb b s f t d p,mh b h s t d,1 - s,qR (mb b s f t d p),qV (mb b s f t d p),n+1,List.append (List.take n st) [[f,t,d,bi p,at_ b t,was b s f d]])):=by
     unfold qHd mb mh was
     by_cases ht:at_ b t=0
     ·rw [qH (by simpa using ht),qKj hs,qA]
      simp only
      rw [qD hn']
      simp [hd,ht]
     ·have hk:=(hc.at_ t).resolve_left ht
      obtain ⟨r1,r2⟩:=qJU hk g3
      obtain ⟨k1,k2,k3⟩:=qCO (at_ b t)
      rw [qD (by simpa using ht),qBZ,qA,qQe k1 k2,qA,qKi hs r1 r2 1 (.inl rfl),qA]
      simp only
      rw [qKj hs,qA]
      simp only
      rw [qD hn']
      simp [hd,ht]
    refine Eq.trans ?_ tail
    cases p with
    | true=>
      have hx:=hx (fun a18=>ob (qB5 f 0 K n b h s (qR b) (qV b) m st) fun (a19_0,a19_1,a19_2,a19_3,a19_4,a19_5,a19_6,a19_7,a19_8)=>
       ob (qB5 t a18 a19_0 a19_1 a19_2 a19_3 a19_4 a19_5 a19_6 a19_7 a19_8) fun r=>some r)
      rw [qD rfl] at hx ⊢
      obtain ⟨u1,u2,u3⟩:=qIR (g4 rfl)
      have hl:laid b s f d true=16*s+up_ (kd (at_ b f)):=by unfold laid;rw [if_neg (by simpa using hd),if_pos rfl]
      rw [qBZ,qA,qJt,qA,qLS hs u1 u2 u3,qA,p1,qA]
      simp only
      rw [<- hl,p2,qA]
    | false=>
      have hl:laid b s f d false=at_ b f:=by unfold laid;rw [if_neg (by simpa using hd),if_neg (by simp)]
      rw [qH rfl,p1,qA]
      simp only
      rw [hl] at p2 ⊢
      rw [p2,qA]
   ·obtain ⟨d0,d1,d2,d3,g1,g2⟩:=hP.drop hd
    have hl:laid b s f d p=16*s+d:=by unfold laid;rw [if_pos hd]
    have e1:qAm s d=some (laid b s f d p):=by rw [hl];exact qLS hs (by omega) (by omega) (by omega)
    have p1:=qHH hc t (laid b s f d p) (qFG K h s d (-1)) n (qz h s d (-1)) s m st
    rw [qD (by simpa using hd),e1,qA,qKi hs (by omega) d1 (-1) (.inr rfl),qA]
    simp only
    rw [p1,qA]
    simp only
    rw [qKj hs,qA]
    simp only
    rw [qD hn']
    unfold qHd mb mh was
    simp only [if_pos hd,hl]
theorem qWz {h:List Int} (hl:h.length=16) {s k:Int} (hs:s=0 \/ s=1) (k0:0<=k) (k1:k<8) {d:Int} (b:List Int) (S:Int) (r0:-128<=hd_ h s k /\ hd_ h s k<=127) (r1:-128<=hd_ h s k+d /\ hd_ h s k+d<=127):
  qFG (un (qAY b (qz h s k d) S)) (qz h s k d) s k (-d)=un (qAY b h S):=by
 have e:=qFC hl hs k0 k1 d hs k0 k1
 rw [if_pos ⟨rfl,rfl⟩,qFk r1.1 r1.2] at e
 rw [qO8 (by rw [qOn,hl]) hs k0 k1 b S (by omega) (by omega),qOm hl hs k0 k1 r0 r1]
theorem qgC {b h:List Int} {s:Int} (hg:Going b h s) {f t d:Int} {p:Bool} (hP:CanP b h s f t d p) (n:Nat) (hn:n<=1000) (m:Nat) (st:List (List Int))
  (hst:st.getD n []=[f,t,d,bi p,at_ b t,was b s f d]):
  qOG (un (qAY (mb b s f t d p) (mh b h s t d) (1 - s))) (n+1) (mb b s f t d p) (mh b h s t d) (1 - s) (qR (mb b s f t d p)) (qV (mb b s f t d p)) m st=some (true,un (qAY b h s),n,b,h,s,qR b,qV b,m,st):=by
 have hS:=hg.sound
 have hs':1 - s=0 \/ 1 - s=1:=by have:=hS.side;omega
 unfold qOG
 have e1:IntKind.wrap .i64 (Int.ofNat (n+1) - 1)=(n:Int):=by
  have:Int.ofNat (n+1)=(n:Int)+1:=rfl
  rw [this,qAQ (by omega) (by omega)]
  omega
 rw [qH (by simp;omega),e1,qD (qAO (by omega) (by omega)),qD (qKm (by omega) (by omega)),qKj hs',qA,qKw hs',show (1:Int) - (1 - s)=s by omega]
 simp only [Int.toNat_natCast,hst,Nat.sub_zero]
 simp only [List.take_succ_cons,List.take_zero,List.headD_cons,List.tail_cons]
 by_cases hd:d=0
 ·obtain ⟨f0,f1,f2,g1,g2,g3,g4⟩:=hP.move hd
  have hw:was b s f d=at_ b f:=by unfold was;rw [if_neg (by simpa using hd)]
  have hmb:mb b s f t d p=put (put b f 0) t (laid b s f d p):=by unfold mb;rw [if_neg (by simpa using hd)]
  rw [qH (by simpa using hd),hw,hmb]
  have p1:=qHH ((hS.clean.put f 0).put t (laid b s f d p)) t (at_ b t) (un (qAY (put (put b f 0) t (laid b s f d p)) (mh b h s t d) s)) n (mh b h s t d) s m st
  rw [qHM ((hS.clean.put f 0).put t (laid b s f d p)).len hP.to_] at p1
  have p2:=qHH (((hS.clean.put f 0).put t (laid b s f d p)).put t (at_ b t)) f (at_ b f) (un (qAY (put (put (put b f 0) t (laid b s f d p)) t (at_ b t)) (mh b h s t d) s)) n (mh b h s t d) s m st
  rw [qHM (((hS.clean.put f 0).put t (laid b s f d p)).put t (at_ b t)).len ⟨f0,f1⟩] at p2
  rw [qgD hS.clean ⟨f0,f1⟩ hP.to_] at p2
  rw [p1,qA]
  simp only
  rw [p2,qA]
  simp only
  by_cases ht:at_ b t=0
  ·have hmh:mh b h s t d=h:=by unfold mh;rw [if_neg (by simpa using hd),if_pos ht]
   rw [qH (by simpa using ht),hmh]
  ·have hk:=(hS.clean.at_ t).resolve_left ht
   obtain ⟨r1,r2⟩:=qJU hk g3
   obtain ⟨k1,k2,k3⟩:=qCO (at_ b t)
   have hc:=hS.counts _ r1 r2
   have h0:=hS.hands (rw_ (kd (at_ b t))) (by omega) r2
   have hsd:=hS.side
   have hmh:mh b h s t d=qz h s (rw_ (kd (at_ b t))) 1:=by unfold mh;rw [if_neg (by simpa using hd),if_neg ht]
   rw [qD (by simpa using ht),qBZ,qA,qQe k1 k2,qA,qKi hS.side r1 r2 (-1) (.inr rfl),qA,hmh,
    qOm hg.len hS.side (by omega) r2 (qG4 hg.fits _ _) (by rcases hsd with rfl | rfl<;>constructor<;>omega),
    qWz hg.len hS.side (by omega) r2 _ _ (qG4 hg.fits _ _) (by rcases hsd with rfl | rfl<;>constructor<;>omega)]
 ·obtain ⟨d0,d1,d2,d3,g1,g2⟩:=hP.drop hd
  have hmb:mb b s f t d p=put b t (laid b s f d p):=by unfold mb;rw [if_pos hd]
  have hmh:mh b h s t d=qz h s d (-1):=by unfold mh;rw [if_pos hd]
  have hb:=qG4 hg.fits s d
  have p1:=qHH (hS.clean.put t (laid b s f d p)) t 0 (un (qAY (put b t (laid b s f d p)) (mh b h s t d) s)) n (mh b h s t d) s m st
  rw [qHM (hS.clean.put t (laid b s f d p)).len hP.to_] at p1
  rw [qgB hS.clean hP.to_ g2] at p1
  rw [qD (by simpa using hd),hmb,p1,qA]
  simp only
  have hbk:qz (qz h s d (-1)) s d 1=h:=qOm hg.len hS.side (by omega) d1 (d:=-1) hb (by constructor<;>omega)
  rw [qKi hS.side (by omega) d1 1 (.inl rfl),qA,hmh]
  have hky:qFG (un (qAY b (qz h s d (-1)) s)) (qz h s d (-1)) s d 1=un (qAY b h s):=qWz hg.len hS.side (by omega) d1 (d:=-1) _ _ hb (by constructor<;>omega)
  rw [hbk,hky]
end Go.Kk.Pl
namespace Go.Kk.Pl
structure PosP (b h:List Int) (s:Int):Prop where
 len:b.length=81
 fits:qAV h
 hlen:h.length=16
 zero:qCK b h s=0
theorem PosP.clean {b h:List Int} {s:Int} (hp:PosP b h s):Clean b:=(qGF hp.len hp.zero).1
theorem PosP.side {b h:List Int} {s:Int} (hp:PosP b h s):s=0 \/ s=1:=(qGF hp.len hp.zero).2.1
theorem PosP.going {b h:List Int} {s:Int} (hp:PosP b h s):Going b h s:=⟨qdQ hp.len hp.fits (qTG hp.zero),hp.fits,hp.hlen⟩
theorem PosP.after {b h:List Int} {s:Int} (hp:PosP b h s) {m:List Int} (hm:m∈lgL b h s):PosP (mbM b s m) (mhM b h s m) (1 - s):=by
 obtain ⟨hc,hs,hno,k,k',hk,hk'⟩:=qGF hp.len hp.zero
 obtain ⟨_,hm2,_,hm4⟩:=qXe hc hs hno hk hk' hm
 have hsafe:inC (mb b s (m0 m) (m1 m) (m2 m) (m3 m)) s=false:=by simpa [qDF,mbM] using hm4
 exact ⟨(qYW hc _ _ _ _ _).1,ql6 hp.fits _ _ _ _,ql7 hp.hlen _ _ _ _,qfi hp.len hp.fits hp.hlen (qTG hp.zero) hm2 hsafe⟩
theorem PosP.lists {b h:List Int} {s:Int} (hp:PosP b h s):lgL b h s=rlL b h s:=by
 obtain ⟨hc,hs,hno,k,k',hk,hk'⟩:=qGF hp.len hp.zero
 exact qYK hc h hs hno hk hk'
theorem PosP.all {b h:List Int} {s:Int} (hp:PosP b h s):qHP b h s (qR b) (qV b)=some ((lgL b h s).length,b,h,s,qR b,qV b,(lgL b h s).length,lgL b h s):=by
 obtain ⟨hc,hs,hno,k,k',hk,hk'⟩:=qGF hp.len hp.zero
 exact qXG hc h hs hk hk'
theorem PosP.full {b h:List Int} {s:Int} (hp:PosP b h s) {m:List Int} (hm:m∈lgL b h s):Mv4 m /\ qA1 b h s (m0 m) (m1 m) (m2 m) (m3 m)=true:=by
 obtain ⟨hc,hs,hno,k,k',hk,hk'⟩:=qGF hp.len hp.zero
 have:=qXe hc hs hno hk hk' hm
 exact ⟨this.1,this.2.1⟩
end Go.Kk.Pl
namespace Go.Kk.Pl
end Go.Kk.Pl
namespace Go.Kk.Pl
end Go.Kk.Pl
namespace Go.Kk.Pl
end Go.Kk.Pl
namespace Go.Kk.Pl
end Go.Kk.Pl
namespace Go.Kk.Pl
end Go.Kk.Pl
namespace Go.Kk.Pl
def tx (m:List Int):ByteArray:=bts (txL (m0 m).toNat (m1 m).toNat (m2 m).toNat (m3 m))
theorem qY6 {b h:List Int} {s f t d:Int} {p:Bool} (hP:CanP b h s f t d p):f=Int.ofNat f.toNat /\ t=Int.ofNat t.toNat /\ d=Int.ofNat d.toNat /\ Nmd f.toNat t.toNat d.toNat p:=by
 have ht:=hP.to_
 simp only [Int.ofNat_eq_natCast]
 by_cases hd:d=0
 ·obtain ⟨h1,h2,h3,_⟩:=hP.move hd
  exact ⟨by omega,by omega,by omega,by omega,fun h=>by omega,fun _=>⟨by omega,by omega⟩⟩
 ·obtain ⟨h1,h2,h3,h4,_⟩:=hP.drop hd
  exact ⟨by omega,by omega,by omega,by omega,fun _=>⟨by omega,by omega,h4⟩,fun h=>by omega⟩
theorem PosP.canP {b h:List Int} {s:Int} (hp:PosP b h s) {m:List Int} (hm:m∈lgL b h s):CanP b h s (m0 m) (m1 m) (m2 m) (m3 m):=(qHe (hp.full hm).2).2
theorem PosP.text {b h:List Int} {s:Int} (hp:PosP b h s) {m:List Int} (hm:m∈lgL b h s):qDl (m0 m) (m1 m) (m2 m) (m3 m)=some (tx m):=by
 obtain ⟨e1,e2,e3,hn⟩:=qY6 (hp.canP hm)
 have:=qei hn
 rw [<- e1,<- e2,<- e3] at this
 exact this
theorem PosP.parse {b h:List Int} {s:Int} (hp:PosP b h s) {m:List Int} (hm:m∈lgL b h s):qDk (tx m)=some (m0 m,m1 m,m2 m,m3 m,0):=by
 obtain ⟨e1,e2,e3,hn⟩:=qY6 (hp.canP hm)
 have:=qZN hn
 rw [<- e1,<- e2,<- e3] at this
 exact this
theorem PosP.apart {b h:List Int} {s:Int} (hp:PosP b h s) {m m':List Int} (hm:m∈lgL b h s) (hm':m'∈lgL b h s) (e:qAC (tx m)=qAC (tx m')):m=m':=by
 have e:tx m=tx m':=by rw [<- qDY (tx m),e,qDY]
 have h1:=hp.parse hm
 rw [e,hp.parse hm'] at h1
 simp only [Option.some.injEq,Prod.mk.injEq,and_true] at h1
 obtain ⟨a,b,c,d⟩:=h1
 rw [(hp.full hm).1.1,(hp.full hm').1.1,a,b,c,d]
theorem qtL {A:List (List Int)} {B:List (List Int)} {n j:Nat} (e:B.take n=A.take n) (hj:j<n):B.getD j []=A.getD j []:=by
 have h1:∀ X:List (List Int),(X.take n).getD j []=X.getD j []:=by
  intro X
  rw [List.getD_eq_getElem?_getD,List.getD_eq_getElem?_getD,List.getElem?_take_of_lt hj]
 rw [<- h1 B,<- h1 A,e]
def qQD (b:List Int) (s:Int) (m:List Int):List Int:=[m0 m,m1 m,m2 m,bi (m3 m),at_ b (m1 m),was b s (m0 m) (m2 m)]
theorem PosP.make {b h:List Int} {s:Int} (hp:PosP b h s) {m:List Int} (hm:m∈lgL b h s) (n:Nat) (hn:n<=1000) (x:Nat) (st:List (List Int)):
  qE4 (m0 m) (m1 m) (m2 m) (m3 m) (kof b h s) n b h s (qR b) (qV b) x st =
   some (.inr (true,kof (mbM b s m) (mhM b h s m) (1 - s),n+1,mbM b s m,mhM b h s m,1 - s,qR (mbM b s m),qV (mbM b s m),n+1,List.append (List.take n st) [qQD b s m])):=by
 obtain ⟨c,hcan,hmk⟩:=ql0 hp.clean h hp.side (m0 m) (m1 m) (m2 m) (m3 m)
 have e:qDT b h s (m0 m) (m1 m) (m2 m) (m3 m)=c:=Option.some.inj ((qhY b h hp.side (m0 m) (m1 m) (m2 m) (m3 m) 0 0 (qR b) (qV b) 0 []).symm.trans (hcan 0 0 0 []))
 rw [qmB (hp.full hm).2] at e
 rcases hmk with ⟨h1,_⟩ | ⟨_,hP,hmk⟩
 ·rw [h1] at e;cases e
 ·rw [hmk _ _ _ _ (by omega),ql9 hp.going.sound hp.going.fits hp.going.len hP]
  rfl
theorem PosP.back {b h:List Int} {s:Int} (hp:PosP b h s) {m:List Int} (hm:m∈lgL b h s) (n:Nat) (hn:n<=1000) (x:Nat) (st:List (List Int)) (hst:st.getD n []=qQD b s m):
  qOG (kof (mbM b s m) (mhM b h s m) (1 - s)) (n+1) (mbM b s m) (mhM b h s m) (1 - s) (qR (mbM b s m)) (qV (mbM b s m)) x st=some (true,kof b h s,n,b,h,s,qR b,qV b,x,st):=by
 rw [qKs,qKs]
 exact qgC hp.going (hp.canP hm) n hn x st hst
inductive Hist (b0 h0:List Int) (s0:Int):Nat->List (List Int)->List Int->List Int->Int->Prop
 | zero (st:List (List Int)):Hist b0 h0 s0 0 st b0 h0 s0
 | succ {n:Nat} {st:List (List Int)} {b h:List Int} {s:Int} {m:List Int} (hh:Hist b0 h0 s0 n st b h s) (hp:PosP b h s) (hm:m∈lgL b h s) (hst:st.getD n []=qQD b s m):
   Hist b0 h0 s0 (n+1) st (mbM b s m) (mhM b h s m) (1 - s)
theorem Hist.congr {b0 h0:List Int} {s0:Int} {n:Nat} {st:List (List Int)} {b h:List Int} {s:Int} (hh:Hist b0 h0 s0 n st b h s):∀ {st':List (List Int)},st'.take n=st.take n->Hist b0 h0 s0 n st' b h s:=by
 induction hh with
 | zero st=>intro st' _;exact .zero st'
 | @succ n st b h s m hh hp hm hst ih=>
   intro st' e
   have e':st'.take n=st.take n:=by
    have:=congrArg (List.take n) e
    rwa [List.take_take,List.take_take,Nat.min_eq_left (by omega)] at this
   exact .succ (ih e') hp hm (by rw [qtL e (by omega),hst])
end Go.Kk.Pl
namespace Go.Kk.Pl
theorem qlu:qKz=some true:=by kernel_rfl
def nm (m:List Int):List Int:=[m0 m,m1 m,m2 m,bi (m3 m)]
theorem nm0 (m:List Int):m0 (nm m)=m0 m:=rfl
theorem nm1 (m:List Int):m1 (nm m)=m1 m:=rfl
theorem nm2 (m:List Int):m2 (nm m)=m2 m:=rfl
theorem nm3 (m:List Int):m3 (nm m)=m3 m:=qGn (m3 m)
theorem qmj (b:List Int) (s:Int) (m:List Int):mbM b s (nm m)=mbM b s m:=by unfold mbM;rw [nm0,nm1,nm2,nm3]
theorem qmk (b h:List Int) (s:Int) (m:List Int):mhM b h s (nm m)=mhM b h s m:=by unfold mhM;rw [nm1,nm2]
def lg (b h:List Int) (s:Int) (m:List Int):Bool:=(lgL b h s).contains (nm m)
theorem qju {b h:List Int} {s:Int} {m:List Int} (hm:lg b h s m=true):nm m∈lgL b h s:=by simpa [lg] using hm
theorem PosP.is {b h:List Int} {s:Int} (hp:PosP b h s) (m:List Int):qHT (m0 m) (m1 m) (m2 m) (m3 m) b h s (qR b) (qV b)=some (lg b h s m,b,h,s,qR b,qV b):=by
 obtain ⟨hc,hs,hno,k,k',hk,hk'⟩:=qGF hp.len hp.zero
 exact qkp hc h hs hk hk' _ _ _ _
theorem PosP.next {b h:List Int} {s:Int} (hp:PosP b h s) {m:List Int} (hm:lg b h s m=true):PosP (mbM b s m) (mhM b h s m) (1 - s):=by
 have:=hp.after (qju hm)
 rw [qmj,qmk] at this
 exact this
def zB:List Int:=[0,0,0,0,0,0,0,0,0,0,0,0,0,0,0,0,0,0,0,0,0,0,0,0,0,0,0,0,0,0,0,0,0,0,0,0,0,0,0,0,0,0,0,0,0,0,0,0,0,0,0,0,0,0,0,0,0,0,0,0,0,0,0,0,0,0,0,0,0,0,0,0,0,0,0,0,0,0,0,0,0]
end Go.Kk.Pl
namespace Go.Kk.Pl
theorem qon (f t d:Int) (p:Bool):∃ v,qGM f t d p=some v /\ (v=0->0<=t /\ t<81 /\ (d≠0->0<d /\ d<8 /\ f=0 /\ p=false) /\ (d=0->0<=f /\ f<81 /\ f≠t)):=by
 unfold qGM
 by_cases h1:t<0
 ·rw [qD (by simpa using h1)];exact ⟨1,rfl,fun h=>by cases h⟩
 rw [qH (by simpa using h1)]
 by_cases h2:t>80
 ·rw [qD (by simpa using h2)];exact ⟨1,rfl,fun h=>by cases h⟩
 rw [qH (by simpa using h2)]
 by_cases h3:d=0
 ·rw [qH (by simpa using h3)]
  by_cases h4:f<0
  ·rw [qD (by simpa using h4)];exact ⟨1,rfl,fun h=>by cases h⟩
  rw [qH (by simpa using h4)]
  by_cases h5:f>80
  ·rw [qD (by simpa using h5)];exact ⟨1,rfl,fun h=>by cases h⟩
  rw [qH (by simpa using h5)]
  by_cases h6:f=t
  ·rw [qD (by simpa using h6)];exact ⟨70,rfl,fun h=>by cases h⟩
  ·rw [qH (by simpa using h6)]
   exact ⟨0,rfl,fun _=>⟨by omega,by omega,fun h=>absurd h3 h,fun _=>⟨by omega,by omega,h6⟩⟩⟩
 ·rw [qD (by simpa using h3)]
  by_cases h4:d<1
  ·rw [qD (by simpa using h4)];exact ⟨70,rfl,fun h=>by cases h⟩
  rw [qH (by simpa using h4)]
  by_cases h5:d>7
  ·rw [qD (by simpa using h5)];exact ⟨70,rfl,fun h=>by cases h⟩
  rw [qH (by simpa using h5)]
  by_cases h6:f=0
  ·rw [qH (by simpa using h6)]
   cases p with
   | true=>exact ⟨70,rfl,fun h=>by cases h⟩
   | false=>exact ⟨0,rfl,fun _=>⟨by omega,by omega,fun _=>⟨by omega,by omega,h6,rfl⟩,fun h=>absurd h h3⟩⟩
  ·rw [qD (by simpa using h6)];exact ⟨70,rfl,fun h=>by cases h⟩
theorem qoo {f t d:Nat} {p:Bool} (h:Nmd f t d p):qGM (Int.ofNat f) (Int.ofNat t) (Int.ofNat d) p=some 0:=by
 have:=h.to_
 unfold qGM
 simp only [Int.ofNat_eq_natCast]
 rw [qY (by omega),qH (by simp;omega)]
 by_cases hd:d=0
 ·obtain ⟨h1,h2⟩:=h.move hd
  have e:((f:Int)==(t:Int))=false:=by rw [beq_eq_false_iff_ne];omega
  rw [qH (by simp [hd]),qY (by omega),qH (by simp;omega),qH e]
 ·obtain ⟨h1,h2,h3⟩:=h.drop hd
  subst h2 h3
  rw [qD (by simp;omega),qY (by omega),qH (by simp;omega),qH (by simp),qH rfl]
theorem qRk:∀ q,q<81->qHz (Int.ofNat q)=some (bts (sqL q)):=by decide +kernel
theorem qqk:∀ d,d<8->d≠0->(qAj (Int.ofNat d) 7&&qAj (IntKind.wrap .i64 (Int.ofNat d - 1)) (Int.toNat (Int.ofNat d)))=true /\
  ByteArray.extract { data:=#[80,76,78,83,71,66,82] } (Int.toNat (IntKind.wrap .i64 (Int.ofNat d - 1))) (Int.toNat (Int.ofNat d))=bts [ltr d]:=by decide +kernel
theorem qqn {f t d:Nat} {p:Bool} (h:Nmd f t d p):qCX (Int.ofNat f) (Int.ofNat t) (Int.ofNat d) p=some (bts (txL f t d p)):=by
 unfold qCX txL
 rw [qoo h,qA,qH (by rfl)]
 by_cases hd:d=0
 ·obtain ⟨h1,h2⟩:=h.move hd
  subst hd
  rw [qH (by rfl),qRk f h1,qRk t h.to_,if_neg (by simp)]
  simp only [qA]
  rw [qD (qEJ (by show 4<=1000;omega))]
  cases p with
  | true=>
    rw [b_t,qD (qEJ (by show 5<=1000;omega))]
    rfl
  | false=>
    rw [b_f]
    simp only [Bool.false_eq_true,if_false,List.append_nil]
    rfl
 ·obtain ⟨h1,h2,h3⟩:=h.drop hd
  obtain ⟨e1,e2⟩:=qqk d h1 hd
  rw [qD (by simp;omega),qD e1,e2,qD (qEJ (by show 2<=1000;omega)),qRk t h.to_,qA,qD (qEJ (by show 4<=1000;omega)),if_pos hd]
  rfl
theorem qSJ:∀ q,q<81->(32:UInt8) ∉ sqL q:=by decide +kernel
theorem qlz:∀ d,d<8->(32:UInt8)≠ltr d:=by decide +kernel
theorem qtf {f t d:Nat} {p:Bool} (h:Nmd f t d p):(txL f t d p).length<=5 /\ (32:UInt8) ∉ txL f t d p /\ txL f t d p≠[]:=by
 unfold txL
 by_cases hd:d=0
 ·obtain ⟨h1,h2⟩:=h.move hd
  rw [if_neg (by simpa using hd)]
  have a1:=qSJ f h1
  have a2:=qSJ t h.to_
  refine ⟨by cases p<;>simp [sqL],?_,by simp [sqL]⟩
  rw [List.mem_append,List.mem_append]
  rintro ((h | h) | h)
  ·exact a1 h
  ·exact a2 h
  ·cases p with
   | true=>simp at h
   | false=>simp at h
 ·obtain ⟨h1,h2,h3⟩:=h.drop hd
  rw [if_pos hd]
  refine ⟨by simp [sqL],?_,by simp⟩
  rw [List.mem_append]
  rintro (h' | h')
  ·simp only [List.mem_cons,List.not_mem_nil,or_false] at h'
   rcases h' with h' | h'
   ·exact qlz d h1 h'
   ·cases h'
  ·exact qSJ t h.to_ h'
theorem qoV (f t d:Int) (p:Bool):∃ l:List UInt8,qDl f t d p=some (bts l) /\ qCX f t d p=some (bts l) /\ l.length<=5 /\ (32:UInt8) ∉ l /\
  (l≠[]->∃ f' t' d':Nat,f=Int.ofNat f' /\ t=Int.ofNat t' /\ d=Int.ofNat d' /\ Nmd f' t' d' p /\ l=txL f' t' d' p):=by
 by_cases hN:0<=t /\ t<81 /\ (d≠0->0<d /\ d<8 /\ f=0 /\ p=false) /\ (d=0->0<=f /\ f<81 /\ f≠t)
 ·obtain ⟨t0,t1,hd,hm⟩:=hN
  have h3:0<=d:=by
   by_cases h:d=0
   ·omega
   ·exact Int.le_of_lt (hd h).1
  have h4:0<=f:=by
   by_cases h:d=0
   ·exact (hm h).1
   ·rw [(hd h).2.2.1];exact Int.le_refl 0
  obtain ⟨f',rfl⟩:∃ f':Nat,f=Int.ofNat f':=⟨f.toNat,by simp only [Int.ofNat_eq_natCast];omega⟩
  obtain ⟨t',rfl⟩:∃ t':Nat,t=Int.ofNat t':=⟨t.toNat,by simp only [Int.ofNat_eq_natCast];omega⟩
  obtain ⟨d',rfl⟩:∃ d':Nat,d=Int.ofNat d':=⟨d.toNat,by simp only [Int.ofNat_eq_natCast];omega⟩
  simp only [Int.ofNat_eq_natCast] at t0 t1 hd hm
  have h:Nmd f' t' d' p:=⟨by omega,fun h=>by have:=hd (by omega);exact ⟨by omega,by omega,this.2.2.2⟩,fun h=>by have:=hm (by omega);exact ⟨by omega,by omega⟩⟩
  have:=qtf h
  exact ⟨_,qei h,qqn h,this.1,this.2.1,fun _=>⟨f',t',d',rfl,rfl,rfl,h,rfl⟩⟩
 ·obtain ⟨v,v1,v2⟩:=qYe f t d p
  obtain ⟨u,u1,u2⟩:=qon f t d p
  refine ⟨[],?_,?_,by simp,by simp,fun h=>absurd rfl h⟩
  ·unfold qDl
   rw [v1,qA,qD (by rw [bne_iff_ne];exact fun h=>hN (v2 h))]
   rfl
  ·unfold qCX
   rw [u1,qA,qD (by rw [bne_iff_ne];exact fun h=>hN (u2 h))]
   rfl
def tL (m:List Int):List UInt8:=((qDl (m0 m) (m1 m) (m2 m) (m3 m)).getD qBV).data.toList
theorem qSp (m:List Int):qDl (m0 m) (m1 m) (m2 m) (m3 m)=some (bts (tL m)) /\ qCX (m0 m) (m1 m) (m2 m) (m3 m)=some (bts (tL m)) /\ (tL m).length<=5 /\ (32:UInt8) ∉ tL m /\
  (tL m≠[]->pI (qo (tL m))=(m0 m,m1 m,m2 m,m3 m,0)):=by
 obtain ⟨l,h1,h2,h3,h4,h5⟩:=qoV (m0 m) (m1 m) (m2 m) (m3 m)
 have e:tL m=l:=by unfold tL;rw [h1];rfl
 rw [e]
 refine ⟨h1,h2,h3,h4,fun h=>?_⟩
 obtain ⟨f',t',d',e1,e2,e3,hn,rfl⟩:=h5 h
 have:=qY0 (x:=txL f' t' d' (m3 m)) (by omega)
 rw [qZN hn] at this
 rw [e1,e2,e3]
 exact (Option.some.inj this).symm
theorem qtI (ps:List (List UInt8)):qDJ (ps.map qBY)=ps.map bts:=by
 unfold qDJ qBY
 rw [List.map_map]
 refine List.map_congr_left fun p _=>?_
 show qAq (qAC (bts p))=bts p
 exact qDY _
theorem qj0 (ps:List (List UInt8)):qHK (ps.map bts) qBV=bts (qa ps):=by
 unfold qHK qKo
 rw [List.map_map,show ((fun x:ByteArray=>x.data.toList) ∘ bts)=id from rfl,List.map_id]
 show bts (List.intercalate [32] ps)=_
 rw [qOr]
theorem qjy {ps:List (List UInt8)} (h1:ps.length<=1000) (h2:(qa ps).length<=1000000):qIv (ps.map bts) qBV=true:=by
 unfold qIv qKo
 rw [List.map_map,show ((fun x:ByteArray=>x.data.toList) ∘ bts)=id from rfl,List.map_id,List.length_map]
 show (Nat.ble ps.length 140737488355328&&Nat.ble (List.intercalate [32] ps).length 140737488355328)=true
 rw [qOr,Bool.and_eq_true,Nat.ble_eq,Nat.ble_eq]
 omega
theorem qj2 {ps:List (List UInt8)} (h1:ps.length<=1000) (h2:(qa ps).length<=1000000) (c:Nat):strings_Join ps.length qBV c (ps.map qBY)=some (bts (qa ps)):=by
 unfold strings_Join
 rw [List.take_of_length_le (by simp),qtI,qD (qjy h1 h2),qj0]
end Go.Kk.Pl
namespace Go.Kk.Pl
def code (v:Int×Int×Int×Bool×Int):Int:=v.2.2.2.2
def qRg (v:Int×Int×Int×Bool×Int):List Int:=[v.1,v.2.1,v.2.2.1,bi v.2.2.2.1]
def pf:List (List UInt8)->Nat->List (List Int)->(Nat×Int)⊕List (List Int)
 | [],_,A=>.inr A
 | q :: r,i,A=>if code (pI (qo q))≠0 then .inl (i,code (pI (qo q))) else pf r (i+1) (A++[qRg (pI (qo q))])
theorem qid {ps:List (List UInt8)} {i:Nat} (hi:i<ps.length):qAq (List.getD (List.getD (ps.map qBY) i []) 0 0)=bts ps[i]:=by
 have e:List.getD (ps.map qBY) i []=qBY ps[i]:=by
  rw [List.getD_eq_getElem?_getD,List.getElem?_map,List.getElem?_eq_getElem hi]
  rfl
 rw [e]
 exact qDY _
theorem qoM {ps:List (List UInt8)} (hK:ps.length<=100000) (hl:∀ p∈ps,p.length<=1000000):∀ (k i:Nat),i+k=ps.length->∀ (A:List (List Int)),A.length=i->∀ F,
  ∃ u w,qEQ (F+k+1) i ps.length ps.length i i A ps.length (ps.map qBY)=some (match pf (ps.drop i) i A with
    | .inl (j,c)=>.inl (0,(j:Int),c,j,0,[],u,w)
    | .inr C=>.inr (C.length,C.length,C)):=by
 intro k
 induction k with
 | zero=>
   intro i hi A hA F
   refine ⟨0,[],?_⟩
   rw [qEQ.eq_2]
   unfold qK6
   rw [qY (by omega),List.drop_of_length_le (by omega)]
   simp [pf,hA]
 | succ k ih=>
   intro i hi A hA F
   have hil:i<ps.length:=by omega
   have body:∀ v,pI (qo ps[i])=v->qEQ (F+(k+1)+1) i ps.length ps.length i i A ps.length (ps.map qBY) =
     br (code v != 0) (some (.inl (0,(i:Int),code v,i,0,[],i,A))) (qEQ (F+k+1) (i+1) ps.length ps.length ((i:Int)+1) (i+1) (A++[qRg v]) ps.length (ps.map qBY)):=by
    intro v hv
    rw [qEQ.eq_2]
    unfold qK6
    rw [qi (by omega),qn (by omega) (by omega),tn,qid hil,qY0 (hl _ (List.getElem_mem hil)),qA,hv]
    simp only
    rw [qC0 (by omega),w_s (n:=(i:Int)+1) (by omega) (by omega),tkA hA.symm]
    rfl
   have body:=body _ rfl
   rw [List.drop_eq_getElem_cons hil]
   unfold pf
   by_cases h:code (pI (qo ps[i]))=0
   ·rw [qH (by simpa using h)] at body
    rw [if_neg (by simpa using h)]
    obtain ⟨u,w,hw⟩:=ih (i+1) (by omega) (A++[qRg (pI (qo ps[i]))]) (by simp [hA]) F
    exact ⟨u,w,body.trans hw⟩
   ·rw [qD (by simpa using h)] at body
    rw [if_pos h]
    exact ⟨i,A,body⟩
theorem qjz {ps:List (List UInt8)} (h:qa ps=[]) (h0:ps≠[]):ps=[[]]:=by
 match ps,h0 with
 | [p],_=>have:p=[]:=h;rw [this]
 | p :: q :: r,_=>
   rw [qF6 p (by simp)] at h
   simp at h
theorem qYX:∀ {ps:List (List UInt8)} {p:List UInt8},p∈ps->p.length<=(qa ps).length
 | [q],p,h=>by simp at h;subst h;exact Nat.le_refl _
 | q :: a :: r,p,h=>by
   rw [qF6 q (by simp),List.length_append,List.length_cons]
   rcases List.mem_cons.1 h with rfl | h
   ·omega
   ·have:=qYX h;omega
theorem qlC {ps:List (List UInt8)} (hsp:∀ p∈ps,(32:UInt8) ∉ p) (h0:ps≠[]):ps.length<=(qa ps).length+1:=by
 have h1:=qOq hsp h0
 have h2:(qa ps).count 32<=(qa ps).length:=List.count_le_length
 omega
theorem qlx {ps:List (List UInt8)} (h0:ps≠[]) (hsp:∀ p∈ps,(32:UInt8) ∉ p) (hne:qa ps≠[]) (hl:(qa ps).length<=10000):qHY (bts (qa ps))=some (match pf ps 0 [] with
  | .inl (j,c)=>(0,(j:Int),c,0,[])
  | .inr C=>(C.length,(C.length:Int),0,C.length,C)):=by
 have hlen:=qlC hsp h0
 unfold qHY
 have e1:qAa (bts (qa ps)) { data:=#[]}=false:=by
  have:=qSV (qa ps) []
  rw [show qAa (bts (qa ps)) { data:=#[]}=qAa (bts (qa ps)) (bts []) from rfl,this]
  simpa using hne
 rw [qH e1]
 refine (congrArg (fun m=>ob m _) (qsD h0 hsp (by omega))).trans ?_
 rw [qA]
 simp only
 obtain ⟨g,hg⟩:=qk ps.length (by omega)
 obtain ⟨u,w,this⟩:=qoM (ps:=ps) (by omega) (fun p hp=>by have:=qYX hp;omega) ps.length 0 (by omega) [] rfl g
 rw [<- hg,List.drop_zero] at this
 refine (congrArg (fun m=>ob m _) this).trans ?_
 rw [qA]
 cases pf ps 0 [] with
 | inl x=>rfl
 | inr C=>rfl
def qRq (s:List UInt8) (nl:Nat) (n e:Int) (c1:Nat) (x1:List (List Int)) (c2:Nat) (x2:List (List Int)):(Nat×Int)⊕List (List Int)->Nat->(ByteArray×Bool×Nat×Int×Int×Int×Nat×List (List Int)×Nat×List (List Int))⊕(ByteArray×Nat×Int×Int×Int×Nat×List (List Int)×Nat×List (List Int))
 | .inl (j,c),_=>.inl (bts s,(Int.ofNat nl==0)&&((n==(j:Int))&&(e==c)),nl,n,e,(j:Int),c1,x1,c2,x2)
 | .inr _,k=>.inr (bts s,nl,n,e,(k:Int),c1,x1,c2,x2)
end Go.Kk.Pl
namespace Go.Kk.Pl
def qP (xs:List (List Int)) (lo:Nat) (a:Int) (j:Nat):List UInt8:=if (j:Int)=a then 120 :: tL (xs.getD (lo+j) []) else tL (xs.getD (lo+j) [])
def qF (xs:List (List Int)) (lo:Nat) (a:Int):Nat->Nat->List (List UInt8)
 | 0,_=>[]
 | k+1,j=>qP xs lo a j :: qF xs lo a k (j+1)
theorem qQY (xs:List (List Int)) (lo:Nat) (a:Int) (j:Nat):(qP xs lo a j).length<=6 /\ (32:UInt8) ∉ qP xs lo a j:=by
 obtain ⟨_,_,h3,h4,_⟩:=qSp (xs.getD (lo+j) [])
 unfold qP
 split
 ·refine ⟨by rw [List.length_cons];omega,fun h=>?_⟩
  rcases List.mem_cons.1 h with h | h
  ·cases h
  ·exact h4 h
 ·exact ⟨by omega,h4⟩
theorem qZz (xs:List (List Int)) (lo:Nat) (a:Int):∀ k j,(qF xs lo a k j).length=k
 | 0,_=>rfl
 | k+1,j=>by simp [qF,qZz xs lo a k]
theorem qQX (xs:List (List Int)) (lo:Nat) (a:Int):∀ k j p,p∈qF xs lo a k j->∃ i,p=qP xs lo a i
 | k+1,j,p,h=>by
   rcases List.mem_cons.1 h with rfl | h
   ·exact ⟨_,rfl⟩
   ·exact qQX xs lo a k (j+1) p h
theorem qQW (xs:List (List Int)) (lo:Nat) (a:Int):∀ (k o j:Nat),j<k->(qF xs lo a k o)[j]? = some (qP xs lo a (o+j))
 | k+1,o,0,_=>rfl
 | k+1,o,j+1,h=>by
   show (qF xs lo a k (o+1))[j]? = _
   rw [qQW xs lo a k (o+1) j (by omega),show o+1+j=o+(j+1) by omega]
theorem qOs:∀ {ps:List (List UInt8)},(∀ p∈ps,p.length<=6)->(qa ps).length<=7*ps.length
 | [],_=>by simp [qa]
 | [p],h=>by have:=h p (by simp);simp [qa];omega
 | p :: q :: r,h=>by
   have h1:=h p (by simp)
   have h2:=qOs (ps:=q :: r) fun x hx=>h x (by simp at hx ⊢;right;exact hx)
   rw [qF6 p (by simp)]
   simp only [List.length_append,List.length_cons] at h2 ⊢
   omega
theorem qsE (l:List UInt8):code (pI (qo (120 :: l)))=70:=by
 have f1:∀ b,sq2 120 b = -1:=fun b=>by
  unfold sq2
  rw [if_pos (.inl (by decide))]
 have f2:kd7 120 = -1:=by decide
 by_cases h3:l.length=3
 ·match l,h3 with
  | [b,c,d],_=>
    show code (pI [120,Int.ofNat b.toNat,Int.ofNat c.toNat,Int.ofNat d.toNat])=70
    rw [pI4,f1,f2]
    split
    ·rw [if_pos (.inl (by decide))];rfl
    ·rw [if_pos (.inl (by decide))];rfl
 ·by_cases h4:l.length=4
  ·match l,h4 with
   | [b,c,d,e],_=>
     show code (pI [120,Int.ofNat b.toNat,Int.ofNat c.toNat,Int.ofNat d.toNat,Int.ofNat e.toNat])=70
     rw [pI5,f1]
     split
     ·rfl
     ·rw [if_pos (.inl (by decide))];rfl
  ·rw [qJD (by rw [qF5,List.length_cons];omega) (by rw [qF5,List.length_cons];omega)]
   rfl
theorem qZP:∀ (ps:List (List UInt8)) (i j:Nat) (A:List (List Int)) (q:List UInt8),ps[j]? = some q->(∀ l p,l<j->ps[l]? = some p->code (pI (qo p))=0)->code (pI (qo q))=70->pf ps i A=.inl (i+j,70)
 | [],i,j,A,q,h,_,_=>by simp at h
 | p :: r,i,0,A,q,h,_,hc=>by
   simp at h
   subst h
   unfold pf
   rw [if_pos (by rw [hc];decide),hc]
   rfl
 | p :: r,i,j+1,A,q,h,hl,hc=>by
   unfold pf
   rw [if_neg (by simpa using hl 0 p (by omega) rfl),qZP r (i+1) j _ q (by simpa using h) (fun l p' hlj hp'=>hl (l+1) p' (by omega) (by simpa using hp')) hc]
   congr 2
   omega
theorem qmm (lo N cap:Nat) (hN:N<=1000) (xs:List (List Int)) (a:Int):∀ (k i:Nat),i+k=N->∀ (ps:List (List UInt8)),ps.length=i->(∀ p∈ps,p.length<=6)->∀ F,
  (∃ w,qCq (F+k+1) a (bts (qa ps)) lo N N i cap xs=some (.inl (a,true,w,cap,xs))) \/
  (qCq (F+k+1) a (bts (qa ps)) lo N N i cap xs=some (.inr (a,bts (qa (ps++qF xs lo a k i)),cap,xs)) /\ ∀ j,i<=j->j<N->tL (xs.getD (lo+j) [])≠[]):=by
 intro k
 induction k with
 | zero=>
   intro i hi ps hps h6 F
   refine .inr ⟨?_,fun j h1 h2=>by omega⟩
   rw [qCq.eq_2]
   unfold qKy
   rw [qY (by omega)]
   simp [qF]
 | succ k ih=>
   intro i hi ps hps h6 F
   obtain ⟨q1,q2,q3,q4,q5⟩:=qSp (xs.getD (lo+i) [])
   obtain ⟨z1,z2⟩:=qQY xs lo a i
   have hl:=qOs h6
   have e1:qAa (bts (tL (xs.getD (lo+i) []))) { data:=#[]}=decide (tL (xs.getD (lo+i) [])=[]):=by
    have:=qSV (tL (xs.getD (lo+i) [])) []
    rw [show qAa (bts (tL (xs.getD (lo+i) []))) { data:=#[]}=qAa (bts (tL (xs.getD (lo+i) []))) (bts []) from rfl,this]
   have next:=ih (i+1) (by omega) (ps++[qP xs lo a i]) (by simp [hps]) (fun p hp=>by
    rcases List.mem_append.1 hp with hp | hp
    ·exact h6 p hp
    ·simp at hp;subst hp;exact z1) F
   have eapp:(ps++[qP xs lo a i])++qF xs lo a k (i+1)=ps++qF xs lo a (k+1) i:=by
    rw [List.append_assoc];rfl
   rw [eapp] at next
   have body:qCq (F+(k+1)+1) a (bts (qa ps)) lo N N i cap xs =
     br (decide (tL (xs.getD (lo+i) [])=[])) (some (.inl (a,true,(if i=0 then bts (qa ps) else bts (qa ps++[32])),cap,xs)))
      (qCq (F+k+1) a (bts (qa (ps++[qP xs lo a i]))) lo N N ((i:Int)+1) cap xs):=by
    rw [qCq.eq_2]
    unfold qKy
    rw [qi (by omega),qn (by omega) (by omega),tn]
    simp only [hdM]
    rw [q2]
    simp only [qA]
    rw [e1,w_s (n:=(i:Int)+1) (by omega) (by omega)]
    by_cases h0:i=0
    ·subst h0
     have hp0:ps=[]:=List.eq_nil_of_length_eq_zero hps
     subst hp0
     rw [qH (b:=decide (((0:Nat):Int)>0)) (by simp),if_pos rfl]
     congr 1
     unfold qP
     by_cases ha:((0:Nat):Int)=a
     ·rw [qD (by rw [beq_iff_eq];exact ha),if_pos ha,qD (qEI (by simp only [qDI,qa,List.length_nil];omega)),qD (qEI (by
       show (([]:List UInt8)++[120]).length+(tL (xs.getD (lo+0) [])).length<=1000000
       simp only [List.nil_append,List.length_cons,List.length_nil]
       omega))]
      rfl
     ·rw [qH (by rw [beq_eq_false_iff_ne];exact ha),if_neg ha,qD (qEI (by rw [qDI,qDI];simp only [qa,List.length_nil];omega))]
      rfl
    ·have hne:ps≠[]:=by rintro rfl;exact h0 hps.symm
     rw [qD (b:=decide ((i:Int)>0)) (by rw [decide_eq_true_eq];omega),qD (qEI (by rw [qDI];omega)),if_neg h0]
     have d1:({data:={toList:=List.append (Array.toList (ByteArray.data (bts (qa ps)))) (Array.toList (ByteArray.data { data:=#[32]})) }}:ByteArray)=bts (qa ps++[32]):=rfl
     rw [d1]
     congr 1
     unfold qP
     by_cases ha:(i:Int)=a
     ·rw [qD (by rw [beq_iff_eq];exact ha),if_pos ha,qD (qEI (by
       show (qa ps++[32]).length+1<=1000000
       rw [List.length_append]
       simp only [List.length_cons,List.length_nil]
       omega)),qD (qEI (by
       show ((qa ps++[32])++[120]).length+(tL (xs.getD (lo+i) [])).length<=1000000
       rw [List.length_append,List.length_append]
       simp only [List.length_cons,List.length_nil]
       omega))]
      refine congrArg (fun w=>qCq (F+k+1) a w lo N N ((i:Int)+1) cap xs) ?_
      rw [qOt _ hne]
      show bts ((qa ps++[32]++[120])++tL (xs.getD (lo+i) []))=_
      simp
     ·rw [qH (by rw [beq_eq_false_iff_ne];exact ha),if_neg ha,qD (qEI (by
       show (qa ps++[32]).length+(tL (xs.getD (lo+i) [])).length<=1000000
       rw [List.length_append]
       simp only [List.length_cons,List.length_nil]
       omega))]
      refine congrArg (fun w=>qCq (F+k+1) a w lo N N ((i:Int)+1) cap xs) ?_
      rw [qOt _ hne]
      show bts ((qa ps++[32])++tL (xs.getD (lo+i) []))=_
      simp
   by_cases he:tL (xs.getD (lo+i) [])=[]
   ·exact .inl ⟨_,by rw [body,qD (by simpa using he)]⟩
   ·rw [qH (by simpa using he)] at body
    rcases next with ⟨w,hw⟩ | ⟨n1,n2⟩
    ·exact .inl ⟨w,body.trans hw⟩
    ·refine .inr ⟨body.trans n1,fun j h1 h2=>?_⟩
     by_cases hj:j=i
     ·subst hj;exact he
     ·exact n2 j (by omega) h2
theorem qtP:qI5=some (bts []):=by
 unfold qI5
 obtain ⟨g,hg⟩:=qk 0 (by omega)
 have:qHZ qB 0 0 0 0 []=some (0,0,[]):=by
  rw [hg,qHZ.eq_2]
  rfl
 rw [this,qA]
 have:=qj2 (ps:=[]) (by simp) (by simp [qa]) 0
 exact (congrArg (fun m=>ob m _) this).trans rfl
theorem ql2 (b h:List Int) (s:Int):qI1 b h s=some (0,210):=by
 unfold qI1
 obtain ⟨g,hg⟩:=qk 0 (by omega)
 rw [hg,qI2.eq_2]
 rfl
theorem qoL {b h:List Int} {s:Int} (hl:b.length=81) (hf:qAV h) (hh:h.length=16):qI3 b h s=some (0,b,h,s,qCK b h s):=by
 unfold qI3
 rw [qfl hl hf,qA]
 by_cases hz:qCK b h s=0
 ·have hp:PosP b h s:=⟨hl,hf,hh,hz⟩
  rw [qAf hz,qje hp.clean,qA]
  simp only
  obtain ⟨g,hg⟩:=qk 0 (by omega)
  rw [hg,qI4.eq_2]
  unfold qPj
  rw [qY (by omega),qA,hz]
 ·rw [qAR hz]
theorem qlK {b h:List Int} (s:Int) (hl:b.length=81) (hf:qAV h) (hh:h.length=16) (lo N cap:Nat) (xs:List (List Int)) (a:Int):qIy b h s lo N cap xs a=some true:=by
 unfold qIy
 rw [qlu,qA]
 simp only [Bool.not_true,b_f]
 rw [qoL hl hf hh,qA]
 simp only [bne_self_eq_false,b_f,beq_self_eq_true,Bool.and_self,Bool.not_true]
 rw [qoU hl hf,qA]
 simp only [bne_self_eq_false,b_f]
 rw [qtP,qA]
 have e0:qAa (bts []) { data:=#[]}=true:=rfl
 rw [e0,ql2,qA]
 simp only [Bool.not_true,b_f,bne_self_eq_false]
 by_cases hn:Int.ofNat N>20
 ·rw [qD (by simpa using hn)]
 have hN:N<=20:=by simp only [Int.ofNat_eq_natCast] at hn;omega
 rw [qH (by simpa using hn)]
 by_cases h1:a<0
 ·rw [qi h1]
 by_cases h2:a >= Int.ofNat N
 ·rw [qY h1,qD (by simpa using h2)]
 rw [qY h1,qH (by simpa using h2)]
 obtain ⟨j,rfl⟩:∃ j:Nat,a=(j:Int):=⟨a.toNat,by omega⟩
 have hj:j<N:=by simp only [Int.ofNat_eq_natCast] at h2;omega
 obtain ⟨g,hg⟩:=qk N (by omega)
 have hloop:=qmm lo N cap (by omega) xs (j:Int) N 0 (by omega) [] rfl (fun p hp=>by cases hp) g
 rw [<- hg,List.nil_append] at hloop
 rcases hloop with ⟨w,hw⟩ | ⟨hw,hne⟩
 ·refine (congrArg (fun m=>ob m _) hw).trans ?_
  rw [qA,qef]
 ·refine (congrArg (fun m=>ob m _) hw).trans ?_
  rw [qA,qBE]
  simp only
  have hQ:(qF xs lo (j:Int) N 0).length=N:=qZz xs lo (j:Int) N 0
  have q0:qF xs lo (j:Int) N 0≠[]:=by intro h;rw [h] at hQ;simp at hQ;omega
  have q32:∀ p∈qF xs lo (j:Int) N 0,(32:UInt8) ∉ p:=fun p hp=>by obtain ⟨i,rfl⟩:=qQX xs lo (j:Int) N 0 p hp;exact (qQY xs lo _ i).2
  have q6:∀ p∈qF xs lo (j:Int) N 0,p.length<=6:=fun p hp=>by obtain ⟨i,rfl⟩:=qQX xs lo (j:Int) N 0 p hp;exact (qQY xs lo _ i).1
  have hJ:=qOs q6
  rw [hQ] at hJ
  have qj:=qQW xs lo (j:Int) N 0 j hj
  rw [Nat.zero_add] at qj
  have hqj:qP xs lo (j:Int) j=120 :: tL (xs.getD (lo+j) []):=by unfold qP;rw [if_pos rfl]
  have j0:qa (qF xs lo (j:Int) N 0)≠[]:=by
   intro h
   have h1:=qjz h q0
   have:=List.mem_of_getElem? qj
   rw [h1,hqj] at this
   simp at this
  have hpf:pf (qF xs lo (j:Int) N 0) 0 []=.inl (0+j,70):=by
   refine qZP _ 0 j [] _ qj (fun l p hlj hp=>?_) (by rw [hqj];exact qsE _)
   have:=qQW xs lo (j:Int) N 0 l (by omega)
   rw [Nat.zero_add,hp] at this
   have hpl:p=qP xs lo (j:Int) l:=Option.some.inj this
   have:qP xs lo (j:Int) l=tL (xs.getD (lo+l) []):=by unfold qP;rw [if_neg (by omega)]
   rw [hpl,this,(qSp _).2.2.2.2 (hne l (by omega) (by omega))]
   rfl
  rw [qlx q0 q32 j0 (by omega),hpf,qA]
  simp only [Nat.zero_add]
  simp [br]
end Go.Kk.Pl
