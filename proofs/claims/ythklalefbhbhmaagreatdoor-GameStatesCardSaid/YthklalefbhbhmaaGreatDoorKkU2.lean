/- What the program's functions come to, told plainly: the texts of this project that this claim leans on, cut down to what is used. -/
import Derived.Test.YthklalefbhbhmaaGreatDoorKkU1
namespace Go.Kk.Pl
theorem qcu {s:Int} (hs:s = -1 \/ s=0 \/ s=1) {q:Nat} (hq:q<81):qGj s q=some (qCs s q):=by
 unfold qGj qIK qCs
 rcases hs with rfl | rfl | rfl
 ·simp (disch:=omega) only[qY,qBn,qn]
  simp
 ·simp (disch:=omega) only[qY,qBn,qo,qJr,qA]
  simp
 ·simp (disch:=omega) only[qY,qBn,qn,qo,qJr,qA,w_s]
  simp
theorem qcs (x:Int) {q:Nat} (hq:q<81):qEY x q=some (qBA x q):=by
 unfold qEY
 rw[qDP,qA,qcu (qGY x) hq,qA,qBt,qA]
 unfold qBA
 generalize kd x=k
 generalize qCs (sd x) q=n
 simp only[qIk,beq_iff_eq]
 repeat' split
 all_goals first
  | (rw[Option.some.injEq,Bool.eq_iff_iff];simp;omega)
  | (simp;omega)
def pc (s k:Int):Int:=if (s=0 \/ s=1) /\ 1<=k /\ k<=15 /\ k≠13 then 16*s+k else 0
theorem qA4 {s k:Int} (hs:s=0 \/ s=1) (h1:1<=k) (h2:k<=15) (h3:k≠13):pc s k=16*s+k:=by unfold pc;rw[if_pos ⟨hs,h1,h2,h3⟩]
theorem qP2 {s k:Int} (h:¬ ((s=0 \/ s=1) /\ 1<=k /\ k<=15 /\ k≠13)):pc s k=0:=by unfold pc;rw[if_neg h]
theorem qlp (s k:Int):0<=pc s k /\ pc s k<32:=by unfold pc;split<;>omega
theorem qLK (s k:Int):qBS s k=some (pc s k):=by
 by_cases hs:s=0 \/ s=1
 ·by_cases h:1<=k /\ k<=15 /\ k≠13
  ·rw[qLL hs h.1 h.2.1 h.2.2,qA4 hs h.1 h.2.1 h.2.2]
  ·rw[qP2 (by omega)]
   unfold qBS
   simp only[qIk,bne_iff_ne,ne_eq,beq_iff_eq,decide_eq_true_eq]
   repeat' split
   all_goals first | rfl | omega
 ·rw[qP2 (by omega)]
  unfold qBS
  simp (disch:=omega) only[qr]
theorem qlq (b:List Int):pcs b 0=fun _=>false:=by funext i;unfold pcs;simp
theorem qGE (b h:List Int) (S s k:Int) (sd':List (List Int)):qDb s k b h S (qO b) sd'=some (sLo (pcs b (pc s k)),sHi (pcs b (pc s k))):=by
 unfold qDb
 obtain⟨h0,h1⟩:=qlp s k
 rw[qLK,qA]
 by_cases hz:pc s k=0
 ·rw[qo hz,hz,qlq,qBy,qBx]
 ·rw[qn hz,qa h0 (by omega),qNg b h0 h1]
  rfl
def inF (f:Nat) (i:Nat):Bool:=decide (i / 9=f)
theorem qid:∀ f:Fin 9,qJg ((f.val:Nat):Int)=some (sLo (inF f.val),sHi (inF f.val)):=by decide +kernel
theorem qWq {f:Nat} (h:f<9):qJg f=some (sLo (inF f),sHi (inF f)):=qid ⟨f,h⟩
theorem qg3:∀ f:Fin 9,(List.range 81).filter (fun i=>decide (i / 9=f.val))=(List.range 9).map (9*f.val+·):=by decide +kernel
theorem qUm (b:List Int) {x:Int} (hx:x≠0) {f:Nat} (hf:f<9):qA2 (fun i=>pcs b x i&&inF f i)=nF b x f:=by
 unfold qA2 nF inF
 have:(List.range 81).countP (fun i=>pcs b x i&&decide (i / 9=f))=((List.range 81).filter (fun i=>decide (i / 9=f))).countP (pcs b x):=by
  rw[List.countP_filter]
 rw[this,qg3 ⟨f,hf⟩,List.countP_map]
 apply List.countP_congr
 intro r _
 show pcs b x (9*f+r)=true↔_
 unfold pcs
 simp[hx]
theorem qg4 (b h:List Int) (S:Int) (sd':List (List Int)) (q:Nat) (hq:q<9) (X:Int):∀ f,qEq (f+2+1) q X 0 b h S (qO b) sd'=some (if qBQ b q then .inl (53,X,b,h,S,qO b,sd') else .inr (X,b,h,S,qO b,sd')):=by
 intro f
 have step:∀ (s:Int) (hs:s=0 \/ s=1) rec,qEr rec q X s b h S (qO b) sd'=if 1<nF b (16*s+1) q then some (.inl (53,X,b,h,S,qO b,sd')) else rec q X (s+1) b h S (qO b) sd':=by
  intro s hs rec
  unfold qEr
  rw[qf (by omega),qGE,qA]
  simp only
  rw[qWq hq,qA]
  simp only
  rw[qEi,qA]
  simp only
  rw[qNs,qA,qA4 hs (by omega) (by omega) (by omega),qUm b (by omega) hq,w_s (by omega) (by omega)]
  split
  ·rw[qBe (by omega)]
  ·rw[qBf (by omega)]
 show qEr (qEq (f+2)) _ _ _ _ _ _ _ _=_
 rw[step 0 (.inl rfl)]
 unfold qBQ
 split
 ·rename_i h1
  rw[show (decide (1<nF b 1 q)||decide (1<nF b 17 q))=true by simp at h1;simp[h1]]
  rfl
 ·rename_i h1
  show qEr (qEq (f+1)) _ _ _ _ _ _ _ _=_
  rw[show (0:Int)+1=1 from rfl,step 1 (.inr rfl)]
  split
  ·rename_i h2
   rw[show (decide (1<nF b 1 q)||decide (1<nF b 17 q))=true by simp at h2;simp[h2]]
   rfl
  ·rename_i h2
   rw[show (decide (1<nF b 1 q)||decide (1<nF b 17 q))=false by simp at h1 h2;simp;omega]
   show qEr (qEq f) _ _ _ _ _ _ _ _=_
   unfold qEr
   rw[qY (by omega)]
   rfl
theorem qg6 (b h:List Int) (S:Int) (sd':List (List Int)):∀ (n i:Nat),i+n=9->∀ f,qEt (f+n+1) i b h S (qO b) sd'=some (if (List.range' i n).any (qBQ b) then .inl 53 else .inr ()):=by
 intro n
 induction n with
 | zero=>
   intro i hi f
   show qG7 (qEt (f+0)) _ _ _ _ _ _=_
   unfold qG7
   rw[qY (by omega)]
   rfl
 | succ n ih=>
   intro i hi f
   show qG7 (qEt (f+n+1)) _ _ _ _ _ _=_
   unfold qG7
   obtain⟨g,hg⟩:=qi 2 (by omega)
   have h12:=qg4 b h S sd' i (by omega) i g
   rw[<- hg] at h12
   rw[qf (by omega),h12,qA,any_cons]
   have:=ih (i+1) (by omega) f
   cases hb:qBQ b i with
   | true=>rfl
   | false=>
     rw[Bool.false_or,if_neg (by decide),qAk]
     simp only
     rw[w_s (by omega) (by omega)]
     exact this
theorem qg5 (b h:List Int) (s:Int) (b':List Int):∀ (n i:Nat),i+n=81->∀ f,qEs (f+n+1) b i b' h s=some (if (List.range' i n).any (fun i=>qBA (b.getD i 0) i) then .inl (52,b',h,s) else .inr (b',h,s)):=by
 intro n
 induction n with
 | zero=>
   intro i hi f
   show qG6 (qEs (f+0)) _ _ _ _ _=_
   unfold qG6
   rw[qY (by omega)]
   rfl
 | succ n ih=>
   intro i hi f
   show qG6 (qEs (f+n+1)) _ _ _ _ _=_
   unfold qG6
   have:=ih (i+1) (by omega) f
   rw[qf (by omega),qa (by omega) (by omega),cond_true,tn,qcs _ (by omega),qA,any_cons,w_s (by omega) (by omega)]
   cases hb:qBA (b.getD i 0) i with
   | true=>rfl
   | false=>
     rw[b_f,Bool.false_or]
     exact this
theorem qg7 {b:List Int} (hc:Clean b) (h:List Int) (s:Int):qG5 b h s=some (if (List.range' 0 81).any (fun i=>qBA (b.getD i 0) i) then 52 else if (List.range' 0 9).any (qBQ b) then 53 else 0):=by
 obtain⟨g81,hg81⟩:=qi 81 (by omega)
 obtain⟨g9,hg9⟩:=qi 9 (by omega)
 have c2:=qg5 b h s b 81 0 (by omega) g81
 rw[<- hg81] at c2
 have c9:=qg6 b h s (qR b) 9 0 (by omega) g9
 rw[<- hg9] at c9
 unfold qG5
 rw[show qEs qC b 0 b h s=_ from c2,qA]
 split
 ·rfl
 rw[qAk]
 simp only
 rw[qPq hc.len,qNo hc,qA]
 simp only
 rw[show qEt qC 0 b h s (qO b) (qR b)=_ from c9,qA]
 split
 ·rfl
 ·rfl
def rk (x:Int):Int:=rw_ (kd x)
theorem qov {x:Int} (h:kd x=0):rk x=0:=by unfold rk;rw[h];decide
theorem qou {x:Int} (h:kd x≠0):1<=rk x /\ rk x<=8:=by
 obtain⟨k1,k2,k3⟩:=qCP x
 unfold rk rw_
 rw[if_neg (by omega)]
 split<;>omega
def cT (b:List Int) (i:Nat) (k:Nat):Nat:=(List.range i).countP fun j=>decide (1<=k)&&rk (b.getD j 0)==k
def kT (b:List Int) (i:Nat) (x:Int):Nat:=(List.range i).countP fun j=>b.getD j 0==x
theorem qUV (b:List Int) (i k:Nat):cT b i k<=i:=Nat.le_trans List.countP_le_length (by simp)
theorem qWz (b:List Int) (i:Nat) (x:Int):kT b i x<=i:=Nat.le_trans List.countP_le_length (by simp)
theorem qUW (b:List Int) (i k:Nat):cT b (i+1) k=cT b i k+if 1<=k /\ rk (b.getD i 0)=k then 1 else 0:=by
 unfold cT
 rw[List.range_succ,List.countP_append]
 by_cases h:1<=k /\ rk (b.getD i 0)=k
 ·simp[h]
 ·rw[if_neg h]
  have:(decide (1<=k)&&rk (b.getD i 0)==(k:Int))=false:=by
   rw[Bool.and_eq_false_iff]
   by_cases h1:1<=k
   ·right;simpa using fun h2=>h ⟨h1,h2⟩
   ·left;simpa using h1
  simp only[List.countP_cons,List.countP_nil,this]
  rfl
theorem qFA (b:List Int) (i:Nat) (x:Int):kT b (i+1) x=kT b i x+if b.getD i 0=x then 1 else 0:=by
 unfold kT
 rw[List.range_succ,List.countP_append]
 by_cases h:b.getD i 0=x
 ·simp
 ·rw[if_neg h]
  have:(b.getD i 0==x)=false:=by simpa using h
  simp only[List.countP_cons,List.countP_nil,this]
  rfl
def cL (b:List Int) (i:Nat):List Int:=(List.range 9).map fun k=>((cT b i k:Nat):Int)
def kL (b:List Int) (i:Nat):List Int:=[((kT b i 8:Nat):Int),((kT b i 24:Nat):Int)]
theorem qjJ {x:Int} (h:kd x=8):x=8 \/ x=24:=by
 unfold kd at h
 split at h
 ·cases h
 ·omega
theorem qgB (b h:List Int) (s:Int) (b':List Int):∀ (n i:Nat),i+n=81->∃ c k,∀ f,qCZ (f+n+1) b i b' h s (cL b i) (kL b i) =
  some (if (List.range' i n).any (bsP b) then .inl (55,b',h,s,c,k) else .inr (b',h,s,cL b 81,kL b 81)):=by
 intro n
 induction n with
 | zero=>
   intro i hi
   refine⟨[],[],fun f=>?_⟩
   show qEp (qCZ (f+0)) _ _ _ _ _ _ _=_
   unfold qEp
   rw[qY (by omega),show i=81 by omega]
   rfl
 | succ n ih=>
   intro i hi
   obtain⟨c,k,hr⟩:=ih (i+1) (by omega)
   by_cases hbad:bsP b i=true
   ·refine⟨cL b i,kL b i,fun f=>?_⟩
    show qEp (qCZ (f+n+1)) _ _ _ _ _ _ _=_
    unfold qEp
    have hb:=hbad
    unfold bsP at hb
    rw[decide_eq_true_eq] at hb
    rw[qf (by omega),qa (by omega) (by omega),cond_true,tn,qBt,qA,qn hb.1,qo hb.2,any_cons,hbad]
    rfl
   ·refine⟨c,k,fun f=>?_⟩
    show qEp (qCZ (f+n+1)) _ _ _ _ _ _ _=_
    unfold qEp
    have hb:bsP b i=false:=by simpa using hbad
    rw[any_cons,hb,Bool.false_or,<- hr f]
    unfold bsP at hb
    rw[decide_eq_false_iff_not] at hb
    rw[qf (by omega),qa (by omega) (by omega),cond_true,tn,qBt,qA,w_s (by omega) (by omega)]
    by_cases hz:b.getD i 0=0
    ·have e1:cL b (i+1)=cL b i:=by
      unfold cL
      apply List.map_congr_left
      intro k _
      rw[qUW,hz,qov (by decide),if_neg (by omega)]
      rfl
     have e2:kL b (i+1)=kL b i:=by
      unfold kL
      rw[qFA,qFA,hz,if_neg (by omega),if_neg (by omega)]
      rfl
     rw[qo hz,e1,e2]
     rfl
    ·have hk:kd (b.getD i 0)≠0:=by omega
     obtain⟨r1,r2⟩:=qou hk
     obtain⟨k1,k2,k3⟩:=qCP (b.getD i 0)
     have hraw:qEL (kd (b.getD i 0))=some (rk (b.getD i 0)):=qZF k1 k2
     have e1:List.set (cL b i) (rk (b.getD i 0)).toNat (IntKind.wrap .i64 (List.getD (cL b i) (rk (b.getD i 0)).toNat 0+1))=cL b (i+1):=by
      unfold cL
      have hle:=qUV b i (rk (b.getD i 0)).toNat
      rw[qHf _ (by omega),map_set,w_s (by omega) (by omega)]
      apply List.map_congr_left
      intro k hk
      simp only[List.mem_range] at hk
      rw[qUW]
      by_cases hkr:k=(rk (b.getD i 0)).toNat
      ·rw[if_pos hkr,if_pos (by omega),hkr];rfl
      ·rw[if_neg hkr,if_neg (by omega)];rfl
     rw[qn hz,qn hk]
     by_cases h8:kd (b.getD i 0)=8
     ·have hle1:=qWz b i 8
      have hle2:=qWz b i 24
      rcases qjJ h8 with hx | hx
      ·have hs:sd (b.getD i 0)=0:=by rw[hx];decide
       have e2:List.set (kL b i) 0 (IntKind.wrap .i64 (List.getD (kL b i) 0 0+1))=kL b (i+1):=by
        unfold kL
        rw[qFA,qFA,hx,if_pos rfl,if_neg (by omega)]
        show [IntKind.wrap .i64 (((kT b i 8:Nat):Int)+1),_]=_
        rw[w_s (by omega) (by omega)]
        rfl
       rw[qo h8,qDP,qA,hs,qa (by omega) (by omega),qa (by omega) (by omega),hraw,qA,qa (by omega) (by omega),qa (by omega) (by omega),e1]
       show qCZ (f+n+1) b _ b' h s _ (List.set (kL b i) 0 (IntKind.wrap .i64 (List.getD (kL b i) 0 0+1)))=_
       rw[e2]
       rfl
      ·have hs:sd (b.getD i 0)=1:=by rw[hx];decide
       have e2:List.set (kL b i) 1 (IntKind.wrap .i64 (List.getD (kL b i) 1 0+1))=kL b (i+1):=by
        unfold kL
        rw[qFA,qFA,hx,if_neg (by omega),if_pos rfl]
        show [_,IntKind.wrap .i64 (((kT b i 24:Nat):Int)+1)]=_
        rw[w_s (by omega) (by omega)]
        rfl
       rw[qo h8,qDP,qA,hs,qa (by omega) (by omega),qa (by omega) (by omega),hraw,qA,qa (by omega) (by omega),qa (by omega) (by omega),e1]
       show qCZ (f+n+1) b _ b' h s _ (List.set (kL b i) 1 (IntKind.wrap .i64 (List.getD (kL b i) 1 0+1)))=_
       rw[e2]
       rfl
     ·have e2:kL b (i+1)=kL b i:=by
       have n8:b.getD i 0≠8:=fun h=>h8 (by rw[h];decide)
       have n24:b.getD i 0≠24:=fun h=>h8 (by rw[h];decide)
       unfold kL
       rw[qFA,qFA,if_neg n8,if_neg n24]
       rfl
      rw[qn h8,hraw,qA,qa (by omega) (by omega),qa (by omega) (by omega),e1,e2]
      rfl
theorem qo3 {h:List Int} {s k:Nat} (_hs:s<2) (hk:k<8):(List.take 8 (List.drop (Nat.add (Nat.mul s 7) s) h)).getD k 0=h.getD (s*8+k) 0:=by
 rw[List.getD_eq_getElem?_getD,List.getElem?_take,if_pos hk,List.getElem?_drop,List.getD_eq_getElem?_getD]
 rw[show (Nat.add (Nat.mul s 7) s)+k=s*8+k from (by show s*7+s+k=s*8+k;omega)]
def qCI (h:List Int) (s i:Nat) (g:Nat->Int) (j:Nat):Int:=if i<=j /\ j<8 then g j+h.getD (s*8+j) 0 else g j
theorem qUd {h:List Int} (hf:qAe h) (b:List Int) (S:Int) (kk h':List Int) (s:Nat) (hs:s<2):∀ (n i:Nat),i+n=8->∀ (g:Nat->Int),(∀ j,-200000+200*n<=g j /\ g j<=200000 - 200*n)->
  ∃ c,∀ f,qC7 (f+n+1) h s (List.take 8 (List.drop (Nat.add (Nat.mul s 7) s) h)) i b h' S ((List.range 9).map g) kk =
    some (if (List.range' i n).any (fun k=>bsH h k s) then .inl (55,h,s,b,h',S,c,kk) else .inr (h,s,b,h',S,(List.range 9).map (qCI h s i g),kk)):=by
 intro n
 induction n with
 | zero=>
   intro i hi g hg
   refine⟨[],fun f=>?_⟩
   show qEo (qC7 (f+0)) _ _ _ _ _ _ _ _ _=_
   unfold qEo
   rw[qY (by omega)]
   have:(List.range 9).map (qCI h s i g)=(List.range 9).map g:=by
    apply List.map_congr_left
    intro j _
    unfold qCI
    rw[if_neg (by omega)]
   rw[this]
   rfl
 | succ n ih=>
   intro i hi g hg
   have hr:=qo3 (h:=h) (s:=s) (k:=i) hs (by omega)
   have hb:=hf (s*8+i)
   by_cases hbad:bsH h i s=true
   ·refine⟨(List.range 9).map g,fun f=>?_⟩
    show qEo (qC7 (f+n+1)) _ _ _ _ _ _ _ _ _=_
    unfold qEo
    have hx:=hbad
    unfold bsH at hx
    rw[decide_eq_true_eq] at hx
    rw[qf (by omega),qa (by omega) (by omega),cond_true,tn,hr,any_cons,hbad]
    by_cases h0:h.getD (s*8+i) 0<0
    ·rw[qf h0]
     rfl
    ·rw[qY h0,qBe (by omega),qo (by omega)]
     rfl
   ·have hx:bsH h i s=false:=by simpa using hbad
    have hx2:=hx
    unfold bsH at hx2
    rw[decide_eq_false_iff_not] at hx2
    obtain⟨c,hc⟩:=ih (i+1) (by omega) (fun j=>if j=i then g j+h.getD (s*8+j) 0 else g j) (fun j=>by
     have:=hg j
     split
     ·rename_i hj;subst hj;omega
     ·omega)
    refine⟨c,fun f=>?_⟩
    show qEo (qC7 (f+n+1)) _ _ _ _ _ _ _ _ _=_
    unfold qEo
    have hgi:=hg i
    have e1:List.set ((List.range 9).map g) i (IntKind.wrap .i64 (List.getD ((List.range 9).map g) i 0+h.getD (s*8+i) 0))=(List.range 9).map fun j=>if j=i then g j+h.getD (s*8+j) 0 else g j:=by
     rw[qHf _ (by omega),map_set,w_s (by omega) (by omega)]
     apply List.map_congr_left
     intro j _
     split
     ·rename_i hj;subst hj;rfl
     ·rfl
    have e2:(List.range 9).map (qCI h s (i+1) fun j=>if j=i then g j+h.getD (s*8+j) 0 else g j)=(List.range 9).map (qCI h s i g):=by
     apply List.map_congr_left
     intro j _
     unfold qCI
     by_cases hj:j=i
     ·subst hj;simp;omega
     ·simp only[hj,if_false]
      by_cases h1:i<=j /\ j<8
      ·rw[if_pos (by omega),if_pos h1]
      ·rw[if_neg (by omega),if_neg h1]
    have:=hc f
    rw[e2] at this
    rw[qf (by omega),qa (by omega) (by omega),cond_true,tn,hr,any_cons,hx,Bool.false_or,qY (by omega),c_8,e1,w_s (by omega) (by omega)]
    by_cases h0:h.getD (s*8+i) 0>0
    ·rw[qBe h0,qn (by omega),qn (by omega),qa (by omega) (by omega),qa (by omega) (by omega)]
     exact this
    ·rw[qBf h0,qa (by omega) (by omega),qa (by omega) (by omega)]
     exact this
theorem qf1 {h:List Int} (hf:qAe h) (b h':List Int) (S:Int) (kk:List Int) (g:Nat->Int) (hg:∀ j,-100<=g j /\ g j<=100):
  ∃ c,∀ f,qCq (f+2+1) h 0 b h' S ((List.range 9).map g) kk =
    some (if (List.range' 0 2).any (fun s=>(List.range' 0 8).any fun k=>bsH h k s) then .inl (55,b,h',S,c,kk) else .inr (b,h',S,(List.range 9).map (qCI h 1 0 (qCI h 0 0 g)),kk)):=by
 obtain⟨g8,hg8⟩:=qi 8 (by omega)
 obtain⟨c0,h0⟩:=qUd hf b S kk h' 0 (by omega) 8 0 (by omega) g (fun j=>by have:=hg j;omega)
 have h0:=h0 g8
 rw[<- hg8] at h0
 obtain⟨c1,h1⟩:=qUd hf b S kk h' 1 (by omega) 8 0 (by omega) (qCI h 0 0 g) (fun j=>by
  have:=hg j
  have:=hf (0*8+j)
  unfold qCI
  split<;>omega)
 have h1:=h1 g8
 rw[<- hg8] at h1
 have any2:(List.range' 0 2).any (fun s=>(List.range' 0 8).any fun k=>bsH h k s)=((List.range' 0 8).any (fun k=>bsH h k 0)||(List.range' 0 8).any (fun k=>bsH h k 1)):=by
  rw[any_cons (fun s=>(List.range' 0 8).any fun k=>bsH h k s),any_cons (fun s=>(List.range' 0 8).any fun k=>bsH h k s) 1 0]
  simp
 rw[any2]
 cases hb0:(List.range' 0 8).any (fun k=>bsH h k 0) with
 | true=>
   refine⟨c0,fun f=>?_⟩
   show qDZ (qCq (f+2)) _ _ _ _ _ _ _=_
   unfold qDZ
   rw[qf (by omega),qa (by omega) (by omega),show qC7 qC h 0 (List.take 8 (List.drop (Nat.add (Nat.mul (Int.toNat 0) 7) (Int.toNat 0)) h)) 0 b h' S ((List.range 9).map g) kk=_ from h0,hb0,qA]
   rfl
 | false=>
   refine⟨c1,fun f=>?_⟩
   show qDZ (qCq (f+2)) _ _ _ _ _ _ _=_
   unfold qDZ
   rw[qf (by omega),qa (by omega) (by omega),show qC7 qC h 0 (List.take 8 (List.drop (Nat.add (Nat.mul (Int.toNat 0) 7) (Int.toNat 0)) h)) 0 b h' S ((List.range 9).map g) kk=_ from h0,hb0,qA,if_neg (by decide),qAk]
   simp only
   show qDZ (qCq (f+1)) _ _ _ _ _ _ _=_
   unfold qDZ
   rw[qf (by rw[w_s (by omega) (by omega)];omega),qa (by rw[w_s (by omega) (by omega)];omega) (by rw[w_s (by omega) (by omega)];omega)]
   rw[show IntKind.wrap .i64 (((0:Nat):Int)+1)=1 from rfl,show qC7 qC h 1 (List.take 8 (List.drop (Nat.add (Nat.mul (Int.toNat 1) 7) (Int.toNat 1)) h)) 0 b h' S ((List.range 9).map (qCI h 0 0 g)) kk=_ from h1,qA]
   cases hb1:(List.range' 0 8).any (fun k=>bsH h k 1) with
   | true=>rfl
   | false=>
     rw[if_neg (by decide),qAk]
     simp only
     show qDZ (qCq f) _ _ _ _ _ _ _=_
     unfold qDZ
     rw[qY (by decide)]
     rfl
theorem qgO {b:List Int} (hl:b.length=81) {k:Nat} (hk:1<=k):cnt b k=cT b 81 k:=by
 have hb:b=(List.range 81).map fun j=>b.getD j 0:=by
  apply List.ext_getElem
  ·simp[hl]
  ·intro i h1 h2
   rw[List.getElem_map,List.getElem_range,qFm h1]
 unfold cnt cT
 conv=>lhs;rw[hb]
 rw[List.countP_map]
 apply List.countP_congr
 intro j _
 show (rw_ (kd (b.getD j 0))==(k:Int))=true↔_
 simp[hk,rk]
theorem qrJ:∀ k:Fin 9,qP4 ((k.val:Nat):Int)=some (qJt ((k.val:Nat):Int)):=by decide +kernel
theorem qf8 {b h:List Int} {g:Nat->Int} (hg:∀ k:Nat,1<=k->k<8->g k=cnt b k+hd_ h 0 k+hd_ h 1 k) (b' h':List Int) (s:Int):∀ (n i:Nat),i+n=8->1<=i->∀ f,
  qDa (f+n+1) i b' h' s ((List.range 9).map g)=some (if (List.range' i n).any (qB5 b h) then .inl (51,b',h',s) else .inr (b',h',s)):=by
 intro n
 induction n with
 | zero=>
   intro i hi _ f
   show qGx (qDa (f+0)) _ _ _ _ _=_
   unfold qGx
   rw[qY (by omega)]
   rfl
 | succ n ih=>
   intro i hi h1 f
   show qGx (qDa (f+n+1)) _ _ _ _ _=_
   unfold qGx
   have ht:=qrJ ⟨i,by omega⟩
   simp only at ht
   rw[qf (by omega),qa (by omega) (by omega),ht,qA,tn,qHf _ (by omega),hg i h1 (by omega),any_cons,w_s (by omega) (by omega)]
   have:=ih (i+1) (by omega) (by omega) f
   by_cases ho:qJt i<cnt b i+hd_ h 0 i+hd_ h 1 i
   ·rw[qBe ho,show qB5 b h i=true by unfold qB5;simpa using ho]
    rfl
   ·rw[qBf ho,show qB5 b h i=false by unfold qB5;simpa using ho,Bool.false_or]
    exact this
theorem qfc (h:List Int):((List.range' 0 2).any fun s=>(List.range' 0 8).any fun k=>bsH h k s)=(List.range' 0 8).any fun k=>(List.range' 0 2).any (bsH h k):=by
 rw[Bool.eq_iff_iff]
 simp only[List.any_eq_true]
 constructor
 ·rintro ⟨s,hs,k,hk,h1⟩
  exact⟨k,hk,s,hs,h1⟩
 ·rintro ⟨k,hk,s,hs,h1⟩
  exact⟨s,hs,k,hk,h1⟩
theorem qTa {b:List Int} (hl:b.length=81) (h:(List.range' 0 81).any (bsP b)=false):Clean b:=by
 refine⟨hl,fun i hi=>?_⟩
 rw[List.any_eq_false] at h
 have:=h i (by rw[List.mem_range'];exact⟨i,hi,by omega⟩)
 unfold bsP at this
 rw[decide_eq_true_eq] at this
 omega
theorem qfw {b h:List Int} (hl:b.length=81) (hf:qAe h) (s:Int):qKE b h s=some (qA1 b h s):=by
 obtain⟨g81,hg81⟩:=qi 81 (by omega)
 obtain⟨g7,hg7⟩:=qi 7 (by omega)
 obtain⟨g2,hg2⟩:=qi 2 (by omega)
 obtain⟨c6,k6,h6⟩:=qgB b h s b 81 0 (by omega)
 have h6:=h6 g81
 rw[<- hg81] at h6
 have z1:cL b 0=[0,0,0,0,0,0,0,0,0]:=rfl
 have z2:kL b 0=[0,0]:=rfl
 rw[z1,z2] at h6
 obtain⟨c17,h17⟩:=qf1 hf b h s (kL b 81) (fun k=>((cT b 81 k:Nat):Int)) (fun j=>by have:=qUV b 81 j;omega)
 have h17:=h17 g2
 rw[<- hg2] at h17
 have hgc:∀ k:Nat,1<=k->k<8->qCI h 1 0 (qCI h 0 0 fun k=>((cT b 81 k:Nat):Int)) k=cnt b k+hd_ h 0 k+hd_ h 1 k:=by
  intro k k1 k8
  unfold qCI
  rw[if_pos (by omega),if_pos (by omega),qgO hl k1]
  rfl
 have h30:=qf8 hgc b h s 7 1 (by omega) (by omega) g7
 rw[<- hg7] at h30
 have main:(ob (qCZ qC b 0 b h s ([0,0,0,0,0,0,0,0,0]) ([0,0])) fun t3_2=>
   sw t3_2 (fun (a3_0,_,_,_,_,_)=>
    some (a3_0))
    (fun (a3_0,a3_1,a3_2,a3_3,a3_4)=>
    ob (qCq qC a3_1 0 a3_0 a3_1 a3_2 a3_3 a3_4) fun t8_2=>
    sw t8_2 (fun (a8_0,_,_,_,_,_)=>
     some (a8_0))
     (fun (a8_0,a8_1,a8_2,a8_3,a8_4)=>
     br (!a8_4==[1,1])
      (some (50))
      (ob (qDa qC 1 a8_0 a8_1 a8_2 a8_3) fun t13_2=>
      sw t13_2 (fun (a13_0,_,_,_)=>
       some (a13_0))
       (fun (a13_0,a13_1,a13_2)=>
       ob (qG5 a13_0 a13_1 a13_2) fun a16=>
       some (a16)))) ):Option Int) =
   some (if (List.range' 0 81).any (bsP b) then 55
    else if (List.range' 0 8).any (fun k=>(List.range' 0 2).any (bsH h k)) then 55
    else if ¬ (nP b 8=1 /\ nP b 24=1) then 50
    else if (List.range' 1 7).any (qB5 b h) then 51
    else if (List.range' 0 81).any (fun i=>qBA (b.getD i 0) i) then 52
    else if (List.range' 0 9).any (qBQ b) then 53
    else 0):=by
  rw[show qCZ qC b 0 b h s [0,0,0,0,0,0,0,0,0] [0,0]=_ from h6,qA]
  cases hbad:(List.range' 0 81).any (bsP b) with
  | true=>rfl
  | false=>
    have hc:=qTa hl hbad
    rw[if_neg (by decide),if_neg (by decide),qAk]
    simp only
    rw[show qCq qC h 0 b h s (cL b 81) (kL b 81)=_ from h17,qA,qfc]
    split
    ·rfl
    rw[qAk]
    simp only
    have hk:(!kL b 81==[1,1])=decide (¬ (nP b 8=1 /\ nP b 24=1)):=by
     show (!([((nP b 8:Nat):Int),((nP b 24:Nat):Int)]==[1,1]))=_
     rw[Bool.eq_iff_iff]
     simp
     omega
    rw[hk]
    by_cases h8:nP b 8=1 /\ nP b 24=1
    ·rw[qT (by simpa using h8),if_neg (by simpa using h8),show qDa qC 1 b h s _=_ from h30,qA]
     split
     ·rfl
     rw[qAk]
     simp only
     rw[qg7 hc,qA]
    ·rw[qJ (by rw[decide_eq_true_eq];exact h8),if_pos h8]
 unfold qKE qA1
 by_cases h0:s=0
 ·rw[qt h0,if_neg (by simp[h0])]
  exact main
 ·rw[qr h0]
  by_cases h1:s=1
  ·rw[qt h1,if_neg (by simp[h1])]
   exact main
  ·rw[qr h1,if_pos (by simp[h0,h1])]
end Go.Kk.Pl
namespace Go.Kk.Pl
def tk (b:List Int) (i:Nat):Bool:=decide (b.getD i 0≠0)
theorem qrD {b:List Int} (hc:Clean b) {i:Nat} (hi:i<81):(sds b 0 i||sds b 1 i)=tk b i:=by
 have:=hc.ok i hi
 unfold sds tk
 rw[Bool.eq_iff_iff]
 simp only[Bool.or_eq_true,decide_eq_true_eq]
 rcases this with h | h
 ·rw[h,qJc];simp
 ·have h1:=qI7 h
  have h2:=qIA h
  constructor
  ·intro _;omega
  ·intro _;exact h2
theorem qJq {b:List Int} (hc:Clean b) (h:List Int) (S:Int) (by_:List (List Int)):qDc b h S by_ (qR b)=some (sLo (tk b),sHi (tk b)):=by
 unfold qDc
 have e0:(qR b).getD 0 []=prS (sds b 0):=rfl
 have e1:(qR b).getD 1 []=prS (sds b 1):=rfl
 rw[e0,e1,qHl,qHm,qHl,qHm,qHj,qA]
 obtain⟨h1,h2⟩:=qCD (f:=fun i=>sds b 0 i||sds b 1 i) (g:=tk b) fun i hi=>qrD hc hi
 simp only
 rw[h1,h2]
def sdP (b:List Int) (s:Int) (i:Nat):Bool:=decide (s=0 \/ s=1)&&sds b s i
theorem qP6 (b h:List Int) (S s:Int) (by_:List (List Int)):qG2 s b h S by_ (qR b)=some (sLo (sdP b s),sHi (sdP b s)):=by
 unfold qG2
 by_cases h0:s=0
 ·subst h0
  have:sdP b 0=sds b 0:=by funext i;unfold sdP;simp
  rw[this]
  rfl
 ·rw[qr h0]
  by_cases h1:s=1
  ·subst h1
   have:sdP b 1=sds b 1:=by funext i;unfold sdP;simp
   rw[this]
   rfl
  ·have:sdP b s=fun _=>false:=by funext i;unfold sdP;simp[h0,h1]
   rw[qr h1,this,qBy,qBx]
theorem qO8 (b h:List Int) (S s:Int) (sd':List (List Int)):qGy s b h S (qO b) sd'=some (fst (pcs b (pc s 8))):=by
 unfold qGy
 rw[qGE,qA]
 simp only
 rw[qN6,qA]
def hdP (h:List Int) (s k:Int):Int:=if (s=0 \/ s=1) /\ 1<=k /\ k<8 then hd_ h s k else 0
theorem qiW (b h:List Int) (S s k:Int) (by_ sd':List (List Int)):qC8 s k b h S by_ sd'=some (hdP h s k):=by
 unfold hdP
 by_cases hv:(s=0 \/ s=1) /\ 1<=k /\ k<8
 ·rw[if_pos hv,qKq hv.1 hv.2.1 hv.2.2]
 ·rw[if_neg hv]
  unfold qC8
  by_cases h0:s=0
  ·rw[qt h0]
   by_cases h1:k<1
   ·rw[qf h1]
   ·rw[qY h1,qCJ (by omega)]
  ·rw[qr h0]
   by_cases h2:s=1
   ·rw[qt h2]
    by_cases h1:k<1
    ·rw[qf h1]
    ·rw[qY h1,qCJ (by omega)]
   ·rw[qr h2]
theorem qih:isE (fun _=>false)=true:=by decide
end Go.Kk.Pl
namespace Go.Kk.Pl
def fl (q:Nat):Int:=((q / 9:Nat):Int)
def rn (q:Nat):Int:=((q % 9:Nat):Int)
def df (a c:Nat):Int:=fl c - fl a
def dr (a c:Nat):Int:=rn c - rn a
def upS (x:Int) (a c:Nat):Int:=if sd x=1 then dr a c else - dr a c
theorem geo {a:Nat} (ha:a<81):0<=fl a /\ fl a<=8 /\ 0<=rn a /\ rn a<=8 /\ (a:Int)=9*fl a+rn a:=by unfold fl rn;omega
theorem qI6 {a c:Nat} (h:df a c=0) (h':dr a c=0):a=c:=by unfold df dr fl rn at *;omega
theorem qHP (a:Nat):df a a=0 /\ dr a a=0:=by unfold df dr;omega
def qBM (dx dy:Int) (a:Nat):Int:=if 0<=fl a+dx /\ fl a+dx<=8 /\ 0<=rn a+dy /\ rn a+dy<=8 then 9*(fl a+dx)+(rn a+dy) else -1
theorem qIS (q:Nat):Int.tdiv (q:Int) 9=fl q:=by unfold fl;rw[Int.tdiv_eq_ediv_of_nonneg (by omega)];omega
theorem qJs (q:Nat):Int.tmod (q:Int) 9=rn q:=qJr q
theorem qqa (f r:Int):qDO f r=some (if 0<=f /\ f<=8 /\ 0<=r /\ r<=8 then 9*f+r else -1):=by
 unfold qDO
 by_cases h1:f<0
 ·rw[qf h1,if_neg (by omega)]
 by_cases h2:f>8
 ·rw[qY h1,qBe h2,if_neg (by omega)]
 by_cases h3:r<0
 ·rw[qY h1,qBf h2,qf h3,if_neg (by omega)]
 by_cases h4:r>8
 ·rw[qY h1,qBf h2,qY h3,qBe h4,if_neg (by omega)]
 ·rw[qY h1,qBf h2,qY h3,qBf h4,if_pos (by omega),w_s (n:=9*f) (by omega) (by omega),w_s (by omega) (by omega)]
theorem qN8 {dx dy:Int} (h1:-8<=dx) (h2:dx<=8) (h3:-8<=dy) (h4:dy<=8) {a:Nat} (ha:a<81):qIP dx dy a=some (qBM dx dy a):=by
 have hg:=geo ha
 unfold qIP qJf qIK
 simp (disch:=omega) only[qY,qBn,qIS,qJs,qA,w_s,qqa]
 rfl
theorem qlZ {dx dy:Int} {a c:Nat} (ha:a<81) (hc:c<81):only (qBM dx dy a) c=decide (df a c=dx /\ dr a c=dy):=by
 have hg:=geo ha
 have hg2:=geo hc
 unfold only qBM df dr
 rw[decide_eq_decide]
 split<;>omega
def qCE (k d u:Int):Prop:=
 (k=1 /\ d=0 /\ u=1) \/ (k=3 /\ (d=1 \/ d = -1) /\ u=2) \/ (k=4 /\ ((u=1 /\ -1<=d /\ d<=1) \/ (u = -1 /\ (d=1 \/ d = -1)))) \/
 ((k=5 \/ k=9 \/ k=10 \/ k=11 \/ k=12) /\ ((u=1 /\ -1<=d /\ d<=1) \/ (u=0 /\ (d=1 \/ d = -1)) \/ (u = -1 /\ d=0))) \/
 (k=8 /\ -1<=d /\ d<=1 /\ -1<=u /\ u<=1 /\ ¬ (d=0 /\ u=0)) \/ (k=14 /\ ((u=0 /\ (d=1 \/ d = -1)) \/ (d=0 /\ (u=1 \/ u = -1)))) \/
 (k=15 /\ (d=1 \/ d = -1) /\ (u=1 \/ u = -1))
instance (k d u:Int):Decidable (qCE k d u):=by unfold qCE;infer_instance
def qA7 (x:Int) (a c:Nat):Bool:=decide (qCE (kd x) (df a c) (upS x a c))
theorem qqM {n:Int} (h1:-1000<=n) (h2:n<=1000):qGO n=some (if n<0 then -n else n):=by
 unfold qGO
 split
 ·rename_i h;rw[qf h,w_s (by omega) (by omega)];congr 1;omega
 ·rename_i h;rw[qY h]
theorem qSw {x:Int} {a c:Nat} (ha:a<81) (hc:c<81):-8<=upS x a c /\ upS x a c<=8 /\ -8<=df a c /\ df a c<=8 /\ -8<=dr a c /\ dr a c<=8:=by
 have hg:=geo ha
 have hg2:=geo hc
 unfold upS df dr
 split<;>omega
def stT (k u S : Int):Option Bool:=
 br (decide (S <= 1))
  (ob (qGO u) fun a5=>
   br (k == 1)
    (br (S==0)
     (some (u==1))
     (some (false)))
    (br (k == 3)
     (br (S==1)
      (some (u==2))
      (some (false)))
     (br (k == 4)
      (br (decide (a5<=1))
       (br (u==1)
        (some (true))
        (br (S==1)
         (some (u == -1))
         (some (false))))
       (some (false)))
      (br (k == 5)
       (br (decide (a5<=1))
        (br (decide (u >= 0))
         (some (true))
         (some (S==0)))
        (some (false)))
       (br (k == 9)
        (br (decide (a5<=1))
         (br (decide (u >= 0))
          (some (true))
          (some (S==0)))
         (some (false)))
        (br (k == 10)
         (br (decide (a5<=1))
          (br (decide (u >= 0))
           (some (true))
           (some (S==0)))
          (some (false)))
         (br (k == 11)
          (br (decide (a5<=1))
           (br (decide (u >= 0))
            (some (true))
            (some (S==0)))
           (some (false)))
          (br (k==12)
           (br (decide (a5<=1))
            (br (decide (u >= 0))
             (some (true))
             (some (S==0)))
            (some (false)))
           (br (k==8)
            (some (decide (a5<=1)))
            (br (k==14)
             (br (decide (a5<=1))
              (br (S==0)
               (some (true))
               (some (u==0)))
              (some (false)))
             (br (k==15)
              (br (decide (a5<=1))
               (br (S==1)
                (some (u != 0))
                (some (false)))
               (some (false)))
              (some (false)))))))))))))
   (br (k == 1)
    (br (S==0)
     (some (u==1))
     (some (false)))
    (br (k == 3)
     (br (S==1)
      (some (u==2))
      (some (false)))
     (br (k == 4)
      (some (false))
      (br (k == 5)
       (some (false))
       (br (k == 9)
        (some (false))
        (br (k==10)
         (some (false))
         (br (k==11)
          (some (false))
          (br (k==12)
           (some (false))
           (br (k==8)
            (some (false))
            (br (k==14)
             (some (false))
             (br (k==15)
              (some (false))
              (some (false)))))))))))))
theorem qqb:∀ (k:Fin 16) (d u:Fin 17),((d.val=8 /\ u.val=8) \/ stT ((k.val:Nat):Int) ((u.val:Int) - 8) (if (d.val:Int) - 8<0 then -((d.val:Int) - 8) else (d.val:Int) - 8) =
  some (decide (qCE ((k.val:Nat):Int) ((d.val:Int) - 8) ((u.val:Int) - 8)))):=by decide +kernel
theorem qq6 {k d u:Int} (hne:¬ (d=0 /\ u=0)) (k0:0<=k) (k1:k<=15) (u1:-8<=u) (u2:u<=8) (d1:-8<=d) (d2:d<=8):stT k u (if d<0 then -d else d)=some (decide (qCE k d u)):=by
 have:=qqb ⟨k.toNat,by omega⟩ ⟨(d+8).toNat,by omega⟩ ⟨(u+8).toNat,by omega⟩
 simp only at this
 rw[show ((k.toNat:Nat):Int)=k by omega,show (((d+8).toNat:Nat):Int) - 8=d by omega,show (((u+8).toNat:Nat):Int) - 8=u by omega] at this
 exact this.resolve_left (by omega)
theorem qop (x:Int) {a c:Nat} (ha:a<81) (hc:c<81):qLj x a c=some (qA7 x a c):=by
 have hg:=geo ha
 have hg2:=geo hc
 have hr:=qSw (x:=x) ha hc
 unfold qLj qA7
 simp (disch:=omega) only[qY,qIS,qJs,qES,qCB,qA,w_s]
 by_cases hac:a=c
 ·subst hac
  rw[qo rfl]
  have:=qHP a
  have hu:upS x a a=0:=by unfold upS;rw[this.2];split<;>rfl
  rw[this.1,hu]
  symm
  rw[Option.some.injEq,decide_eq_false_iff_not]
  unfold qCE
  omega
 ·rw[qn (by omega)]
  have hne:¬ (df a c=0 /\ upS x a c=0):=by
   rintro ⟨h1,h2⟩
   refine hac (qI6 h1 ?_)
   unfold upS at h2
   split at h2<;>omega
  have hS:=qqM (n:=fl c - fl a) (by omega) (by omega)
  rw[hS,qA]
  obtain⟨k0,k1,_⟩:=qCP x
  have:=qq6 (k:=kd x) hne k0 k1 hr.1 hr.2.1 hr.2.2.1 hr.2.2.2.1
  rw[<- this]
  by_cases hs:sd x=1
  ·have hu:(0:Int) - (rn a - rn c)=upS x a c:=by unfold upS dr;rw[if_pos hs];omega
   rw[qo hs,hu]
   rfl
  ·have hu:rn a - rn c=upS x a c:=by unfold upS dr;rw[if_neg hs];omega
   rw[qn hs,hu]
   rfl
def qAZ (k:Int):List (List Int):=if k=1 then [[0,-1]] else if k=3 then [[-1,-2],[1,-2]] else if k=4 then [[-1,-1],[0,-1],[1,-1],[-1,1],[1,1]]
 else if k=5 \/ k=9 \/ k=10 \/ k=11 \/ k=12 then [[-1,-1],[0,-1],[1,-1],[-1,0],[1,0],[0,1]]
 else if k=8 then [[-1,-1],[0,-1],[1,-1],[-1,0],[1,0],[0,1],[-1,1],[1,1]] else if k=14 then [[0,-1],[-1,0],[1,0],[0,1]]
 else if k=15 then [[-1,-1],[1,-1],[-1,1],[1,1]] else []
theorem qgt:∀ k:Fin 16,qGh qC ((k.val:Nat):Int)=some ((qAZ ((k.val:Nat):Int)).length,(qAZ ((k.val:Nat):Int)).length,qAZ ((k.val:Nat):Int)):=by decide +kernel
theorem qgu {k:Int} (h0:0<=k) (h1:k<=15):qGh qC k=some ((qAZ k).length,(qAZ k).length,qAZ k):=by
 have:=qgt ⟨k.toNat,by omega⟩
 simpa only[show ((k.toNat:Nat):Int)=k by omega] using this
theorem qgs:∀ (k:Fin 16) (i:Fin 8),((qAZ ((k.val:Nat):Int)).getD i.val []).length<=2 /\ -2<=((qAZ ((k.val:Nat):Int)).getD i.val []).headD 0 /\ ((qAZ ((k.val:Nat):Int)).getD i.val []).headD 0<=2 /\
  -2<=((qAZ ((k.val:Nat):Int)).getD i.val []).tail.headD 0 /\ ((qAZ ((k.val:Nat):Int)).getD i.val []).tail.headD 0<=2:=by decide +kernel
theorem qgq:∀ (k:Fin 16),(qAZ ((k.val:Nat):Int)).length<=8:=by decide +kernel
def sg (x:Int):Int:=if sd x=1 then -1 else 1
theorem qdQ {dx dy:Int} (h:-8<=dx /\ dx<=8 /\ -8<=dy /\ dy<=8) (x:Int):qGg dx dy (sd x)=some (sg x*dx,sg x*dy):=by
 unfold qGg sg
 by_cases hs:sd x=1
 ·rw[qo hs,if_pos hs,w_s (by omega) (by omega),w_s (by omega) (by omega)]
  congr 2<;>omega
 ·rw[qn hs,if_neg hs]
  congr 2<;>omega
theorem qcg (x:Int):sg x=1 \/ sg x = -1:=by unfold sg;split<;>simp
def dx_ (r:List Int):Int:=r.headD 0
def dy_ (r:List Int):Int:=r.tail.headD 0
def qDX (x:Int) (L:List (List Int)) (a c:Nat):Bool:=L.any fun r=>decide (df a c=sg x*dx_ r /\ dr a c=sg x*dy_ r)
theorem qqd {x:Int} {a:Nat} (ha:a<81) (L:List (List Int)) (hlen:L.length<=8) (hr:∀ r∈L,r.length<=2 /\ -2<=dx_ r /\ dx_ r<=2 /\ -2<=dy_ r /\ dy_ r<=2) (N:Nat) (u v:Int):
  ∀ (n i:Nat),i+n=L.length->∀ (f:Nat->Bool) (F:Nat),qFk (F+n+1) x a L.length (Int.ofNat L.length) i u v (sLo f) (sHi f) N L =
    some (u,v,sLo fun c=>f c||qDX x (L.drop i) a c,sHi fun c=>f c||qDX x (L.drop i) a c):=by
 intro n
 induction n with
 | zero=>
   intro i hi f F
   show qIQ (qFk (F+0)) _ _ _ _ _ _ _ _ _ _ _=_
   unfold qIQ
   rw[qY (by simp;omega),List.drop_eq_nil_of_le (by omega)]
   have:(fun c=>f c||qDX x [] a c)=f:=by funext c;simp[qDX]
   rw[this]
 | succ n ih=>
   intro i hi f F
   show qIQ (qFk (F+n+1)) _ _ _ _ _ _ _ _ _ _ _=_
   unfold qIQ
   have hil:i<L.length:=by omega
   have hget:L.getD i []=L[i]:=by rw[List.getD_eq_getElem?_getD,List.getElem?_eq_getElem hil];rfl
   obtain⟨r0,r1,r2,r3,r4⟩:=hr L[i] (List.getElem_mem hil)
   have ht:List.take 2 L[i]=L[i]:=List.take_of_length_le r0
   have hs:=qcg x
   rw[qf (by simp;omega),qa (by omega) (by omega),tn,hget,ht,qDP,qA]
   show ob (qGg (dx_ L[i]) (dy_ L[i]) (sd x)) _=_
   rw[qdQ (by omega),qA]
   simp only
   rw[qN8 (by rcases hs with h | h<;>rw[h]<;>omega) (by rcases hs with h | h<;>rw[h]<;>omega) (by rcases hs with h | h<;>rw[h]<;>omega) (by rcases hs with h | h<;>rw[h]<;>omega) ha,qA,qGl,qA]
   simp only
   rw[w_s (by omega) (by omega)]
   refine (ih (i+1) (by omega) _ F).trans ?_
   have hd:L.drop i=L[i] :: L.drop (i+1):=List.drop_eq_getElem_cons hil
   obtain⟨e1,e2⟩:=qCD (f:=fun c=>(f c||only (qBM (sg x*dx_ L[i]) (sg x*dy_ L[i]) a) c)||qDX x (L.drop (i+1)) a c) (g:=fun c=>f c||qDX x (L.drop i) a c) fun c hc=>by
    rw[qlZ ha hc,hd]
    unfold qDX
    rw[List.any_cons,Bool.or_assoc]
   rw[e1,e2]
theorem qdv:∀ (k:Fin 16) (d u:Fin 17),(qAZ ((k.val:Nat):Int)).any (fun r=>decide ((d.val:Int) - 8=dx_ r /\ (u.val:Int) - 8 = -(dy_ r)))=decide (qCE ((k.val:Nat):Int) ((d.val:Int) - 8) ((u.val:Int) - 8)):=by decide +kernel
theorem qdw:∀ (k:Fin 16) (d u:Fin 17),(qAZ ((k.val:Nat):Int)).any (fun r=>decide ((d.val:Int) - 8 = -(dx_ r) /\ (u.val:Int) - 8 = -(dy_ r)))=decide (qCE ((k.val:Nat):Int) ((d.val:Int) - 8) ((u.val:Int) - 8)):=by decide +kernel
theorem qdx (x:Int) {a c:Nat} (ha:a<81) (hc:c<81):qDX x (qAZ (kd x)) a c=qA7 x a c:=by
 obtain⟨k0,k1,_⟩:=qCP x
 have hr:=qSw (x:=x) ha hc
 unfold qA7 qDX sg upS
 by_cases hs:sd x=1
 ·simp only[hs,if_true]
  have:=qdw ⟨(kd x).toNat,by omega⟩ ⟨(df a c+8).toNat,by omega⟩ ⟨(dr a c+8).toNat,by omega⟩
  simp only[show (((kd x).toNat:Nat):Int)=kd x by omega,show (((df a c+8).toNat:Nat):Int) - 8=df a c by omega,show (((dr a c+8).toNat:Nat):Int) - 8=dr a c by omega] at this
  rw[<- this]
  congr 1
  funext r
  rw[decide_eq_decide]
  constructor<;>(rintro ⟨h1,h2⟩;constructor<;>omega)
 ·simp only[hs,if_false]
  have:=qdv ⟨(kd x).toNat,by omega⟩ ⟨(df a c+8).toNat,by omega⟩ ⟨(-dr a c+8).toNat,by omega⟩
  simp only[show (((kd x).toNat:Nat):Int)=kd x by omega,show (((df a c+8).toNat:Nat):Int) - 8=df a c by omega,show (((-dr a c+8).toNat:Nat):Int) - 8 = -dr a c by omega] at this
  rw[<- this]
  congr 1
  funext r
  rw[decide_eq_decide]
  constructor<;>(rintro ⟨h1,h2⟩;constructor<;>omega)
theorem qgr {k:Int} (h0:0<=k) (h1:k<=15):(qAZ k).length<=8 /\ ∀ r∈qAZ k,r.length<=2 /\ -2<=dx_ r /\ dx_ r<=2 /\ -2<=dy_ r /\ dy_ r<=2:=by
 have hl:=qgq ⟨k.toNat,by omega⟩
 simp only[show ((k.toNat:Nat):Int)=k by omega] at hl
 refine⟨hl,fun r hr=>?_⟩
 obtain⟨i,hi,rfl⟩:=List.getElem_of_mem hr
 have:=qgs ⟨k.toNat,by omega⟩ ⟨i,by omega⟩
 simp only[show ((k.toNat:Nat):Int)=k by omega] at this
 rw[List.getD_eq_getElem?_getD,List.getElem?_eq_getElem hi] at this
 exact this
theorem qqe (x:Int) {a:Nat} (ha:a<81):qMN x a=some (sLo (qA7 x a),sHi (qA7 x a)):=by
 obtain⟨k0,k1,_⟩:=qCP x
 obtain⟨hlen,hrs⟩:=qgr k0 k1
 obtain⟨g,hg⟩:=qi (qAZ (kd x)).length (by omega)
 have:=qqd (x:=x) ha (qAZ (kd x)) hlen hrs (qAZ (kd x)).length 0 0 (qAZ (kd x)).length 0 (by omega) (fun _=>false) g
 rw[<- hg,qBy,qBx] at this
 unfold qMN
 rw[qBt,qA,qgu k0 k1,qA]
 simp only
 rw[show qFk qC x a (qAZ (kd x)).length (Int.ofNat (qAZ (kd x)).length) 0 0 0 0 0 (qAZ (kd x)).length (qAZ (kd x))=_ from this,qA]
 simp only
 obtain⟨e1,e2⟩:=qCD (f:=fun c=>false||qDX x (List.drop 0 (qAZ (kd x))) a c) (g:=qA7 x a) fun c hc=>by
  rw[Bool.false_or,List.drop_zero,qdx x ha hc]
 rw[e1,e2]
end Go.Kk.Pl
namespace Go.Kk.Pl
def sgn (n:Int):Int:=if n<0 then -1 else if n>0 then 1 else 0
def qAA (a c:Nat):Int:=if a=c then 0 else if df a c=0 \/ dr a c=0 then 1 else if df a c=dr a c \/ df a c = -dr a c then 2 else 0
def mx (a c:Nat):Nat:=if (df a c).natAbs<(dr a c).natAbs then (dr a c).natAbs else (df a c).natAbs
def qAc (a c:Nat):Int:=9*sgn (df a c)+sgn (dr a c)
def btw (a c:Nat):List Nat:=if qAA a c=0 then [] else (List.range (mx a c - 1)).map fun (j:Nat)=>((a:Int)+((j:Int)+1)*qAc a c).toNat
theorem qqK (n:Int):qJQ n=some (sgn n):=by
 unfold qJQ sgn
 split
 ·rename_i h;rw[qf h]
 ·rename_i h
  rw[qY h]
  split
  ·rename_i h2;rw[qBe h2]
  ·rename_i h2;rw[qBf h2]
theorem qX1 {a c:Nat} (ha:a<81) (hc:c<81):qJP a c=some (qAA a c):=by
 have hg:=geo ha
 have hg2:=geo hc
 unfold qJP qAA
 simp (disch:=omega) only[qY,qIS,qJs,w_s]
 by_cases hac:a=c
 ·rw[qo (by omega),if_pos hac]
 ·rw [qn (by omega),if_neg hac]
  by_cases h1:df a c=0
  ·rw[qo (by unfold df at h1;omega),if_pos (.inl h1)]
  ·rw[qn (by unfold df at h1;omega)]
   by_cases h2:dr a c=0
   ·rw[qo (by unfold dr at h2;omega),if_pos (.inr h2)]
   ·rw[qn (by unfold dr at h2;omega),if_neg (by omega)]
    by_cases h3:df a c=dr a c
    ·rw[qo (by unfold df dr at h3;omega),if_pos (.inl h3)]
    ·rw[qn (by unfold df dr at h3;omega)]
     by_cases h4:df a c = -dr a c
     ·rw[qo (by unfold df dr at h4;omega),if_pos (.inr h4)]
     ·rw[qn (by unfold df dr at h4;omega),if_neg (by omega)]
theorem qK6 {a c:Nat} (ha:a<81) (hc:c<81) (h:qAA a c≠0):1<=mx a c /\ mx a c<=8 /\ (c:Int)=a+(mx a c:Int)*qAc a c /\ qAc a c≠0 /\ -10<=qAc a c /\ qAc a c<=10:=by
 have hg:=geo ha
 have hg2:=geo hc
 have hdf:df a c=fl c - fl a:=rfl
 have hdr:dr a c=rn c - rn a:=rfl
 unfold qAA at h
 split at h
 ·exact absurd rfl h
 rename_i hac
 have hne:¬ (df a c=0 /\ dr a c=0):=fun hh=>hac (qI6 hh.1 hh.2)
 have hl:df a c=0 \/ dr a c=0 \/ df a c=dr a c \/ df a c = -dr a c:=by
  split at h
  ·rename_i h1;rcases h1 with h1 | h1
   ·exact .inl h1
   ·exact .inr (.inl h1)
  ·split at h
   ·rename_i h1;rcases h1 with h1 | h1
    ·exact .inr (.inr (.inl h1))
    ·exact .inr (.inr (.inr h1))
   ·exact absurd rfl h
 clear h
 unfold mx qAc sgn
 generalize df a c=d at *
 generalize dr a c=e at *
 rcases Int.lt_trichotomy d 0 with h1 | h1 | h1<;>rcases Int.lt_trichotomy e 0 with h2 | h2 | h2
 all_goals simp (disch:=omega) only[if_pos,if_neg]
 all_goals (refine⟨by omega,by omega,by omega,by omega,by omega,by omega⟩)
theorem qLA {a c D:Int} {m j:Nat} (hm:c=a+(m:Int)*D) (ha:0<=a /\ a<81) (hc:0<=c /\ c<81) (hj:j<=m) (_hD:-10<=D /\ D<=10):0<=a+(j:Int)*D /\ a+(j:Int)*D<81:=by
 have hj':(j:Int)<=m:=by omega
 rcases Int.le_total 0 D with h | h
 ·have h1:(0:Int)<=(j:Int)*D:=Int.mul_nonneg (by omega) h
  have h2:(j:Int)*D<=(m:Int)*D:=Int.mul_le_mul_of_nonneg_right hj' h
  omega
 ·have h1:(j:Int)*D<=0:=Int.mul_nonpos_of_nonneg_of_nonpos (by omega) h
  have h2:(m:Int)*D<=(j:Int)*D:=Int.mul_le_mul_of_nonpos_right hj' h
  omega
theorem qeZ {a c:Nat} (ha:a<81) (hc:c<81) (h:qAA a c≠0):∀ (n j:Nat),j+1+n=mx a c->∀ F,
  qFQ (F+n+1) c j (qAc a c) ((a:Int)+((j:Int)+1)*qAc a c) j ((List.range j).map fun (j:Nat)=>(a:Int)+((j:Int)+1)*qAc a c) =
   some (mx a c - 1,mx a c - 1,(List.range (mx a c - 1)).map fun (j:Nat)=>(a:Int)+((j:Int)+1)*qAc a c):=by
 obtain⟨m1,m8,hend,hD0,hD1,hD2⟩:=qK6 ha hc h
 intro n
 induction n with
 | zero=>
   intro j hj F
   show qHt (qFQ (F+0)) _ _ _ _ _ _=_
   unfold qHt
   have hjm:((j:Int)+1)=(mx a c:Int):=by omega
   rw[hjm,qt (by omega),show mx a c - 1=j by omega]
 | succ n ih=>
   intro j hj F
   show qHt (qFQ (F+n+1)) _ _ _ _ _ _=_
   unfold qHt
   have hne:¬ (a:Int)+((j:Int)+1)*qAc a c=c:=by
    rw[hend]
    intro hh
    have:((j:Int)+1)*qAc a c=(mx a c:Int)*qAc a c:=by omega
    have:=Int.eq_of_mul_eq_mul_right hD0 this
    omega
   have hr:=qLA (j:=j+1) hend (by omega) (by omega) (by omega) ⟨hD1,hD2⟩
   have hr2:=qLA (j:=j+2) hend (by omega) (by omega) (by omega) ⟨hD1,hD2⟩
   have e2:(a:Int)+((j:Int)+1)*qAc a c+qAc a c=(a:Int)+(((j+1:Nat):Int)+1)*qAc a c:=by
    rw[show (((j+1:Nat):Int)+1)=((j:Int)+1)+1 by omega,Int.add_mul ((j:Int)+1),Int.one_mul];omega
   have e3:(((j+2:Nat):Int))=(((j+1:Nat):Int)+1):=by omega
   rw[e3] at hr2
   rw[qr hne,qJ (by simp;omega),e2,w_s (by omega) (by omega),qMf (by simp)]
   have e4:(((List.range j).map fun (j:Nat)=>(a:Int)+((j:Int)+1)*qAc a c)++[(a:Int)+((j:Int)+1)*qAc a c])=(List.range (j+1)).map fun (j:Nat)=>(a:Int)+((j:Int)+1)*qAc a c:=by
    rw[List.range_succ,List.map_append];rfl
   rw[e4]
   exact ih (j+1) (by omega) F
theorem qIm {a c:Nat} (ha:a<81) (hc:c<81) {s:Nat} (hs:s∈btw a c):s<81:=by
 unfold btw at hs
 split at hs
 ·cases hs
 ·rename_i h
  obtain⟨m1,m8,hend,hD0,hD1,hD2⟩:=qK6 ha hc h
  obtain⟨j,hj,rfl⟩:=List.mem_map.1 hs
  rw[List.mem_range] at hj
  have hr:=qLA (j:=j+1) hend (by omega) (by omega) (by omega) ⟨hD1,hD2⟩
  rw[show (((j+1:Nat):Int))=(j:Int)+1 by omega] at hr
  omega
theorem qfd {a c:Nat} (ha:a<81) (hc:c<81):(btw a c).length<=7:=by
 unfold btw
 split
 ·simp
 ·rename_i h
  obtain⟨m1,m8,_⟩:=qK6 ha hc h
  simp;omega
theorem qeb {a c:Nat} (ha:a<81) (hc:c<81):qLk a c=some ((btw a c).length,(btw a c).length,(btw a c).map Int.ofNat):=by
 have hg:=geo ha
 have hg2:=geo hc
 unfold qLk
 rw[qX1 ha hc,qA]
 by_cases h:qAA a c=0
 ·rw[qo h]
  unfold btw
  rw[if_pos h]
  rfl
 ·obtain⟨m1,m8,hend,hD0,hD1,hD2⟩:=qK6 ha hc h
  have hs1:-1<=sgn (df a c) /\ sgn (df a c)<=1:=by unfold sgn;split<;>(try split)<;>omega
  have hs2:-1<=sgn (dr a c) /\ sgn (dr a c)<=1:=by unfold sgn;split<;>(try split)<;>omega
  rw[qn h]
  simp (disch:=omega) only[qIS,qJs,w_s,qqK,qA]
  rw[show fl c - fl a=df a c from rfl,show rn c - rn a=dr a c from rfl,w_s (n:=9*sgn (df a c)) (by omega) (by omega),show 9*sgn (df a c)+sgn (dr a c)=qAc a c from rfl,w_s (n:=qAc a c) (by omega) (by omega),w_s (n:=(a:Int)+qAc a c) (by omega) (by omega)]
  obtain⟨g,hgm⟩:=qi (mx a c - 1) (by omega)
  have:=qeZ ha hc h (mx a c - 1) 0 (by omega) g
  rw[<- hgm] at this
  have e0:(a:Int)+(((0:Nat):Int)+1)*qAc a c=a+qAc a c:=by
   rw[show ((0:Nat):Int)+1=1 from rfl,Int.one_mul]
  rw[e0] at this
  rw[show qFQ qC c 0 (qAc a c) ((a:Int)+qAc a c) 0 []=_ from this,qA]
  unfold btw
  rw[if_neg h]
  simp only[List.length_map,List.length_range,List.map_map]
  congr 3
  apply List.map_congr_left
  intro j hj
  rw[List.mem_range] at hj
  have hr:=qLA (j:=j+1) hend (by omega) (by omega) (by omega) ⟨hD1,hD2⟩
  rw[show (((j+1:Nat):Int))=(j:Int)+1 by omega] at hr
  show _=Int.ofNat (Int.toNat _)
  simp only[Int.ofNat_eq_natCast]
  omega
def qAw (a c:Nat) (t:Nat->Bool):Bool:=(btw a c).all fun s=>!t s
theorem qhS (t:List Bool) (L:List Nat) (hL:∀ s∈L,s<81) (hl:L.length<=100) (N:Nat):∀ (n i:Nat),i+n=L.length->∀ F,
  qFR (F+n+1) L.length i t N (L.map Int.ofNat)=some (if (L.drop i).all (fun s=>!t.getD s false) then .inr () else .inl false):=by
 intro n
 induction n with
 | zero=>
   intro i hi F
   show qHu (qFR (F+0)) _ _ _ _ _=_
   unfold qHu
   rw[qY (by simp;omega),List.drop_eq_nil_of_le (by omega)]
   rfl
 | succ n ih=>
   intro i hi F
   show qHu (qFR (F+n+1)) _ _ _ _ _=_
   unfold qHu
   have hil:i<L.length:=by omega
   have hd:L.drop i=L[i] :: L.drop (i+1):=List.drop_eq_getElem_cons hil
   have hget:(L.map Int.ofNat).getD i 0=(L[i]:Int):=by
    rw[List.getD_eq_getElem?_getD,List.getElem?_map,List.getElem?_eq_getElem hil];rfl
   have h81:=hL L[i] (List.getElem_mem hil)
   rw[qf (by simp;omega),qa (by omega) (by omega),tn,hget,qa (by omega) (by omega),tn,hd,List.all_cons,w_s (by omega) (by omega)]
   cases ht:t.getD L[i] false with
   | true=>rfl
   | false=>
     rw[b_f,Bool.not_false,Bool.true_and]
     exact ih (i+1) (by omega) F
theorem qhU {a c:Nat} (ha:a<81) (hc:c<81) (t:List Bool):qA6 a c t=some (qAw a c fun s=>t.getD s false):=by
 unfold qA6
 rw[qeb ha hc,qA]
 simp only
 have hlen:=qfd ha hc
 obtain⟨g,hg⟩:=qi (btw a c).length (by omega)
 have:=qhS t (btw a c) (fun s hs=>qIm ha hc hs) (by omega) (btw a c).length (btw a c).length 0 (by omega) g
 rw[<- hg] at this
 rw[show qFR qC (btw a c).length 0 t (btw a c).length ((btw a c).map Int.ofNat)=_ from this,qA,List.drop_zero]
 unfold qAw
 cases (btw a c).all fun s=>!t.getD s false<;>rfl
def slK (k d u:Int):Prop:=(k=2 /\ d=0 /\ 0<u) \/ ((k=6 \/ k=14) /\ ¬ (d=0 /\ u=0) /\ (d=u \/ d = -u)) \/ ((k=7 \/ k=15) /\ ¬ (d=0 /\ u=0) /\ (d=0 \/ u=0))
instance (k d u:Int):Decidable (slK k d u):=by unfold slK;infer_instance
def qAt (x:Int) (a c:Nat):Bool:=decide (slK (kd x) (df a c) (upS x a c))
def rch (x:Int) (a c:Nat) (t:Nat->Bool):Bool:=qA7 x a c||(qAt x a c&&qAw a c t)
theorem qjz {a c:Nat}:qAA a c=1↔(¬ (df a c=0 /\ dr a c=0)) /\ (df a c=0 \/ dr a c=0):=by
 unfold qAA
 by_cases hac:a=c
 ·subst hac
  have:=qHP a
  simp[this.1,this.2]
 ·have:¬ (df a c=0 /\ dr a c=0):=fun h=>hac (qI6 h.1 h.2)
  rw[if_neg hac]
  split
  ·rename_i h;simp[this,h]
  ·rename_i h
   split<;>simp[h]
theorem qj0 {a c:Nat}:qAA a c=2↔(¬ (df a c=0 /\ dr a c=0)) /\ (df a c=dr a c \/ df a c = -dr a c):=by
 unfold qAA
 by_cases hac:a=c
 ·subst hac
  have:=qHP a
  simp[this.1,this.2]
 ·have:¬ (df a c=0 /\ dr a c=0):=fun h=>hac (qI6 h.1 h.2)
  rw[if_neg hac]
  split
  ·rename_i h
   constructor
   ·intro hh;omega
   ·rintro ⟨h1,h2⟩;omega
  ·rename_i h
   split
   ·rename_i h2;simp[h2];omega
   ·rename_i h2;simp[h2]
theorem qmp (x:Int) {a c:Nat} (ha:a<81) (hc:c<81) (t:List Bool):qGP x a c t=some (rch x a c fun s=>t.getD s false):=by
 have hg:=geo ha
 have hg2:=geo hc
 unfold qGP
 rw[qop x ha hc,qA]
 unfold rch
 cases hst:qA7 x a c with
 | true=>rfl
 | false =>
   rw[b_f,qX1 ha hc,qA,qES,qA,Bool.false_or]
   have l1:=qjz (a:=a) (c:=c)
   have l2:=qj0 (a:=a) (c:=c)
   have hup:upS x a c=if sd x=1 then dr a c else -dr a c:=rfl
   have hdr:dr a c=rn c - rn a:=rfl
   have hdf:df a c=fl c - fl a:=rfl
   have fin:∀ (p:Bool),p=qAt x a c->(br p (ob (qA6 a c t) fun a8=>some a8) (some false):Option Bool)=some (qAt x a c&&qAw a c fun s=>t.getD s false):=by
    intro p hp
    rw[hp,qhU ha hc,qA]
    cases qAt x a c<;>rfl
   have sl:∀ {p:Prop} [Decidable p],(p↔slK (kd x) (df a c) (upS x a c))->decide p=qAt x a c:=by
    intro p _ h
    unfold qAt
    rw[decide_eq_decide];exact h
   have nsl:¬ slK (kd x) (df a c) (upS x a c)->(some false:Option Bool)=some (qAt x a c&&qAw a c fun s=>t.getD s false):=by
    intro h
    have:qAt x a c=false:=by unfold qAt;simpa using h
    rw[this];rfl
   simp (disch:=omega) only[qIS,qJs,w_s,qCB,qA]
   have body : ∀ (u:Int),u=upS x a c->(br (kd x==2)
        (br (qAA a c==1)
         (br (fl a==fl c)
          (br (decide (u>0))
           (ob (qA6 a c t) fun a8=>
           some (a8))
           (some (false)))
          (some (false)))
         (some (false)))
        (br (kd x==6)
         (br (qAA a c==2)
          (ob (qA6 a c t) fun a8=>
          some (a8))
          (some (false)))
         (br (kd x==14)
          (br (qAA a c==2)
           (ob (qA6 a c t) fun a8=>
           some (a8))
           (some (false)))
          (br (kd x==7)
           (br (qAA a c==1)
            (ob (qA6 a c t) fun a8=>
            some (a8))
            (some (false)))
           (br (kd x==15)
            (br (qAA a c==1)
             (ob (qA6 a c t) fun a8=>
             some (a8))
             (some (false)))
            (some (false))))))  : Option Bool)=some (qAt x a c&&qAw a c fun s=>t.getD s false):=by
    intro u hu
    by_cases k2:kd x=2
    ·rw[qo k2]
     by_cases h1:qAA a c=1
     ·rw[qo h1]
      by_cases h3:fl a=fl c
      ·rw[qo h3]
       refine fin _ ?_
       exact sl (by unfold slK;rw[<- hu];omega)
      ·rw[qn h3]
       exact nsl (by unfold slK;omega)
     ·rw[qn h1]
      refine nsl (by
       rw[l1] at h1
       unfold slK
       split at hup<;>omega)
    ·rw[qn k2]
     have two:(kd x=6 \/ kd x=14)->(br (qAA a c==2) (ob (qA6 a c t) fun a8=>some a8) (some false):Option Bool)=some (qAt x a c&&qAw a c fun s=>t.getD s false):=by
      intro hk
      refine fin _ ?_
      have:(qAA a c==2)=decide (qAA a c=2):=by rw[Bool.eq_iff_iff];simp
      rw[this]
      refine sl ?_
      rw[l2]
      unfold slK
      split at hup<;>omega
     have one:(kd x=7 \/ kd x=15)->(br (qAA a c==1) (ob (qA6 a c t) fun a8=>some a8) (some false):Option Bool)=some (qAt x a c&&qAw a c fun s=>t.getD s false):=by
      intro hk
      refine fin _ ?_
      have:(qAA a c==1)=decide (qAA a c=1):=by rw[Bool.eq_iff_iff];simp
      rw[this]
      refine sl ?_
      rw[l1]
      unfold slK
      split at hup<;>omega
     by_cases k6:kd x=6
     ·rw[qo k6];exact two (.inl k6)
     rw[qn k6]
     by_cases k14:kd x=14
     ·rw[qo k14];exact two (.inr k14)
     rw[qn k14]
     by_cases k7:kd x=7
     ·rw[qo k7];exact one (.inl k7)
     rw[qn k7]
     by_cases k15:kd x=15
     ·rw[qo k15];exact one (.inr k15)
     rw[qn k15]
     exact nsl (by unfold slK;omega)
   by_cases hs:sd x=1
   ·rw[qo hs]
    exact body _ (by rw[hup,if_pos hs];omega)
   ·rw[qn hs]
    exact body _ (by rw[hup,if_neg hs];omega)
end Go.Kk.Pl
namespace Go.Kk.Pl
def qB7 (dx dy:Int):Nat->Int->List Nat
 | 0,_=>[]
 | n+1,p=>if p<0 then [] else p.toNat :: qB7 dx dy n (qBM dx dy p.toNat)
def qAX (t:Nat->Bool):List Nat->Nat->Bool
 | [],_=>false
 | s :: L,c=>decide (c=s)||(!t s&&qAX t L c)
def qFv (dx dy:Int):Nat->Int->Bool
 | 0,p=>decide (p<0)
 | n+1,p=>decide (p<0)||qFv dx dy n (qBM dx dy p.toNat)
theorem qVa (dx dy:Int) (a:Nat):-1<=qBM dx dy a /\ qBM dx dy a<81:=by unfold qBM;split<;>omega
theorem qrU {dx dy:Int} (h1:-8<=dx) (h2:dx<=8) (h3:-8<=dy) (h4:dy<=8) (t:Nat->Bool) (u v:Int):∀ (n:Nat) (p:Int),-1<=p->p<81->qFv dx dy n p=true->∀ (f:Nat->Bool) (F:Nat),
  qGM (F+n+1) p dx dy (sLo t) (sHi t) u v (sLo f) (sHi f)=some (u,v,sLo fun c=>f c||qAX t (qB7 dx dy n p) c,sHi fun c=>f c||qAX t (qB7 dx dy n p) c):=by
 intro n
 induction n with
 | zero=>
   intro p hp0 hp1 he f F
   show qHs (qGM (F+0)) _ _ _ _ _ _ _ _ _=_
   unfold qHs
   simp only[qFv,decide_eq_true_eq] at he
   rw[qBn (by omega)]
   have:(fun c=>f c||qAX t (qB7 dx dy 0 p) c)=f:=by funext c;simp[qB7,qAX]
   rw[this]
 | succ n ih=>
   intro p hp0 hp1 he f F
   show qHs (qGM (F+n+1)) _ _ _ _ _ _ _ _ _=_
   unfold qHs
   by_cases hp:p<0
   ·rw[qBn (by omega)]
    have:(fun c=>f c||qAX t (qB7 dx dy (n+1) p) c)=f:=by funext c;simp[qB7,qAX,hp]
    rw[this]
   ·obtain⟨q,rfl⟩:∃ q:Nat,p=q:=⟨p.toNat,by omega⟩
    have hq:q<81:=by omega
    rw[qCJ (by omega),qGl,qA]
    simp only
    rw[qEG,qA]
    have hhas:has t q=t q:=by unfold has;simp;intro _;omega
    have hL:qB7 dx dy (n+1) q=q :: qB7 dx dy n (qBM dx dy q):=by simp[qB7]
    rw[hhas,hL]
    cases ht:t q with
    | true=>
      rw[b_t]
      obtain⟨e1,e2⟩:=qCD (f:=fun i=>f i||only q i) (g:=fun c=>f c||qAX t (q :: qB7 dx dy n (qBM dx dy q)) c) fun c hc=>by
       unfold qAX only
       rw[ht]
       have:decide ((c:Int)=(q:Int))=decide (c=q):=by rw[decide_eq_decide];omega
       rw[this];simp
      rw[e1,e2]
    | false=>
      rw[b_f,qN8 h1 h2 h3 h4 hq,qA]
      obtain⟨r1,r2⟩:=qVa dx dy q
      have he':qFv dx dy n (qBM dx dy q)=true:=by
       simp only[qFv,Bool.or_eq_true,decide_eq_true_eq] at he
       rcases he with he | he
       ·omega
       ·simpa using he
      refine (ih _ r1 r2 he' _ F).trans ?_
      obtain⟨e1,e2⟩:=qCD (f:=fun c=>(f c||only q c)||qAX t (qB7 dx dy n (qBM dx dy q)) c) (g:=fun c=>f c||qAX t (q :: qB7 dx dy n (qBM dx dy q)) c) fun c hc=>by
       unfold only
       have:decide ((c:Int)=(q:Int))=decide (c=q):=by rw[decide_eq_decide];omega
       rw[this]
       show _=(f c||(decide (c=q)||(!t q&&qAX t (qB7 dx dy n (qBM dx dy q)) c)))
       rw[ht]
       simp[Bool.or_assoc]
      rw[e1,e2]
def qBI (dx dy:Int) (a:Nat):List Nat:=qB7 dx dy 9 (qBM dx dy a)
theorem qgy:∀ (d:Fin 9) (a:Fin 81),(d.val=4 \/ qFv ((d.val / 3:Nat) - 1) ((d.val % 3:Nat) - 1) 9 (qBM ((d.val / 3:Nat) - 1) ((d.val % 3:Nat) - 1) a.val)=true):=by decide +kernel
theorem qdZ {dx dy:Int} (h1:-1<=dx) (h2:dx<=1) (h3:-1<=dy) (h4:dy<=1) (hne:¬ (dx=0 /\ dy=0)) {a:Nat} (ha:a<81) (t:Nat->Bool):
  qJM a dx dy (sLo t) (sHi t)=some (sLo (qAX t (qBI dx dy a)),sHi (qAX t (qBI dx dy a))):=by
 unfold qJM
 rw[qT (by rw[Bool.and_eq_false_iff];simp;omega),qN8 (by omega) (by omega) (by omega) (by omega) ha,qA]
 obtain⟨r1,r2⟩:=qVa dx dy a
 have he:qFv dx dy 9 (qBM dx dy a)=true:=by
  have:=qgy ⟨((dx+1)*3+(dy+1)).toNat,by omega⟩ ⟨a,ha⟩
  simp only at this
  rw[show (((((dx+1)*3+(dy+1)).toNat / 3:Nat):Int) - 1)=dx by omega,show (((((dx+1)*3+(dy+1)).toNat % 3:Nat):Int) - 1)=dy by omega] at this
  exact this.resolve_left (by omega)
 obtain⟨g,hg⟩:=qi 9 (by omega)
 have:=qrU (by omega) (by omega) (by omega) (by omega) t 0 0 9 _ r1 r2 he (fun _=>false) g
 rw[<- hg,qBy,qBx] at this
 rw[this,qA]
 simp only[Bool.false_or]
 rfl
def qIq (a c:Nat):Bool:=decide (qAA a c=0)||((qBI (sgn (df a c)) (sgn (dr a c)) a).take (btw a c).length==btw a c&&((qBI (sgn (df a c)) (sgn (dr a c)) a)[(btw a c).length]? == some c && !(btw a c).contains c))
def qNl (a:Nat) (dx dy:Int):Bool:=(qBI dx dy a).all fun c=>decide (c<81)&&(decide (qAA a c≠0)&&(decide (sgn (df a c)=dx)&&decide (sgn (dr a c)=dy)))
theorem qKN:∀ (a c:Fin 81),qIq a.val c.val=true:=by decide +kernel
theorem qUe:∀ (d:Fin 9) (a:Fin 81),(d.val=4 \/ qNl a.val ((d.val / 3:Nat) - 1) ((d.val % 3:Nat) - 1)=true):=by decide +kernel
theorem qdT (t:Nat->Bool) {c:Nat}:∀ (P Q:List Nat),c ∉ P->qAX t (P++c :: Q) c=P.all fun s=>!t s
 | [],Q,_=>by simp[qAX]
 | s :: P,Q,h=>by
   simp only[List.mem_cons,not_or] at h
   show (decide (c=s)||(!t s&&qAX t (P++c :: Q) c))=_
   rw[qdT t P Q h.2,List.all_cons,show decide (c=s)=false by simpa using h.1,Bool.false_or]
theorem qdR (t:Nat->Bool) {c:Nat}:∀ (P:List Nat),c ∉ P->qAX t P c=false
 | [],_=>rfl
 | s :: P,h=>by
   simp only[List.mem_cons,not_or] at h
   show (decide (c=s)||(!t s&&qAX t P c))=_
   rw[qdR t P h.2,show decide (c=s)=false by simpa using h.1];simp
def onW (dx dy:Int) (a c:Nat):Bool:=decide (qAA a c≠0 /\ sgn (df a c)=dx /\ sgn (dr a c)=dy)
theorem qdU {dx dy:Int} (h1:-1<=dx) (h2:dx<=1) (h3:-1<=dy) (h4:dy<=1) (hne:¬ (dx=0 /\ dy=0)) {a c:Nat} (ha:a<81) (hc:c<81) (t:Nat->Bool):
  qAX t (qBI dx dy a) c=(onW dx dy a c&&qAw a c t):=by
 unfold onW
 by_cases h:qAA a c≠0 /\ sgn (df a c)=dx /\ sgn (dr a c)=dy
 ·obtain⟨hl,rfl,rfl⟩:=h
  have:=qKN ⟨a,ha⟩ ⟨c,hc⟩
  simp only[qIq,Bool.or_eq_true,decide_eq_true_eq,Bool.and_eq_true,beq_iff_eq,Bool.not_eq_true'] at this
  obtain⟨e1,e2,e3⟩:=this.resolve_left hl
  have hlt:(btw a c).length<(qBI (sgn (df a c)) (sgn (dr a c)) a).length:=getElem?_lt e2
  have hsp:qBI (sgn (df a c)) (sgn (dr a c)) a=btw a c++c :: (qBI (sgn (df a c)) (sgn (dr a c)) a).drop ((btw a c).length+1):=by
   have:=qML e2
   rw[e1] at this
   exact this
  rw[hsp,qdT t _ _ (by simpa using e3)]
  simp[hl,qAw]
 ·have hn:c ∉ qBI dx dy a:=by
   intro hm
   have:=qUe ⟨((dx+1)*3+(dy+1)).toNat,by omega⟩ ⟨a,ha⟩
   simp only at this
   rw[show (((((dx+1)*3+(dy+1)).toNat / 3:Nat):Int) - 1)=dx by omega,show (((((dx+1)*3+(dy+1)).toNat % 3:Nat):Int) - 1)=dy by omega] at this
   have:=this.resolve_left (by omega)
   unfold qNl at this
   rw[List.all_eq_true] at this
   have:=this c hm
   simp only[Bool.and_eq_true,decide_eq_true_eq] at this
   exact h ⟨this.2.1,this.2.2.1,this.2.2.2⟩
  rw[qdR t _ hn]
  rw[decide_eq_false h,Bool.false_and]
def qAW (k:Int):List (List Int):=if k=2 then [[0,-1]] else if k=6 \/ k=14 then [[-1,-1],[1,-1],[-1,1],[1,1]] else if k=7 \/ k=15 then [[0,-1],[-1,0],[1,0],[0,1]] else []
theorem qQT (k:Int):qHq k=some ((qAW k).length,(qAW k).length,qAW k):=by
 unfold qHq qAW
 by_cases h2:k=2
 ·rw[qo h2,if_pos h2];rfl
 rw[qn h2,if_neg h2]
 by_cases h6:k=6
 ·rw[qo h6,if_pos (.inl h6)];rfl
 rw[qn h6]
 by_cases h14:k=14
 ·rw[qo h14,if_pos (.inr h14)];rfl
 rw[qn h14,if_neg (by omega)]
 by_cases h7:k=7
 ·rw[qo h7,if_pos (.inl h7)];rfl
 rw[qn h7]
 by_cases h15:k=15
 ·rw[qo h15,if_pos (.inr h15)];rfl
 rw[qn h15,if_neg (by omega)];rfl
theorem qmn (k:Int):(qAW k).length<=8 /\ ∀ r∈qAW k,r.length<=2 /\ -1<=dx_ r /\ dx_ r<=1 /\ -1<=dy_ r /\ dy_ r<=1 /\ ¬ (dx_ r=0 /\ dy_ r=0):=by
 have h1:∀ r∈[[0,-1]],(r:List Int).length<=2 /\ -1<=dx_ r /\ dx_ r<=1 /\ -1<=dy_ r /\ dy_ r<=1 /\ ¬ (dx_ r=0 /\ dy_ r=0):=by decide
 have h2:∀ r∈[[-1,-1],[1,-1],[-1,1],[1,1]],(r:List Int).length<=2 /\ -1<=dx_ r /\ dx_ r<=1 /\ -1<=dy_ r /\ dy_ r<=1 /\ ¬ (dx_ r=0 /\ dy_ r=0):=by decide
 have h3:∀ r∈[[0,-1],[-1,0],[1,0],[0,1]],(r:List Int).length<=2 /\ -1<=dx_ r /\ dx_ r<=1 /\ -1<=dy_ r /\ dy_ r<=1 /\ ¬ (dx_ r=0 /\ dy_ r=0):=by decide
 unfold qAW
 split
 ·exact⟨by decide,h1⟩
 ·split
  ·exact⟨by decide,h2⟩
  ·split
   ·exact⟨by decide,h3⟩
   ·exact⟨by decide,fun r hr=>by cases hr⟩
def qDY (x:Int) (L:List (List Int)) (a c:Nat):Bool:=L.any fun r=>onW (sg x*dx_ r) (sg x*dy_ r) a c
theorem qma {x:Int} {a:Nat} (ha:a<81) (t:Nat->Bool) (L:List (List Int)) (hlen:L.length<=8) (hr:∀ r∈L,r.length<=2 /\ -1<=dx_ r /\ dx_ r<=1 /\ -1<=dy_ r /\ dy_ r<=1 /\ ¬ (dx_ r=0 /\ dy_ r=0)) (N:Nat) (u v:Int):
  ∀ (n i:Nat),i+n=L.length->∀ (f:Nat->Bool) (F:Nat),qFN (F+n+1) x a L.length (Int.ofNat L.length) i (sLo t) (sHi t) u v (sLo f) (sHi f) N L =
    some (u,v,sLo fun c=>f c||(qDY x (L.drop i) a c&&qAw a c t),sHi fun c=>f c||(qDY x (L.drop i) a c&&qAw a c t)):=by
 intro n
 induction n with
 | zero=>
   intro i hi f F
   show qHr (qFN (F+0)) _ _ _ _ _ _ _ _ _ _ _ _ _=_
   unfold qHr
   rw[qY (by simp;omega),List.drop_eq_nil_of_le (by omega)]
   have:(fun c=>f c||(qDY x [] a c&&qAw a c t))=f:=by funext c;simp[qDY]
   rw[this]
 | succ n ih=>
   intro i hi f F
   show qHr (qFN (F+n+1)) _ _ _ _ _ _ _ _ _ _ _ _ _=_
   unfold qHr
   have hil:i<L.length:=by omega
   have hget:L.getD i []=L[i]:=by rw[List.getD_eq_getElem?_getD,List.getElem?_eq_getElem hil];rfl
   obtain⟨r0,r1,r2,r3,r4,r5⟩:=hr L[i] (List.getElem_mem hil)
   have ht:List.take 2 L[i]=L[i]:=List.take_of_length_le r0
   have hs:=qcg x
   have c1:-1<=sg x*dx_ L[i] /\ sg x*dx_ L[i]<=1 /\ -1<=sg x*dy_ L[i] /\ sg x*dy_ L[i]<=1 /\ ¬ (sg x*dx_ L[i]=0 /\ sg x*dy_ L[i]=0):=by
    rcases hs with h | h<;>rw[h]<;>omega
   rw[qf (by simp;omega),qa (by omega) (by omega),tn,hget,ht,qDP,qA]
   show ob (qGg (dx_ L[i]) (dy_ L[i]) (sd x)) _=_
   rw[qdQ (by omega),qA]
   simp only
   rw[qdZ c1.1 c1.2.1 c1.2.2.1 c1.2.2.2.1 c1.2.2.2.2 ha,qA]
   simp only
   rw[qHj,qA]
   simp only
   rw[w_s (by omega) (by omega)]
   refine (ih (i+1) (by omega) _ F).trans ?_
   have hd:L.drop i=L[i] :: L.drop (i+1):=List.drop_eq_getElem_cons hil
   obtain⟨e1,e2⟩:=qCD (f:=fun c=>(f c||qAX t (qBI (sg x*dx_ L[i]) (sg x*dy_ L[i]) a) c)||(qDY x (L.drop (i+1)) a c&&qAw a c t)) (g:=fun c=>f c||(qDY x (L.drop i) a c&&qAw a c t)) fun c hc=>by
    rw[qdU c1.1 c1.2.1 c1.2.2.1 c1.2.2.2.1 c1.2.2.2.2 ha hc,hd]
    unfold qDY
    rw[List.any_cons,Bool.and_or_distrib_right,Bool.or_assoc]
   rw[e1,e2]
def qEJ (d e:Int):Prop:=¬ (d=0 /\ e=0) /\ (d=0 \/ e=0 \/ d=e \/ d = -e)
instance (d e:Int):Decidable (qEJ d e):=by unfold qEJ;infer_instance
theorem qK7 (a c:Nat):qAA a c≠0↔qEJ (df a c) (dr a c):=by
 unfold qEJ qAA
 by_cases hac:a=c
 ·subst hac
  have:=qHP a
  simp[this.1,this.2]
 ·have:¬ (df a c=0 /\ dr a c=0):=fun h=>hac (qI6 h.1 h.2)
  rw[if_neg hac]
  split
  ·rename_i h;constructor
   ·intro _;exact⟨this,by omega⟩
   ·intro _;omega
  ·split
   ·constructor
    ·intro _;exact⟨this,by omega⟩
    ·intro _;omega
   ·constructor
    ·intro h;omega
    ·rintro ⟨_,h⟩;omega
theorem qdz:∀ (k:Fin 16) (d e:Fin 17),(qAW ((k.val:Nat):Int)).any (fun r=>decide (qEJ ((d.val:Int) - 8) ((e.val:Int) - 8) /\ sgn ((d.val:Int) - 8)=dx_ r /\ sgn ((e.val:Int) - 8)=dy_ r))=decide (slK ((k.val:Nat):Int) ((d.val:Int) - 8) (-((e.val:Int) - 8))):=by decide +kernel
theorem qd0:∀ (k:Fin 16) (d e:Fin 17),(qAW ((k.val:Nat):Int)).any (fun r=>decide (qEJ ((d.val:Int) - 8) ((e.val:Int) - 8) /\ sgn ((d.val:Int) - 8) = -(dx_ r) /\ sgn ((e.val:Int) - 8) = -(dy_ r)))=decide (slK ((k.val:Nat):Int) ((d.val:Int) - 8) ((e.val:Int) - 8)):=by decide +kernel
theorem qd1 (x:Int) {a c:Nat} (ha:a<81) (hc:c<81):qDY x (qAW (kd x)) a c=qAt x a c:=by
 obtain⟨k0,k1,_⟩:=qCP x
 have hr:=qSw (x:=x) ha hc
 have hl:=qK7 a c
 unfold qAt qDY onW sg upS
 by_cases hs:sd x=1
 ·simp only[hs,if_true]
  have:=qd0 ⟨(kd x).toNat,by omega⟩ ⟨(df a c+8).toNat,by omega⟩ ⟨(dr a c+8).toNat,by omega⟩
  simp only[show (((kd x).toNat:Nat):Int)=kd x by omega,show (((df a c+8).toNat:Nat):Int) - 8=df a c by omega,show (((dr a c+8).toNat:Nat):Int) - 8=dr a c by omega] at this
  rw[<- this]
  congr 1
  funext r
  rw[decide_eq_decide,hl]
  constructor<;>(rintro ⟨h1,h2,h3⟩;refine⟨h1,?_,?_⟩<;>omega)
 ·simp only[hs,if_false]
  have:=qdz ⟨(kd x).toNat,by omega⟩ ⟨(df a c+8).toNat,by omega⟩ ⟨(dr a c+8).toNat,by omega⟩
  simp only[show (((kd x).toNat:Nat):Int)=kd x by omega,show (((df a c+8).toNat:Nat):Int) - 8=df a c by omega,show (((dr a c+8).toNat:Nat):Int) - 8=dr a c by omega] at this
  rw[<- this]
  congr 1
  funext r
  rw[decide_eq_decide,hl]
  constructor<;>(rintro ⟨h1,h2,h3⟩;refine⟨h1,?_,?_⟩<;>omega)
theorem qLd (x:Int) {a:Nat} (ha:a<81) (t:Nat->Bool):qGL x a (sLo t) (sHi t)=some (sLo (fun c=>rch x a c t),sHi fun c=>rch x a c t):=by
 obtain⟨hlen,hrs⟩:=qmn (kd x)
 obtain⟨g,hg⟩:=qi (qAW (kd x)).length (by omega)
 have:=qma (x:=x) ha t (qAW (kd x)) hlen hrs (qAW (kd x)).length 0 0 (qAW (kd x)).length 0 (by omega) (qA7 x a) g
 rw[<- hg] at this
 unfold qGL
 rw[qqe x ha,qA]
 simp only
 rw[qBt,qA,qQT,qA]
 simp only
 rw[show qFN qC x a (qAW (kd x)).length (Int.ofNat (qAW (kd x)).length) 0 (sLo t) (sHi t) 0 0 (sLo (qA7 x a)) (sHi (qA7 x a)) (qAW (kd x)).length (qAW (kd x))=_ from this,qA]
 simp only
 obtain⟨e1,e2⟩:=qCD (f:=fun c=>qA7 x a c||(qDY x (List.drop 0 (qAW (kd x))) a c&&qAw a c t)) (g:=fun c=>rch x a c t) fun c hc=>by
  rw[List.drop_zero,qd1 x ha hc]
  rfl
 rw[e1,e2]
end Go.Kk.Pl
namespace Go.Kk.Pl
theorem qeX:∀ (a c:Fin 81),(btw a.val c.val).all (fun s=>(btw c.val a.val).contains s)=true:=by decide +kernel
theorem qIl {a c:Nat} (ha:a<81) (hc:c<81) {s:Nat} (hs:s∈btw a c):s∈btw c a:=by
 have:=qeX ⟨a,ha⟩ ⟨c,hc⟩
 rw[List.all_eq_true] at this
 simpa using this s hs
theorem qHI {a c:Nat} {t:Nat->Bool}:qAw a c t=true ↔ ∀ s∈btw a c,t s=false:=by simp[qAw]
theorem qhQ {a c:Nat} (ha:a<81) (hc:c<81) (t:Nat->Bool):qAw a c t=qAw c a t:=by
 rw[Bool.eq_iff_iff,qHI,qHI]
 exact⟨fun h s hs=>h s (qIl hc ha hs),fun h s hs=>h s (qIl ha hc hs)⟩
theorem qhR {a c:Nat} (ha:a<81) (hc:c<81) {t t':Nat->Bool} (h:∀ s,s<81->t s=t' s):qAw a c t=qAw a c t':=by
 rw[Bool.eq_iff_iff,qHI,qHI]
 exact⟨fun hh s hs=>by rw[<- h s (qIm ha hc hs)];exact hh s hs,fun hh s hs=>by rw[h s (qIm ha hc hs)];exact hh s hs⟩
theorem qZY {x:Int} {a c:Nat} (ha:a<81) (hc:c<81) {t t':Nat->Bool} (h:∀ s,s<81->t s=t' s):rch x a c t=rch x a c t':=by
 unfold rch;rw[qhR ha hc h]
theorem qD5 {s k:Int} (hs:s=0 \/ s=1) (h1:1<=k) (h2:k<=15) (h3:k≠13):sd (pc s k)=s /\ kd (pc s k)=k:=by
 rw[qA4 hs h1 h2 h3]
 have hk:=qHS hs h1 h2 h3
 refine⟨?_,hk⟩
 unfold sd
 rw[hk,if_neg (by omega)]
 rcases hs with rfl | rfl
 ·rw[if_pos (by omega)]
 ·rw[if_neg (by omega)]
theorem qq5 (k d u:Int):qCE k (-d) u↔qCE k d u:=by
 unfold qCE
 exact or_congr (by omega) (or_congr (by omega) (or_congr (by omega) (or_congr (by omega) (or_congr (by omega) (or_congr (by omega) (by omega))))))
theorem qqO (k d u:Int):slK k (-d) u↔slK k d u:=by
 unfold slK
 exact or_congr (by omega) (or_congr (by omega) (by omega))
theorem qmm {s k:Int} (hs:s=0 \/ s=1) (h1:1<=k) (h2:k<=15) (h3:k≠13) {a c:Nat} (ha:a<81) (hc:c<81) (t:Nat->Bool):
  rch (pc (1 - s) k) a c t=rch (pc s k) c a t:=by
 obtain⟨e1,e2⟩:=qD5 hs h1 h2 h3
 obtain⟨e3,e4⟩:=qD5 (s:=1 - s) (by omega) h1 h2 h3
 have hd:df a c = -df c a:=by unfold df;omega
 have hr:dr a c = -dr c a:=by unfold dr;omega
 have hu:upS (pc (1 - s) k) a c=upS (pc s k) c a:=by
  unfold upS
  rw[e1,e3]
  rcases hs with rfl | rfl
  ·rw[if_pos (by omega),if_neg (by omega)];exact hr
  ·rw[if_neg (by omega),if_pos (by omega),hr];omega
 unfold rch qA7 qAt
 rw[e2,e4,hu,qhQ ha hc]
 have s1:decide (qCE k (df a c) (upS (pc s k) c a))=decide (qCE k (df c a) (upS (pc s k) c a)):=by
  rw[decide_eq_decide,hd];exact qq5 _ _ _
 have s2:decide (slK k (df a c) (upS (pc s k) c a))=decide (slK k (df c a) (upS (pc s k) c a)):=by
  rw[decide_eq_decide,hd];exact qqO _ _ _
 rw[s1,s2]
theorem qLU {x:Int} (h:kd x≠0):x=pc (sd x) (kd x):=by
 obtain⟨k0,k1,k2⟩:=qCP x
 have hs:=qIA h
 rw[qA4 hs (by omega) k1 k2]
 have hr:=qI7 h
 unfold sd kd at *
 rw[if_neg h]
 split at h
 ·omega
 ·rename_i hh
  rw[if_neg hh]
  split<;>omega
def onF (b:List Int) (q:Nat) (s:Int) (t:Nat->Bool) (i:Int) (c:Nat):Bool:=decide (sd (b.getD c 0)=s /\ i<=kd (b.getD c 0))&&rch (b.getD c 0) c q t
theorem qeA {b:List Int} (h:List Int) (S:Int) (sd':List (List Int)) {s:Int} (hs:s=0 \/ s=1) {q:Nat} (hq:q<81) (t:Nat->Bool) (u v:Int):∀ (n:Nat) (k:Int),k=16 - n->n<=15->∀ (f:Nat->Bool) (F:Nat),
  qEA (F+n+1) q s k b h S (qO b) sd' (sLo t) (sHi t) u v (sLo f) (sHi f)=some (b,h,S,qO b,sd',u,v,sLo fun c=>f c||onF b q s t k c,sHi fun c=>f c||onF b q s t k c):=by
 intro n
 induction n with
 | zero=>
   intro k hk _ f F
   show qGr (qEA (F+0)) _ _ _ _ _ _ _ _ _ _ _ _ _ _=_
   unfold qGr
   rw[qKA (by omega)]
   have:(fun c=>f c||onF b q s t k c)=f:=by
    funext c
    have:=(qCP (b.getD c 0)).2.1
    unfold onF
    rw[decide_eq_false (by omega)]
    simp
   rw[this]
 | succ n ih=>
   intro k hk hn f F
   show qGr (qEA (F+n+1)) _ _ _ _ _ _ _ _ _ _ _ _ _ _=_
   unfold qGr
   rw[qJ9 (by omega),w_s (n:=1 - s) (by omega) (by omega),qLK,qA,w_s (n:=k+1) (by omega) (by omega)]
   by_cases h13:k=13
   ·have hz:pc (1 - s) k=0:=qP2 (by omega)
    rw[qo hz]
    refine (ih (k+1) (by omega) (by omega) f F).trans ?_
    have:(fun c=>f c||onF b q s t (k+1) c)=fun c=>f c||onF b q s t k c:=by
     funext c
     have:=(qCP (b.getD c 0)).2.2
     unfold onF
     congr 2
     rw[decide_eq_decide]
     omega
    rw[this]
   ·have hp:=qA4 (s:=1 - s) (k:=k) (by omega) (by omega) (by omega) h13
    rw[qn (by rw[hp];omega),qLd _ hq,qA]
    simp only
    rw[qGE,qA]
    simp only
    rw[qEi,qA]
    simp only
    rw[qHj,qA]
    simp only
    refine (ih (k+1) (by omega) (by omega) _ F).trans ?_
    obtain⟨e1,e2⟩:=qCD (f:=fun c=>(f c||(rch (pc (1 - s) k) q c t&&pcs b (pc s k) c))||onF b q s t (k+1) c) (g:=fun c=>f c||onF b q s t k c) fun c hc=>by
     rw[qmm hs (by omega) (by omega) h13 hq hc,Bool.or_assoc]
     congr 1
     obtain⟨g1,g2⟩:=qD5 hs (by omega) (by omega) h13
     have hne:pc s k≠0:=by rw[qA4 hs (by omega) (by omega) h13];omega
     unfold onF pcs
     by_cases hx:b.getD c 0=pc s k
     ·rw[hx,g1,g2,decide_eq_true (show pc s k≠0 /\ pc s k=pc s k from ⟨hne,rfl⟩),decide_eq_false (by omega),decide_eq_true (by omega)]
      simp
     ·rw[decide_eq_false (p:=pc s k≠0 /\ b.getD c 0=pc s k) (by omega),Bool.and_false,Bool.false_or]
      congr 1
      rw[decide_eq_decide]
      constructor
      ·rintro ⟨h1,h2⟩;exact⟨h1,by omega⟩
      ·rintro ⟨h1,h2⟩
       refine⟨h1,?_⟩
       rcases Int.lt_or_eq_of_le h2 with h3 | h3
       ·omega
       ·exfalso
        apply hx
        have hk0:kd (b.getD c 0)≠0:=by omega
        have:=qLU hk0
        rw[h1,<- h3] at this
        exact this
    rw[e1,e2]
def onS (b:List Int) (q s:Int) (t:Nat->Bool) (c:Nat):Bool:=decide (0<=q /\ q<81)&&(decide (s=0 \/ s=1)&&(decide (sd (b.getD c 0)=s)&&rch (b.getD c 0) c q.toNat t))
theorem qlO (b:List Int) {s:Int} (hs:s=0 \/ s=1) (q:Nat) (hq:q<81) (t:Nat->Bool):onF b q s t 1=onS b q s t:=by
 funext c
 unfold onF onS
 rw[decide_eq_true (show (0:Int)<=q /\ (q:Int)<81 by omega),decide_eq_true hs,Bool.true_and,Bool.true_and]
 congr 1
 rw[decide_eq_decide]
 constructor
 ·exact fun h=>h.1
 ·intro h
  refine⟨h,?_⟩
  have:=(qCP (b.getD c 0)).1
  rcases Int.lt_or_eq_of_le this with h1 | h1
  ·omega
  ·rw[qbu h1.symm] at h;omega
theorem qYi (b h:List Int) (S:Int) (sd':List (List Int)) (q s:Int) (t:Nat->Bool):qIc q s (sLo t) (sHi t) b h S (qO b) sd'=some (sLo (onS b q s t),sHi (onS b q s t)):=by
 have none:¬ ((0<=q /\ q<81) /\ (s=0 \/ s=1))->onS b q s t=fun _=>false:=by
  intro hn
  funext c
  unfold onS
  by_cases h1:0<=q /\ q<81
  ·rw[decide_eq_false (p:=s=0 \/ s=1) (fun h2=>hn ⟨h1,h2⟩)];simp
  ·rw[decide_eq_false h1];simp
 unfold qIc
 by_cases h0:q<0
 ·rw[qf h0,none (by omega),qBy,qBx]
 rw[qY h0]
 by_cases h1:q >= 81
 ·rw[qCJ h1,none (by omega),qBy,qBx]
 rw[qBn h1]
 obtain⟨a,rfl⟩:∃ a:Nat,q=a:=⟨q.toNat,by omega⟩
 obtain⟨g,hg⟩:=qi 15 (by omega)
 have main:(s=0 \/ s=1)->qEA qC a s 1 b h S (qO b) sd' (sLo t) (sHi t) 0 0 0 0=some (b,h,S,qO b,sd',0,0,sLo (onS b a s t),sHi (onS b a s t)):=by
  intro hs
  have:=qeA (b:=b) h S sd' hs (q:=a) (by omega) t 0 0 15 1 (by omega) (by omega) (fun _=>false) g
  rw[<- hg,qBy,qBx] at this
  rw[this,qlO b hs a (by omega)]
  simp only[Bool.false_or]
 by_cases h2:s=0
 ·rw[qt h2,main (.inl h2),qA]
 ·rw[qr h2]
  by_cases h3:s=1
  ·rw[qt h3,main (.inr h3),qA]
  ·rw[qr h3,none (by omega),qBy,qBx]
def kg (b:List Int) (s:Int):Int:=fst (pcs b (pc s 8))
def chs (b:List Int) (s:Int):Nat->Bool:=onS b (kg b s) (1 - s) (tk b)
def inC (b:List Int) (s:Int):Bool:=!isE (chs b s)
theorem qVc (f:Nat->Bool):-1<=fst f /\ fst f<81:=by
 unfold fst
 split
 ·rename_i i hi
  have:=List.mem_of_find?_eq_some hi
  rw[List.mem_range] at this
  omega
 ·omega
theorem qNj {b:List Int} (hc:Clean b) (h:List Int) (S:Int) {s:Int} (hs:-10<=s /\ s<=10):qGq s b h S (qO b) (qR b)=some (sLo (chs b s),sHi (chs b s)):=by
 unfold qGq
 rw[qO8,qA,qJq hc,qA]
 simp only
 rw[w_s (by omega) (by omega),qYi,qA]
 rfl
theorem qWp {b:List Int} (hc:Clean b) (h:List Int) (S:Int) {s:Int} (hs:-10<=s /\ s<=10):qIb s b h S (qO b) (qR b)=some (inC b s):=by
 unfold qIb
 rw[qNj hc h S hs,qA]
 simp only
 rw[qIx,qA]
 rfl
theorem qIr {b h:List Int} {s:Int} (hl:b.length=81) (hz:qA1 b h s=0):Clean b /\ (s=0 \/ s=1):=by
 unfold qA1 at hz
 split at hz
 ·omega
 ·rename_i hs
  split at hz
  ·omega
  ·rename_i hb
   exact⟨qTa hl (by simpa using hb),by omega⟩
def qCp (b h:List Int) (s:Int):Int:=if qA1 b h s≠0 then qA1 b h s else if inC b (1 - s) then 54 else 0
theorem qeB {b h:List Int} (hl:b.length=81) (hf:qAe h) (s:Int):qJ7 b h s=some (qCp b h s):=by
 unfold qJ7 qCp
 rw[qfw hl hf,qA]
 by_cases hz:qA1 b h s=0
 ·obtain⟨hc,hs⟩:=qIr hl hz
  rw[qt hz,if_neg (by simpa using hz),qPq hl,qA,qNo hc]
  simp only
  rw[w_s (by omega) (by omega),qWp hc h s (by omega),qA]
  cases inC b (1 - s)<;>rfl
 ·rw[qr hz,if_pos hz]
def tkL (b:List Int) (i:Nat):List Bool:=(List.range 81).map fun j=>decide (j<i)&&tk b j
theorem qrB (b h:List Int) (s:Int) (w:List Bool):∀ (n i:Nat),i+n=81->∀ F,qEQ (F+n+1) i b h s w (tkL b i)=some (w,tkL b 81):=by
 intro n
 induction n with
 | zero=>
   intro i hi F
   show qHw (qEQ (F+0)) _ _ _ _ _ _=_
   unfold qHw
   rw[qY (by omega),show i=81 by omega]
 | succ n ih=>
   intro i hi F
   show qHw (qEQ (F+n+1)) _ _ _ _ _ _=_
   unfold qHw
   have e:List.set (tkL b i) i (b.getD i 0 != 0)=tkL b (i+1):=by
    unfold tkL
    rw[map_set]
    apply List.map_congr_left
    intro j _
    split
    ·rename_i hj;subst hj
     rw[decide_eq_true (show j<j+1 by omega),Bool.true_and]
     unfold tk
     rw[Bool.eq_iff_iff];simp
    ·rename_i hj
     congr 1
     rw[decide_eq_decide];omega
   rw[qf (by omega),qa (by omega) (by omega),qa (by omega) (by omega),tn,e,w_s (by omega) (by omega)]
   exact ih (i+1) (by omega) F
theorem qrC (b:List Int):tkL b 0=List.replicate 81 false:=by
 unfold tkL
 apply List.ext_getElem
 ·simp
 ·intro i h1 h2
  rw[List.getElem_map,List.getElem_replicate,decide_eq_false (by omega),Bool.false_and]
def qDQ (b:List Int):List Bool:=tkL b 81
theorem qSp (b h:List Int) (s:Int):qFT b h s=some (qDQ b):=by
 obtain⟨g,hg⟩:=qi 81 (by omega)
 have:=qrB b h s (List.replicate 81 false) 81 0 (by omega) g
 rw[<- hg,qrC] at this
 unfold qFT
 show ob (qEQ qC 0 b h s (List.replicate 81 false) (List.replicate 81 false)) _=_
 rw[show qEQ qC 0 b h s (List.replicate 81 false) (List.replicate 81 false)=_ from this,qA]
 rfl
theorem qrA (b:List Int) {i:Nat} (h:i<81):(qDQ b).getD i false=tk b i:=by
 unfold qDQ tkL
 rw[qHf _ h,decide_eq_true h,Bool.true_and]
theorem qQU (b:List Int) (x:Int) {a c:Nat} (ha:a<81) (hc:c<81):qGP x a c (qDQ b)=some (rch x a c (tk b)):=by
 rw[qmp x ha hc,qZY ha hc fun s hs=>qrA b hs]
theorem qow (b h:List Int) (S:Int) {s:Int} (hs:s=0 \/ s=1):∀ (n i:Nat),i+n=81->(∀ j,j<i->pcs b (pc s 8) j=false)->∀ F,qFV (F+n+1) s i b h S=some (if kg b s = -1 then .inr () else .inl (kg b s)):=by
 have hp:pc s 8=16*s+8:=qA4 hs (by omega) (by omega) (by omega)
 intro n
 induction n with
 | zero=>
   intro i hi hj F
   show qHz (qFV (F+0)) _ _ _ _ _=_
   unfold qHz
   have:kg b s = -1:=qVb fun j hj'=>hj j (by omega)
   rw[qY (by omega),if_pos this]
 | succ n ih=>
   intro i hi hj F
   show qHz (qFV (F+n+1)) _ _ _ _ _=_
   unfold qHz
   rw[qf (by omega),qa (by omega) (by omega),tn,c_8,w_s (n:=16*s) (by omega) (by omega),w_s (n:=16*s+8) (by omega) (by omega),w_s (by omega) (by omega),<- hp]
   by_cases hx:b.getD i 0=pc s 8
   ·have hk:pcs b (pc s 8) i=true:=by unfold pcs;rw[decide_eq_true];exact⟨by rw[hp];omega,hx⟩
    have:kg b s=i:=qKe (by omega) hk hj
    rw[qo hx,this,if_neg (by omega)]
   ·rw[qn hx]
    refine ih (i+1) (by omega) (fun j hj'=>?_) F
    by_cases hji:j=i
    ·subst hji;unfold pcs;rw[decide_eq_false];exact fun hh=>hx hh.2
    ·exact hj j (by omega)
theorem qox (b h:List Int) (S:Int) {s:Int} (hs:s=0 \/ s=1):qLs b h S s=some (kg b s):=by
 obtain⟨g,hg⟩:=qi 81 (by omega)
 have:=qow b h S hs 81 0 (by omega) (fun j hj=>absurd hj (by omega)) g
 rw[<- hg] at this
 unfold qLs
 rw[show qFV qC s 0 b h S=_ from this,qA]
 split
 ·rename_i hk;rw[hk];rfl
 ·rfl
theorem qot (b h:List Int) (S s:Int) (hs:s=0 \/ s=1) (k:Nat) (hk:k<81):∀ (n i:Nat),i+n=81->∀ F,
  qFU (F+n+1) s k i b h S (qDQ b)=some (if (List.range' i n).any (onS b k (1 - s) (tk b)) then .inl true else .inr ()):=by
 intro n
 induction n with
 | zero=>
   intro i hi F
   show qHy (qFU (F+0)) _ _ _ _ _ _ _=_
   unfold qHy
   rw[qY (by omega)]
   rfl
 | succ n ih=>
   intro i hi F
   show qHy (qFU (F+n+1)) _ _ _ _ _ _ _=_
   unfold qHy
   have hr:=ih (i+1) (by omega) F
   rw[qf (by omega),qa (by omega) (by omega),tn,c_8,qES,qA,w_s (n:=1 - s) (by omega) (by omega),w_s (by omega) (by omega),any_cons]
   have hon:onS b k (1 - s) (tk b) i=(decide (sd (b.getD i 0)=1 - s)&&rch (b.getD i 0) i k (tk b)):=by
    unfold onS
    rw[decide_eq_true (show (0:Int)<=k /\ (k:Int)<81 by omega),decide_eq_true (show 1 - s=0 \/ 1 - s=1 by omega),Bool.true_and,Bool.true_and,tn]
   rw[hon]
   by_cases hsd:sd (b.getD i 0)=1 - s
   ·rw[qo hsd,qa (by omega) (by omega),qQU b _ (by omega) hk,qA,decide_eq_true hsd,Bool.true_and]
    cases rch (b.getD i 0) i k (tk b) with
    | true=>rfl
    | false=>rw[b_f,Bool.false_or];exact hr
   ·rw[qn hsd,decide_eq_false hsd,Bool.false_and,Bool.false_or]
    exact hr
theorem qd2 (f:Nat->Bool):(List.range' 0 81).any f = !isE f:=by
 unfold isE
 rw[qZD,Bool.eq_iff_iff]
 simp only[List.any_eq_true,Bool.not_eq_true']
 rw[List.all_eq_false]
 simp
theorem qRu (b h:List Int) (S:Int) {s:Int} (hs:s=0 \/ s=1):qHx b h S s=some (inC b s):=by
 unfold qHx
 rw[qSp,qA,qox b h S hs,qA]
 have hr:=qVc (pcs b (pc s 8))
 have hkg:kg b s=fst (pcs b (pc s 8)):=rfl
 by_cases hk:kg b s<0
 ·rw[qf hk]
  have:chs b s=fun _=>false:=by
   funext c
   unfold chs onS
   rw[decide_eq_false (by omega),Bool.false_and]
  unfold inC
  rw[this,qih]
  rfl
 ·obtain⟨k,hkk⟩:∃ k:Nat,kg b s=k:=⟨(kg b s).toNat,by omega⟩
  obtain⟨g,hg⟩:=qi 81 (by omega)
  have:=qot b h S s hs k (by omega) 81 0 (by omega) g
  rw[<- hg,qd2,<- hkk] at this
  rw[qY hk,show qFU qC s (kg b s) 0 b h S (qDQ b)=_ from this,qA]
  unfold inC chs
  cases isE (onS b (kg b s) (1 - s) (tk b))<;>rfl
theorem qmY {b h:List Int} (hl:b.length=81) (hf:qAe h) (s:Int):qLq b h s=some (qCp b h s):=by
 unfold qLq qCp
 rw[qba hl hf,qA]
 by_cases hz:qA1 b h s=0
 ·obtain⟨hc,hs⟩:=qIr hl hz
  rw[qt hz,if_neg (by simpa using hz),w_s (by omega) (by omega),qRu b h s (by omega),qA]
  cases inC b (1 - s)<;>rfl
 ·rw[qr hz,if_pos hz]
def ofL (L:List Int) (c:Nat):Bool:=L.any fun q=>only q c
theorem qkm (L:List Int) (hl:L.length<=1000) (N:Nat) (u v:Int):∀ (n i:Nat),i+n=L.length->∀ (f:Nat->Bool) (F:Nat),
  qFf (F+n+1) L.length L.length i N L u v (sLo f) (sHi f)=some (N,L,u,v,sLo fun c=>f c||ofL (L.drop i) c,sHi fun c=>f c||ofL (L.drop i) c):=by
 intro n
 induction n with
 | zero=>
   intro i hi f F
   show qII (qFf (F+0)) _ _ _ _ _ _ _ _ _=_
   unfold qII
   rw[qY (by omega),List.drop_eq_nil_of_le (by omega)]
   have:(fun c=>f c||ofL [] c)=f:=by funext c;simp[ofL]
   rw[this]
 | succ n ih=>
   intro i hi f F
   show qII (qFf (F+n+1)) _ _ _ _ _ _ _ _ _=_
   unfold qII
   have hil:i<L.length:=by omega
   have hget:L.getD i 0=L[i]:=qFm hil
   rw[qf (by omega),qa (by omega) (by omega),tn,hget,qGl,qA]
   simp only
   rw[w_s (by omega) (by omega)]
   refine (ih (i+1) (by omega) _ F).trans ?_
   have hd:L.drop i=L[i] :: L.drop (i+1):=List.drop_eq_getElem_cons hil
   have:(fun c=>(f c||only L[i] c)||ofL (L.drop (i+1)) c)=fun c=>f c||ofL (L.drop i) c:=by
    funext c
    rw[hd]
    unfold ofL
    rw[List.any_cons,Bool.or_assoc]
   rw[this]
theorem qkn (L:List Int) (hl:L.length<=1000) (N:Nat):qJh L.length N L=some (sLo (ofL L),sHi (ofL L)):=by
 obtain⟨g,hg⟩:=qi L.length (by omega)
 have:=qkm L hl N 0 0 L.length 0 (by omega) (fun _=>false) g
 rw[<- hg,qBy,qBx] at this
 unfold qJh
 rw[show qFf qC L.length (Int.ofNat L.length) 0 N L 0 0 0 0=_ from this,qA]
 simp only[Bool.false_or,List.drop_zero]
theorem qEX (f:Nat->Bool):(sq f).length<=81:=by
 unfold sq;rw[List.length_map];exact Nat.le_trans (List.length_filter_le _ _) (by simp)
end Go.Kk.Pl
namespace Go.Kk.Pl
theorem qGf {f:Nat->Bool} {q:Int} (h:q∈sq f):0<=q /\ q<81 /\ f q.toNat=true:=by
 unfold sq at h
 obtain⟨j,hj,rfl⟩:=List.mem_map.1 h
 obtain⟨h1,h2⟩:=List.mem_filter.1 hj
 rw[List.mem_range] at h1
 refine⟨by simp,by simp only[Int.ofNat_eq_natCast];omega,by simpa using h2⟩
theorem qYG {f:Nat->Bool} {q:Nat} (hq:q<81) (h:f q=true):(q:Int)∈sq f:=by
 unfold sq
 exact List.mem_map.2 ⟨q,List.mem_filter.2 ⟨by simpa using hq,h⟩,rfl⟩
end Go.Kk.Pl
namespace Go.Kk.Pl
theorem qdS (t:Nat->Bool) {c:Nat} (ht:t c=true) {i:Nat}:∀ (P Q:List Nat),(∀ s∈P,t s=false)->qAX t (P++c :: Q) i=(P.contains i||decide (i=c))
 | [],Q,_=>by
   show (decide (i=c)||(!t c&&qAX t Q i))=_
   rw[ht];simp
 | s :: P,Q,h=>by
   show (decide (i=s)||(!t s&&qAX t (P++c :: Q) i))=_
   rw[h s List.mem_cons_self,Bool.not_false,Bool.true_and,qdS t ht P Q (fun s hs=>h s (List.mem_cons_of_mem _ hs)),List.contains_cons,Bool.or_assoc]
   congr 1
theorem qlQ {dx dy:Int} {a c:Nat} (ha:a<81) (hc:c<81) (h:onW dx dy a c=true) (i:Nat):(qAX (only c) (qBI dx dy a) i && !only c i)=(btw a c).contains i:=by
 obtain⟨hl,rfl,rfl⟩:=of_decide_eq_true h
 have:=qKN ⟨a,ha⟩ ⟨c,hc⟩
 simp only[qIq,Bool.or_eq_true,decide_eq_true_eq,Bool.and_eq_true,beq_iff_eq,Bool.not_eq_true'] at this
 obtain⟨e1,e2,e3⟩:=this.resolve_left hl
 have hsp:qBI (sgn (df a c)) (sgn (dr a c)) a=btw a c++c :: (qBI (sgn (df a c)) (sgn (dr a c)) a).drop ((btw a c).length+1):=by
  have:=qML e2
  rw[e1] at this
  exact this
 have hn:c ∉ btw a c:=by simpa using e3
 rw[hsp,qdS (only c) (by unfold only;simp) _ _ (fun s hs=>by
  unfold only
  rw[decide_eq_false_iff_not]
  intro e
  have:s=c:=by omega
  exact hn (this ▸ hs))]
 unfold only
 by_cases hi:i=c
 ·subst hi
  rw[e3];simp
 ·rw[decide_eq_false hi,decide_eq_false (p:=(i:Int)=c) (by omega)];simp
theorem qlR {dx dy:Int} (h1:-1<=dx) (h2:dx<=1) (h3:-1<=dy) (h4:dy<=1) (hne:¬ (dx=0 /\ dy=0)) {a c:Nat} (ha:a<81) (hc:c<81):qAX (only c) (qBI dx dy a) c=onW dx dy a c:=by
 rw[qdU h1 h2 h3 h4 hne ha hc]
 cases h:onW dx dy a c with
 | false=>rfl
 | true=>
   rw[Bool.true_and,qHI]
   intro s hs
   unfold only
   rw[decide_eq_false_iff_not]
   intro e
   have hsc:s=c:=by omega
   obtain⟨hl,_,_⟩:=of_decide_eq_true h
   have:=qKN ⟨a,ha⟩ ⟨c,hc⟩
   simp only[qIq,Bool.or_eq_true,decide_eq_true_eq,Bool.and_eq_true,beq_iff_eq,Bool.not_eq_true'] at this
   have:=(this.resolve_left hl).2.2
   rw[<- hsc] at this
   have h2:(btw a s).contains s=true:=List.contains_iff_mem.mpr (hsc ▸ hs)
   rw[this] at h2
   cases h2
def qAu:List (List Int):=[[-1,-1],[1,-1],[-1,1],[1,1],[0,-1],[-1,0],[1,0],[0,1]]
theorem qdq {a c:Nat}:(qAu.any fun r=>onW (dx_ r) (dy_ r) a c)=decide (qAA a c≠0):=by
 unfold qAu onW dx_ dy_
 by_cases h:qAA a c=0
 ·simp[h]
 ·have hl:=(qK7 a c).mp h
  have hx:sgn (df a c) = -1 \/ sgn (df a c)=0 \/ sgn (df a c)=1:=by unfold sgn;split<;>(try split)<;>omega
  have hy:sgn (dr a c) = -1 \/ sgn (dr a c)=0 \/ sgn (dr a c)=1:=by unfold sgn;split<;>(try split)<;>omega
  have hn:¬ (sgn (df a c)=0 /\ sgn (dr a c)=0):=by
   unfold qEJ at hl
   unfold sgn
   split<;>split<;>(try split)<;>(try split)<;>omega
  rcases hx with hx | hx | hx<;>rcases hy with hy | hy | hy<;>simp[hx,hy,h] at hn ⊢
theorem qea {a c:Nat} (ha:a<81) (hc:c<81) (N:Nat):∀ (n i:Nat),i+n=8->∀ F,
  qFM (F+n+1) a c 8 8 i 0 0 N qAu=some (if (qAu.drop i).any (fun r=>onW (dx_ r) (dy_ r) a c) then .inl (sLo (fun i=>(btw a c).contains i),sHi (fun i=>(btw a c).contains i)) else .inr (0,0)):=by
 intro n
 induction n with
 | zero=>
   intro i hi F
   show qHp (qFM (F+0)) _ _ _ _ _ _ _ _ _=_
   unfold qHp
   rw[qY (by omega),List.drop_eq_nil_of_le (by show 8<=i;omega)]
   rfl
 | succ n ih=>
   intro i hi F
   show qHp (qFM (F+n+1)) _ _ _ _ _ _ _ _ _=_
   unfold qHp
   obtain⟨r,hget,hdr,e1,e2,g1,g2,g3,g4,g5⟩:∃ r,qAu.getD i []=r /\ qAu.drop i=r :: qAu.drop (i+1) /\ List.headD (List.take 2 r) 0=dx_ r /\ List.headD (List.tail (List.take 2 r)) 0=dy_ r /\ -1<=dx_ r /\ dx_ r<=1 /\ -1<=dy_ r /\ dy_ r<=1 /\ ¬ (dx_ r=0 /\ dy_ r=0):=by
    have:∀ j:Fin 8,qAu.drop j.val=qAu.getD j.val [] :: qAu.drop (j.val+1) /\ List.headD (List.take 2 (qAu.getD j.val [])) 0=dx_ (qAu.getD j.val []) /\ List.headD (List.tail (List.take 2 (qAu.getD j.val []))) 0=dy_ (qAu.getD j.val []) /\ -1<=dx_ (qAu.getD j.val []) /\ dx_ (qAu.getD j.val [])<=1 /\ -1<=dy_ (qAu.getD j.val []) /\ dy_ (qAu.getD j.val [])<=1 /\ ¬ (dx_ (qAu.getD j.val [])=0 /\ dy_ (qAu.getD j.val [])=0):=by decide
    exact⟨_,rfl,this ⟨i,by omega⟩⟩
   have ho:ofL [(c:Int)]=only c:=by
    funext j;unfold ofL;simp
   have hof:qJh 1 1 [(c:Int)]=some (sLo (only c),sHi (only c)):=by
    have:=qkn [(c:Int)] (by simp) 1
    rw[ho] at this
    exact this
   have hh:∀ g:Nat->Bool,has g (c:Int)=g c:=by
    intro g;unfold has;rw[decide_eq_true (by omega),decide_eq_true (by omega),tn];rfl
   rw[qf (by omega),qa (by omega) (by omega),tn,hget,e1,e2,hof,qA]
   simp only
   rw[qdZ g1 g2 g3 g4 g5 ha,qA]
   simp only
   rw[qEG,qA,hh,qlR g1 g2 g3 g4 g5 ha hc,hdr,List.any_cons]
   cases hon:onW (dx_ r) (dy_ r) a c with
   | true=>
     rw[b_t,qJy,qA,Bool.true_or,if_pos rfl]
     have:(fun i=>qAX (only c) (qBI (dx_ r) (dy_ r) a) i && !only c i)=fun i=>(btw a c).contains i:=by
      funext j;exact qlQ ha hc hon j
     rw[this]
   | false=>
     rw[b_f,Bool.false_or,w_s (n:=(i:Int)+1) (by omega) (by omega)]
     exact ih (i+1) (by omega) F
theorem qZG {a c:Nat} (ha:a<81) (hc:c<81):qJL a c=some (sLo (fun i=>(btw a c).contains i),sHi (fun i=>(btw a c).contains i)):=by
 unfold qJL
 rw[qQT,qA]
 simp only
 rw[qQT,qA]
 simp only
 obtain⟨g,hg⟩:=qi 8 (by omega)
 have:=qea ha hc ((qAW 6).length+(qAW 7).length) 8 0 (by omega) g
 rw[<- hg,List.drop_zero,qdq] at this
 have e8:(qAW 6).length+(qAW 7).length=8:=by decide
 have eL:List.append (List.take (qAW 6).length (qAW 6)) (List.take (qAW 7).length (qAW 7))=qAu:=by decide
 rw[eL,e8] at *
 rw[qJ (by decide),show qFM qC a c 8 (Int.ofNat 8) 0 0 0 8 qAu=_ from this,qA]
 by_cases h:qAA a c=0
 ·rw[decide_eq_false (p:=qAA a c≠0) (by simpa using h),if_neg (by simp),qAk]
  have:btw a c=[]:=by unfold btw;rw[if_pos h]
  rw[this]
  simp only[List.contains_nil]
  rw[qBy,qBx]
 ·rw[decide_eq_true (p:=qAA a c≠0) h,if_pos rfl,qSn]
end Go.Kk.Pl
namespace Go.Kk.Pl
theorem qRq (k:Int):qFP k=some (up_ k):=by
 unfold qFP up_
 by_cases h1:k >= 1
 ·rw[qCJ h1]
  by_cases h7:k<=7
  ·rw[qJ9 h7]
   by_cases h5:k=5
   ·rw[qt h5];simp[h5]
   ·rw[qr h5,w_s (by omega) (by omega),if_pos (by omega)]
  ·rw[qKA h7,if_neg (by omega)]
 ·rw[qBn h1,if_neg (by omega)]
def qAp (s q:Int):Int:=if 0<=q /\ q<81 then qCs s q.toNat else -1
theorem qRp {s:Int} (hs:s = -1 \/ s=0 \/ s=1) (q:Int):qDt s q=some (qAp s q):=by
 unfold qAp
 by_cases h:0<=q /\ q<81
 ·rw[if_pos h]
  have:=qbc hs (q:=q.toNat) (by omega)
  rwa [show ((q.toNat:Nat):Int)=q by omega] at this
 ·rw[if_neg h]
  unfold qDt
  by_cases h0:q<0
  ·rw[qf h0]
  ·rw[qY h0,qBe (by omega)]
theorem qqc {s:Int} (hs:s = -1 \/ s=0 \/ s=1) (q:Int):qGj s q=some (qAp s q):=by
 unfold qAp
 by_cases h:0<=q /\ q<81
 ·rw[if_pos h]
  have:=qcu hs (q:=q.toNat) (by omega)
  rwa [show ((q.toNat:Nat):Int)=q by omega] at this
 ·rw[if_neg h]
  unfold qGj
  by_cases h0:q<0
  ·rw[qf h0]
  ·rw[qY h0,qCJ (by omega)]
def qDf (x q:Int):Bool:=decide (((kd x=1 \/ kd x=2) /\ qAp (sd x) q=0) \/ (kd x=3 /\ (qAp (sd x) q=0 \/ qAp (sd x) q=1)))
theorem qNt (x:Int) {q:Nat} (hq:q<81):qDf x q=qBA x q:=by
 unfold qDf qBA qAp
 rw[if_pos (by omega),tn]
theorem qcr (x q:Int):qEY x q=some (qDf x q):=by
 unfold qEY
 rw[qDP,qA,qqc (qGY x),qA,qBt,qA]
 unfold qDf
 generalize kd x=k
 generalize qAp (sd x) q=n
 simp only[qIk,beq_iff_eq]
 repeat' split
 all_goals first
  | (rw[Option.some.injEq,Bool.eq_iff_iff];simp;omega)
  | (simp;omega)
theorem qbb (x q:Int):qDs x q=some (qDf x q):=by
 unfold qDs
 rw[qES,qA,qRp (qGY x),qA,qCB,qA]
 unfold qDf
 generalize kd x=k
 generalize qAp (sd x) q=n
 simp only[qIk,beq_iff_eq]
 repeat' split
 all_goals first
  | (rw[Option.some.injEq,Bool.eq_iff_iff];simp;omega)
  | (simp;omega)
def qIV (s:Int) (i:Nat):Bool:=decide (0<=qCs s i /\ qCs s i<=2)
theorem qS2:∀ s:Fin 3,qMO ((s.val:Int) - 1)=some (sLo (qIV ((s.val:Int) - 1)),sHi (qIV ((s.val:Int) - 1))):=by decide +kernel
theorem qrb (x:Int):qMO (sd x)=some (sLo (qIV (sd x)),sHi (qIV (sd x))):=by
 rcases qGY x with h | h | h<;>rw[h]
 ·exact qS2 0
 ·exact qS2 1
 ·exact qS2 2
def inZ (s q:Int):Bool:=decide (0<=qAp s q /\ qAp s q<=2)
theorem qWi (s q:Int):has (qIV s) q=inZ s q:=by
 unfold has inZ qAp qIV
 by_cases h:0<=q /\ q<81
 ·rw[if_pos h,decide_eq_true h.1,decide_eq_true h.2,Bool.true_and,Bool.true_and]
 ·rw[if_neg h]
  by_cases h0:0<=q
  ·rw[decide_eq_false (p:=q<81) (by omega)];simp
  ·rw[decide_eq_false h0];simp
def qCz (x f t:Int):Bool:=decide (up_ (kd x)≠0)&&(inZ (sd x) f||inZ (sd x) t)
def qDH (x t:Int):Bool:=decide (up_ (kd x)≠0)&&qDf x t
theorem qmI (x f t:Int):qKn x f t=some (qCz x f t,qDH x t):=by
 unfold qKn qCz qDH
 rw[qBt,qA,qJv,qA]
 by_cases hu:up_ (kd x)=0
 ·rw[qo hu,decide_eq_false (by simpa using hu)];rfl
 ·rw[qn hu,qDP,qA,qrb,qA]
  simp only
  rw[qEG,qA,qWi,decide_eq_true hu]
  cases inZ (sd x) f with
  | true=>rw[b_t,qcr,qA];rfl
  | false=>rw[b_f,qEG,qA,qWi,qcr,qA];rfl
theorem qom (x f t:Int):qLu x f t=some (qCz x f t):=by
 unfold qLu qCz
 rw[qCB,qA,qRq,qA]
 by_cases hu:up_ (kd x)=0
 ·rw[qo hu,decide_eq_false (by simpa using hu)];rfl
 ·rw[qn hu,qES,qA,qRp (qGY x),qA,qA,qRp (qGY x),qA,decide_eq_true hu,Bool.true_and]
  unfold inZ
  by_cases h1:qAp (sd x) f >= 0
  ·rw[qCJ h1]
   by_cases h2:qAp (sd x) f<=2
   ·rw[qJ9 h2,decide_eq_true (p:=0<=qAp (sd x) f /\ qAp (sd x) f<=2) (by omega)];rfl
   ·rw[qKA h2,decide_eq_false (p:=0<=qAp (sd x) f /\ qAp (sd x) f<=2) (by omega),Bool.false_or]
    by_cases h3:qAp (sd x) t >= 0
    ·rw[qCJ h3];congr 1;rw[decide_eq_decide];omega
    ·rw[qBn h3,decide_eq_false (by omega)]
  ·rw[qBn h1,decide_eq_false (p:=0<=qAp (sd x) f /\ qAp (sd x) f<=2) (by omega),Bool.false_or]
   by_cases h3:qAp (sd x) t >= 0
   ·rw[qCJ h3];congr 1;rw[decide_eq_decide];omega
   ·rw[qBn h3,decide_eq_false (by omega)]
theorem qon (x t:Int):qLv x t=some (qDH x t):=by
 unfold qLv qDH
 rw[qCB,qA,qRq,qA]
 by_cases hu:up_ (kd x)=0
 ·rw[qt hu,decide_eq_false (by simpa using hu)];rfl
 ·rw[qr hu,qbb,qA,decide_eq_true hu];rfl
def qCa (f t d:Int) (p:Bool):Int:=if ¬ (0<=t /\ t<81) then 1 else if d≠0 then (if 1<=d /\ d<=7 /\ f=0 /\ p=false then 0 else 70) else if ¬ (0<=f /\ f<81) then 1 else if f=t then 70 else 0
theorem qol (f t d:Int) (p:Bool):qLp f t d p=some (qCa f t d p):=by
 unfold qLp qCa
 by_cases h1:t<0
 ·rw[qf h1,if_pos (by omega)]
 rw[qY h1]
 by_cases h2:t>80
 ·rw[qBe h2,if_pos (by omega)]
 rw[qBf h2,if_neg (by omega)]
 by_cases hd:d=0
 ·rw[qt hd,if_neg (by simpa using hd)]
  by_cases h3:f<0
  ·rw[qf h3,if_pos (by omega)]
  rw[qY h3]
  by_cases h4:f>80
  ·rw[qBe h4,if_pos (by omega)]
  rw[qBf h4,if_neg (by omega)]
  by_cases h5:f=t
  ·rw[qo h5,if_pos h5]
  ·rw[qn h5,if_neg h5]
 ·rw[qr hd,if_pos hd]
  by_cases h3:d<1
  ·rw[qf h3,if_neg (by omega)]
  rw[qY h3]
  by_cases h4:d>7
  ·rw[qBe h4,if_neg (by omega)]
  rw[qBf h4]
  by_cases h5:f=0
  ·rw[qt h5]
   cases p with
   | true=>rw[b_t,if_neg (by simp)]
   | false=>rw[b_f,if_pos ⟨by omega,by omega,h5,rfl⟩]
  ·rw[qr h5,if_neg (by omega)]
def qCK (b h:List Int) (s f t d:Int) (p:Bool):Bool:=decide (qCa f t d p=0)&&(decide (s=0 \/ s=1) &&
 if d≠0 then decide (0<hd_ h s d)&&decide (at_ b t=0)
 else decide (sd (at_ b f)=s /\ sd (at_ b t)≠s /\ kd (at_ b t)≠8)&&(!p||decide (up_ (kd (at_ b f))≠0)))
theorem qKO {f t d:Int} {p:Bool} (h:qCa f t d p=0):(0<=t /\ t<81) /\ (d≠0->1<=d /\ d<=7 /\ f=0 /\ p=false) /\ (d=0->(0<=f /\ f<81) /\ f≠t):=by
 unfold qCa at h
 split at h
 ·omega
 ·rename_i ht
  split at h
  ·rename_i hd
   split at h
   ·rename_i h2;exact⟨by omega,fun _=>h2,fun h3=>absurd h3 hd⟩
   ·omega
  ·rename_i hd
   split at h
   ·omega
   ·split at h
    ·omega
    ·exact⟨by omega,fun h3=>absurd h3 hd,fun _=>⟨by omega,by omega⟩⟩
theorem qAh {b:List Int} {q:Int} (h:0<=q /\ q<81):at_ b q=b.getD q.toNat 0:=by unfold at_;rw[if_pos h]
theorem qog (b h:List Int) (s f t d:Int) (p:Bool):qLt b h s f t d p=some (qCK b h s f t d p):=by
 unfold qLt qCK
 rw[qol,qA]
 by_cases hm:qCa f t d p=0
 ·obtain ⟨ht,hdr,hmv⟩:=qKO hm
  rw[qt hm,decide_eq_true hm,Bool.true_and]
  have main:(s=0 \/ s=1)->(br (inB t 81)
   (br (d != 0)
    (br (inB s 2)
     (br (inB d 8)
      (br (decide (List.getD h (Int.toNat s*8+Int.toNat d) 0>0))
       (some (conv IntKind.i8 IntKind.i64 (List.getD b (Int.toNat t) 0)==0))
       (some (false)))
      (none))
     (none))
    (br (inB f 81)
     (ob (qBU (conv IntKind.i8 IntKind.i64 (List.getD b (Int.toNat f) 0))) fun a8=>
     br (a8 != s)
      (some (false))
      (ob (qBU (conv IntKind.i8 IntKind.i64 (List.getD b (Int.toNat t) 0))) fun a9=>
      br (a9==s)
       (some (false))
       (ob (qAb (conv IntKind.i8 IntKind.i64 (List.getD b (Int.toNat t) 0))) fun a10=>
       br (a10==8)
        (some (false))
        (br (!p)
         (some (true))
         (ob (qAb (conv IntKind.i8 IntKind.i64 (List.getD b (Int.toNat f) 0))) fun a11=>
         ob (qFP a11) fun a12=>
         some (a12 != 0))))))
     (none)))
   (none):Option Bool)=some (if d≠0 then decide (0<hd_ h s d)&&decide (at_ b t=0)
    else decide (sd (at_ b f)=s /\ sd (at_ b t)≠s /\ kd (at_ b t)≠8)&&(!p||decide (up_ (kd (at_ b f))≠0))):=by
   intro hs
   rw[qa ht.1 (by omega)]
   by_cases hd:d=0
   ·obtain⟨hf,_⟩:=hmv hd
    rw[qt hd,if_neg (by simpa using hd),qa hf.1 (by omega),c_8,c_8,qES,qA,<- qAh hf,<- qAh ht]
    by_cases h1:sd (at_ b f)=s
    ·rw[qt h1,qES,qA]
     by_cases h2:sd (at_ b t)=s
     ·rw[qo h2,decide_eq_false (by omega)];rfl
     ·rw [qn h2,qCB,qA]
      by_cases h3:kd (at_ b t)=8
      ·rw[qo h3,decide_eq_false (by omega)];rfl
      ·rw[qn h3,decide_eq_true (by omega),Bool.true_and]
       cases p with
       | false=>rfl
       | true=>
         rw[Bool.not_true,b_f,qCB,qA,qRq,qA,Bool.false_or]
         congr 1
         rw[Bool.eq_iff_iff];simp
    ·rw[qr h1,decide_eq_false (by omega)];rfl
   ·obtain⟨d1,d7,_,_⟩:=hdr hd
    rw[qr hd,if_pos hd,qa (by omega) (by omega),qa (by omega) (by omega),c_8,<- qAh ht]
    show br (decide (hd_ h s d>0)) _ _=_
    by_cases h1:hd_ h s d>0
    ·rw[qBe h1,decide_eq_true (p:=0<hd_ h s d) h1,Bool.true_and]
     congr 1
    ·rw[qBf h1,decide_eq_false (p:=0<hd_ h s d) h1,Bool.false_and]
  by_cases h0:s=0
  ·rw[qt h0,decide_eq_true (p:=s=0 \/ s=1) (.inl h0),Bool.true_and];exact main (.inl h0)
  ·rw[qr h0]
   by_cases h1:s=1
   ·rw[qt h1,decide_eq_true (p:=s=0 \/ s=1) (.inr h1),Bool.true_and];exact main (.inr h1)
   ·rw[qr h1,decide_eq_false (p:=s=0 \/ s=1) (by omega),Bool.false_and]
 ·rw[qr hm,decide_eq_false hm,Bool.false_and]
def qAJ (b h:List Int) (s f t d:Int) (p:Bool):Bool:=qCK b h s f t d p &&
 if d≠0 then !qDf (16*s+d) t&&(decide (d≠1)||decide (nF b (16*s+d) (t.toNat / 9)=0))
 else rch (at_ b f) f.toNat t.toNat (tk b)&&if p=true then qCz (at_ b f) f t else !qDH (at_ b f) t
theorem qLy (b h:List Int) (s f t d:Int) (p:Bool):qGS b h s f t d p=some (qAJ b h s f t d p):=by
 unfold qGS qAJ
 rw[qog,qA]
 cases hcan:qCK b h s f t d p with
 | false=>rfl
 | true=>
   rw[Bool.not_true,b_f,Bool.true_and]
   unfold qCK at hcan
   simp only[Bool.and_eq_true,decide_eq_true_eq] at hcan
   obtain⟨hm,hs,_⟩:=hcan
   obtain⟨ht,hdr,hmv⟩:=qKO hm
   by_cases hd:d=0
   ·obtain⟨hf,_⟩:=hmv hd
    rw[qt hd,if_neg (by simpa using hd),qa hf.1 (by omega),c_8,qSp,qA,<- qAh hf]
    have:=qQU b (at_ b f) (a:=f.toNat) (c:=t.toNat) (by omega) (by omega)
    rw[show ((f.toNat:Nat):Int)=f by omega,show ((t.toNat:Nat):Int)=t by omega] at this
    rw[this,qA]
    cases rch (at_ b f) f.toNat t.toNat (tk b) with
    | false=>rfl
    | true=>
      rw[Bool.not_true,b_f,Bool.true_and]
      cases p with
      | true=>rw[b_t,qom,qA,if_pos rfl]
      | false=>rw[b_f,qon,qA,if_neg (by simp)]
   ·obtain⟨d1,d7,_,_⟩:=hdr hd
    rw[qr hd,if_pos hd,w_s (n:=16*s) (by omega) (by omega),w_s (n:=16*s+d) (by omega) (by omega),qbb,qA]
    cases qDf (16*s+d) t with
    | true=>rfl
    | false=>
      rw[Bool.not_false,b_t,Bool.true_and]
      by_cases h1:d=1
      ·have htd:Int.tdiv t 9=((t.toNat / 9:Nat):Int):=by rw[Int.tdiv_eq_ediv_of_nonneg ht.1];omega
       rw[qt h1,htd,w_s (n:=((t.toNat / 9:Nat):Int)) (by omega) (by omega),qLP b h s (16*s+d) (t.toNat / 9) (by omega),qA,decide_eq_false (p:=d≠1) (by simpa using h1),Bool.false_or]
       congr 1
       rw[Bool.eq_iff_iff];simp
      ·rw[qr h1,decide_eq_true (p:=d≠1) h1,Bool.true_or]
theorem qJ4:qID=some (sLo fun _=>true,sHi fun _=>true):=by decide +kernel
theorem qke (f:Nat->Bool):qMB (sLo f) (sHi f)=some (sLo fun i=>!f i,sHi fun i=>!f i):=by
 unfold qMB
 rw[qJ4,qA]
 simp only
 rw[qLC,qA]
 simp only[Bool.true_and]
def qBF (b:List Int) (s k:Int) (i:Nat):Bool:=!qBA (pc s k) i&&(decide (k≠1)||decide (nF b (pc s 1) (i / 9)=0))
theorem qNp (f:Nat->Bool):isE f=decide (qA2 f=0):=by
 unfold isE qA2
 rw[Bool.eq_iff_iff,decide_eq_true_eq,List.countP_eq_zero,List.all_eq_true]
 simp
theorem qhT {b:List Int} (h:List Int) (S:Int) (sd':List (List Int)) {s k:Int} (hs:s=0 \/ s=1) (L:List Int) (hL:∀ q∈L,0<=q /\ q<81) (hl:L.length<=1000) (N:Nat) (u v:Int):∀ (n i:Nat),i+n=L.length->∀ (f:Nat->Bool) (F:Nat),
  qDi (F+n+1) s k (pc s k) L.length L.length i b h S (qO b) sd' u v (sLo f) (sHi f) N L=some (b,h,S,qO b,sd',u,v,sLo fun c=>f c||((L.drop i).any fun q=>decide ((c:Int)=q)&&qBF b s k c),sHi fun c=>f c||((L.drop i).any fun q=>decide ((c:Int)=q)&&qBF b s k c)):=by
 intro n
 induction n with
 | zero=>
   intro i hi f F
   show qHO (qDi (F+0)) _ _ _ _ _ _ _ _ _ _ _ _ _ _ _ _ _=_
   unfold qHO
   rw[qY (by omega),List.drop_eq_nil_of_le (by omega)]
   simp
 | succ n ih=>
   intro i hi f F
   show qHO (qDi (F+n+1)) _ _ _ _ _ _ _ _ _ _ _ _ _ _ _ _ _=_
   unfold qHO
   have hil:i<L.length:=by omega
   obtain⟨q0,q1⟩:=hL L[i] (List.getElem_mem hil)
   have hget:L.getD i 0=L[i]:=qFm hil
   obtain⟨q,hq⟩:∃ q:Nat,L[i]=q:=⟨L[i].toNat,by omega⟩
   have hd:L.drop i=L[i] :: L.drop (i+1):=List.drop_eq_getElem_cons hil
   rw[qf (by omega),qa (by omega) (by omega),tn,hget,hq,qcs _ (by omega),qA,w_s (n:=(i:Int)+1) (by omega) (by omega)]
   have skip:qBF b s k q=false->qDi (F+n+1) s k (pc s k) L.length L.length ((i:Int)+1) b h S (qO b) sd' u v (sLo f) (sHi f) N L =
     some (b,h,S,qO b,sd',u,v,sLo fun c=>f c||((L.drop i).any fun q=>decide ((c:Int)=q)&&qBF b s k c),sHi fun c=>f c||((L.drop i).any fun q=>decide ((c:Int)=q)&&qBF b s k c)):=by
    intro hf
    refine (ih (i+1) (by omega) f F).trans ?_
    have:(fun c=>f c||((L.drop (i+1)).any fun q=>decide ((c:Int)=q)&&qBF b s k c))=fun c=>f c||((L.drop i).any fun q=>decide ((c:Int)=q)&&qBF b s k c):=by
     funext c
     rw[hd,List.any_cons,hq]
     by_cases hcq:(c:Int)=q
     ·have:c=q:=by omega
      subst this
      rw[hf];simp
     ·rw[decide_eq_false hcq];simp
    rw[this]
   have take:qBF b s k q=true->(ob (qBb (sLo f) (sHi f) q) fun z=>qDi (F+n+1) s k (pc s k) L.length L.length ((i:Int)+1) b h S (qO b) sd' u v z.1 z.2 N L) =
     some (b,h,S,qO b,sd',u,v,sLo fun c=>f c||((L.drop i).any fun q=>decide ((c:Int)=q)&&qBF b s k c),sHi fun c=>f c||((L.drop i).any fun q=>decide ((c:Int)=q)&&qBF b s k c)):=by
    intro hf
    rw[qGl,qA]
    simp only
    refine (ih (i+1) (by omega) _ F).trans ?_
    have:(fun c=>(f c||only q c)||((L.drop (i+1)).any fun q=>decide ((c:Int)=q)&&qBF b s k c))=fun c=>f c||((L.drop i).any fun q=>decide ((c:Int)=q)&&qBF b s k c):=by
     funext c
     rw[hd,List.any_cons,hq,Bool.or_assoc]
     congr 2
     unfold only
     by_cases hcq:(c:Int)=q
     ·have:c=q:=by omega
      subst this
      rw[hf];simp
     ·rw[decide_eq_false hcq];simp
    rw[this]
   cases hdead:qBA (pc s k) q with
   | true=>rw[b_t];exact skip (by unfold qBF;rw[hdead];rfl)
   | false=>
     rw[b_f]
     by_cases hk:k=1
     ·rw[qo hk,qGE,qA]
      simp only
      unfold qJf
      rw[qIS,w_s (by unfold fl;omega) (by unfold fl;omega),qA,show fl q=((q / 9:Nat):Int) from rfl,qWq (by omega),qA]
      simp only
      rw[qEi,qA]
      simp only
      rw[qIx,qA,qNp,qUm b (by rw[qA4 hs (by omega) (by omega) (by omega)];omega) (by omega)]
      by_cases hn:nF b (pc s 1) (q / 9)=0
      ·rw[decide_eq_true hn,Bool.not_true,b_f]
       exact take (by unfold qBF;rw[hdead,decide_eq_true hn];simp)
      ·rw[decide_eq_false hn,Bool.not_false,b_t]
       exact skip (by unfold qBF;rw[hdead,decide_eq_false hn,decide_eq_false (p:=k≠1) (by simpa using hk)];rfl)
     ·rw[qn hk]
      exact take (by unfold qBF;rw[hdead,decide_eq_true (p:=k≠1) hk];rfl)
def qA3 (b:List Int) (s k:Int) (i:Nat):Bool:=decide ((s=0 \/ s=1) /\ 1<=k /\ k<=7)&&(!tk b i&&qBF b s k i)
theorem qhP {b:List Int} (hc:Clean b) (h:List Int) (S s k:Int):qKm s k b h S (qO b) (qR b)=some (sLo (qA3 b s k),sHi (qA3 b s k)):=by
 have none:¬ ((s=0 \/ s=1) /\ 1<=k /\ k<=7)->qA3 b s k=fun _=>false:=by
  intro hn;funext c;unfold qA3;rw[decide_eq_false hn,Bool.false_and]
 unfold qKm
 rw[qLK,qA]
 by_cases hz:pc s k=0
 ·have:¬ ((s=0 \/ s=1) /\ 1<=k /\ k<=7):=by
   rintro ⟨hs,h1,h7⟩
   rw[qA4 hs h1 (by omega) (by omega)] at hz
   omega
  rw[qo hz,none this,qBy,qBx]
 ·rw [qn hz]
  have hv:(s=0 \/ s=1) /\ 1<=k /\ k<=15 /\ k≠13:=by
   unfold pc at hz
   split at hz
   ·rename_i h;exact h
   ·exact absurd rfl hz
  by_cases h8:k >= 8
  ·rw[qCJ h8,none (by omega),qBy,qBx]
  ·rw[qBn h8,qJq hc,qA]
   simp only
   rw[qke,qA]
   simp only
   rw[qJm,qA]
   simp only
   have hlen:=qEX fun i=>!tk b i
   obtain⟨g,hg⟩:=qi (sq fun i=>!tk b i).length (by omega)
   have:=qhT (b:=b) h S (qR b) (k:=k) hv.1 (sq fun i=>!tk b i) (fun q hq=>⟨(qGf hq).1,(qGf hq).2.1⟩) (by omega) (sq fun i=>!tk b i).length 0 0 (sq fun i=>!tk b i).length 0 (by omega) (fun _=>false) g
   rw[<- hg,qBy,qBx] at this
   rw[show qDi qC s k (pc s k) (sq fun i=>!tk b i).length (Int.ofNat (sq fun i=>!tk b i).length) 0 b h S (qO b) (qR b) 0 0 0 0 (sq fun i=>!tk b i).length (sq fun i=>!tk b i)=_ from this,qA]
   simp only[Bool.false_or,List.drop_zero]
   obtain⟨e1,e2⟩:=qCD (f:=fun c=>(sq fun i=>!tk b i).any fun q=>decide ((c:Int)=q)&&qBF b s k c) (g:=qA3 b s k) fun c hcc=>by
    unfold qA3
    rw[decide_eq_true (p:=(s=0 \/ s=1) /\ 1<=k /\ k<=7) ⟨hv.1,hv.2.1,by omega⟩,Bool.true_and,Bool.eq_iff_iff,List.any_eq_true,Bool.and_eq_true]
    constructor
    ·rintro ⟨q,hq,hh⟩
     rw[Bool.and_eq_true,decide_eq_true_eq] at hh
     have:=(qGf hq).2.2
     rw[<- hh.1,tn] at this
     exact⟨this,hh.2⟩
    ·rintro ⟨h1,h2⟩
     exact⟨c,qYG hcc h1,by rw[h2];simp⟩
   rw[e1,e2]
end Go.Kk.Pl
namespace Go.Kk.Pl
end Go.Kk.Pl
