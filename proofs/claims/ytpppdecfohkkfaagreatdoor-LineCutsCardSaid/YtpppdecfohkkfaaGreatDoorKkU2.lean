/- What the program's functions come to, told plainly: the texts of this project that this claim leans on, cut down to what is used. -/
import Derived.Test.YtpppdecfohkkfaaGreatDoorKkU1
namespace Go.Kk.Pl
theorem qeT {s:Int} (hs:s = -1 \/ s=0 \/ s=1) {q:Nat} (hq:q<81):qFw s q=some (qCr s q):=by
 unfold qFw qFs qCr
 rcases hs with rfl | rfl | rfl
 ·simp (disch:=omega) only[qW,qBc,qk]
  simp
 ·simp (disch:=omega) only[qW,qBc,ql,qJ8,qA]
  simp
 ·simp (disch:=omega) only[qW,qBc,qk,ql,qJ8,qA,w_s]
  simp
theorem qeR (x:Int) {q:Nat} (hq:q<81):qEC x q=some (qA1 x q):=by
 unfold qEC
 rw[qDM,qA,qeT (qGh x) hq,qA,qBW,qA]
 unfold qA1
 generalize kd x=k
 generalize qCr (sd x) q=n
 simp only[qI0,beq_iff_eq]
 repeat' split
 all_goals first
  | (rw[Option.some.injEq,Bool.eq_iff_iff];simp;omega)
  | (simp;omega)
def pc (s k:Int):Int:=if (s=0 \/ s=1) /\ 1<=k /\ k<=15 /\ k≠13 then 16*s+k else 0
theorem qAw {s k:Int} (hs:s=0 \/ s=1) (h1:1<=k) (h2:k<=15) (h3:k≠13):pc s k=16*s+k:=by unfold pc;rw[if_pos ⟨hs,h1,h2,h3⟩]
theorem qQV {s k:Int} (h:¬ ((s=0 \/ s=1) /\ 1<=k /\ k<=15 /\ k≠13)):pc s k=0:=by unfold pc;rw[if_neg h]
theorem qoI (s k:Int):0<=pc s k /\ pc s k<32:=by unfold pc;split<;>omega
theorem qLh (s k:Int):qAi s k=some (pc s k):=by
 by_cases hs:s=0 \/ s=1
 ·by_cases h:1<=k /\ k<=15 /\ k≠13
  ·rw[qLi hs h.1 h.2.1 h.2.2,qAw hs h.1 h.2.1 h.2.2]
  ·rw[qQV (by omega)]
   unfold qAi
   simp only[qI0,bne_iff_ne,ne_eq,beq_iff_eq,decide_eq_true_eq]
   repeat' split
   all_goals first | rfl | omega
 ·rw[qQV (by omega)]
  unfold qAi
  simp (disch:=omega) only[qp]
theorem qoJ (b:List Int):pcs b 0=fun _=>false:=by funext i;unfold pcs;simp
theorem qGS (b h:List Int) (S s k:Int) (sd':List (List Int)):qC8 s k b h S (qP b) sd'=some (sLo (pcs b (pc s k)),sHi (pcs b (pc s k))):=by
 unfold qC8
 obtain⟨h0,h1⟩:=qoI s k
 rw[qLh,qA]
 by_cases hz:pc s k=0
 ·rw[ql hz,hz,qoJ,qBn,qBm]
 ·rw[qk hz,qc h0 (by omega),qOJ b h0 h1]
  rfl
def inF (f:Nat) (i:Nat):Bool:=decide (i / 9=f)
theorem qkk:∀ f:Fin 9,qIW ((f.val:Nat):Int)=some (sLo (inF f.val),sHi (inF f.val)):=by decide +kernel
theorem qW0 {f:Nat} (h:f<9):qIW f=some (sLo (inF f),sHi (inF f)):=qkk ⟨f,h⟩
theorem qjm:∀ f:Fin 9,(List.range 81).filter (fun i=>decide (i / 9=f.val))=(List.range 9).map (9*f.val+·):=by decide +kernel
theorem qVb (b:List Int) {x:Int} (hx:x≠0) {f:Nat} (hf:f<9):qAu (fun i=>pcs b x i&&inF f i)=nF b x f:=by
 unfold qAu nF inF
 have:(List.range 81).countP (fun i=>pcs b x i&&decide (i / 9=f))=((List.range 81).filter (fun i=>decide (i / 9=f))).countP (pcs b x):=by
  rw[List.countP_filter]
 rw[this,qjm ⟨f,hf⟩,List.countP_map]
 apply List.countP_congr
 intro r _
 show pcs b x (9*f+r)=true↔_
 unfold pcs
 simp[hx]
theorem qjn (b h:List Int) (S:Int) (sd':List (List Int)) (q:Nat) (hq:q<9) (X:Int):∀ f,qE3 (f+2+1) q X 0 b h S (qP b) sd'=some (if qBK b q then .inl (53,X,b,h,S,qP b,sd') else .inr (X,b,h,S,qP b,sd')):=by
 intro f
 have step:∀ (s:Int) (hs:s=0 \/ s=1) rec,qE4 rec q X s b h S (qP b) sd'=if 1<nF b (16*s+1) q then some (.inl (53,X,b,h,S,qP b,sd')) else rec q X (s+1) b h S (qP b) sd':=by
  intro s hs rec
  unfold qE4
  rw[qe (by omega),qGS,qA]
  simp only
  rw[qW0 hq,qA]
  simp only
  rw[qEu,qA]
  simp only
  rw[qOV,qA,qAw hs (by omega) (by omega) (by omega),qVb b (by omega) hq,w_s (by omega) (by omega)]
  split
  ·rw[qBS (by omega)]
  ·rw[qBT (by omega)]
 show qE4 (qE3 (f+2)) _ _ _ _ _ _ _ _=_
 rw[step 0 (.inl rfl)]
 unfold qBK
 split
 ·rename_i h1
  rw[show (decide (1<nF b 1 q)||decide (1<nF b 17 q))=true by simp at h1;simp[h1]]
  rfl
 ·rename_i h1
  show qE4 (qE3 (f+1)) _ _ _ _ _ _ _ _=_
  rw[show (0:Int)+1=1 from rfl,step 1 (.inr rfl)]
  split
  ·rename_i h2
   rw[show (decide (1<nF b 1 q)||decide (1<nF b 17 q))=true by simp at h2;simp[h2]]
   rfl
  ·rename_i h2
   rw[show (decide (1<nF b 1 q)||decide (1<nF b 17 q))=false by simp at h1 h2;simp;omega]
   show qE4 (qE3 f) _ _ _ _ _ _ _ _=_
   unfold qE4
   rw[qW (by omega)]
   rfl
theorem qjp (b h:List Int) (S:Int) (sd':List (List Int)):∀ (n i:Nat),i+n=9->∀ f,qE6 (f+n+1) i b h S (qP b) sd'=some (if (List.range' i n).any (qBK b) then .inl 53 else .inr ()):=by
 intro n
 induction n with
 | zero=>
   intro i hi f
   show qHE (qE6 (f+0)) _ _ _ _ _ _=_
   unfold qHE
   rw[qW (by omega)]
   rfl
 | succ n ih=>
   intro i hi f
   show qHE (qE6 (f+n+1)) _ _ _ _ _ _=_
   unfold qHE
   obtain⟨g,hg⟩:=qh 2 (by omega)
   have h12:=qjn b h S sd' i (by omega) i g
   rw[<- hg] at h12
   rw[qe (by omega),h12,qA,any_cons]
   have:=ih (i+1) (by omega) f
   cases hb:qBK b i with
   | true=>rfl
   | false=>
     rw[Bool.false_or,if_neg (by decide),qAz]
     simp only
     rw[w_s (by omega) (by omega)]
     exact this
theorem qjo (b h:List Int) (s:Int) (b':List Int):∀ (n i:Nat),i+n=81->∀ f,qE5 (f+n+1) b i b' h s=some (if (List.range' i n).any (fun i=>qA1 (b.getD i 0) i) then .inl (52,b',h,s) else .inr (b',h,s)):=by
 intro n
 induction n with
 | zero=>
   intro i hi f
   show qHD (qE5 (f+0)) _ _ _ _ _=_
   unfold qHD
   rw[qW (by omega)]
   rfl
 | succ n ih=>
   intro i hi f
   show qHD (qE5 (f+n+1)) _ _ _ _ _=_
   unfold qHD
   have:=ih (i+1) (by omega) f
   rw[qe (by omega),qc (by omega) (by omega),cond_true,tn,qeR _ (by omega),qA,any_cons,w_s (by omega) (by omega)]
   cases hb:qA1 (b.getD i 0) i with
   | true=>rfl
   | false=>
     rw[b_f,Bool.false_or]
     exact this
theorem qjq {b:List Int} (hc:Clean b) (h:List Int) (s:Int):qGB b h s=some (if (List.range' 0 81).any (fun i=>qA1 (b.getD i 0) i) then 52 else if (List.range' 0 9).any (qBK b) then 53 else 0):=by
 obtain⟨g81,hg81⟩:=qh 81 (by omega)
 obtain⟨g9,hg9⟩:=qh 9 (by omega)
 have c2:=qjo b h s b 81 0 (by omega) g81
 rw[<- hg81] at c2
 have c9:=qjp b h s (qS b) 9 0 (by omega) g9
 rw[<- hg9] at c9
 unfold qGB
 rw[show qE5 qB b 0 b h s=_ from c2,qA]
 split
 ·rfl
 rw[qAz]
 simp only
 rw[qQI hc.len,qOQ hc,qA]
 simp only
 rw[show qE6 qB 0 b h s (qP b) (qS b)=_ from c9,qA]
 split
 ·rfl
 ·rfl
def rk (x:Int):Int:=rw_ (kd x)
theorem qrh {x:Int} (h:kd x=0):rk x=0:=by unfold rk;rw[h];decide
theorem qrg {x:Int} (h:kd x≠0):1<=rk x /\ rk x<=8:=by
 obtain⟨k1,k2,k3⟩:=qBx x
 unfold rk rw_
 rw[if_neg (by omega)]
 split<;>omega
def cT (b:List Int) (i:Nat) (k:Nat):Nat:=(List.range i).countP fun j=>decide (1<=k)&&rk (b.getD j 0)==k
def kT (b:List Int) (i:Nat) (x:Int):Nat:=(List.range i).countP fun j=>b.getD j 0==x
theorem qVH (b:List Int) (i k:Nat):cT b i k<=i:=Nat.le_trans List.countP_le_length (by simp)
theorem qW7 (b:List Int) (i:Nat) (x:Int):kT b i x<=i:=Nat.le_trans List.countP_le_length (by simp)
theorem qVI (b:List Int) (i k:Nat):cT b (i+1) k=cT b i k+if 1<=k /\ rk (b.getD i 0)=k then 1 else 0:=by
 unfold cT
 rw[List.range_succ,List.countP_append]
 by_cases h:1<=k /\ rk (b.getD i 0)=k
 ·simp[h]
 ·rw[if_neg h]
  have:(decide (1<=k)&&rk (b.getD i 0)==(k:Int))=false:=by
   rw[Bool.and_eq_false_iff]
   by_cases h1:1<=k
   ·right;simpa using fun h2=>h ⟨h1,h2⟩
   ·left;simpa using h1
  simp only[List.countP_cons,List.countP_nil,this]
  rfl
theorem qFI (b:List Int) (i:Nat) (x:Int):kT b (i+1) x=kT b i x+if b.getD i 0=x then 1 else 0:=by
 unfold kT
 rw[List.range_succ,List.countP_append]
 by_cases h:b.getD i 0=x
 ·simp
 ·rw[if_neg h]
  have:(b.getD i 0==x)=false:=by simpa using h
  simp only[List.countP_cons,List.countP_nil,this]
  rfl
def cL (b:List Int) (i:Nat):List Int:=(List.range 9).map fun k=>((cT b i k:Nat):Int)
def kL (b:List Int) (i:Nat):List Int:=[((kT b i 8:Nat):Int),((kT b i 24:Nat):Int)]
theorem qlR {x:Int} (h:kd x=8):x=8 \/ x=24:=by
 unfold kd at h
 split at h
 ·cases h
 ·omega
theorem qis (b h:List Int) (s:Int) (b':List Int):∀ (n i:Nat),i+n=81->∃ c k,∀ f,qCS (f+n+1) b i b' h s (cL b i) (kL b i) =
  some (if (List.range' i n).any (bsP b) then .inl (55,b',h,s,c,k) else .inr (b',h,s,cL b 81,kL b 81)):=by
 intro n
 induction n with
 | zero=>
   intro i hi
   refine⟨[],[],fun f=>?_⟩
   show qE1 (qCS (f+0)) _ _ _ _ _ _ _=_
   unfold qE1
   rw[qW (by omega),show i=81 by omega]
   rfl
 | succ n ih=>
   intro i hi
   obtain⟨c,k,hr⟩:=ih (i+1) (by omega)
   by_cases hbad:bsP b i=true
   ·refine⟨cL b i,kL b i,fun f=>?_⟩
    show qE1 (qCS (f+n+1)) _ _ _ _ _ _ _=_
    unfold qE1
    have hb:=hbad
    unfold bsP at hb
    rw[decide_eq_true_eq] at hb
    rw[qe (by omega),qc (by omega) (by omega),cond_true,tn,qBW,qA,qk hb.1,ql hb.2,any_cons,hbad]
    rfl
   ·refine⟨c,k,fun f=>?_⟩
    show qE1 (qCS (f+n+1)) _ _ _ _ _ _ _=_
    unfold qE1
    have hb:bsP b i=false:=by simpa using hbad
    rw[any_cons,hb,Bool.false_or,<- hr f]
    unfold bsP at hb
    rw[decide_eq_false_iff_not] at hb
    rw[qe (by omega),qc (by omega) (by omega),cond_true,tn,qBW,qA,w_s (by omega) (by omega)]
    by_cases hz:b.getD i 0=0
    ·have e1:cL b (i+1)=cL b i:=by
      unfold cL
      apply List.map_congr_left
      intro k _
      rw[qVI,hz,qrh (by decide),if_neg (by omega)]
      rfl
     have e2:kL b (i+1)=kL b i:=by
      unfold kL
      rw[qFI,qFI,hz,if_neg (by omega),if_neg (by omega)]
      rfl
     rw[ql hz,e1,e2]
     rfl
    ·have hk:kd (b.getD i 0)≠0:=by omega
     obtain⟨r1,r2⟩:=qrg hk
     obtain⟨k1,k2,k3⟩:=qBx (b.getD i 0)
     have hraw:qCz (kd (b.getD i 0))=some (rk (b.getD i 0)):=qQe k1 k2
     have e1:List.set (cL b i) (rk (b.getD i 0)).toNat (IntKind.wrap .i64 (List.getD (cL b i) (rk (b.getD i 0)).toNat 0+1))=cL b (i+1):=by
      unfold cL
      have hle:=qVH b i (rk (b.getD i 0)).toNat
      rw[qHr _ (by omega),map_set,w_s (by omega) (by omega)]
      apply List.map_congr_left
      intro k hk
      simp only[List.mem_range] at hk
      rw[qVI]
      by_cases hkr:k=(rk (b.getD i 0)).toNat
      ·rw[if_pos hkr,if_pos (by omega),hkr];rfl
      ·rw[if_neg hkr,if_neg (by omega)];rfl
     rw[qk hz,qk hk]
     by_cases h8:kd (b.getD i 0)=8
     ·have hle1:=qW7 b i 8
      have hle2:=qW7 b i 24
      rcases qlR h8 with hx | hx
      ·have hs:sd (b.getD i 0)=0:=by rw[hx];decide
       have e2:List.set (kL b i) 0 (IntKind.wrap .i64 (List.getD (kL b i) 0 0+1))=kL b (i+1):=by
        unfold kL
        rw[qFI,qFI,hx,if_pos rfl,if_neg (by omega)]
        show [IntKind.wrap .i64 (((kT b i 8:Nat):Int)+1),_]=_
        rw[w_s (by omega) (by omega)]
        rfl
       rw[ql h8,qDM,qA,hs,qc (by omega) (by omega),qc (by omega) (by omega),hraw,qA,qc (by omega) (by omega),qc (by omega) (by omega),e1]
       show qCS (f+n+1) b _ b' h s _ (List.set (kL b i) 0 (IntKind.wrap .i64 (List.getD (kL b i) 0 0+1)))=_
       rw[e2]
       rfl
      ·have hs:sd (b.getD i 0)=1:=by rw[hx];decide
       have e2:List.set (kL b i) 1 (IntKind.wrap .i64 (List.getD (kL b i) 1 0+1))=kL b (i+1):=by
        unfold kL
        rw[qFI,qFI,hx,if_neg (by omega),if_pos rfl]
        show [_,IntKind.wrap .i64 (((kT b i 24:Nat):Int)+1)]=_
        rw[w_s (by omega) (by omega)]
        rfl
       rw[ql h8,qDM,qA,hs,qc (by omega) (by omega),qc (by omega) (by omega),hraw,qA,qc (by omega) (by omega),qc (by omega) (by omega),e1]
       show qCS (f+n+1) b _ b' h s _ (List.set (kL b i) 1 (IntKind.wrap .i64 (List.getD (kL b i) 1 0+1)))=_
       rw[e2]
       rfl
     ·have e2:kL b (i+1)=kL b i:=by
       have n8:b.getD i 0≠8:=fun h=>h8 (by rw[h];decide)
       have n24:b.getD i 0≠24:=fun h=>h8 (by rw[h];decide)
       unfold kL
       rw[qFI,qFI,if_neg n8,if_neg n24]
       rfl
      rw[qk h8,hraw,qA,qc (by omega) (by omega),qc (by omega) (by omega),e1,e2]
      rfl
theorem qrl {h:List Int} {s k:Nat} (_hs:s<2) (hk:k<8):(List.take 8 (List.drop (Nat.add (Nat.mul s 7) s) h)).getD k 0=h.getD (s*8+k) 0:=by
 rw[List.getD_eq_getElem?_getD,List.getElem?_take,if_pos hk,List.getElem?_drop,List.getD_eq_getElem?_getD]
 rw[show (Nat.add (Nat.mul s 7) s)+k=s*8+k from (by show s*7+s+k=s*8+k;omega)]
def qCA (h:List Int) (s i:Nat) (g:Nat->Int) (j:Nat):Int:=if i<=j /\ j<8 then g j+h.getD (s*8+j) 0 else g j
theorem qVP {h:List Int} (hf:qAZ h) (b:List Int) (S:Int) (kk h':List Int) (s:Nat) (hs:s<2):∀ (n i:Nat),i+n=8->∀ (g:Nat->Int),(∀ j,-200000+200*n<=g j /\ g j<=200000 - 200*n)->
  ∃ c,∀ f,qC7 (f+n+1) h s (List.take 8 (List.drop (Nat.add (Nat.mul s 7) s) h)) i b h' S ((List.range 9).map g) kk =
    some (if (List.range' i n).any (fun k=>bsH h k s) then .inl (55,h,s,b,h',S,c,kk) else .inr (h,s,b,h',S,(List.range 9).map (qCA h s i g),kk)):=by
 intro n
 induction n with
 | zero=>
   intro i hi g hg
   refine⟨[],fun f=>?_⟩
   show qE0 (qC7 (f+0)) _ _ _ _ _ _ _ _ _=_
   unfold qE0
   rw[qW (by omega)]
   have:(List.range 9).map (qCA h s i g)=(List.range 9).map g:=by
    apply List.map_congr_left
    intro j _
    unfold qCA
    rw[if_neg (by omega)]
   rw[this]
   rfl
 | succ n ih=>
   intro i hi g hg
   have hr:=qrl (h:=h) (s:=s) (k:=i) hs (by omega)
   have hb:=hf (s*8+i)
   by_cases hbad:bsH h i s=true
   ·refine⟨(List.range 9).map g,fun f=>?_⟩
    show qE0 (qC7 (f+n+1)) _ _ _ _ _ _ _ _ _=_
    unfold qE0
    have hx:=hbad
    unfold bsH at hx
    rw[decide_eq_true_eq] at hx
    rw[qe (by omega),qc (by omega) (by omega),cond_true,tn,hr,any_cons,hbad]
    by_cases h0:h.getD (s*8+i) 0<0
    ·rw[qe h0]
     rfl
    ·rw[qW h0,qBS (by omega),ql (by omega)]
     rfl
   ·have hx:bsH h i s=false:=by simpa using hbad
    have hx2:=hx
    unfold bsH at hx2
    rw[decide_eq_false_iff_not] at hx2
    obtain⟨c,hc⟩:=ih (i+1) (by omega) (fun j=>if j=i then g j+h.getD (s*8+j) 0 else g j) (fun j=>by
     have:=hg j
     split
     ·rename_i hj;subst hj;omega
     ·omega)
    refine⟨c,fun f=>?_⟩
    show qE0 (qC7 (f+n+1)) _ _ _ _ _ _ _ _ _=_
    unfold qE0
    have hgi:=hg i
    have e1:List.set ((List.range 9).map g) i (IntKind.wrap .i64 (List.getD ((List.range 9).map g) i 0+h.getD (s*8+i) 0))=(List.range 9).map fun j=>if j=i then g j+h.getD (s*8+j) 0 else g j:=by
     rw[qHr _ (by omega),map_set,w_s (by omega) (by omega)]
     apply List.map_congr_left
     intro j _
     split
     ·rename_i hj;subst hj;rfl
     ·rfl
    have e2:(List.range 9).map (qCA h s (i+1) fun j=>if j=i then g j+h.getD (s*8+j) 0 else g j)=(List.range 9).map (qCA h s i g):=by
     apply List.map_congr_left
     intro j _
     unfold qCA
     by_cases hj:j=i
     ·subst hj;simp;omega
     ·simp only[hj,if_false]
      by_cases h1:i<=j /\ j<8
      ·rw[if_pos (by omega),if_pos h1]
      ·rw[if_neg (by omega),if_neg h1]
    have:=hc f
    rw[e2] at this
    rw[qe (by omega),qc (by omega) (by omega),cond_true,tn,hr,any_cons,hx,Bool.false_or,qW (by omega),c_8,e1,w_s (by omega) (by omega)]
    by_cases h0:h.getD (s*8+i) 0>0
    ·rw[qBS h0,qk (by omega),qk (by omega),qc (by omega) (by omega),qc (by omega) (by omega)]
     exact this
    ·rw[qBT h0,qc (by omega) (by omega),qc (by omega) (by omega)]
     exact this
theorem qii {h:List Int} (hf:qAZ h) (b h':List Int) (S:Int) (kk:List Int) (g:Nat->Int) (hg:∀ j,-100<=g j /\ g j<=100):
  ∃ c,∀ f,qCj (f+2+1) h 0 b h' S ((List.range 9).map g) kk =
    some (if (List.range' 0 2).any (fun s=>(List.range' 0 8).any fun k=>bsH h k s) then .inl (55,b,h',S,c,kk) else .inr (b,h',S,(List.range 9).map (qCA h 1 0 (qCA h 0 0 g)),kk)):=by
 obtain⟨g8,hg8⟩:=qh 8 (by omega)
 obtain⟨c0,h0⟩:=qVP hf b S kk h' 0 (by omega) 8 0 (by omega) g (fun j=>by have:=hg j;omega)
 have h0:=h0 g8
 rw[<- hg8] at h0
 obtain⟨c1,h1⟩:=qVP hf b S kk h' 1 (by omega) 8 0 (by omega) (qCA h 0 0 g) (fun j=>by
  have:=hg j
  have:=hf (0*8+j)
  unfold qCA
  split<;>omega)
 have h1:=h1 g8
 rw[<- hg8] at h1
 have any2:(List.range' 0 2).any (fun s=>(List.range' 0 8).any fun k=>bsH h k s)=((List.range' 0 8).any (fun k=>bsH h k 0)||(List.range' 0 8).any (fun k=>bsH h k 1)):=by
  rw[any_cons (fun s=>(List.range' 0 8).any fun k=>bsH h k s),any_cons (fun s=>(List.range' 0 8).any fun k=>bsH h k s) 1 0]
  simp
 rw[any2]
 cases hb0:(List.range' 0 8).any (fun k=>bsH h k 0) with
 | true=>
   refine⟨c0,fun f=>?_⟩
   show qDX (qCj (f+2)) _ _ _ _ _ _ _=_
   unfold qDX
   rw[qe (by omega),qc (by omega) (by omega),show qC7 qB h 0 (List.take 8 (List.drop (Nat.add (Nat.mul (Int.toNat 0) 7) (Int.toNat 0)) h)) 0 b h' S ((List.range 9).map g) kk=_ from h0,hb0,qA]
   rfl
 | false=>
   refine⟨c1,fun f=>?_⟩
   show qDX (qCj (f+2)) _ _ _ _ _ _ _=_
   unfold qDX
   rw[qe (by omega),qc (by omega) (by omega),show qC7 qB h 0 (List.take 8 (List.drop (Nat.add (Nat.mul (Int.toNat 0) 7) (Int.toNat 0)) h)) 0 b h' S ((List.range 9).map g) kk=_ from h0,hb0,qA,if_neg (by decide),qAz]
   simp only
   show qDX (qCj (f+1)) _ _ _ _ _ _ _=_
   unfold qDX
   rw[qe (by rw[w_s (by omega) (by omega)];omega),qc (by rw[w_s (by omega) (by omega)];omega) (by rw[w_s (by omega) (by omega)];omega)]
   rw[show IntKind.wrap .i64 (((0:Nat):Int)+1)=1 from rfl,show qC7 qB h 1 (List.take 8 (List.drop (Nat.add (Nat.mul (Int.toNat 1) 7) (Int.toNat 1)) h)) 0 b h' S ((List.range 9).map (qCA h 0 0 g)) kk=_ from h1,qA]
   cases hb1:(List.range' 0 8).any (fun k=>bsH h k 1) with
   | true=>rfl
   | false=>
     rw[if_neg (by decide),qAz]
     simp only
     show qDX (qCj f) _ _ _ _ _ _ _=_
     unfold qDX
     rw[qW (by decide)]
     rfl
theorem qi1 {b:List Int} (hl:b.length=81) {k:Nat} (hk:1<=k):cnt b k=cT b 81 k:=by
 have hb:b=(List.range 81).map fun j=>b.getD j 0:=by
  apply List.ext_getElem
  ·simp[hl]
  ·intro i h1 h2
   rw[List.getElem_map,List.getElem_range,qF1 h1]
 unfold cnt cT
 conv=>lhs;rw[hb]
 rw[List.countP_map]
 apply List.countP_congr
 intro j _
 show (rw_ (kd (b.getD j 0))==(k:Int))=true↔_
 simp[hk,rk]
theorem quT:∀ k:Fin 9,qLv ((k.val:Nat):Int)=some (qKB ((k.val:Nat):Int)):=by decide +kernel
theorem qip {b h:List Int} {g:Nat->Int} (hg:∀ k:Nat,1<=k->k<8->g k=cnt b k+hd_ h 0 k+hd_ h 1 k) (b' h':List Int) (s:Int):∀ (n i:Nat),i+n=8->1<=i->∀ f,
  qDY (f+n+1) i b' h' s ((List.range 9).map g)=some (if (List.range' i n).any (qB0 b h) then .inl (51,b',h',s) else .inr (b',h',s)):=by
 intro n
 induction n with
 | zero=>
   intro i hi _ f
   show qG8 (qDY (f+0)) _ _ _ _ _=_
   unfold qG8
   rw[qW (by omega)]
   rfl
 | succ n ih=>
   intro i hi h1 f
   show qG8 (qDY (f+n+1)) _ _ _ _ _=_
   unfold qG8
   have ht:=quT ⟨i,by omega⟩
   simp only at ht
   rw[qe (by omega),qc (by omega) (by omega),ht,qA,tn,qHr _ (by omega),hg i h1 (by omega),any_cons,w_s (by omega) (by omega)]
   have:=ih (i+1) (by omega) (by omega) f
   by_cases ho:qKB i<cnt b i+hd_ h 0 i+hd_ h 1 i
   ·rw[qBS ho,show qB0 b h i=true by unfold qB0;simpa using ho]
    rfl
   ·rw[qBT ho,show qB0 b h i=false by unfold qB0;simpa using ho,Bool.false_or]
    exact this
theorem qiK (h:List Int):((List.range' 0 2).any fun s=>(List.range' 0 8).any fun k=>bsH h k s)=(List.range' 0 8).any fun k=>(List.range' 0 2).any (bsH h k):=by
 rw[Bool.eq_iff_iff]
 simp only[List.any_eq_true]
 constructor
 ·rintro ⟨s,hs,k,hk,h1⟩
  exact⟨k,hk,s,hs,h1⟩
 ·rintro ⟨k,hk,s,hs,h1⟩
  exact⟨s,hs,k,hk,h1⟩
theorem qUC {b:List Int} (hl:b.length=81) (h:(List.range' 0 81).any (bsP b)=false):Clean b:=by
 refine⟨hl,fun i hi=>?_⟩
 rw[List.any_eq_false] at h
 have:=h i (by rw[List.mem_range'];exact⟨i,hi,by omega⟩)
 unfold bsP at this
 rw[decide_eq_true_eq] at this
 omega
theorem qic {b h:List Int} (hl:b.length=81) (hf:qAZ h) (s:Int):qIx b h s=some (qAt b h s):=by
 obtain⟨g81,hg81⟩:=qh 81 (by omega)
 obtain⟨g7,hg7⟩:=qh 7 (by omega)
 obtain⟨g2,hg2⟩:=qh 2 (by omega)
 obtain⟨c6,k6,h6⟩:=qis b h s b 81 0 (by omega)
 have h6:=h6 g81
 rw[<- hg81] at h6
 have z1:cL b 0=[0,0,0,0,0,0,0,0,0]:=rfl
 have z2:kL b 0=[0,0]:=rfl
 rw[z1,z2] at h6
 obtain⟨c17,h17⟩:=qii hf b h s (kL b 81) (fun k=>((cT b 81 k:Nat):Int)) (fun j=>by have:=qVH b 81 j;omega)
 have h17:=h17 g2
 rw[<- hg2] at h17
 have hgc:∀ k:Nat,1<=k->k<8->qCA h 1 0 (qCA h 0 0 fun k=>((cT b 81 k:Nat):Int)) k=cnt b k+hd_ h 0 k+hd_ h 1 k:=by
  intro k k1 k8
  unfold qCA
  rw[if_pos (by omega),if_pos (by omega),qi1 hl k1]
  rfl
 have h30:=qip hgc b h s 7 1 (by omega) (by omega) g7
 rw[<- hg7] at h30
 have main:(ob (qCS qB b 0 b h s ([0,0,0,0,0,0,0,0,0]) ([0,0])) fun t3_2=>
   sw t3_2 (fun (a3_0,_,_,_,_,_)=>
    some (a3_0))
    (fun (a3_0,a3_1,a3_2,a3_3,a3_4)=>
    ob (qCj qB a3_1 0 a3_0 a3_1 a3_2 a3_3 a3_4) fun t8_2=>
    sw t8_2 (fun (a8_0,_,_,_,_,_)=>
     some (a8_0))
     (fun (a8_0,a8_1,a8_2,a8_3,a8_4)=>
     br (!a8_4==[1,1])
      (some (50))
      (ob (qDY qB 1 a8_0 a8_1 a8_2 a8_3) fun t13_2=>
      sw t13_2 (fun (a13_0,_,_,_)=>
       some (a13_0))
       (fun (a13_0,a13_1,a13_2)=>
       ob (qGB a13_0 a13_1 a13_2) fun a16=>
       some (a16)))) ):Option Int) =
   some (if (List.range' 0 81).any (bsP b) then 55
    else if (List.range' 0 8).any (fun k=>(List.range' 0 2).any (bsH h k)) then 55
    else if ¬ (nP b 8=1 /\ nP b 24=1) then 50
    else if (List.range' 1 7).any (qB0 b h) then 51
    else if (List.range' 0 81).any (fun i=>qA1 (b.getD i 0) i) then 52
    else if (List.range' 0 9).any (qBK b) then 53
    else 0):=by
  rw[show qCS qB b 0 b h s [0,0,0,0,0,0,0,0,0] [0,0]=_ from h6,qA]
  cases hbad:(List.range' 0 81).any (bsP b) with
  | true=>rfl
  | false=>
    have hc:=qUC hl hbad
    rw[if_neg (by decide),if_neg (by decide),qAz]
    simp only
    rw[show qCj qB h 0 b h s (cL b 81) (kL b 81)=_ from h17,qA,qiK]
    split
    ·rfl
    rw[qAz]
    simp only
    have hk:(!kL b 81==[1,1])=decide (¬ (nP b 8=1 /\ nP b 24=1)):=by
     show (!([((nP b 8:Nat):Int),((nP b 24:Nat):Int)]==[1,1]))=_
     rw[Bool.eq_iff_iff]
     simp
     omega
    rw[hk]
    by_cases h8:nP b 8=1 /\ nP b 24=1
    ·rw[qN (by simpa using h8),if_neg (by simpa using h8),show qDY qB 1 b h s _=_ from h30,qA]
     split
     ·rfl
     rw[qAz]
     simp only
     rw[qjq hc,qA]
    ·rw[qG (by rw[decide_eq_true_eq];exact h8),if_pos h8]
 unfold qIx qAt
 by_cases h0:s=0
 ·rw[qr h0,if_neg (by simp[h0])]
  exact main
 ·rw[qp h0]
  by_cases h1:s=1
  ·rw[qr h1,if_neg (by simp[h1])]
   exact main
  ·rw[qp h1,if_pos (by simp[h0,h1])]
end Go.Kk.Pl
namespace Go.Kk.Pl
def tk (b:List Int) (i:Nat):Bool:=decide (b.getD i 0≠0)
theorem quL {b:List Int} (hc:Clean b) {i:Nat} (hi:i<81):(sds b 0 i||sds b 1 i)=tk b i:=by
 have:=hc.ok i hi
 unfold sds tk
 rw[Bool.eq_iff_iff]
 simp only[Bool.or_eq_true,decide_eq_true_eq]
 rcases this with h | h
 ·rw[h,qJu];simp
 ·have h1:=qJO h
  have h2:=qIR h
  constructor
  ·intro _;omega
  ·intro _;exact h2
theorem qJ7 {b:List Int} (hc:Clean b) (h:List Int) (S:Int) (by_:List (List Int)):qC9 b h S by_ (qS b)=some (sLo (tk b),sHi (tk b)):=by
 unfold qC9
 have e0:(qS b).getD 0 []=prS (sds b 0):=rfl
 have e1:(qS b).getD 1 []=prS (sds b 1):=rfl
 rw[e0,e1,qHz,qH0,qHz,qH0,qHw,qA]
 obtain⟨h1,h2⟩:=qB8 (f:=fun i=>sds b 0 i||sds b 1 i) (g:=tk b) fun i hi=>quL hc hi
 simp only
 rw[h1,h2]
def sdP (b:List Int) (s:Int) (i:Nat):Bool:=decide (s=0 \/ s=1)&&sds b s i
theorem qQa (b h:List Int) (S s:Int) (by_:List (List Int)):qF9 s b h S by_ (qS b)=some (sLo (sdP b s),sHi (sdP b s)):=by
 unfold qF9
 by_cases h0:s=0
 ·subst h0
  have:sdP b 0=sds b 0:=by funext i;unfold sdP;simp
  rw[this]
  rfl
 ·rw[qp h0]
  by_cases h1:s=1
  ·subst h1
   have:sdP b 1=sds b 1:=by funext i;unfold sdP;simp
   rw[this]
   rfl
  ·have:sdP b s=fun _=>false:=by funext i;unfold sdP;simp[h0,h1]
   rw[qp h1,this,qBn,qBm]
theorem qPO (b h:List Int) (S s:Int) (sd':List (List Int)):qF6 s b h S (qP b) sd'=some (fst (pcs b (pc s 8))):=by
 unfold qF6
 rw[qGS,qA]
 simp only
 rw[qOh,qA]
def hdP (h:List Int) (s k:Int):Int:=if (s=0 \/ s=1) /\ 1<=k /\ k<8 then hd_ h s k else 0
theorem qke (b h:List Int) (S s k:Int) (by_ sd':List (List Int)):qCk s k b h S by_ sd'=some (hdP h s k):=by
 unfold hdP
 by_cases hv:(s=0 \/ s=1) /\ 1<=k /\ k<8
 ·rw[if_pos hv,qK2 hv.1 hv.2.1 hv.2.2]
 ·rw[if_neg hv]
  unfold qCk
  by_cases h0:s=0
  ·rw[qr h0]
   by_cases h1:k<1
   ·rw[qe h1]
   ·rw[qW h1,qCB (by omega)]
  ·rw[qp h0]
   by_cases h2:s=1
   ·rw[qr h2]
    by_cases h1:k<1
    ·rw[qe h1]
    ·rw[qW h1,qCB (by omega)]
   ·rw[qp h2]
theorem qko:isE (fun _=>false)=true:=by decide
end Go.Kk.Pl
namespace Go.Kk.Pl
def fl (q:Nat):Int:=((q / 9:Nat):Int)
def rn (q:Nat):Int:=((q % 9:Nat):Int)
def df (a c:Nat):Int:=fl c - fl a
def dr (a c:Nat):Int:=rn c - rn a
def upS (x:Int) (a c:Nat):Int:=if sd x=1 then dr a c else - dr a c
theorem geo {a:Nat} (ha:a<81):0<=fl a /\ fl a<=8 /\ 0<=rn a /\ rn a<=8 /\ (a:Int)=9*fl a+rn a:=by unfold fl rn;omega
theorem qJN {a c:Nat} (h:df a c=0) (h':dr a c=0):a=c:=by unfold df dr fl rn at *;omega
theorem qHY (a:Nat):df a a=0 /\ dr a a=0:=by unfold df dr;omega
def qBH (dx dy:Int) (a:Nat):Int:=if 0<=fl a+dx /\ fl a+dx<=8 /\ 0<=rn a+dy /\ rn a+dy<=8 then 9*(fl a+dx)+(rn a+dy) else -1
theorem qIk (q:Nat):Int.tdiv (q:Int) 9=fl q:=by unfold fl;rw[Int.tdiv_eq_ediv_of_nonneg (by omega)];omega
theorem qJ9 (q:Nat):Int.tmod (q:Int) 9=rn q:=qJ8 q
theorem qtE (f r:Int):qCe f r=some (if 0<=f /\ f<=8 /\ 0<=r /\ r<=8 then 9*f+r else -1):=by
 unfold qCe
 by_cases h1:f<0
 ·rw[qe h1,if_neg (by omega)]
 by_cases h2:f>8
 ·rw[qW h1,qBS h2,if_neg (by omega)]
 by_cases h3:r<0
 ·rw[qW h1,qBT h2,qe h3,if_neg (by omega)]
 by_cases h4:r>8
 ·rw[qW h1,qBT h2,qW h3,qBS h4,if_neg (by omega)]
 ·rw[qW h1,qBT h2,qW h3,qBT h4,if_pos (by omega),w_s (n:=9*f) (by omega) (by omega),w_s (by omega) (by omega)]
theorem qOj {dx dy:Int} (h1:-8<=dx) (h2:dx<=8) (h3:-8<=dy) (h4:dy<=8) {a:Nat} (ha:a<81):qGs dx dy a=some (qBH dx dy a):=by
 have hg:=geo ha
 unfold qGs qGl qFs
 simp (disch:=omega) only[qW,qBc,qIk,qJ9,qA,w_s,qtE]
 rfl
theorem qn5 {dx dy:Int} {a c:Nat} (ha:a<81) (hc:c<81):only (qBH dx dy a) c=decide (df a c=dx /\ dr a c=dy):=by
 have hg:=geo ha
 have hg2:=geo hc
 unfold only qBH df dr
 rw[decide_eq_decide]
 split<;>omega
def qB9 (k d u:Int):Prop:=
 (k=1 /\ d=0 /\ u=1) \/ (k=3 /\ (d=1 \/ d = -1) /\ u=2) \/ (k=4 /\ ((u=1 /\ -1<=d /\ d<=1) \/ (u = -1 /\ (d=1 \/ d = -1)))) \/
 ((k=5 \/ k=9 \/ k=10 \/ k=11 \/ k=12) /\ ((u=1 /\ -1<=d /\ d<=1) \/ (u=0 /\ (d=1 \/ d = -1)) \/ (u = -1 /\ d=0))) \/
 (k=8 /\ -1<=d /\ d<=1 /\ -1<=u /\ u<=1 /\ ¬ (d=0 /\ u=0)) \/ (k=14 /\ ((u=0 /\ (d=1 \/ d = -1)) \/ (d=0 /\ (u=1 \/ u = -1)))) \/
 (k=15 /\ (d=1 \/ d = -1) /\ (u=1 \/ u = -1))
instance (k d u:Int):Decidable (qB9 k d u):=by unfold qB9;infer_instance
def qAy (x:Int) (a c:Nat):Bool:=decide (qB9 (kd x) (df a c) (upS x a c))
theorem qs0 {n:Int} (h1:-1000<=n) (h2:n<=1000):qFa n=some (if n<0 then -n else n):=by
 unfold qFa
 split
 ·rename_i h;rw[qe h,w_s (by omega) (by omega)];congr 1;omega
 ·rename_i h;rw[qW h]
theorem qTW {x:Int} {a c:Nat} (ha:a<81) (hc:c<81):-8<=upS x a c /\ upS x a c<=8 /\ -8<=df a c /\ df a c<=8 /\ -8<=dr a c /\ dr a c<=8:=by
 have hg:=geo ha
 have hg2:=geo hc
 unfold upS df dr
 split<;>omega
def stT (k u S : Int):Option Bool:=
 br (decide (S <= 1))
  (ob (qFa u) fun a5=>
   br (k == 1)
    (br (S==0)
     (some (u==1))
     (some (false)))
    (br (k == 3)
     (br (S==1)
      (some (u==2))
      (some (false)))
     (br (k == 4)
      (br (decide (a5<=1))
       (br (u==1)
        (some (true))
        (br (S==1)
         (some (u == -1))
         (some (false))))
       (some (false)))
      (br (k == 5)
       (br (decide (a5<=1))
        (br (decide (u >= 0))
         (some (true))
         (some (S==0)))
        (some (false)))
       (br (k == 9)
        (br (decide (a5<=1))
         (br (decide (u >= 0))
          (some (true))
          (some (S==0)))
         (some (false)))
        (br (k == 10)
         (br (decide (a5<=1))
          (br (decide (u >= 0))
           (some (true))
           (some (S==0)))
          (some (false)))
         (br (k == 11)
          (br (decide (a5<=1))
           (br (decide (u >= 0))
            (some (true))
            (some (S==0)))
           (some (false)))
          (br (k==12)
           (br (decide (a5<=1))
            (br (decide (u >= 0))
             (some (true))
             (some (S==0)))
            (some (false)))
           (br (k==8)
            (some (decide (a5<=1)))
            (br (k==14)
             (br (decide (a5<=1))
              (br (S==0)
               (some (true))
               (some (u==0)))
              (some (false)))
             (br (k==15)
              (br (decide (a5<=1))
               (br (S==1)
                (some (u != 0))
                (some (false)))
               (some (false)))
              (some (false)))))))))))))
   (br (k == 1)
    (br (S==0)
     (some (u==1))
     (some (false)))
    (br (k == 3)
     (br (S==1)
      (some (u==2))
      (some (false)))
     (br (k == 4)
      (some (false))
      (br (k == 5)
       (some (false))
       (br (k == 9)
        (some (false))
        (br (k==10)
         (some (false))
         (br (k==11)
          (some (false))
          (br (k==12)
           (some (false))
           (br (k==8)
            (some (false))
            (br (k==14)
             (some (false))
             (br (k==15)
              (some (false))
              (some (false)))))))))))))
theorem qtF:∀ (k:Fin 16) (d u:Fin 17),((d.val=8 /\ u.val=8) \/ stT ((k.val:Nat):Int) ((u.val:Int) - 8) (if (d.val:Int) - 8<0 then -((d.val:Int) - 8) else (d.val:Int) - 8) =
  some (decide (qB9 ((k.val:Nat):Int) ((d.val:Int) - 8) ((u.val:Int) - 8)))):=by decide +kernel
theorem qtk {k d u:Int} (hne:¬ (d=0 /\ u=0)) (k0:0<=k) (k1:k<=15) (u1:-8<=u) (u2:u<=8) (d1:-8<=d) (d2:d<=8):stT k u (if d<0 then -d else d)=some (decide (qB9 k d u)):=by
 have:=qtF ⟨k.toNat,by omega⟩ ⟨(d+8).toNat,by omega⟩ ⟨(u+8).toNat,by omega⟩
 simp only at this
 rw[show ((k.toNat:Nat):Int)=k by omega,show (((d+8).toNat:Nat):Int) - 8=d by omega,show (((u+8).toNat:Nat):Int) - 8=u by omega] at this
 exact this.resolve_left (by omega)
theorem qrb (x:Int) {a c:Nat} (ha:a<81) (hc:c<81):qJe x a c=some (qAy x a c):=by
 have hg:=geo ha
 have hg2:=geo hc
 have hr:=qTW (x:=x) ha hc
 unfold qJe qAy
 simp (disch:=omega) only[qW,qIk,qJ9,qEf,qB6,qA,w_s]
 by_cases hac:a=c
 ·subst hac
  rw[ql rfl]
  have:=qHY a
  have hu:upS x a a=0:=by unfold upS;rw[this.2];split<;>rfl
  rw[this.1,hu]
  symm
  rw[Option.some.injEq,decide_eq_false_iff_not]
  unfold qB9
  omega
 ·rw[qk (by omega)]
  have hne:¬ (df a c=0 /\ upS x a c=0):=by
   rintro ⟨h1,h2⟩
   refine hac (qJN h1 ?_)
   unfold upS at h2
   split at h2<;>omega
  have hS:=qs0 (n:=fl c - fl a) (by omega) (by omega)
  rw[hS,qA]
  obtain⟨k0,k1,_⟩:=qBx x
  have:=qtk (k:=kd x) hne k0 k1 hr.1 hr.2.1 hr.2.2.1 hr.2.2.2.1
  rw[<- this]
  by_cases hs:sd x=1
  ·have hu:(0:Int) - (rn a - rn c)=upS x a c:=by unfold upS dr;rw[if_pos hs];omega
   rw[ql hs,hu]
   rfl
  ·have hu:rn a - rn c=upS x a c:=by unfold upS dr;rw[if_neg hs];omega
   rw[qk hs,hu]
   rfl
def qAU (k:Int):List (List Int):=if k=1 then [[0,-1]] else if k=3 then [[-1,-2],[1,-2]] else if k=4 then [[-1,-1],[0,-1],[1,-1],[-1,1],[1,1]]
 else if k=5 \/ k=9 \/ k=10 \/ k=11 \/ k=12 then [[-1,-1],[0,-1],[1,-1],[-1,0],[1,0],[0,1]]
 else if k=8 then [[-1,-1],[0,-1],[1,-1],[-1,0],[1,0],[0,1],[-1,1],[1,1]] else if k=14 then [[0,-1],[-1,0],[1,0],[0,1]]
 else if k=15 then [[-1,-1],[1,-1],[-1,1],[1,1]] else []
theorem qja:∀ k:Fin 16,qGt qB ((k.val:Nat):Int)=some ((qAU ((k.val:Nat):Int)).length,(qAU ((k.val:Nat):Int)).length,qAU ((k.val:Nat):Int)):=by decide +kernel
theorem qjb {k:Int} (h0:0<=k) (h1:k<=15):qGt qB k=some ((qAU k).length,(qAU k).length,qAU k):=by
 have:=qja ⟨k.toNat,by omega⟩
 simpa only[show ((k.toNat:Nat):Int)=k by omega] using this
theorem qjZ:∀ (k:Fin 16) (i:Fin 8),((qAU ((k.val:Nat):Int)).getD i.val []).length<=2 /\ -2<=((qAU ((k.val:Nat):Int)).getD i.val []).headD 0 /\ ((qAU ((k.val:Nat):Int)).getD i.val []).headD 0<=2 /\
  -2<=((qAU ((k.val:Nat):Int)).getD i.val []).tail.headD 0 /\ ((qAU ((k.val:Nat):Int)).getD i.val []).tail.headD 0<=2:=by decide +kernel
theorem qjX:∀ (k:Fin 16),(qAU ((k.val:Nat):Int)).length<=8:=by decide +kernel
def sg (x:Int):Int:=if sd x=1 then -1 else 1
theorem qfi {dx dy:Int} (h:-8<=dx /\ dx<=8 /\ -8<=dy /\ dy<=8) (x:Int):qFv dx dy (sd x)=some (sg x*dx,sg x*dy):=by
 unfold qFv sg
 by_cases hs:sd x=1
 ·rw[ql hs,if_pos hs,w_s (by omega) (by omega),w_s (by omega) (by omega)]
  congr 2<;>omega
 ·rw[qk hs,if_neg hs]
  congr 2<;>omega
theorem qeH (x:Int):sg x=1 \/ sg x = -1:=by unfold sg;split<;>simp
def dx_ (r:List Int):Int:=r.headD 0
def dy_ (r:List Int):Int:=r.tail.headD 0
def qDS (x:Int) (L:List (List Int)) (a c:Nat):Bool:=L.any fun r=>decide (df a c=sg x*dx_ r /\ dr a c=sg x*dy_ r)
theorem qtI {x:Int} {a:Nat} (ha:a<81) (L:List (List Int)) (hlen:L.length<=8) (hr:∀ r∈L,r.length<=2 /\ -2<=dx_ r /\ dx_ r<=2 /\ -2<=dy_ r /\ dy_ r<=2) (N:Nat) (u v:Int):
  ∀ (n i:Nat),i+n=L.length->∀ (f:Nat->Bool) (F:Nat),qFx (F+n+1) x a L.length (Int.ofNat L.length) i u v (sLo f) (sHi f) N L =
    some (u,v,sLo fun c=>f c||qDS x (L.drop i) a c,sHi fun c=>f c||qDS x (L.drop i) a c):=by
 intro n
 induction n with
 | zero=>
   intro i hi f F
   show qIf (qFx (F+0)) _ _ _ _ _ _ _ _ _ _ _=_
   unfold qIf
   rw[qW (by simp;omega),List.drop_eq_nil_of_le (by omega)]
   have:(fun c=>f c||qDS x [] a c)=f:=by funext c;simp[qDS]
   rw[this]
 | succ n ih=>
   intro i hi f F
   show qIf (qFx (F+n+1)) _ _ _ _ _ _ _ _ _ _ _=_
   unfold qIf
   have hil:i<L.length:=by omega
   have hget:L.getD i []=L[i]:=by rw[List.getD_eq_getElem?_getD,List.getElem?_eq_getElem hil];rfl
   obtain⟨r0,r1,r2,r3,r4⟩:=hr L[i] (List.getElem_mem hil)
   have ht:List.take 2 L[i]=L[i]:=List.take_of_length_le r0
   have hs:=qeH x
   rw[qe (by simp;omega),qc (by omega) (by omega),tn,hget,ht,qDM,qA]
   show ob (qFv (dx_ L[i]) (dy_ L[i]) (sd x)) _=_
   rw[qfi (by omega),qA]
   simp only
   rw[qOj (by rcases hs with h | h<;>rw[h]<;>omega) (by rcases hs with h | h<;>rw[h]<;>omega) (by rcases hs with h | h<;>rw[h]<;>omega) (by rcases hs with h | h<;>rw[h]<;>omega) ha,qA,qGx,qA]
   simp only
   rw[w_s (by omega) (by omega)]
   refine (ih (i+1) (by omega) _ F).trans ?_
   have hd:L.drop i=L[i] :: L.drop (i+1):=List.drop_eq_getElem_cons hil
   obtain⟨e1,e2⟩:=qB8 (f:=fun c=>(f c||only (qBH (sg x*dx_ L[i]) (sg x*dy_ L[i]) a) c)||qDS x (L.drop (i+1)) a c) (g:=fun c=>f c||qDS x (L.drop i) a c) fun c hc=>by
    rw[qn5 ha hc,hd]
    unfold qDS
    rw[List.any_cons,Bool.or_assoc]
   rw[e1,e2]
theorem qgS:∀ (k:Fin 16) (d u:Fin 17),(qAU ((k.val:Nat):Int)).any (fun r=>decide ((d.val:Int) - 8=dx_ r /\ (u.val:Int) - 8 = -(dy_ r)))=decide (qB9 ((k.val:Nat):Int) ((d.val:Int) - 8) ((u.val:Int) - 8)):=by decide +kernel
theorem qgT:∀ (k:Fin 16) (d u:Fin 17),(qAU ((k.val:Nat):Int)).any (fun r=>decide ((d.val:Int) - 8 = -(dx_ r) /\ (u.val:Int) - 8 = -(dy_ r)))=decide (qB9 ((k.val:Nat):Int) ((d.val:Int) - 8) ((u.val:Int) - 8)):=by decide +kernel
theorem qgU (x:Int) {a c:Nat} (ha:a<81) (hc:c<81):qDS x (qAU (kd x)) a c=qAy x a c:=by
 obtain⟨k0,k1,_⟩:=qBx x
 have hr:=qTW (x:=x) ha hc
 unfold qAy qDS sg upS
 by_cases hs:sd x=1
 ·simp only[hs,if_true]
  have:=qgT ⟨(kd x).toNat,by omega⟩ ⟨(df a c+8).toNat,by omega⟩ ⟨(dr a c+8).toNat,by omega⟩
  simp only[show (((kd x).toNat:Nat):Int)=kd x by omega,show (((df a c+8).toNat:Nat):Int) - 8=df a c by omega,show (((dr a c+8).toNat:Nat):Int) - 8=dr a c by omega] at this
  rw[<- this]
  congr 1
  funext r
  rw[decide_eq_decide]
  constructor<;>(rintro ⟨h1,h2⟩;constructor<;>omega)
 ·simp only[hs,if_false]
  have:=qgS ⟨(kd x).toNat,by omega⟩ ⟨(df a c+8).toNat,by omega⟩ ⟨(-dr a c+8).toNat,by omega⟩
  simp only[show (((kd x).toNat:Nat):Int)=kd x by omega,show (((df a c+8).toNat:Nat):Int) - 8=df a c by omega,show (((-dr a c+8).toNat:Nat):Int) - 8 = -dr a c by omega] at this
  rw[<- this]
  congr 1
  funext r
  rw[decide_eq_decide]
  constructor<;>(rintro ⟨h1,h2⟩;constructor<;>omega)
theorem qjY {k:Int} (h0:0<=k) (h1:k<=15):(qAU k).length<=8 /\ ∀ r∈qAU k,r.length<=2 /\ -2<=dx_ r /\ dx_ r<=2 /\ -2<=dy_ r /\ dy_ r<=2:=by
 have hl:=qjX ⟨k.toNat,by omega⟩
 simp only[show ((k.toNat:Nat):Int)=k by omega] at hl
 refine⟨hl,fun r hr=>?_⟩
 obtain⟨i,hi,rfl⟩:=List.getElem_of_mem hr
 have:=qjZ ⟨k.toNat,by omega⟩ ⟨i,by omega⟩
 simp only[show ((k.toNat:Nat):Int)=k by omega] at this
 rw[List.getD_eq_getElem?_getD,List.getElem?_eq_getElem hi] at this
 exact this
theorem qtJ (x:Int) {a:Nat} (ha:a<81):qJ2 x a=some (sLo (qAy x a),sHi (qAy x a)):=by
 obtain⟨k0,k1,_⟩:=qBx x
 obtain⟨hlen,hrs⟩:=qjY k0 k1
 obtain⟨g,hg⟩:=qh (qAU (kd x)).length (by omega)
 have:=qtI (x:=x) ha (qAU (kd x)) hlen hrs (qAU (kd x)).length 0 0 (qAU (kd x)).length 0 (by omega) (fun _=>false) g
 rw[<- hg,qBn,qBm] at this
 unfold qJ2
 rw[qBW,qA,qjb k0 k1,qA]
 simp only
 rw[show qFx qB x a (qAU (kd x)).length (Int.ofNat (qAU (kd x)).length) 0 0 0 0 0 (qAU (kd x)).length (qAU (kd x))=_ from this,qA]
 simp only
 obtain⟨e1,e2⟩:=qB8 (f:=fun c=>false||qDS x (List.drop 0 (qAU (kd x))) a c) (g:=qAy x a) fun c hc=>by
  rw[Bool.false_or,List.drop_zero,qgU x ha hc]
 rw[e1,e2]
end Go.Kk.Pl
namespace Go.Kk.Pl
def sgn (n:Int):Int:=if n<0 then -1 else if n>0 then 1 else 0
def qy (a c:Nat):Int:=if a=c then 0 else if df a c=0 \/ dr a c=0 then 1 else if df a c=dr a c \/ df a c = -dr a c then 2 else 0
def mx (a c:Nat):Nat:=if (df a c).natAbs<(dr a c).natAbs then (dr a c).natAbs else (df a c).natAbs
def qAX (a c:Nat):Int:=9*sgn (df a c)+sgn (dr a c)
def btw (a c:Nat):List Nat:=if qy a c=0 then [] else (List.range (mx a c - 1)).map fun (j:Nat)=>((a:Int)+((j:Int)+1)*qAX a c).toNat
theorem qsy (n:Int):qIB n=some (sgn n):=by
 unfold qIB sgn
 split
 ·rename_i h;rw[qe h]
 ·rename_i h
  rw[qW h]
  split
  ·rename_i h2;rw[qBS h2]
  ·rename_i h2;rw[qBT h2]
theorem qYa {a c:Nat} (ha:a<81) (hc:c<81):qIA a c=some (qy a c):=by
 have hg:=geo ha
 have hg2:=geo hc
 unfold qIA qy
 simp (disch:=omega) only[qW,qIk,qJ9,w_s]
 by_cases hac:a=c
 ·rw[ql (by omega),if_pos hac]
 ·rw [qk (by omega),if_neg hac]
  by_cases h1:df a c=0
  ·rw[ql (by unfold df at h1;omega),if_pos (.inl h1)]
  ·rw[qk (by unfold df at h1;omega)]
   by_cases h2:dr a c=0
   ·rw[ql (by unfold dr at h2;omega),if_pos (.inr h2)]
   ·rw[qk (by unfold dr at h2;omega),if_neg (by omega)]
    by_cases h3:df a c=dr a c
    ·rw[ql (by unfold df dr at h3;omega),if_pos (.inl h3)]
    ·rw[qk (by unfold df dr at h3;omega)]
     by_cases h4:df a c = -dr a c
     ·rw[ql (by unfold df dr at h4;omega),if_pos (.inr h4)]
     ·rw[qk (by unfold df dr at h4;omega),if_neg (by omega)]
theorem qLR {a c:Nat} (ha:a<81) (hc:c<81) (h:qy a c≠0):1<=mx a c /\ mx a c<=8 /\ (c:Int)=a+(mx a c:Int)*qAX a c /\ qAX a c≠0 /\ -10<=qAX a c /\ qAX a c<=10:=by
 have hg:=geo ha
 have hg2:=geo hc
 have hdf:df a c=fl c - fl a:=rfl
 have hdr:dr a c=rn c - rn a:=rfl
 unfold qy at h
 split at h
 ·exact absurd rfl h
 rename_i hac
 have hne:¬ (df a c=0 /\ dr a c=0):=fun hh=>hac (qJN hh.1 hh.2)
 have hl:df a c=0 \/ dr a c=0 \/ df a c=dr a c \/ df a c = -dr a c:=by
  split at h
  ·rename_i h1;rcases h1 with h1 | h1
   ·exact .inl h1
   ·exact .inr (.inl h1)
  ·split at h
   ·rename_i h1;rcases h1 with h1 | h1
    ·exact .inr (.inr (.inl h1))
    ·exact .inr (.inr (.inr h1))
   ·exact absurd rfl h
 clear h
 unfold mx qAX sgn
 generalize df a c=d at *
 generalize dr a c=e at *
 rcases Int.lt_trichotomy d 0 with h1 | h1 | h1<;>rcases Int.lt_trichotomy e 0 with h2 | h2 | h2
 all_goals simp (disch:=omega) only[if_pos,if_neg]
 all_goals (refine⟨by omega,by omega,by omega,by omega,by omega,by omega⟩)
theorem qLV {a c D:Int} {m j:Nat} (hm:c=a+(m:Int)*D) (ha:0<=a /\ a<81) (hc:0<=c /\ c<81) (hj:j<=m) (_hD:-10<=D /\ D<=10):0<=a+(j:Int)*D /\ a+(j:Int)*D<81:=by
 have hj':(j:Int)<=m:=by omega
 rcases Int.le_total 0 D with h | h
 ·have h1:(0:Int)<=(j:Int)*D:=Int.mul_nonneg (by omega) h
  have h2:(j:Int)*D<=(m:Int)*D:=Int.mul_le_mul_of_nonneg_right hj' h
  omega
 ·have h1:(j:Int)*D<=0:=Int.mul_nonpos_of_nonneg_of_nonpos (by omega) h
  have h2:(m:Int)*D<=(j:Int)*D:=Int.mul_le_mul_of_nonpos_right hj' h
  omega
theorem qhD {a c:Nat} (ha:a<81) (hc:c<81) (h:qy a c≠0):∀ (n j:Nat),j+1+n=mx a c->∀ F,
  qFb (F+n+1) c j (qAX a c) ((a:Int)+((j:Int)+1)*qAX a c) j ((List.range j).map fun (j:Nat)=>(a:Int)+((j:Int)+1)*qAX a c) =
   some (mx a c - 1,mx a c - 1,(List.range (mx a c - 1)).map fun (j:Nat)=>(a:Int)+((j:Int)+1)*qAX a c):=by
 obtain⟨m1,m8,hend,hD0,hD1,hD2⟩:=qLR ha hc h
 intro n
 induction n with
 | zero=>
   intro j hj F
   show qH8 (qFb (F+0)) _ _ _ _ _ _=_
   unfold qH8
   have hjm:((j:Int)+1)=(mx a c:Int):=by omega
   rw[hjm,qr (by omega),show mx a c - 1=j by omega]
 | succ n ih=>
   intro j hj F
   show qH8 (qFb (F+n+1)) _ _ _ _ _ _=_
   unfold qH8
   have hne:¬ (a:Int)+((j:Int)+1)*qAX a c=c:=by
    rw[hend]
    intro hh
    have:((j:Int)+1)*qAX a c=(mx a c:Int)*qAX a c:=by omega
    have:=Int.eq_of_mul_eq_mul_right hD0 this
    omega
   have hr:=qLV (j:=j+1) hend (by omega) (by omega) (by omega) ⟨hD1,hD2⟩
   have hr2:=qLV (j:=j+2) hend (by omega) (by omega) (by omega) ⟨hD1,hD2⟩
   have e2:(a:Int)+((j:Int)+1)*qAX a c+qAX a c=(a:Int)+(((j+1:Nat):Int)+1)*qAX a c:=by
    rw[show (((j+1:Nat):Int)+1)=((j:Int)+1)+1 by omega,Int.add_mul ((j:Int)+1),Int.one_mul];omega
   have e3:(((j+2:Nat):Int))=(((j+1:Nat):Int)+1):=by omega
   rw[e3] at hr2
   rw[qp hne,qG (by simp;omega),e2,w_s (by omega) (by omega),qNK (by simp)]
   have e4:(((List.range j).map fun (j:Nat)=>(a:Int)+((j:Int)+1)*qAX a c)++[(a:Int)+((j:Int)+1)*qAX a c])=(List.range (j+1)).map fun (j:Nat)=>(a:Int)+((j:Int)+1)*qAX a c:=by
    rw[List.range_succ,List.map_append];rfl
   rw[e4]
   exact ih (j+1) (by omega) F
theorem qI2 {a c:Nat} (ha:a<81) (hc:c<81) {s:Nat} (hs:s∈btw a c):s<81:=by
 unfold btw at hs
 split at hs
 ·cases hs
 ·rename_i h
  obtain⟨m1,m8,hend,hD0,hD1,hD2⟩:=qLR ha hc h
  obtain⟨j,hj,rfl⟩:=List.mem_map.1 hs
  rw[List.mem_range] at hj
  have hr:=qLV (j:=j+1) hend (by omega) (by omega) (by omega) ⟨hD1,hD2⟩
  rw[show (((j+1:Nat):Int))=(j:Int)+1 by omega] at hr
  omega
theorem qiL {a c:Nat} (ha:a<81) (hc:c<81):(btw a c).length<=7:=by
 unfold btw
 split
 ·simp
 ·rename_i h
  obtain⟨m1,m8,_⟩:=qLR ha hc h
  simp;omega
theorem qhF {a c:Nat} (ha:a<81) (hc:c<81):qJf a c=some ((btw a c).length,(btw a c).length,(btw a c).map Int.ofNat):=by
 have hg:=geo ha
 have hg2:=geo hc
 unfold qJf
 rw[qYa ha hc,qA]
 by_cases h:qy a c=0
 ·rw[ql h]
  unfold btw
  rw[if_pos h]
  rfl
 ·obtain⟨m1,m8,hend,hD0,hD1,hD2⟩:=qLR ha hc h
  have hs1:-1<=sgn (df a c) /\ sgn (df a c)<=1:=by unfold sgn;split<;>(try split)<;>omega
  have hs2:-1<=sgn (dr a c) /\ sgn (dr a c)<=1:=by unfold sgn;split<;>(try split)<;>omega
  rw[qk h]
  simp (disch:=omega) only[qIk,qJ9,w_s,qsy,qA]
  rw[show fl c - fl a=df a c from rfl,show rn c - rn a=dr a c from rfl,w_s (n:=9*sgn (df a c)) (by omega) (by omega),show 9*sgn (df a c)+sgn (dr a c)=qAX a c from rfl,w_s (n:=qAX a c) (by omega) (by omega),w_s (n:=(a:Int)+qAX a c) (by omega) (by omega)]
  obtain⟨g,hgm⟩:=qh (mx a c - 1) (by omega)
  have:=qhD ha hc h (mx a c - 1) 0 (by omega) g
  rw[<- hgm] at this
  have e0:(a:Int)+(((0:Nat):Int)+1)*qAX a c=a+qAX a c:=by
   rw[show ((0:Nat):Int)+1=1 from rfl,Int.one_mul]
  rw[e0] at this
  rw[show qFb qB c 0 (qAX a c) ((a:Int)+qAX a c) 0 []=_ from this,qA]
  unfold btw
  rw[if_neg h]
  simp only[List.length_map,List.length_range,List.map_map]
  congr 3
  apply List.map_congr_left
  intro j hj
  rw[List.mem_range] at hj
  have hr:=qLV (j:=j+1) hend (by omega) (by omega) (by omega) ⟨hD1,hD2⟩
  rw[show (((j+1:Nat):Int))=(j:Int)+1 by omega] at hr
  show _=Int.ofNat (Int.toNat _)
  simp only[Int.ofNat_eq_natCast]
  omega
def qAm (a c:Nat) (t:Nat->Bool):Bool:=(btw a c).all fun s=>!t s
theorem qj7 (t:List Bool) (L:List Nat) (hL:∀ s∈L,s<81) (hl:L.length<=100) (N:Nat):∀ (n i:Nat),i+n=L.length->∀ F,
  qFc (F+n+1) L.length i t N (L.map Int.ofNat)=some (if (L.drop i).all (fun s=>!t.getD s false) then .inr () else .inl false):=by
 intro n
 induction n with
 | zero=>
   intro i hi F
   show qH9 (qFc (F+0)) _ _ _ _ _=_
   unfold qH9
   rw[qW (by simp;omega),List.drop_eq_nil_of_le (by omega)]
   rfl
 | succ n ih=>
   intro i hi F
   show qH9 (qFc (F+n+1)) _ _ _ _ _=_
   unfold qH9
   have hil:i<L.length:=by omega
   have hd:L.drop i=L[i] :: L.drop (i+1):=List.drop_eq_getElem_cons hil
   have hget:(L.map Int.ofNat).getD i 0=(L[i]:Int):=by
    rw[List.getD_eq_getElem?_getD,List.getElem?_map,List.getElem?_eq_getElem hil];rfl
   have h81:=hL L[i] (List.getElem_mem hil)
   rw[qe (by simp;omega),qc (by omega) (by omega),tn,hget,qc (by omega) (by omega),tn,hd,List.all_cons,w_s (by omega) (by omega)]
   cases ht:t.getD L[i] false with
   | true=>rfl
   | false=>
     rw[b_f,Bool.not_false,Bool.true_and]
     exact ih (i+1) (by omega) F
theorem qj9 {a c:Nat} (ha:a<81) (hc:c<81) (t:List Bool):qAr a c t=some (qAm a c fun s=>t.getD s false):=by
 unfold qAr
 rw[qhF ha hc,qA]
 simp only
 have hlen:=qiL ha hc
 obtain⟨g,hg⟩:=qh (btw a c).length (by omega)
 have:=qj7 t (btw a c) (fun s hs=>qI2 ha hc hs) (by omega) (btw a c).length (btw a c).length 0 (by omega) g
 rw[<- hg] at this
 rw[show qFc qB (btw a c).length 0 t (btw a c).length ((btw a c).map Int.ofNat)=_ from this,qA,List.drop_zero]
 unfold qAm
 cases (btw a c).all fun s=>!t.getD s false<;>rfl
def slK (k d u:Int):Prop:=(k=2 /\ d=0 /\ 0<u) \/ ((k=6 \/ k=14) /\ ¬ (d=0 /\ u=0) /\ (d=u \/ d = -u)) \/ ((k=7 \/ k=15) /\ ¬ (d=0 /\ u=0) /\ (d=0 \/ u=0))
instance (k d u:Int):Decidable (slK k d u):=by unfold slK;infer_instance
def qAk (x:Int) (a c:Nat):Bool:=decide (slK (kd x) (df a c) (upS x a c))
def rch (x:Int) (a c:Nat) (t:Nat->Bool):Bool:=qAy x a c||(qAk x a c&&qAm a c t)
theorem qmM {a c:Nat}:qy a c=1↔(¬ (df a c=0 /\ dr a c=0)) /\ (df a c=0 \/ dr a c=0):=by
 unfold qy
 by_cases hac:a=c
 ·subst hac
  have:=qHY a
  simp[this.1,this.2]
 ·have:¬ (df a c=0 /\ dr a c=0):=fun h=>hac (qJN h.1 h.2)
  rw[if_neg hac]
  split
  ·rename_i h;simp[this,h]
  ·rename_i h
   split<;>simp[h]
theorem qmN {a c:Nat}:qy a c=2↔(¬ (df a c=0 /\ dr a c=0)) /\ (df a c=dr a c \/ df a c = -dr a c):=by
 unfold qy
 by_cases hac:a=c
 ·subst hac
  have:=qHY a
  simp[this.1,this.2]
 ·have:¬ (df a c=0 /\ dr a c=0):=fun h=>hac (qJN h.1 h.2)
  rw[if_neg hac]
  split
  ·rename_i h
   constructor
   ·intro hh;omega
   ·rintro ⟨h1,h2⟩;omega
  ·rename_i h
   split
   ·rename_i h2;simp[h2];omega
   ·rename_i h2;simp[h2]
theorem qpO (x:Int) {a c:Nat} (ha:a<81) (hc:c<81) (t:List Bool):qFd x a c t=some (rch x a c fun s=>t.getD s false):=by
 have hg:=geo ha
 have hg2:=geo hc
 unfold qFd
 rw[qrb x ha hc,qA]
 unfold rch
 cases hst:qAy x a c with
 | true=>rfl
 | false =>
   rw[b_f,qYa ha hc,qA,qEf,qA,Bool.false_or]
   have l1:=qmM (a:=a) (c:=c)
   have l2:=qmN (a:=a) (c:=c)
   have hup:upS x a c=if sd x=1 then dr a c else -dr a c:=rfl
   have hdr:dr a c=rn c - rn a:=rfl
   have hdf:df a c=fl c - fl a:=rfl
   have fin:∀ (p:Bool),p=qAk x a c->(br p (ob (qAr a c t) fun a8=>some a8) (some false):Option Bool)=some (qAk x a c&&qAm a c fun s=>t.getD s false):=by
    intro p hp
    rw[hp,qj9 ha hc,qA]
    cases qAk x a c<;>rfl
   have sl:∀ {p:Prop} [Decidable p],(p↔slK (kd x) (df a c) (upS x a c))->decide p=qAk x a c:=by
    intro p _ h
    unfold qAk
    rw[decide_eq_decide];exact h
   have nsl:¬ slK (kd x) (df a c) (upS x a c)->(some false:Option Bool)=some (qAk x a c&&qAm a c fun s=>t.getD s false):=by
    intro h
    have:qAk x a c=false:=by unfold qAk;simpa using h
    rw[this];rfl
   simp (disch:=omega) only[qIk,qJ9,w_s,qB6,qA]
   have body : ∀ (u:Int),u=upS x a c->(br (kd x==2)
        (br (qy a c==1)
         (br (fl a==fl c)
          (br (decide (u>0))
           (ob (qAr a c t) fun a8=>
           some (a8))
           (some (false)))
          (some (false)))
         (some (false)))
        (br (kd x==6)
         (br (qy a c==2)
          (ob (qAr a c t) fun a8=>
          some (a8))
          (some (false)))
         (br (kd x==14)
          (br (qy a c==2)
           (ob (qAr a c t) fun a8=>
           some (a8))
           (some (false)))
          (br (kd x==7)
           (br (qy a c==1)
            (ob (qAr a c t) fun a8=>
            some (a8))
            (some (false)))
           (br (kd x==15)
            (br (qy a c==1)
             (ob (qAr a c t) fun a8=>
             some (a8))
             (some (false)))
            (some (false))))))  : Option Bool)=some (qAk x a c&&qAm a c fun s=>t.getD s false):=by
    intro u hu
    by_cases k2:kd x=2
    ·rw[ql k2]
     by_cases h1:qy a c=1
     ·rw[ql h1]
      by_cases h3:fl a=fl c
      ·rw[ql h3]
       refine fin _ ?_
       exact sl (by unfold slK;rw[<- hu];omega)
      ·rw[qk h3]
       exact nsl (by unfold slK;omega)
     ·rw[qk h1]
      refine nsl (by
       rw[l1] at h1
       unfold slK
       split at hup<;>omega)
    ·rw[qk k2]
     have two:(kd x=6 \/ kd x=14)->(br (qy a c==2) (ob (qAr a c t) fun a8=>some a8) (some false):Option Bool)=some (qAk x a c&&qAm a c fun s=>t.getD s false):=by
      intro hk
      refine fin _ ?_
      have:(qy a c==2)=decide (qy a c=2):=by rw[Bool.eq_iff_iff];simp
      rw[this]
      refine sl ?_
      rw[l2]
      unfold slK
      split at hup<;>omega
     have one:(kd x=7 \/ kd x=15)->(br (qy a c==1) (ob (qAr a c t) fun a8=>some a8) (some false):Option Bool)=some (qAk x a c&&qAm a c fun s=>t.getD s false):=by
      intro hk
      refine fin _ ?_
      have:(qy a c==1)=decide (qy a c=1):=by rw[Bool.eq_iff_iff];simp
      rw[this]
      refine sl ?_
      rw[l1]
      unfold slK
      split at hup<;>omega
     by_cases k6:kd x=6
     ·rw[ql k6];exact two (.inl k6)
     rw[qk k6]
     by_cases k14:kd x=14
     ·rw[ql k14];exact two (.inr k14)
     rw[qk k14]
     by_cases k7:kd x=7
     ·rw[ql k7];exact one (.inl k7)
     rw[qk k7]
     by_cases k15:kd x=15
     ·rw[ql k15];exact one (.inr k15)
     rw[qk k15]
     exact nsl (by unfold slK;omega)
   by_cases hs:sd x=1
   ·rw[ql hs]
    exact body _ (by rw[hup,if_pos hs];omega)
   ·rw[qk hs]
    exact body _ (by rw[hup,if_neg hs];omega)
end Go.Kk.Pl
namespace Go.Kk.Pl
def qB3 (dx dy:Int):Nat->Int->List Nat
 | 0,_=>[]
 | n+1,p=>if p<0 then [] else p.toNat :: qB3 dx dy n (qBH dx dy p.toNat)
def qAT (t:Nat->Bool):List Nat->Nat->Bool
 | [],_=>false
 | s :: L,c=>decide (c=s)||(!t s&&qAT t L c)
def qDf (dx dy:Int):Nat->Int->Bool
 | 0,p=>decide (p<0)
 | n+1,p=>decide (p<0)||qDf dx dy n (qBH dx dy p.toNat)
theorem qWT (dx dy:Int) (a:Nat):-1<=qBH dx dy a /\ qBH dx dy a<81:=by unfold qBH;split<;>omega
theorem qup {dx dy:Int} (h1:-8<=dx) (h2:dx<=8) (h3:-8<=dy) (h4:dy<=8) (t:Nat->Bool) (u v:Int):∀ (n:Nat) (p:Int),-1<=p->p<81->qDf dx dy n p=true->∀ (f:Nat->Bool) (F:Nat),
  qGY (F+n+1) p dx dy (sLo t) (sHi t) u v (sLo f) (sHi f)=some (u,v,sLo fun c=>f c||qAT t (qB3 dx dy n p) c,sHi fun c=>f c||qAT t (qB3 dx dy n p) c):=by
 intro n
 induction n with
 | zero=>
   intro p hp0 hp1 he f F
   show qH6 (qGY (F+0)) _ _ _ _ _ _ _ _ _=_
   unfold qH6
   simp only[qDf,decide_eq_true_eq] at he
   rw[qBc (by omega)]
   have:(fun c=>f c||qAT t (qB3 dx dy 0 p) c)=f:=by funext c;simp[qB3,qAT]
   rw[this]
 | succ n ih=>
   intro p hp0 hp1 he f F
   show qH6 (qGY (F+n+1)) _ _ _ _ _ _ _ _ _=_
   unfold qH6
   by_cases hp:p<0
   ·rw[qBc (by omega)]
    have:(fun c=>f c||qAT t (qB3 dx dy (n+1) p) c)=f:=by funext c;simp[qB3,qAT,hp]
    rw[this]
   ·obtain⟨q,rfl⟩:∃ q:Nat,p=q:=⟨p.toNat,by omega⟩
    have hq:q<81:=by omega
    rw[qCB (by omega),qGx,qA]
    simp only
    rw[qEQ,qA]
    have hhas:has t q=t q:=by unfold has;simp;intro _;omega
    have hL:qB3 dx dy (n+1) q=q :: qB3 dx dy n (qBH dx dy q):=by simp[qB3]
    rw[hhas,hL]
    cases ht:t q with
    | true=>
      rw[b_t]
      obtain⟨e1,e2⟩:=qB8 (f:=fun i=>f i||only q i) (g:=fun c=>f c||qAT t (q :: qB3 dx dy n (qBH dx dy q)) c) fun c hc=>by
       unfold qAT only
       rw[ht]
       have:decide ((c:Int)=(q:Int))=decide (c=q):=by rw[decide_eq_decide];omega
       rw[this];simp
      rw[e1,e2]
    | false=>
      rw[b_f,qOj h1 h2 h3 h4 hq,qA]
      obtain⟨r1,r2⟩:=qWT dx dy q
      have he':qDf dx dy n (qBH dx dy q)=true:=by
       simp only[qDf,Bool.or_eq_true,decide_eq_true_eq] at he
       rcases he with he | he
       ·omega
       ·simpa using he
      refine (ih _ r1 r2 he' _ F).trans ?_
      obtain⟨e1,e2⟩:=qB8 (f:=fun c=>(f c||only q c)||qAT t (qB3 dx dy n (qBH dx dy q)) c) (g:=fun c=>f c||qAT t (q :: qB3 dx dy n (qBH dx dy q)) c) fun c hc=>by
       unfold only
       have:decide ((c:Int)=(q:Int))=decide (c=q):=by rw[decide_eq_decide];omega
       rw[this]
       show _=(f c||(decide (c=q)||(!t q&&qAT t (qB3 dx dy n (qBH dx dy q)) c)))
       rw[ht]
       simp[Bool.or_assoc]
      rw[e1,e2]
def qBD (dx dy:Int) (a:Nat):List Nat:=qB3 dx dy 9 (qBH dx dy a)
theorem qje:∀ (d:Fin 9) (a:Fin 81),(d.val=4 \/ qDf ((d.val / 3:Nat) - 1) ((d.val % 3:Nat) - 1) 9 (qBH ((d.val / 3:Nat) - 1) ((d.val % 3:Nat) - 1) a.val)=true):=by decide +kernel
theorem qf4 {dx dy:Int} (h1:-1<=dx) (h2:dx<=1) (h3:-1<=dy) (h4:dy<=1) (hne:¬ (dx=0 /\ dy=0)) {a:Nat} (ha:a<81) (t:Nat->Bool):
  qH5 a dx dy (sLo t) (sHi t)=some (sLo (qAT t (qBD dx dy a)),sHi (qAT t (qBD dx dy a))):=by
 unfold qH5
 rw[qN (by rw[Bool.and_eq_false_iff];simp;omega),qOj (by omega) (by omega) (by omega) (by omega) ha,qA]
 obtain⟨r1,r2⟩:=qWT dx dy a
 have he:qDf dx dy 9 (qBH dx dy a)=true:=by
  have:=qje ⟨((dx+1)*3+(dy+1)).toNat,by omega⟩ ⟨a,ha⟩
  simp only at this
  rw[show (((((dx+1)*3+(dy+1)).toNat / 3:Nat):Int) - 1)=dx by omega,show (((((dx+1)*3+(dy+1)).toNat % 3:Nat):Int) - 1)=dy by omega] at this
  exact this.resolve_left (by omega)
 obtain⟨g,hg⟩:=qh 9 (by omega)
 have:=qup (by omega) (by omega) (by omega) (by omega) t 0 0 9 _ r1 r2 he (fun _=>false) g
 rw[<- hg,qBn,qBm] at this
 rw[this,qA]
 simp only[Bool.false_or]
 rfl
def qI7 (a c:Nat):Bool:=decide (qy a c=0)||((qBD (sgn (df a c)) (sgn (dr a c)) a).take (btw a c).length==btw a c&&((qBD (sgn (df a c)) (sgn (dr a c)) a)[(btw a c).length]? == some c && !(btw a c).contains c))
def qOM (a:Nat) (dx dy:Int):Bool:=(qBD dx dy a).all fun c=>decide (c<81)&&(decide (qy a c≠0)&&(decide (sgn (df a c)=dx)&&decide (sgn (dr a c)=dy)))
theorem qKg:∀ (a c:Fin 81),qI7 a.val c.val=true:=by decide +kernel
theorem qVQ:∀ (d:Fin 9) (a:Fin 81),(d.val=4 \/ qOM a.val ((d.val / 3:Nat) - 1) ((d.val % 3:Nat) - 1)=true):=by decide +kernel
theorem qfl (t:Nat->Bool) {c:Nat}:∀ (P Q:List Nat),c ∉ P->qAT t (P++c :: Q) c=P.all fun s=>!t s
 | [],Q,_=>by simp[qAT]
 | s :: P,Q,h=>by
   simp only[List.mem_cons,not_or] at h
   show (decide (c=s)||(!t s&&qAT t (P++c :: Q) c))=_
   rw[qfl t P Q h.2,List.all_cons,show decide (c=s)=false by simpa using h.1,Bool.false_or]
theorem qfj (t:Nat->Bool) {c:Nat}:∀ (P:List Nat),c ∉ P->qAT t P c=false
 | [],_=>rfl
 | s :: P,h=>by
   simp only[List.mem_cons,not_or] at h
   show (decide (c=s)||(!t s&&qAT t P c))=_
   rw[qfj t P h.2,show decide (c=s)=false by simpa using h.1];simp
def onW (dx dy:Int) (a c:Nat):Bool:=decide (qy a c≠0 /\ sgn (df a c)=dx /\ sgn (dr a c)=dy)
theorem qfm {dx dy:Int} (h1:-1<=dx) (h2:dx<=1) (h3:-1<=dy) (h4:dy<=1) (hne:¬ (dx=0 /\ dy=0)) {a c:Nat} (ha:a<81) (hc:c<81) (t:Nat->Bool):
  qAT t (qBD dx dy a) c=(onW dx dy a c&&qAm a c t):=by
 unfold onW
 by_cases h:qy a c≠0 /\ sgn (df a c)=dx /\ sgn (dr a c)=dy
 ·obtain⟨hl,rfl,rfl⟩:=h
  have:=qKg ⟨a,ha⟩ ⟨c,hc⟩
  simp only[qI7,Bool.or_eq_true,decide_eq_true_eq,Bool.and_eq_true,beq_iff_eq,Bool.not_eq_true'] at this
  obtain⟨e1,e2,e3⟩:=this.resolve_left hl
  have hlt:(btw a c).length<(qBD (sgn (df a c)) (sgn (dr a c)) a).length:=getElem?_lt e2
  have hsp:qBD (sgn (df a c)) (sgn (dr a c)) a=btw a c++c :: (qBD (sgn (df a c)) (sgn (dr a c)) a).drop ((btw a c).length+1):=by
   have:=qMr e2
   rw[e1] at this
   exact this
  rw[hsp,qfl t _ _ (by simpa using e3)]
  simp[hl,qAm]
 ·have hn:c ∉ qBD dx dy a:=by
   intro hm
   have:=qVQ ⟨((dx+1)*3+(dy+1)).toNat,by omega⟩ ⟨a,ha⟩
   simp only at this
   rw[show (((((dx+1)*3+(dy+1)).toNat / 3:Nat):Int) - 1)=dx by omega,show (((((dx+1)*3+(dy+1)).toNat % 3:Nat):Int) - 1)=dy by omega] at this
   have:=this.resolve_left (by omega)
   unfold qOM at this
   rw[List.all_eq_true] at this
   have:=this c hm
   simp only[Bool.and_eq_true,decide_eq_true_eq] at this
   exact h ⟨this.2.1,this.2.2.1,this.2.2.2⟩
  rw[qfj t _ hn]
  rw[decide_eq_false h,Bool.false_and]
def qAR (k:Int):List (List Int):=if k=2 then [[0,-1]] else if k=6 \/ k=14 then [[-1,-1],[1,-1],[-1,1],[1,1]] else if k=7 \/ k=15 then [[0,-1],[-1,0],[1,0],[0,1]] else []
theorem qQs (k:Int):qGX k=some ((qAR k).length,(qAR k).length,qAR k):=by
 unfold qGX qAR
 by_cases h2:k=2
 ·rw[ql h2,if_pos h2];rfl
 rw[qk h2,if_neg h2]
 by_cases h6:k=6
 ·rw[ql h6,if_pos (.inl h6)];rfl
 rw[qk h6]
 by_cases h14:k=14
 ·rw[ql h14,if_pos (.inr h14)];rfl
 rw[qk h14,if_neg (by omega)]
 by_cases h7:k=7
 ·rw[ql h7,if_pos (.inl h7)];rfl
 rw[qk h7]
 by_cases h15:k=15
 ·rw[ql h15,if_pos (.inr h15)];rfl
 rw[qk h15,if_neg (by omega)];rfl
theorem qpM (k:Int):(qAR k).length<=8 /\ ∀ r∈qAR k,r.length<=2 /\ -1<=dx_ r /\ dx_ r<=1 /\ -1<=dy_ r /\ dy_ r<=1 /\ ¬ (dx_ r=0 /\ dy_ r=0):=by
 have h1:∀ r∈[[0,-1]],(r:List Int).length<=2 /\ -1<=dx_ r /\ dx_ r<=1 /\ -1<=dy_ r /\ dy_ r<=1 /\ ¬ (dx_ r=0 /\ dy_ r=0):=by decide
 have h2:∀ r∈[[-1,-1],[1,-1],[-1,1],[1,1]],(r:List Int).length<=2 /\ -1<=dx_ r /\ dx_ r<=1 /\ -1<=dy_ r /\ dy_ r<=1 /\ ¬ (dx_ r=0 /\ dy_ r=0):=by decide
 have h3:∀ r∈[[0,-1],[-1,0],[1,0],[0,1]],(r:List Int).length<=2 /\ -1<=dx_ r /\ dx_ r<=1 /\ -1<=dy_ r /\ dy_ r<=1 /\ ¬ (dx_ r=0 /\ dy_ r=0):=by decide
 unfold qAR
 split
 ·exact⟨by decide,h1⟩
 ·split
  ·exact⟨by decide,h2⟩
  ·split
   ·exact⟨by decide,h3⟩
   ·exact⟨by decide,fun r hr=>by cases hr⟩
def qDT (x:Int) (L:List (List Int)) (a c:Nat):Bool:=L.any fun r=>onW (sg x*dx_ r) (sg x*dy_ r) a c
theorem qo6 {x:Int} {a:Nat} (ha:a<81) (t:Nat->Bool) (L:List (List Int)) (hlen:L.length<=8) (hr:∀ r∈L,r.length<=2 /\ -1<=dx_ r /\ dx_ r<=1 /\ -1<=dy_ r /\ dy_ r<=1 /\ ¬ (dx_ r=0 /\ dy_ r=0)) (N:Nat) (u v:Int):
  ∀ (n i:Nat),i+n=L.length->∀ (f:Nat->Bool) (F:Nat),qFY (F+n+1) x a L.length (Int.ofNat L.length) i (sLo t) (sHi t) u v (sLo f) (sHi f) N L =
    some (u,v,sLo fun c=>f c||(qDT x (L.drop i) a c&&qAm a c t),sHi fun c=>f c||(qDT x (L.drop i) a c&&qAm a c t)):=by
 intro n
 induction n with
 | zero=>
   intro i hi f F
   show qH4 (qFY (F+0)) _ _ _ _ _ _ _ _ _ _ _ _ _=_
   unfold qH4
   rw[qW (by simp;omega),List.drop_eq_nil_of_le (by omega)]
   have:(fun c=>f c||(qDT x [] a c&&qAm a c t))=f:=by funext c;simp[qDT]
   rw[this]
 | succ n ih=>
   intro i hi f F
   show qH4 (qFY (F+n+1)) _ _ _ _ _ _ _ _ _ _ _ _ _=_
   unfold qH4
   have hil:i<L.length:=by omega
   have hget:L.getD i []=L[i]:=by rw[List.getD_eq_getElem?_getD,List.getElem?_eq_getElem hil];rfl
   obtain⟨r0,r1,r2,r3,r4,r5⟩:=hr L[i] (List.getElem_mem hil)
   have ht:List.take 2 L[i]=L[i]:=List.take_of_length_le r0
   have hs:=qeH x
   have c1:-1<=sg x*dx_ L[i] /\ sg x*dx_ L[i]<=1 /\ -1<=sg x*dy_ L[i] /\ sg x*dy_ L[i]<=1 /\ ¬ (sg x*dx_ L[i]=0 /\ sg x*dy_ L[i]=0):=by
    rcases hs with h | h<;>rw[h]<;>omega
   rw[qe (by simp;omega),qc (by omega) (by omega),tn,hget,ht,qDM,qA]
   show ob (qFv (dx_ L[i]) (dy_ L[i]) (sd x)) _=_
   rw[qfi (by omega),qA]
   simp only
   rw[qf4 c1.1 c1.2.1 c1.2.2.1 c1.2.2.2.1 c1.2.2.2.2 ha,qA]
   simp only
   rw[qHw,qA]
   simp only
   rw[w_s (by omega) (by omega)]
   refine (ih (i+1) (by omega) _ F).trans ?_
   have hd:L.drop i=L[i] :: L.drop (i+1):=List.drop_eq_getElem_cons hil
   obtain⟨e1,e2⟩:=qB8 (f:=fun c=>(f c||qAT t (qBD (sg x*dx_ L[i]) (sg x*dy_ L[i]) a) c)||(qDT x (L.drop (i+1)) a c&&qAm a c t)) (g:=fun c=>f c||(qDT x (L.drop i) a c&&qAm a c t)) fun c hc=>by
    rw[qfm c1.1 c1.2.1 c1.2.2.1 c1.2.2.2.1 c1.2.2.2.2 ha hc,hd]
    unfold qDT
    rw[List.any_cons,Bool.and_or_distrib_right,Bool.or_assoc]
   rw[e1,e2]
def qET (d e:Int):Prop:=¬ (d=0 /\ e=0) /\ (d=0 \/ e=0 \/ d=e \/ d = -e)
instance (d e:Int):Decidable (qET d e):=by unfold qET;infer_instance
theorem qLS (a c:Nat):qy a c≠0↔qET (df a c) (dr a c):=by
 unfold qET qy
 by_cases hac:a=c
 ·subst hac
  have:=qHY a
  simp[this.1,this.2]
 ·have:¬ (df a c=0 /\ dr a c=0):=fun h=>hac (qJN h.1 h.2)
  rw[if_neg hac]
  split
  ·rename_i h;constructor
   ·intro _;exact⟨this,by omega⟩
   ·intro _;omega
  ·split
   ·constructor
    ·intro _;exact⟨this,by omega⟩
    ·intro _;omega
   ·constructor
    ·intro h;omega
    ·rintro ⟨_,h⟩;omega
theorem qgV:∀ (k:Fin 16) (d e:Fin 17),(qAR ((k.val:Nat):Int)).any (fun r=>decide (qET ((d.val:Int) - 8) ((e.val:Int) - 8) /\ sgn ((d.val:Int) - 8)=dx_ r /\ sgn ((e.val:Int) - 8)=dy_ r))=decide (slK ((k.val:Nat):Int) ((d.val:Int) - 8) (-((e.val:Int) - 8))):=by decide +kernel
theorem qgW:∀ (k:Fin 16) (d e:Fin 17),(qAR ((k.val:Nat):Int)).any (fun r=>decide (qET ((d.val:Int) - 8) ((e.val:Int) - 8) /\ sgn ((d.val:Int) - 8) = -(dx_ r) /\ sgn ((e.val:Int) - 8) = -(dy_ r)))=decide (slK ((k.val:Nat):Int) ((d.val:Int) - 8) ((e.val:Int) - 8)):=by decide +kernel
theorem qgX (x:Int) {a c:Nat} (ha:a<81) (hc:c<81):qDT x (qAR (kd x)) a c=qAk x a c:=by
 obtain⟨k0,k1,_⟩:=qBx x
 have hr:=qTW (x:=x) ha hc
 have hl:=qLS a c
 unfold qAk qDT onW sg upS
 by_cases hs:sd x=1
 ·simp only[hs,if_true]
  have:=qgW ⟨(kd x).toNat,by omega⟩ ⟨(df a c+8).toNat,by omega⟩ ⟨(dr a c+8).toNat,by omega⟩
  simp only[show (((kd x).toNat:Nat):Int)=kd x by omega,show (((df a c+8).toNat:Nat):Int) - 8=df a c by omega,show (((dr a c+8).toNat:Nat):Int) - 8=dr a c by omega] at this
  rw[<- this]
  congr 1
  funext r
  rw[decide_eq_decide,hl]
  constructor<;>(rintro ⟨h1,h2,h3⟩;refine⟨h1,?_,?_⟩<;>omega)
 ·simp only[hs,if_false]
  have:=qgV ⟨(kd x).toNat,by omega⟩ ⟨(df a c+8).toNat,by omega⟩ ⟨(dr a c+8).toNat,by omega⟩
  simp only[show (((kd x).toNat:Nat):Int)=kd x by omega,show (((df a c+8).toNat:Nat):Int) - 8=df a c by omega,show (((dr a c+8).toNat:Nat):Int) - 8=dr a c by omega] at this
  rw[<- this]
  congr 1
  funext r
  rw[decide_eq_decide,hl]
  constructor<;>(rintro ⟨h1,h2,h3⟩;refine⟨h1,?_,?_⟩<;>omega)
theorem qL3 (x:Int) {a:Nat} (ha:a<81) (t:Nat->Bool):qFX x a (sLo t) (sHi t)=some (sLo (fun c=>rch x a c t),sHi fun c=>rch x a c t):=by
 obtain⟨hlen,hrs⟩:=qpM (kd x)
 obtain⟨g,hg⟩:=qh (qAR (kd x)).length (by omega)
 have:=qo6 (x:=x) ha t (qAR (kd x)) hlen hrs (qAR (kd x)).length 0 0 (qAR (kd x)).length 0 (by omega) (qAy x a) g
 rw[<- hg] at this
 unfold qFX
 rw[qtJ x ha,qA]
 simp only
 rw[qBW,qA,qQs,qA]
 simp only
 rw[show qFY qB x a (qAR (kd x)).length (Int.ofNat (qAR (kd x)).length) 0 (sLo t) (sHi t) 0 0 (sLo (qAy x a)) (sHi (qAy x a)) (qAR (kd x)).length (qAR (kd x))=_ from this,qA]
 simp only
 obtain⟨e1,e2⟩:=qB8 (f:=fun c=>qAy x a c||(qDT x (List.drop 0 (qAR (kd x))) a c&&qAm a c t)) (g:=fun c=>rch x a c t) fun c hc=>by
  rw[List.drop_zero,qgX x ha hc]
  rfl
 rw[e1,e2]
end Go.Kk.Pl
namespace Go.Kk.Pl
theorem qg8:∀ (a c:Fin 81),(btw a.val c.val).all (fun s=>(btw c.val a.val).contains s)=true:=by decide +kernel
theorem qI1 {a c:Nat} (ha:a<81) (hc:c<81) {s:Nat} (hs:s∈btw a c):s∈btw c a:=by
 have:=qg8 ⟨a,ha⟩ ⟨c,hc⟩
 rw[List.all_eq_true] at this
 simpa using this s hs
theorem qHP {a c:Nat} {t:Nat->Bool}:qAm a c t=true ↔ ∀ s∈btw a c,t s=false:=by simp[qAm]
theorem qj5 {a c:Nat} (ha:a<81) (hc:c<81) (t:Nat->Bool):qAm a c t=qAm c a t:=by
 rw[Bool.eq_iff_iff,qHP,qHP]
 exact⟨fun h s hs=>h s (qI1 hc ha hs),fun h s hs=>h s (qI1 ha hc hs)⟩
theorem qj6 {a c:Nat} (ha:a<81) (hc:c<81) {t t':Nat->Bool} (h:∀ s,s<81->t s=t' s):qAm a c t=qAm a c t':=by
 rw[Bool.eq_iff_iff,qHP,qHP]
 exact⟨fun hh s hs=>by rw[<- h s (qI2 ha hc hs)];exact hh s hs,fun hh s hs=>by rw[h s (qI2 ha hc hs)];exact hh s hs⟩
theorem qac {x:Int} {a c:Nat} (ha:a<81) (hc:c<81) {t t':Nat->Bool} (h:∀ s,s<81->t s=t' s):rch x a c t=rch x a c t':=by
 unfold rch;rw[qj6 ha hc h]
theorem qD8 {s k:Int} (hs:s=0 \/ s=1) (h1:1<=k) (h2:k<=15) (h3:k≠13):sd (pc s k)=s /\ kd (pc s k)=k:=by
 rw[qAw hs h1 h2 h3]
 have hk:=qHb hs h1 h2 h3
 refine⟨?_,hk⟩
 unfold sd
 rw[hk,if_neg (by omega)]
 rcases hs with rfl | rfl
 ·rw[if_pos (by omega)]
 ·rw[if_neg (by omega)]
theorem qtj (k d u:Int):qB9 k (-d) u↔qB9 k d u:=by
 unfold qB9
 exact or_congr (by omega) (or_congr (by omega) (or_congr (by omega) (or_congr (by omega) (or_congr (by omega) (or_congr (by omega) (by omega))))))
theorem qs2 (k d u:Int):slK k (-d) u↔slK k d u:=by
 unfold slK
 exact or_congr (by omega) (or_congr (by omega) (by omega))
theorem qpL {s k:Int} (hs:s=0 \/ s=1) (h1:1<=k) (h2:k<=15) (h3:k≠13) {a c:Nat} (ha:a<81) (hc:c<81) (t:Nat->Bool):
  rch (pc (1 - s) k) a c t=rch (pc s k) c a t:=by
 obtain⟨e1,e2⟩:=qD8 hs h1 h2 h3
 obtain⟨e3,e4⟩:=qD8 (s:=1 - s) (by omega) h1 h2 h3
 have hd:df a c = -df c a:=by unfold df;omega
 have hr:dr a c = -dr c a:=by unfold dr;omega
 have hu:upS (pc (1 - s) k) a c=upS (pc s k) c a:=by
  unfold upS
  rw[e1,e3]
  rcases hs with rfl | rfl
  ·rw[if_pos (by omega),if_neg (by omega)];exact hr
  ·rw[if_neg (by omega),if_pos (by omega),hr];omega
 unfold rch qAy qAk
 rw[e2,e4,hu,qj5 ha hc]
 have s1:decide (qB9 k (df a c) (upS (pc s k) c a))=decide (qB9 k (df c a) (upS (pc s k) c a)):=by
  rw[decide_eq_decide,hd];exact qtj _ _ _
 have s2:decide (slK k (df a c) (upS (pc s k) c a))=decide (slK k (df c a) (upS (pc s k) c a)):=by
  rw[decide_eq_decide,hd];exact qs2 _ _ _
 rw[s1,s2]
theorem qLr {x:Int} (h:kd x≠0):x=pc (sd x) (kd x):=by
 obtain⟨k0,k1,k2⟩:=qBx x
 have hs:=qIR h
 rw[qAw hs (by omega) k1 k2]
 have hr:=qJO h
 unfold sd kd at *
 rw[if_neg h]
 split at h
 ·omega
 ·rename_i hh
  rw[if_neg hh]
  split<;>omega
def onF (b:List Int) (q:Nat) (s:Int) (t:Nat->Bool) (i:Int) (c:Nat):Bool:=decide (sd (b.getD c 0)=s /\ i<=kd (b.getD c 0))&&rch (b.getD c 0) c q t
theorem qgj {b:List Int} (h:List Int) (S:Int) (sd':List (List Int)) {s:Int} (hs:s=0 \/ s=1) {q:Nat} (hq:q<81) (t:Nat->Bool) (u v:Int):∀ (n:Nat) (k:Int),k=16 - n->n<=15->∀ (f:Nat->Bool) (F:Nat),
  qEI (F+n+1) q s k b h S (qP b) sd' (sLo t) (sHi t) u v (sLo f) (sHi f)=some (b,h,S,qP b,sd',u,v,sLo fun c=>f c||onF b q s t k c,sHi fun c=>f c||onF b q s t k c):=by
 intro n
 induction n with
 | zero=>
   intro k hk _ f F
   show qG3 (qEI (F+0)) _ _ _ _ _ _ _ _ _ _ _ _ _ _=_
   unfold qG3
   rw[qKQ (by omega)]
   have:(fun c=>f c||onF b q s t k c)=f:=by
    funext c
    have:=(qBx (b.getD c 0)).2.1
    unfold onF
    rw[decide_eq_false (by omega)]
    simp
   rw[this]
 | succ n ih=>
   intro k hk hn f F
   show qG3 (qEI (F+n+1)) _ _ _ _ _ _ _ _ _ _ _ _ _ _=_
   unfold qG3
   rw[qKP (by omega),w_s (n:=1 - s) (by omega) (by omega),qLh,qA,w_s (n:=k+1) (by omega) (by omega)]
   by_cases h13:k=13
   ·have hz:pc (1 - s) k=0:=qQV (by omega)
    rw[ql hz]
    refine (ih (k+1) (by omega) (by omega) f F).trans ?_
    have:(fun c=>f c||onF b q s t (k+1) c)=fun c=>f c||onF b q s t k c:=by
     funext c
     have:=(qBx (b.getD c 0)).2.2
     unfold onF
     congr 2
     rw[decide_eq_decide]
     omega
    rw[this]
   ·have hp:=qAw (s:=1 - s) (k:=k) (by omega) (by omega) (by omega) h13
    rw[qk (by rw[hp];omega),qL3 _ hq,qA]
    simp only
    rw[qGS,qA]
    simp only
    rw[qEu,qA]
    simp only
    rw[qHw,qA]
    simp only
    refine (ih (k+1) (by omega) (by omega) _ F).trans ?_
    obtain⟨e1,e2⟩:=qB8 (f:=fun c=>(f c||(rch (pc (1 - s) k) q c t&&pcs b (pc s k) c))||onF b q s t (k+1) c) (g:=fun c=>f c||onF b q s t k c) fun c hc=>by
     rw[qpL hs (by omega) (by omega) h13 hq hc,Bool.or_assoc]
     congr 1
     obtain⟨g1,g2⟩:=qD8 hs (by omega) (by omega) h13
     have hne:pc s k≠0:=by rw[qAw hs (by omega) (by omega) h13];omega
     unfold onF pcs
     by_cases hx:b.getD c 0=pc s k
     ·rw[hx,g1,g2,decide_eq_true (show pc s k≠0 /\ pc s k=pc s k from ⟨hne,rfl⟩),decide_eq_false (by omega),decide_eq_true (by omega)]
      simp
     ·rw[decide_eq_false (p:=pc s k≠0 /\ b.getD c 0=pc s k) (by omega),Bool.and_false,Bool.false_or]
      congr 1
      rw[decide_eq_decide]
      constructor
      ·rintro ⟨h1,h2⟩;exact⟨h1,by omega⟩
      ·rintro ⟨h1,h2⟩
       refine⟨h1,?_⟩
       rcases Int.lt_or_eq_of_le h2 with h3 | h3
       ·omega
       ·exfalso
        apply hx
        have hk0:kd (b.getD c 0)≠0:=by omega
        have:=qLr hk0
        rw[h1,<- h3] at this
        exact this
    rw[e1,e2]
def onS (b:List Int) (q s:Int) (t:Nat->Bool) (c:Nat):Bool:=decide (0<=q /\ q<81)&&(decide (s=0 \/ s=1)&&(decide (sd (b.getD c 0)=s)&&rch (b.getD c 0) c q.toNat t))
theorem qnv (b:List Int) {s:Int} (hs:s=0 \/ s=1) (q:Nat) (hq:q<81) (t:Nat->Bool):onF b q s t 1=onS b q s t:=by
 funext c
 unfold onF onS
 rw[decide_eq_true (show (0:Int)<=q /\ (q:Int)<81 by omega),decide_eq_true hs,Bool.true_and,Bool.true_and]
 congr 1
 rw[decide_eq_decide]
 constructor
 ·exact fun h=>h.1
 ·intro h
  refine⟨h,?_⟩
  have:=(qBx (b.getD c 0)).1
  rcases Int.lt_or_eq_of_le this with h1 | h1
  ·omega
  ·rw[qdJ h1.symm] at h;omega
theorem qZS (b h:List Int) (S:Int) (sd':List (List Int)) (q s:Int) (t:Nat->Bool):qG2 q s (sLo t) (sHi t) b h S (qP b) sd'=some (sLo (onS b q s t),sHi (onS b q s t)):=by
 have none:¬ ((0<=q /\ q<81) /\ (s=0 \/ s=1))->onS b q s t=fun _=>false:=by
  intro hn
  funext c
  unfold onS
  by_cases h1:0<=q /\ q<81
  ·rw[decide_eq_false (p:=s=0 \/ s=1) (fun h2=>hn ⟨h1,h2⟩)];simp
  ·rw[decide_eq_false h1];simp
 unfold qG2
 by_cases h0:q<0
 ·rw[qe h0,none (by omega),qBn,qBm]
 rw[qW h0]
 by_cases h1:q >= 81
 ·rw[qCB h1,none (by omega),qBn,qBm]
 rw[qBc h1]
 obtain⟨a,rfl⟩:∃ a:Nat,q=a:=⟨q.toNat,by omega⟩
 obtain⟨g,hg⟩:=qh 15 (by omega)
 have main:(s=0 \/ s=1)->qEI qB a s 1 b h S (qP b) sd' (sLo t) (sHi t) 0 0 0 0=some (b,h,S,qP b,sd',0,0,sLo (onS b a s t),sHi (onS b a s t)):=by
  intro hs
  have:=qgj (b:=b) h S sd' hs (q:=a) (by omega) t 0 0 15 1 (by omega) (by omega) (fun _=>false) g
  rw[<- hg,qBn,qBm] at this
  rw[this,qnv b hs a (by omega)]
  simp only[Bool.false_or]
 by_cases h2:s=0
 ·rw[qr h2,main (.inl h2),qA]
 ·rw[qp h2]
  by_cases h3:s=1
  ·rw[qr h3,main (.inr h3),qA]
  ·rw[qp h3,none (by omega),qBn,qBm]
def kg (b:List Int) (s:Int):Int:=fst (pcs b (pc s 8))
def chs (b:List Int) (s:Int):Nat->Bool:=onS b (kg b s) (1 - s) (tk b)
def inC (b:List Int) (s:Int):Bool:=!isE (chs b s)
theorem qWV (f:Nat->Bool):-1<=fst f /\ fst f<81:=by
 unfold fst
 split
 ·rename_i i hi
  have:=List.mem_of_find?_eq_some hi
  rw[List.mem_range] at this
  omega
 ·omega
theorem qOL {b:List Int} (hc:Clean b) (h:List Int) (S:Int) {s:Int} (hs:-10<=s /\ s<=10):qF2 s b h S (qP b) (qS b)=some (sLo (chs b s),sHi (chs b s)):=by
 unfold qF2
 rw[qPO,qA,qJ7 hc,qA]
 simp only
 rw[w_s (by omega) (by omega),qZS,qA]
 rfl
theorem qkj {b:List Int} (hc:Clean b) (h:List Int) (S:Int) {s:Int} (hs:-10<=s /\ s<=10):qIv s b h S (qP b) (qS b)=some (inC b s):=by
 unfold qIv
 rw[qOL hc h S hs,qA]
 simp only
 rw[qJE,qA]
 rfl
theorem qI9 {b h:List Int} {s:Int} (hl:b.length=81) (hz:qAt b h s=0):Clean b /\ (s=0 \/ s=1):=by
 unfold qAt at hz
 split at hz
 ·omega
 ·rename_i hs
  split at hz
  ·omega
  ·rename_i hb
   exact⟨qUC hl (by simpa using hb),by omega⟩
def qCi (b h:List Int) (s:Int):Int:=if qAt b h s≠0 then qAt b h s else if inC b (1 - s) then 54 else 0
theorem qgk {b h:List Int} (hl:b.length=81) (hf:qAZ h) (s:Int):qIu b h s=some (qCi b h s):=by
 unfold qIu qCi
 rw[qic hl hf,qA]
 by_cases hz:qAt b h s=0
 ·obtain⟨hc,hs⟩:=qI9 hl hz
  rw[qr hz,if_neg (by simpa using hz),qQI hl,qA,qOQ hc]
  simp only
  rw[w_s (by omega) (by omega),qkj hc h s (by omega),qA]
  cases inC b (1 - s)<;>rfl
 ·rw[qp hz,if_pos hz]
def tkL (b:List Int) (i:Nat):List Bool:=(List.range 81).map fun j=>decide (j<i)&&tk b j
theorem quI (b h:List Int) (s:Int) (w:List Bool):∀ (n i:Nat),i+n=81->∀ F,qEd (F+n+1) i b h s w (tkL b i)=some (w,tkL b 81):=by
 intro n
 induction n with
 | zero=>
   intro i hi F
   show qID (qEd (F+0)) _ _ _ _ _ _=_
   unfold qID
   rw[qW (by omega),show i=81 by omega]
 | succ n ih=>
   intro i hi F
   show qID (qEd (F+n+1)) _ _ _ _ _ _=_
   unfold qID
   have e:List.set (tkL b i) i (b.getD i 0 != 0)=tkL b (i+1):=by
    unfold tkL
    rw[map_set]
    apply List.map_congr_left
    intro j _
    split
    ·rename_i hj;subst hj
     rw[decide_eq_true (show j<j+1 by omega),Bool.true_and]
     unfold tk
     rw[Bool.eq_iff_iff];simp
    ·rename_i hj
     congr 1
     rw[decide_eq_decide];omega
   rw[qe (by omega),qc (by omega) (by omega),qc (by omega) (by omega),tn,e,w_s (by omega) (by omega)]
   exact ih (i+1) (by omega) F
theorem quK (b:List Int):tkL b 0=List.replicate 81 false:=by
 unfold tkL
 apply List.ext_getElem
 ·simp
 ·intro i h1 h2
  rw[List.getElem_map,List.getElem_replicate,decide_eq_false (by omega),Bool.false_and]
def qDP (b:List Int):List Bool:=tkL b 81
theorem qTP (b h:List Int) (s:Int):qEc b h s=some (qDP b):=by
 obtain⟨g,hg⟩:=qh 81 (by omega)
 have:=quI b h s (List.replicate 81 false) 81 0 (by omega) g
 rw[<- hg,quK] at this
 unfold qEc
 show ob (qEd qB 0 b h s (List.replicate 81 false) (List.replicate 81 false)) _=_
 rw[show qEd qB 0 b h s (List.replicate 81 false) (List.replicate 81 false)=_ from this,qA]
 rfl
theorem quH (b:List Int) {i:Nat} (h:i<81):(qDP b).getD i false=tk b i:=by
 unfold qDP tkL
 rw[qHr _ h,decide_eq_true h,Bool.true_and]
theorem qQt (b:List Int) (x:Int) {a c:Nat} (ha:a<81) (hc:c<81):qFd x a c (qDP b)=some (rch x a c (tk b)):=by
 rw[qpO x ha hc,qac ha hc fun s hs=>quH b hs]
theorem qri (b h:List Int) (S:Int) {s:Int} (hs:s=0 \/ s=1):∀ (n i:Nat),i+n=81->(∀ j,j<i->pcs b (pc s 8) j=false)->∀ F,qFh (F+n+1) s i b h S=some (if kg b s = -1 then .inr () else .inl (kg b s)):=by
 have hp:pc s 8=16*s+8:=qAw hs (by omega) (by omega) (by omega)
 intro n
 induction n with
 | zero=>
   intro i hi hj F
   show qIF (qFh (F+0)) _ _ _ _ _=_
   unfold qIF
   have:kg b s = -1:=qWU fun j hj'=>hj j (by omega)
   rw[qW (by omega),if_pos this]
 | succ n ih=>
   intro i hi hj F
   show qIF (qFh (F+n+1)) _ _ _ _ _=_
   unfold qIF
   rw[qe (by omega),qc (by omega) (by omega),tn,c_8,w_s (n:=16*s) (by omega) (by omega),w_s (n:=16*s+8) (by omega) (by omega),w_s (by omega) (by omega),<- hp]
   by_cases hx:b.getD i 0=pc s 8
   ·have hk:pcs b (pc s 8) i=true:=by unfold pcs;rw[decide_eq_true];exact⟨by rw[hp];omega,hx⟩
    have:kg b s=i:=qKy (by omega) hk hj
    rw[ql hx,this,if_neg (by omega)]
   ·rw[qk hx]
    refine ih (i+1) (by omega) (fun j hj'=>?_) F
    by_cases hji:j=i
    ·subst hji;unfold pcs;rw[decide_eq_false];exact fun hh=>hx hh.2
    ·exact hj j (by omega)
theorem qrj (b h:List Int) (S:Int) {s:Int} (hs:s=0 \/ s=1):qJj b h S s=some (kg b s):=by
 obtain⟨g,hg⟩:=qh 81 (by omega)
 have:=qri b h S hs 81 0 (by omega) (fun j hj=>absurd hj (by omega)) g
 rw[<- hg] at this
 unfold qJj
 rw[show qFh qB s 0 b h S=_ from this,qA]
 split
 ·rename_i hk;rw[hk];rfl
 ·rfl
theorem qre (b h:List Int) (S s:Int) (hs:s=0 \/ s=1) (k:Nat) (hk:k<81):∀ (n i:Nat),i+n=81->∀ F,
  qFg (F+n+1) s k i b h S (qDP b)=some (if (List.range' i n).any (onS b k (1 - s) (tk b)) then .inl true else .inr ()):=by
 intro n
 induction n with
 | zero=>
   intro i hi F
   show qIE (qFg (F+0)) _ _ _ _ _ _ _=_
   unfold qIE
   rw[qW (by omega)]
   rfl
 | succ n ih=>
   intro i hi F
   show qIE (qFg (F+n+1)) _ _ _ _ _ _ _=_
   unfold qIE
   have hr:=ih (i+1) (by omega) F
   rw[qe (by omega),qc (by omega) (by omega),tn,c_8,qEf,qA,w_s (n:=1 - s) (by omega) (by omega),w_s (by omega) (by omega),any_cons]
   have hon:onS b k (1 - s) (tk b) i=(decide (sd (b.getD i 0)=1 - s)&&rch (b.getD i 0) i k (tk b)):=by
    unfold onS
    rw[decide_eq_true (show (0:Int)<=k /\ (k:Int)<81 by omega),decide_eq_true (show 1 - s=0 \/ 1 - s=1 by omega),Bool.true_and,Bool.true_and,tn]
   rw[hon]
   by_cases hsd:sd (b.getD i 0)=1 - s
   ·rw[ql hsd,qc (by omega) (by omega),qQt b _ (by omega) hk,qA,decide_eq_true hsd,Bool.true_and]
    cases rch (b.getD i 0) i k (tk b) with
    | true=>rfl
    | false=>rw[b_f,Bool.false_or];exact hr
   ·rw[qk hsd,decide_eq_false hsd,Bool.false_and,Bool.false_or]
    exact hr
theorem qgY (f:Nat->Bool):(List.range' 0 81).any f = !isE f:=by
 unfold isE
 rw[qaH,Bool.eq_iff_iff]
 simp only[List.any_eq_true,Bool.not_eq_true']
 rw[List.all_eq_false]
 simp
theorem qSB (b h:List Int) (S:Int) {s:Int} (hs:s=0 \/ s=1):qGb b h S s=some (inC b s):=by
 unfold qGb
 rw[qTP,qA,qrj b h S hs,qA]
 have hr:=qWV (pcs b (pc s 8))
 have hkg:kg b s=fst (pcs b (pc s 8)):=rfl
 by_cases hk:kg b s<0
 ·rw[qe hk]
  have:chs b s=fun _=>false:=by
   funext c
   unfold chs onS
   rw[decide_eq_false (by omega),Bool.false_and]
  unfold inC
  rw[this,qko]
  rfl
 ·obtain⟨k,hkk⟩:∃ k:Nat,kg b s=k:=⟨(kg b s).toNat,by omega⟩
  obtain⟨g,hg⟩:=qh 81 (by omega)
  have:=qre b h S s hs k (by omega) 81 0 (by omega) g
  rw[<- hg,qgY,<- hkk] at this
  rw[qW hk,show qFg qB s (kg b s) 0 b h S (qDP b)=_ from this,qA]
  unfold inC chs
  cases isE (onS b (kg b s) (1 - s) (tk b))<;>rfl
theorem qo4 {b h:List Int} (hl:b.length=81) (hf:qAZ h) (s:Int):qJi b h s=some (qCi b h s):=by
 unfold qJi qCi
 rw[qc2 hl hf,qA]
 by_cases hz:qAt b h s=0
 ·obtain⟨hc,hs⟩:=qI9 hl hz
  rw[qr hz,if_neg (by simpa using hz),w_s (by omega) (by omega),qSB b h s (by omega),qA]
  cases inC b (1 - s)<;>rfl
 ·rw[qp hz,if_pos hz]
def ofL (L:List Int) (c:Nat):Bool:=L.any fun q=>only q c
theorem qnL (L:List Int) (hl:L.length<=1000) (N:Nat) (u v:Int):∀ (n i:Nat),i+n=L.length->∀ (f:Nat->Bool) (F:Nat),
  qFr (F+n+1) L.length L.length i N L u v (sLo f) (sHi f)=some (N,L,u,v,sLo fun c=>f c||ofL (L.drop i) c,sHi fun c=>f c||ofL (L.drop i) c):=by
 intro n
 induction n with
 | zero=>
   intro i hi f F
   show qIY (qFr (F+0)) _ _ _ _ _ _ _ _ _=_
   unfold qIY
   rw[qW (by omega),List.drop_eq_nil_of_le (by omega)]
   have:(fun c=>f c||ofL [] c)=f:=by funext c;simp[ofL]
   rw[this]
 | succ n ih=>
   intro i hi f F
   show qIY (qFr (F+n+1)) _ _ _ _ _ _ _ _ _=_
   unfold qIY
   have hil:i<L.length:=by omega
   have hget:L.getD i 0=L[i]:=qF1 hil
   rw[qe (by omega),qc (by omega) (by omega),tn,hget,qGx,qA]
   simp only
   rw[w_s (by omega) (by omega)]
   refine (ih (i+1) (by omega) _ F).trans ?_
   have hd:L.drop i=L[i] :: L.drop (i+1):=List.drop_eq_getElem_cons hil
   have:(fun c=>(f c||only L[i] c)||ofL (L.drop (i+1)) c)=fun c=>f c||ofL (L.drop i) c:=by
    funext c
    rw[hd]
    unfold ofL
    rw[List.any_cons,Bool.or_assoc]
   rw[this]
theorem qnM (L:List Int) (hl:L.length<=1000) (N:Nat):qIX L.length N L=some (sLo (ofL L),sHi (ofL L)):=by
 obtain⟨g,hg⟩:=qh L.length (by omega)
 have:=qnL L hl N 0 0 L.length 0 (by omega) (fun _=>false) g
 rw[<- hg,qBn,qBm] at this
 unfold qIX
 rw[show qFr qB L.length (Int.ofNat L.length) 0 N L 0 0 0 0=_ from this,qA]
 simp only[Bool.false_or,List.drop_zero]
theorem qEl (f:Nat->Bool):(sq f).length<=81:=by
 unfold sq;rw[List.length_map];exact Nat.le_trans (List.length_filter_le _ _) (by simp)
end Go.Kk.Pl
namespace Go.Kk.Pl
theorem qGq {f:Nat->Bool} {q:Int} (h:q∈sq f):0<=q /\ q<81 /\ f q.toNat=true:=by
 unfold sq at h
 obtain⟨j,hj,rfl⟩:=List.mem_map.1 h
 obtain⟨h1,h2⟩:=List.mem_filter.1 hj
 rw[List.mem_range] at h1
 refine⟨by simp,by simp only[Int.ofNat_eq_natCast];omega,by simpa using h2⟩
theorem qYn {f:Nat->Bool} {q:Nat} (hq:q<81) (h:f q=true):(q:Int)∈sq f:=by
 unfold sq
 exact List.mem_map.2 ⟨q,List.mem_filter.2 ⟨by simpa using hq,h⟩,rfl⟩
end Go.Kk.Pl
namespace Go.Kk.Pl
theorem qfk (t:Nat->Bool) {c:Nat} (ht:t c=true) {i:Nat}:∀ (P Q:List Nat),(∀ s∈P,t s=false)->qAT t (P++c :: Q) i=(P.contains i||decide (i=c))
 | [],Q,_=>by
   show (decide (i=c)||(!t c&&qAT t Q i))=_
   rw[ht];simp
 | s :: P,Q,h=>by
   show (decide (i=s)||(!t s&&qAT t (P++c :: Q) i))=_
   rw[h s List.mem_cons_self,Bool.not_false,Bool.true_and,qfk t ht P Q (fun s hs=>h s (List.mem_cons_of_mem _ hs)),List.contains_cons,Bool.or_assoc]
   congr 1
theorem qnx {dx dy:Int} {a c:Nat} (ha:a<81) (hc:c<81) (h:onW dx dy a c=true) (i:Nat):(qAT (only c) (qBD dx dy a) i && !only c i)=(btw a c).contains i:=by
 obtain⟨hl,rfl,rfl⟩:=of_decide_eq_true h
 have:=qKg ⟨a,ha⟩ ⟨c,hc⟩
 simp only[qI7,Bool.or_eq_true,decide_eq_true_eq,Bool.and_eq_true,beq_iff_eq,Bool.not_eq_true'] at this
 obtain⟨e1,e2,e3⟩:=this.resolve_left hl
 have hsp:qBD (sgn (df a c)) (sgn (dr a c)) a=btw a c++c :: (qBD (sgn (df a c)) (sgn (dr a c)) a).drop ((btw a c).length+1):=by
  have:=qMr e2
  rw[e1] at this
  exact this
 have hn:c ∉ btw a c:=by simpa using e3
 rw[hsp,qfk (only c) (by unfold only;simp) _ _ (fun s hs=>by
  unfold only
  rw[decide_eq_false_iff_not]
  intro e
  have:s=c:=by omega
  exact hn (this ▸ hs))]
 unfold only
 by_cases hi:i=c
 ·subst hi
  rw[e3];simp
 ·rw[decide_eq_false hi,decide_eq_false (p:=(i:Int)=c) (by omega)];simp
theorem qny {dx dy:Int} (h1:-1<=dx) (h2:dx<=1) (h3:-1<=dy) (h4:dy<=1) (hne:¬ (dx=0 /\ dy=0)) {a c:Nat} (ha:a<81) (hc:c<81):qAT (only c) (qBD dx dy a) c=onW dx dy a c:=by
 rw[qfm h1 h2 h3 h4 hne ha hc]
 cases h:onW dx dy a c with
 | false=>rfl
 | true=>
   rw[Bool.true_and,qHP]
   intro s hs
   unfold only
   rw[decide_eq_false_iff_not]
   intro e
   have hsc:s=c:=by omega
   obtain⟨hl,_,_⟩:=of_decide_eq_true h
   have:=qKg ⟨a,ha⟩ ⟨c,hc⟩
   simp only[qI7,Bool.or_eq_true,decide_eq_true_eq,Bool.and_eq_true,beq_iff_eq,Bool.not_eq_true'] at this
   have:=(this.resolve_left hl).2.2
   rw[<- hsc] at this
   have h2:(btw a s).contains s=true:=List.contains_iff_mem.mpr (hsc ▸ hs)
   rw[this] at h2
   cases h2
def qAl:List (List Int):=[[-1,-1],[1,-1],[-1,1],[1,1],[0,-1],[-1,0],[1,0],[0,1]]
theorem qgN {a c:Nat}:(qAl.any fun r=>onW (dx_ r) (dy_ r) a c)=decide (qy a c≠0):=by
 unfold qAl onW dx_ dy_
 by_cases h:qy a c=0
 ·simp[h]
 ·have hl:=(qLS a c).mp h
  have hx:sgn (df a c) = -1 \/ sgn (df a c)=0 \/ sgn (df a c)=1:=by unfold sgn;split<;>(try split)<;>omega
  have hy:sgn (dr a c) = -1 \/ sgn (dr a c)=0 \/ sgn (dr a c)=1:=by unfold sgn;split<;>(try split)<;>omega
  have hn:¬ (sgn (df a c)=0 /\ sgn (dr a c)=0):=by
   unfold qET at hl
   unfold sgn
   split<;>split<;>(try split)<;>(try split)<;>omega
  rcases hx with hx | hx | hx<;>rcases hy with hy | hy | hy<;>simp[hx,hy,h] at hn ⊢
theorem qhE {a c:Nat} (ha:a<81) (hc:c<81) (N:Nat):∀ (n i:Nat),i+n=8->∀ F,
  qFW (F+n+1) a c 8 8 i 0 0 N qAl=some (if (qAl.drop i).any (fun r=>onW (dx_ r) (dy_ r) a c) then .inl (sLo (fun i=>(btw a c).contains i),sHi (fun i=>(btw a c).contains i)) else .inr (0,0)):=by
 intro n
 induction n with
 | zero=>
   intro i hi F
   show qH3 (qFW (F+0)) _ _ _ _ _ _ _ _ _=_
   unfold qH3
   rw[qW (by omega),List.drop_eq_nil_of_le (by show 8<=i;omega)]
   rfl
 | succ n ih=>
   intro i hi F
   show qH3 (qFW (F+n+1)) _ _ _ _ _ _ _ _ _=_
   unfold qH3
   obtain⟨r,hget,hdr,e1,e2,g1,g2,g3,g4,g5⟩:∃ r,qAl.getD i []=r /\ qAl.drop i=r :: qAl.drop (i+1) /\ List.headD (List.take 2 r) 0=dx_ r /\ List.headD (List.tail (List.take 2 r)) 0=dy_ r /\ -1<=dx_ r /\ dx_ r<=1 /\ -1<=dy_ r /\ dy_ r<=1 /\ ¬ (dx_ r=0 /\ dy_ r=0):=by
    have:∀ j:Fin 8,qAl.drop j.val=qAl.getD j.val [] :: qAl.drop (j.val+1) /\ List.headD (List.take 2 (qAl.getD j.val [])) 0=dx_ (qAl.getD j.val []) /\ List.headD (List.tail (List.take 2 (qAl.getD j.val []))) 0=dy_ (qAl.getD j.val []) /\ -1<=dx_ (qAl.getD j.val []) /\ dx_ (qAl.getD j.val [])<=1 /\ -1<=dy_ (qAl.getD j.val []) /\ dy_ (qAl.getD j.val [])<=1 /\ ¬ (dx_ (qAl.getD j.val [])=0 /\ dy_ (qAl.getD j.val [])=0):=by decide
    exact⟨_,rfl,this ⟨i,by omega⟩⟩
   have ho:ofL [(c:Int)]=only c:=by
    funext j;unfold ofL;simp
   have hof:qIX 1 1 [(c:Int)]=some (sLo (only c),sHi (only c)):=by
    have:=qnM [(c:Int)] (by simp) 1
    rw[ho] at this
    exact this
   have hh:∀ g:Nat->Bool,has g (c:Int)=g c:=by
    intro g;unfold has;rw[decide_eq_true (by omega),decide_eq_true (by omega),tn];rfl
   rw[qe (by omega),qc (by omega) (by omega),tn,hget,e1,e2,hof,qA]
   simp only
   rw[qf4 g1 g2 g3 g4 g5 ha,qA]
   simp only
   rw[qEQ,qA,hh,qny g1 g2 g3 g4 g5 ha hc,hdr,List.any_cons]
   cases hon:onW (dx_ r) (dy_ r) a c with
   | true=>
     rw[b_t,qKG,qA,Bool.true_or,if_pos rfl]
     have:(fun i=>qAT (only c) (qBD (dx_ r) (dy_ r) a) i && !only c i)=fun i=>(btw a c).contains i:=by
      funext j;exact qnx ha hc hon j
     rw[this]
   | false=>
     rw[b_f,Bool.false_or,w_s (n:=(i:Int)+1) (by omega) (by omega)]
     exact ih (i+1) (by omega) F
theorem qaJ {a c:Nat} (ha:a<81) (hc:c<81):qH2 a c=some (sLo (fun i=>(btw a c).contains i),sHi (fun i=>(btw a c).contains i)):=by
 unfold qH2
 rw[qQs,qA]
 simp only
 rw[qQs,qA]
 simp only
 obtain⟨g,hg⟩:=qh 8 (by omega)
 have:=qhE ha hc ((qAR 6).length+(qAR 7).length) 8 0 (by omega) g
 rw[<- hg,List.drop_zero,qgN] at this
 have e8:(qAR 6).length+(qAR 7).length=8:=by decide
 have eL:List.append (List.take (qAR 6).length (qAR 6)) (List.take (qAR 7).length (qAR 7))=qAl:=by decide
 rw[eL,e8] at *
 rw[qG (by decide),show qFW qB a c 8 (Int.ofNat 8) 0 0 0 8 qAl=_ from this,qA]
 by_cases h:qy a c=0
 ·rw[decide_eq_false (p:=qy a c≠0) (by simpa using h),if_neg (by simp),qAz]
  have:btw a c=[]:=by unfold btw;rw[if_pos h]
  rw[this]
  simp only[List.contains_nil]
  rw[qBn,qBm]
 ·rw[decide_eq_true (p:=qy a c≠0) h,if_pos rfl,qfc]
end Go.Kk.Pl
namespace Go.Kk.Pl
theorem qR7 (k:Int):qEb k=some (up_ k):=by
 unfold qEb up_
 by_cases h1:k >= 1
 ·rw[qCB h1]
  by_cases h7:k<=7
  ·rw[qKP h7]
   by_cases h5:k=5
   ·rw[qr h5];simp[h5]
   ·rw[qp h5,w_s (by omega) (by omega),if_pos (by omega)]
  ·rw[qKQ h7,if_neg (by omega)]
 ·rw[qBc h1,if_neg (by omega)]
def qAg (s q:Int):Int:=if 0<=q /\ q<81 then qCr s q.toNat else -1
theorem qR6 {s:Int} (hs:s = -1 \/ s=0 \/ s=1) (q:Int):qDK s q=some (qAg s q):=by
 unfold qAg
 by_cases h:0<=q /\ q<81
 ·rw[if_pos h]
  have:=qc4 hs (q:=q.toNat) (by omega)
  rwa [show ((q.toNat:Nat):Int)=q by omega] at this
 ·rw[if_neg h]
  unfold qDK
  by_cases h0:q<0
  ·rw[qe h0]
  ·rw[qW h0,qBS (by omega)]
theorem qtH {s:Int} (hs:s = -1 \/ s=0 \/ s=1) (q:Int):qFw s q=some (qAg s q):=by
 unfold qAg
 by_cases h:0<=q /\ q<81
 ·rw[if_pos h]
  have:=qeT hs (q:=q.toNat) (by omega)
  rwa [show ((q.toNat:Nat):Int)=q by omega] at this
 ·rw[if_neg h]
  unfold qFw
  by_cases h0:q<0
  ·rw[qe h0]
  ·rw[qW h0,qCB (by omega)]
def qDc (x q:Int):Bool:=decide (((kd x=1 \/ kd x=2) /\ qAg (sd x) q=0) \/ (kd x=3 /\ (qAg (sd x) q=0 \/ qAg (sd x) q=1)))
theorem qOW (x:Int) {q:Nat} (hq:q<81):qDc x q=qA1 x q:=by
 unfold qDc qA1 qAg
 rw[if_pos (by omega),tn]
theorem qeQ (x q:Int):qEC x q=some (qDc x q):=by
 unfold qEC
 rw[qDM,qA,qtH (qGh x),qA,qBW,qA]
 unfold qDc
 generalize kd x=k
 generalize qAg (sd x) q=n
 simp only[qI0,beq_iff_eq]
 repeat' split
 all_goals first
  | (rw[Option.some.injEq,Bool.eq_iff_iff];simp;omega)
  | (simp;omega)
theorem qc3 (x q:Int):qDJ x q=some (qDc x q):=by
 unfold qDJ
 rw[qEf,qA,qR6 (qGh x),qA,qB6,qA]
 unfold qDc
 generalize kd x=k
 generalize qAg (sd x) q=n
 simp only[qI0,beq_iff_eq]
 repeat' split
 all_goals first
  | (rw[Option.some.injEq,Bool.eq_iff_iff];simp;omega)
  | (simp;omega)
def qIn (s:Int) (i:Nat):Bool:=decide (0<=qCr s i /\ qCr s i<=2)
theorem qTd:∀ s:Fin 3,qJ3 ((s.val:Int) - 1)=some (sLo (qIn ((s.val:Int) - 1)),sHi (qIn ((s.val:Int) - 1))):=by decide +kernel
theorem qux (x:Int):qJ3 (sd x)=some (sLo (qIn (sd x)),sHi (qIn (sd x))):=by
 rcases qGh x with h | h | h<;>rw[h]
 ·exact qTd 0
 ·exact qTd 1
 ·exact qTd 2
def inZ (s q:Int):Bool:=decide (0<=qAg s q /\ qAg s q<=2)
theorem qWw (s q:Int):has (qIn s) q=inZ s q:=by
 unfold has inZ qAg qIn
 by_cases h:0<=q /\ q<81
 ·rw[if_pos h,decide_eq_true h.1,decide_eq_true h.2,Bool.true_and,Bool.true_and]
 ·rw[if_neg h]
  by_cases h0:0<=q
  ·rw[decide_eq_false (p:=q<81) (by omega)];simp
  ·rw[decide_eq_false h0];simp
def qCx (x f t:Int):Bool:=decide (up_ (kd x)≠0)&&(inZ (sd x) f||inZ (sd x) t)
def qDF (x t:Int):Bool:=decide (up_ (kd x)≠0)&&qDc x t
theorem qor (x f t:Int):qJM x f t=some (qCx x f t,qDF x t):=by
 unfold qJM qCx qDF
 rw[qBW,qA,qKD,qA]
 by_cases hu:up_ (kd x)=0
 ·rw[ql hu,decide_eq_false (by simpa using hu)];rfl
 ·rw[qk hu,qDM,qA,qux,qA]
  simp only
  rw[qEQ,qA,qWw,decide_eq_true hu]
  cases inZ (sd x) f with
  | true=>rw[b_t,qeQ,qA];rfl
  | false=>rw[b_f,qEQ,qA,qWw,qeQ,qA];rfl
theorem qrY (x f t:Int):qJm x f t=some (qCx x f t):=by
 unfold qJm qCx
 rw[qB6,qA,qR7,qA]
 by_cases hu:up_ (kd x)=0
 ·rw[ql hu,decide_eq_false (by simpa using hu)];rfl
 ·rw[qk hu,qEf,qA,qR6 (qGh x),qA,qA,qR6 (qGh x),qA,decide_eq_true hu,Bool.true_and]
  unfold inZ
  by_cases h1:qAg (sd x) f >= 0
  ·rw[qCB h1]
   by_cases h2:qAg (sd x) f<=2
   ·rw[qKP h2,decide_eq_true (p:=0<=qAg (sd x) f /\ qAg (sd x) f<=2) (by omega)];rfl
   ·rw[qKQ h2,decide_eq_false (p:=0<=qAg (sd x) f /\ qAg (sd x) f<=2) (by omega),Bool.false_or]
    by_cases h3:qAg (sd x) t >= 0
    ·rw[qCB h3];congr 1;rw[decide_eq_decide];omega
    ·rw[qBc h3,decide_eq_false (by omega)]
  ·rw[qBc h1,decide_eq_false (p:=0<=qAg (sd x) f /\ qAg (sd x) f<=2) (by omega),Bool.false_or]
   by_cases h3:qAg (sd x) t >= 0
   ·rw[qCB h3];congr 1;rw[decide_eq_decide];omega
   ·rw[qBc h3,decide_eq_false (by omega)]
theorem qrZ (x t:Int):qJn x t=some (qDF x t):=by
 unfold qJn qDF
 rw[qB6,qA,qR7,qA]
 by_cases hu:up_ (kd x)=0
 ·rw[qr hu,decide_eq_false (by simpa using hu)];rfl
 ·rw[qp hu,qc3,qA,decide_eq_true hu];rfl
def qCT (f t d:Int) (p:Bool):Int:=if ¬ (0<=t /\ t<81) then 1 else if d≠0 then (if 1<=d /\ d<=7 /\ f=0 /\ p=false then 0 else 70) else if ¬ (0<=f /\ f<81) then 1 else if f=t then 70 else 0
theorem qrX (f t d:Int) (p:Bool):qJh f t d p=some (qCT f t d p):=by
 unfold qJh qCT
 by_cases h1:t<0
 ·rw[qe h1,if_pos (by omega)]
 rw[qW h1]
 by_cases h2:t>80
 ·rw[qBS h2,if_pos (by omega)]
 rw[qBT h2,if_neg (by omega)]
 by_cases hd:d=0
 ·rw[qr hd,if_neg (by simpa using hd)]
  by_cases h3:f<0
  ·rw[qe h3,if_pos (by omega)]
  rw[qW h3]
  by_cases h4:f>80
  ·rw[qBS h4,if_pos (by omega)]
  rw[qBT h4,if_neg (by omega)]
  by_cases h5:f=t
  ·rw[ql h5,if_pos h5]
  ·rw[qk h5,if_neg h5]
 ·rw[qp hd,if_pos hd]
  by_cases h3:d<1
  ·rw[qe h3,if_neg (by omega)]
  rw[qW h3]
  by_cases h4:d>7
  ·rw[qBS h4,if_neg (by omega)]
  rw[qBT h4]
  by_cases h5:f=0
  ·rw[qr h5]
   cases p with
   | true=>rw[b_t,if_neg (by simp)]
   | false=>rw[b_f,if_pos ⟨by omega,by omega,h5,rfl⟩]
  ·rw[qp h5,if_neg (by omega)]
def qBv (b h:List Int) (s f t d:Int) (p:Bool):Bool:=decide (qCT f t d p=0)&&(decide (s=0 \/ s=1) &&
 if d≠0 then decide (0<hd_ h s d)&&decide (at_ b t=0)
 else decide (sd (at_ b f)=s /\ sd (at_ b t)≠s /\ kd (at_ b t)≠8)&&(!p||decide (up_ (kd (at_ b f))≠0)))
theorem qI8 {f t d:Int} {p:Bool} (h:qCT f t d p=0):(0<=t /\ t<81) /\ (d≠0->1<=d /\ d<=7 /\ f=0 /\ p=false) /\ (d=0->(0<=f /\ f<81) /\ f≠t):=by
 unfold qCT at h
 split at h
 ·omega
 ·rename_i ht
  split at h
  ·rename_i hd
   split at h
   ·rename_i h2;exact⟨by omega,fun _=>h2,fun h3=>absurd h3 hd⟩
   ·omega
  ·rename_i hd
   split at h
   ·omega
   ·split at h
    ·omega
    ·exact⟨by omega,fun h3=>absurd h3 hd,fun _=>⟨by omega,by omega⟩⟩
theorem qAa {b:List Int} {q:Int} (h:0<=q /\ q<81):at_ b q=b.getD q.toNat 0:=by unfold at_;rw[if_pos h]
theorem qrS (b h:List Int) (s f t d:Int) (p:Bool):qJk b h s f t d p=some (qBv b h s f t d p):=by
 unfold qJk qBv
 rw[qrX,qA]
 by_cases hm:qCT f t d p=0
 ·obtain ⟨ht,hdr,hmv⟩:=qI8 hm
  rw[qr hm,decide_eq_true hm,Bool.true_and]
  have main:(s=0 \/ s=1)->(br (inB t 81)
   (br (d != 0)
    (br (inB s 2)
     (br (inB d 8)
      (br (decide (List.getD h (Int.toNat s*8+Int.toNat d) 0>0))
       (some (conv IntKind.i8 IntKind.i64 (List.getD b (Int.toNat t) 0)==0))
       (some (false)))
      (none))
     (none))
    (br (inB f 81)
     (ob (qA9 (conv IntKind.i8 IntKind.i64 (List.getD b (Int.toNat f) 0))) fun a8=>
     br (a8 != s)
      (some (false))
      (ob (qA9 (conv IntKind.i8 IntKind.i64 (List.getD b (Int.toNat t) 0))) fun a9=>
      br (a9==s)
       (some (false))
       (ob (qAS (conv IntKind.i8 IntKind.i64 (List.getD b (Int.toNat t) 0))) fun a10=>
       br (a10==8)
        (some (false))
        (br (!p)
         (some (true))
         (ob (qAS (conv IntKind.i8 IntKind.i64 (List.getD b (Int.toNat f) 0))) fun a11=>
         ob (qEb a11) fun a12=>
         some (a12 != 0))))))
     (none)))
   (none):Option Bool)=some (if d≠0 then decide (0<hd_ h s d)&&decide (at_ b t=0)
    else decide (sd (at_ b f)=s /\ sd (at_ b t)≠s /\ kd (at_ b t)≠8)&&(!p||decide (up_ (kd (at_ b f))≠0))):=by
   intro hs
   rw[qc ht.1 (by omega)]
   by_cases hd:d=0
   ·obtain⟨hf,_⟩:=hmv hd
    rw[qr hd,if_neg (by simpa using hd),qc hf.1 (by omega),c_8,c_8,qEf,qA,<- qAa hf,<- qAa ht]
    by_cases h1:sd (at_ b f)=s
    ·rw[qr h1,qEf,qA]
     by_cases h2:sd (at_ b t)=s
     ·rw[ql h2,decide_eq_false (by omega)];rfl
     ·rw [qk h2,qB6,qA]
      by_cases h3:kd (at_ b t)=8
      ·rw[ql h3,decide_eq_false (by omega)];rfl
      ·rw[qk h3,decide_eq_true (by omega),Bool.true_and]
       cases p with
       | false=>rfl
       | true=>
         rw[Bool.not_true,b_f,qB6,qA,qR7,qA,Bool.false_or]
         congr 1
         rw[Bool.eq_iff_iff];simp
    ·rw[qp h1,decide_eq_false (by omega)];rfl
   ·obtain⟨d1,d7,_,_⟩:=hdr hd
    rw[qp hd,if_pos hd,qc (by omega) (by omega),qc (by omega) (by omega),c_8,<- qAa ht]
    show br (decide (hd_ h s d>0)) _ _=_
    by_cases h1:hd_ h s d>0
    ·rw[qBS h1,decide_eq_true (p:=0<hd_ h s d) h1,Bool.true_and]
     congr 1
    ·rw[qBT h1,decide_eq_false (p:=0<hd_ h s d) h1,Bool.false_and]
  by_cases h0:s=0
  ·rw[qr h0,decide_eq_true (p:=s=0 \/ s=1) (.inl h0),Bool.true_and];exact main (.inl h0)
  ·rw[qp h0]
   by_cases h1:s=1
   ·rw[qr h1,decide_eq_true (p:=s=0 \/ s=1) (.inr h1),Bool.true_and];exact main (.inr h1)
   ·rw[qp h1,decide_eq_false (p:=s=0 \/ s=1) (by omega),Bool.false_and]
 ·rw[qp hm,decide_eq_false hm,Bool.false_and]
def qz (b h:List Int) (s f t d:Int) (p:Bool):Bool:=qBv b h s f t d p &&
 if d≠0 then !qDc (16*s+d) t&&(decide (d≠1)||decide (nF b (16*s+d) (t.toNat / 9)=0))
 else rch (at_ b f) f.toNat t.toNat (tk b)&&if p=true then qCx (at_ b f) f t else !qDF (at_ b f) t
theorem qJq (b h:List Int) (s f t d:Int) (p:Bool):qEe b h s f t d p=some (qz b h s f t d p):=by
 unfold qEe qz
 rw[qrS,qA]
 cases hcan:qBv b h s f t d p with
 | false=>rfl
 | true=>
   rw[Bool.not_true,b_f,Bool.true_and]
   unfold qBv at hcan
   simp only[Bool.and_eq_true,decide_eq_true_eq] at hcan
   obtain⟨hm,hs,_⟩:=hcan
   obtain⟨ht,hdr,hmv⟩:=qI8 hm
   by_cases hd:d=0
   ·obtain⟨hf,_⟩:=hmv hd
    rw[qr hd,if_neg (by simpa using hd),qc hf.1 (by omega),c_8,qTP,qA,<- qAa hf]
    have:=qQt b (at_ b f) (a:=f.toNat) (c:=t.toNat) (by omega) (by omega)
    rw[show ((f.toNat:Nat):Int)=f by omega,show ((t.toNat:Nat):Int)=t by omega] at this
    rw[this,qA]
    cases rch (at_ b f) f.toNat t.toNat (tk b) with
    | false=>rfl
    | true=>
      rw[Bool.not_true,b_f,Bool.true_and]
      cases p with
      | true=>rw[b_t,qrY,qA,if_pos rfl]
      | false=>rw[b_f,qrZ,qA,if_neg (by simp)]
   ·obtain⟨d1,d7,_,_⟩:=hdr hd
    rw[qp hd,if_pos hd,w_s (n:=16*s) (by omega) (by omega),w_s (n:=16*s+d) (by omega) (by omega),qc3,qA]
    cases qDc (16*s+d) t with
    | true=>rfl
    | false=>
      rw[Bool.not_false,b_t,Bool.true_and]
      by_cases h1:d=1
      ·have htd:Int.tdiv t 9=((t.toNat / 9:Nat):Int):=by rw[Int.tdiv_eq_ediv_of_nonneg ht.1];omega
       rw[qr h1,htd,w_s (n:=((t.toNat / 9:Nat):Int)) (by omega) (by omega),qLm b h s (16*s+d) (t.toNat / 9) (by omega),qA,decide_eq_false (p:=d≠1) (by simpa using h1),Bool.false_or]
       congr 1
       rw[Bool.eq_iff_iff];simp
      ·rw[qp h1,decide_eq_true (p:=d≠1) h1,Bool.true_or]
theorem qKM:qGi=some (sLo fun _=>true,sHi fun _=>true):=by decide +kernel
theorem qnH (f:Nat->Bool):qJx (sLo f) (sHi f)=some (sLo fun i=>!f i,sHi fun i=>!f i):=by
 unfold qJx
 rw[qKM,qA]
 simp only
 rw[qLX,qA]
 simp only[Bool.true_and]
def qA7 (b:List Int) (s k:Int) (i:Nat):Bool:=!qA1 (pc s k) i&&(decide (k≠1)||decide (nF b (pc s 1) (i / 9)=0))
theorem qOS (f:Nat->Bool):isE f=decide (qAu f=0):=by
 unfold isE qAu
 rw[Bool.eq_iff_iff,decide_eq_true_eq,List.countP_eq_zero,List.all_eq_true]
 simp
theorem qj8 {b:List Int} (h:List Int) (S:Int) (sd':List (List Int)) {s k:Int} (hs:s=0 \/ s=1) (L:List Int) (hL:∀ q∈L,0<=q /\ q<81) (hl:L.length<=1000) (N:Nat) (u v:Int):∀ (n i:Nat),i+n=L.length->∀ (f:Nat->Bool) (F:Nat),
  qDg (F+n+1) s k (pc s k) L.length L.length i b h S (qP b) sd' u v (sLo f) (sHi f) N L=some (b,h,S,qP b,sd',u,v,sLo fun c=>f c||((L.drop i).any fun q=>decide ((c:Int)=q)&&qA7 b s k c),sHi fun c=>f c||((L.drop i).any fun q=>decide ((c:Int)=q)&&qA7 b s k c)):=by
 intro n
 induction n with
 | zero=>
   intro i hi f F
   show qHX (qDg (F+0)) _ _ _ _ _ _ _ _ _ _ _ _ _ _ _ _ _=_
   unfold qHX
   rw[qW (by omega),List.drop_eq_nil_of_le (by omega)]
   simp
 | succ n ih=>
   intro i hi f F
   show qHX (qDg (F+n+1)) _ _ _ _ _ _ _ _ _ _ _ _ _ _ _ _ _=_
   unfold qHX
   have hil:i<L.length:=by omega
   obtain⟨q0,q1⟩:=hL L[i] (List.getElem_mem hil)
   have hget:L.getD i 0=L[i]:=qF1 hil
   obtain⟨q,hq⟩:∃ q:Nat,L[i]=q:=⟨L[i].toNat,by omega⟩
   have hd:L.drop i=L[i] :: L.drop (i+1):=List.drop_eq_getElem_cons hil
   rw[qe (by omega),qc (by omega) (by omega),tn,hget,hq,qeR _ (by omega),qA,w_s (n:=(i:Int)+1) (by omega) (by omega)]
   have skip:qA7 b s k q=false->qDg (F+n+1) s k (pc s k) L.length L.length ((i:Int)+1) b h S (qP b) sd' u v (sLo f) (sHi f) N L =
     some (b,h,S,qP b,sd',u,v,sLo fun c=>f c||((L.drop i).any fun q=>decide ((c:Int)=q)&&qA7 b s k c),sHi fun c=>f c||((L.drop i).any fun q=>decide ((c:Int)=q)&&qA7 b s k c)):=by
    intro hf
    refine (ih (i+1) (by omega) f F).trans ?_
    have:(fun c=>f c||((L.drop (i+1)).any fun q=>decide ((c:Int)=q)&&qA7 b s k c))=fun c=>f c||((L.drop i).any fun q=>decide ((c:Int)=q)&&qA7 b s k c):=by
     funext c
     rw[hd,List.any_cons,hq]
     by_cases hcq:(c:Int)=q
     ·have:c=q:=by omega
      subst this
      rw[hf];simp
     ·rw[decide_eq_false hcq];simp
    rw[this]
   have take:qA7 b s k q=true->(ob (qBA (sLo f) (sHi f) q) fun z=>qDg (F+n+1) s k (pc s k) L.length L.length ((i:Int)+1) b h S (qP b) sd' u v z.1 z.2 N L) =
     some (b,h,S,qP b,sd',u,v,sLo fun c=>f c||((L.drop i).any fun q=>decide ((c:Int)=q)&&qA7 b s k c),sHi fun c=>f c||((L.drop i).any fun q=>decide ((c:Int)=q)&&qA7 b s k c)):=by
    intro hf
    rw[qGx,qA]
    simp only
    refine (ih (i+1) (by omega) _ F).trans ?_
    have:(fun c=>(f c||only q c)||((L.drop (i+1)).any fun q=>decide ((c:Int)=q)&&qA7 b s k c))=fun c=>f c||((L.drop i).any fun q=>decide ((c:Int)=q)&&qA7 b s k c):=by
     funext c
     rw[hd,List.any_cons,hq,Bool.or_assoc]
     congr 2
     unfold only
     by_cases hcq:(c:Int)=q
     ·have:c=q:=by omega
      subst this
      rw[hf];simp
     ·rw[decide_eq_false hcq];simp
    rw[this]
   cases hdead:qA1 (pc s k) q with
   | true=>rw[b_t];exact skip (by unfold qA7;rw[hdead];rfl)
   | false=>
     rw[b_f]
     by_cases hk:k=1
     ·rw[ql hk,qGS,qA]
      simp only
      unfold qGl
      rw[qIk,w_s (by unfold fl;omega) (by unfold fl;omega),qA,show fl q=((q / 9:Nat):Int) from rfl,qW0 (by omega),qA]
      simp only
      rw[qEu,qA]
      simp only
      rw[qJE,qA,qOS,qVb b (by rw[qAw hs (by omega) (by omega) (by omega)];omega) (by omega)]
      by_cases hn:nF b (pc s 1) (q / 9)=0
      ·rw[decide_eq_true hn,Bool.not_true,b_f]
       exact take (by unfold qA7;rw[hdead,decide_eq_true hn];simp)
      ·rw[decide_eq_false hn,Bool.not_false,b_t]
       exact skip (by unfold qA7;rw[hdead,decide_eq_false hn,decide_eq_false (p:=k≠1) (by simpa using hk)];rfl)
     ·rw[qk hk]
      exact take (by unfold qA7;rw[hdead,decide_eq_true (p:=k≠1) hk];rfl)
def qAv (b:List Int) (s k:Int) (i:Nat):Bool:=decide ((s=0 \/ s=1) /\ 1<=k /\ k<=7)&&(!tk b i&&qA7 b s k i)
theorem qj4 {b:List Int} (hc:Clean b) (h:List Int) (S s k:Int):qJL s k b h S (qP b) (qS b)=some (sLo (qAv b s k),sHi (qAv b s k)):=by
 have none:¬ ((s=0 \/ s=1) /\ 1<=k /\ k<=7)->qAv b s k=fun _=>false:=by
  intro hn;funext c;unfold qAv;rw[decide_eq_false hn,Bool.false_and]
 unfold qJL
 rw[qLh,qA]
 by_cases hz:pc s k=0
 ·have:¬ ((s=0 \/ s=1) /\ 1<=k /\ k<=7):=by
   rintro ⟨hs,h1,h7⟩
   rw[qAw hs h1 (by omega) (by omega)] at hz
   omega
  rw[ql hz,none this,qBn,qBm]
 ·rw [qk hz]
  have hv:(s=0 \/ s=1) /\ 1<=k /\ k<=15 /\ k≠13:=by
   unfold pc at hz
   split at hz
   ·rename_i h;exact h
   ·exact absurd rfl hz
  by_cases h8:k >= 8
  ·rw[qCB h8,none (by omega),qBn,qBm]
  ·rw[qBc h8,qJ7 hc,qA]
   simp only
   rw[qnH,qA]
   simp only
   rw[qJ1,qA]
   simp only
   have hlen:=qEl fun i=>!tk b i
   obtain⟨g,hg⟩:=qh (sq fun i=>!tk b i).length (by omega)
   have:=qj8 (b:=b) h S (qS b) (k:=k) hv.1 (sq fun i=>!tk b i) (fun q hq=>⟨(qGq hq).1,(qGq hq).2.1⟩) (by omega) (sq fun i=>!tk b i).length 0 0 (sq fun i=>!tk b i).length 0 (by omega) (fun _=>false) g
   rw[<- hg,qBn,qBm] at this
   rw[show qDg qB s k (pc s k) (sq fun i=>!tk b i).length (Int.ofNat (sq fun i=>!tk b i).length) 0 b h S (qP b) (qS b) 0 0 0 0 (sq fun i=>!tk b i).length (sq fun i=>!tk b i)=_ from this,qA]
   simp only[Bool.false_or,List.drop_zero]
   obtain⟨e1,e2⟩:=qB8 (f:=fun c=>(sq fun i=>!tk b i).any fun q=>decide ((c:Int)=q)&&qA7 b s k c) (g:=qAv b s k) fun c hcc=>by
    unfold qAv
    rw[decide_eq_true (p:=(s=0 \/ s=1) /\ 1<=k /\ k<=7) ⟨hv.1,hv.2.1,by omega⟩,Bool.true_and,Bool.eq_iff_iff,List.any_eq_true,Bool.and_eq_true]
    constructor
    ·rintro ⟨q,hq,hh⟩
     rw[Bool.and_eq_true,decide_eq_true_eq] at hh
     have:=(qGq hq).2.2
     rw[<- hh.1,tn] at this
     exact⟨this,hh.2⟩
    ·rintro ⟨h1,h2⟩
     exact⟨c,qYn hcc h1,by rw[h2];simp⟩
   rw[e1,e2]
end Go.Kk.Pl
namespace Go.Kk.Pl
end Go.Kk.Pl
