/- What the program's functions come to, told plainly: the texts of this project that this claim leans on, cut down to what is used. -/
import Derived.Test.YtpppdecfohkkfaaGreatDoorKkU1
namespace Go.Kk.Pl
theorem qdX {s:Int} (hs:s = -1 \/ s=0 \/ s=1) {q:Nat} (hq:q<81):qFh s q=some (qCk s q):=by
 unfold qFh qFd qCk
 rcases hs with rfl | rfl | rfl
 ·simp (disch:=omega) only [qY,qCd,qp]
  simp
 ·simp (disch:=omega) only [qY,qCd,qr,qJo,qA]
  simp
 ·simp (disch:=omega) only [qY,qCd,qp,qr,qJo,qA,w_s]
  simp
theorem qdV (x:Int) {q:Nat} (hq:q<81):qD4 x q=some (qA5 x q):=by
 unfold qD4
 rw [qDH,qA,qdX (qMA x) hq,qA,qBZ,qA]
 unfold qA5
 generalize kd x=k
 generalize qCk (sd x) q=n
 simp only [qKJ,beq_iff_eq]
 repeat' split
 all_goals first
  | (rw [Option.some.injEq,Bool.eq_iff_iff];simp;omega)
  | (simp;omega)
def pc (s k:Int):Int:=if (s=0 \/ s=1) /\ 1<=k /\ k<=15 /\ k≠13 then 16*s+k else 0
theorem qA8 {s k:Int} (hs:s=0 \/ s=1) (h1:1<=k) (h2:k<=15) (h3:k≠13):pc s k=16*s+k:=by unfold pc;rw [if_pos ⟨hs,h1,h2,h3⟩]
theorem qQN {s k:Int} (h:¬ ((s=0 \/ s=1) /\ 1<=k /\ k<=15 /\ k≠13)):pc s k=0:=by unfold pc;rw [if_neg h]
theorem qnq (s k:Int):0<=pc s k /\ pc s k<32:=by unfold pc;split<;>omega
theorem qLR (s k:Int):qAm s k=some (pc s k):=by
 by_cases hs:s=0 \/ s=1
 ·by_cases h:1<=k /\ k<=15 /\ k≠13
  ·rw [qLS hs h.1 h.2.1 h.2.2,qA8 hs h.1 h.2.1 h.2.2]
  ·rw [qQN (by omega)]
   unfold qAm
   simp only [qKJ,bne_iff_ne,ne_eq,beq_iff_eq,decide_eq_true_eq]
   repeat' split
   all_goals first | rfl | omega
 ·rw [qQN (by omega)]
  unfold qAm
  simp (disch:=omega) only [qAR]
theorem qnr (b:List Int):pcs b 0=fun _=>false:=by funext i;unfold pcs;simp
theorem qGC (b h:List Int) (S s k:Int) (sd':List (List Int)):qC3 s k b h S (qR b) sd'=some (sLo (pcs b (pc s k)),sHi (pcs b (pc s k))):=by
 unfold qC3
 obtain ⟨h0,h1⟩:=qnq s k
 rw [qLR,qA]
 by_cases hz:pc s k=0
 ·rw [qr hz,hz,qnr,qBn,qBm]
 ·rw [qp hz,qn h0 (by omega),qN2 b h0 h1]
  rfl
def inF (f:Nat) (i:Nat):Bool:=decide (i / 9=f)
theorem qjm:∀ f:Fin 9,qIB ((f.val:Nat):Int)=some (sLo (inF f.val),sHi (inF f.val)):=by decide +kernel
theorem qWW {f:Nat} (h:f<9):qIB f=some (sLo (inF f),sHi (inF f)):=qjm ⟨f,h⟩
theorem qim:∀ f:Fin 9,(List.range 81).filter (fun i=>decide (i / 9=f.val))=(List.range 9).map (9*f.val+·):=by decide +kernel
theorem qU5 (b:List Int) {x:Int} (hx:x≠0) {f:Nat} (hf:f<9):qAy (fun i=>pcs b x i&&inF f i)=nF b x f:=by
 unfold qAy nF inF
 have:(List.range 81).countP (fun i=>pcs b x i&&decide (i / 9=f))=((List.range 81).filter (fun i=>decide (i / 9=f))).countP (pcs b x):=by
  rw [List.countP_filter]
 rw [this,qim ⟨f,hf⟩,List.countP_map]
 apply List.countP_congr
 intro r _
 show pcs b x (9*f+r)=true↔_
 unfold pcs
 simp [hx]
theorem qin (b h:List Int) (S:Int) (sd':List (List Int)) (q:Nat) (hq:q<9) (X:Int):∀ f,qEz (f+2+1) q X 0 b h S (qR b) sd'=some (if qBM b q then .inl (53,X,b,h,S,qR b,sd') else .inr (X,b,h,S,qR b,sd')):=by
 intro f
 have step:∀ (s:Int) (hs:s=0 \/ s=1) rec,qE0 rec q X s b h S (qR b) sd'=if 1<nF b (16*s+1) q then some (.inl (53,X,b,h,S,qR b,sd')) else rec q X (s+1) b h S (qR b) sd':=by
  intro s hs rec
  unfold qE0
  rw [qi (by omega),qGC,qA]
  simp only
  rw [qWW hq,qA]
  simp only
  rw [qEq,qA]
  simp only
  rw [qOD,qA,qA8 hs (by omega) (by omega) (by omega),qU5 b (by omega) hq,w_s (by omega) (by omega)]
  split
  ·rw [qCz (by omega)]
  ·rw [qCe (by omega)]
 show qE0 (qEz (f+2)) _ _ _ _ _ _ _ _=_
 rw [step 0 (.inl rfl)]
 unfold qBM
 split
 ·rename_i h1
  rw [show (decide (1<nF b 1 q)||decide (1<nF b 17 q))=true by simp at h1;simp [h1]]
  rfl
 ·rename_i h1
  show qE0 (qEz (f+1)) _ _ _ _ _ _ _ _=_
  rw [show (0:Int)+1=1 from rfl,step 1 (.inr rfl)]
  split
  ·rename_i h2
   rw [show (decide (1<nF b 1 q)||decide (1<nF b 17 q))=true by simp at h2;simp [h2]]
   rfl
  ·rename_i h2
   rw [show (decide (1<nF b 1 q)||decide (1<nF b 17 q))=false by simp at h1 h2;simp;omega]
   show qE0 (qEz f) _ _ _ _ _ _ _ _=_
   unfold qE0
   rw [qY (by omega)]
   rfl
theorem qip (b h:List Int) (S:Int) (sd':List (List Int)):∀ (n i:Nat),i+n=9->∀ f,qE2 (f+n+1) i b h S (qR b) sd'=some (if (List.range' i n).any (qBM b) then .inl 53 else .inr ()):=by
 intro n
 induction n with
 | zero=>
   intro i hi f
   show qGv (qE2 (f+0)) _ _ _ _ _ _=_
   unfold qGv
   rw [qY (by omega)]
   rfl
 | succ n ih=>
   intro i hi f
   show qGv (qE2 (f+n+1)) _ _ _ _ _ _=_
   unfold qGv
   obtain ⟨g,hg⟩:=qk 2 (by omega)
   have h12:=qin b h S sd' i (by omega) i g
   rw [<- hg] at h12
   rw [qi (by omega),h12,qA,any_cons]
   have:=ih (i+1) (by omega) f
   cases hb:qBM b i with
   | true=>rfl
   | false=>
     rw [Bool.false_or,if_neg (by decide),qBE]
     simp only
     rw [w_s (by omega) (by omega)]
     exact this
theorem qio (b h:List Int) (s:Int) (b':List Int):∀ (n i:Nat),i+n=81->∀ f,qE1 (f+n+1) b i b' h s=some (if (List.range' i n).any (fun i=>qA5 (b.getD i 0) i) then .inl (52,b',h,s) else .inr (b',h,s)):=by
 intro n
 induction n with
 | zero=>
   intro i hi f
   show qGu (qE1 (f+0)) _ _ _ _ _=_
   unfold qGu
   rw [qY (by omega)]
   rfl
 | succ n ih=>
   intro i hi f
   show qGu (qE1 (f+n+1)) _ _ _ _ _=_
   unfold qGu
   have:=ih (i+1) (by omega) f
   rw [qi (by omega),qn (by omega) (by omega),cond_true,tn,qdV _ (by omega),qA,any_cons,w_s (by omega) (by omega)]
   cases hb:qA5 (b.getD i 0) i with
   | true=>rfl
   | false=>
     rw [b_f,Bool.false_or]
     exact this
theorem qiq {b:List Int} (hc:Clean b) (h:List Int) (s:Int):qFw b h s=some (if (List.range' 0 81).any (fun i=>qA5 (b.getD i 0) i) then 52 else if (List.range' 0 9).any (qBM b) then 53 else 0):=by
 obtain ⟨g81,hg81⟩:=qk 81 (by omega)
 obtain ⟨g9,hg9⟩:=qk 9 (by omega)
 have c2:=qio b h s b 81 0 (by omega) g81
 rw [<- hg81] at c2
 have c9:=qip b h s (qV b) 9 0 (by omega) g9
 rw [<- hg9] at c9
 unfold qFw
 rw [show qE1 qB b 0 b h s=_ from c2,qA]
 split
 ·rfl
 rw [qBE]
 simp only
 rw [qQA hc.len,qN8 hc,qA]
 simp only
 rw [show qE2 qB 0 b h s (qR b) (qV b)=_ from c9,qA]
 split
 ·rfl
 ·rfl
def rk (x:Int):Int:=rw_ (kd x)
theorem qqh {x:Int} (h:kd x=0):rk x=0:=by unfold rk;rw [h];decide
theorem qqg {x:Int} (h:kd x≠0):1<=rk x /\ rk x<=8:=by
 obtain ⟨k1,k2,k3⟩:=qCO x
 unfold rk rw_
 rw [if_neg (by omega)]
 split<;>omega
def cT (b:List Int) (i:Nat) (k:Nat):Nat:=(List.range i).countP fun j=>decide (1<=k)&&rk (b.getD j 0)==k
def kT (b:List Int) (i:Nat) (x:Int):Nat:=(List.range i).countP fun j=>b.getD j 0==x
theorem qUi (b:List Int) (i k:Nat):cT b i k<=i:=Nat.le_trans List.countP_le_length (by simp)
theorem qWb (b:List Int) (i:Nat) (x:Int):kT b i x<=i:=Nat.le_trans List.countP_le_length (by simp)
theorem qUj (b:List Int) (i k:Nat):cT b (i+1) k=cT b i k+if 1<=k /\ rk (b.getD i 0)=k then 1 else 0:=by
 unfold cT
 rw [List.range_succ,List.countP_append]
 by_cases h:1<=k /\ rk (b.getD i 0)=k
 ·simp [h]
 ·rw [if_neg h]
  have:(decide (1<=k)&&rk (b.getD i 0)==(k:Int))=false:=by
   rw [Bool.and_eq_false_iff]
   by_cases h1:1<=k
   ·right;simpa using fun h2=>h ⟨h1,h2⟩
   ·left;simpa using h1
  simp only [List.countP_cons,List.countP_nil,this]
  rfl
theorem qFD (b:List Int) (i:Nat) (x:Int):kT b (i+1) x=kT b i x+if b.getD i 0=x then 1 else 0:=by
 unfold kT
 rw [List.range_succ,List.countP_append]
 by_cases h:b.getD i 0=x
 ·simp
 ·rw [if_neg h]
  have:(b.getD i 0==x)=false:=by simpa using h
  simp only [List.countP_cons,List.countP_nil,this]
  rfl
def cL (b:List Int) (i:Nat):List Int:=(List.range 9).map fun k=>((cT b i k:Nat):Int)
def kL (b:List Int) (i:Nat):List Int:=[((kT b i 8:Nat):Int),((kT b i 24:Nat):Int)]
theorem qkc {x:Int} (h:kd x=8):x=8 \/ x=24:=by
 unfold kd at h
 split at h
 ·cases h
 ·omega
theorem qhr (b h:List Int) (s:Int) (b':List Int):∀ (n i:Nat),i+n=81->∃ c k,∀ f,qCL (f+n+1) b i b' h s (cL b i) (kL b i) =
  some (if (List.range' i n).any (bsP b) then .inl (55,b',h,s,c,k) else .inr (b',h,s,cL b 81,kL b 81)):=by
 intro n
 induction n with
 | zero=>
   intro i hi
   refine ⟨[],[],fun f=>?_⟩
   show qEx (qCL (f+0)) _ _ _ _ _ _ _=_
   unfold qEx
   rw [qY (by omega),show i=81 by omega]
   rfl
 | succ n ih=>
   intro i hi
   obtain ⟨c,k,hr⟩:=ih (i+1) (by omega)
   by_cases hbad:bsP b i=true
   ·refine ⟨cL b i,kL b i,fun f=>?_⟩
    show qEx (qCL (f+n+1)) _ _ _ _ _ _ _=_
    unfold qEx
    have hb:=hbad
    unfold bsP at hb
    rw [decide_eq_true_eq] at hb
    rw [qi (by omega),qn (by omega) (by omega),cond_true,tn,qBZ,qA,qp hb.1,qr hb.2,any_cons,hbad]
    rfl
   ·refine ⟨c,k,fun f=>?_⟩
    show qEx (qCL (f+n+1)) _ _ _ _ _ _ _=_
    unfold qEx
    have hb:bsP b i=false:=by simpa using hbad
    rw [any_cons,hb,Bool.false_or,<- hr f]
    unfold bsP at hb
    rw [decide_eq_false_iff_not] at hb
    rw [qi (by omega),qn (by omega) (by omega),cond_true,tn,qBZ,qA,w_s (by omega) (by omega)]
    by_cases hz:b.getD i 0=0
    ·have e1:cL b (i+1)=cL b i:=by
      unfold cL
      apply List.map_congr_left
      intro k _
      rw [qUj,hz,qqh (by decide),if_neg (by omega)]
      rfl
     have e2:kL b (i+1)=kL b i:=by
      unfold kL
      rw [qFD,qFD,hz,if_neg (by omega),if_neg (by omega)]
      rfl
     rw [qr hz,e1,e2]
     rfl
    ·have hk:kd (b.getD i 0)≠0:=by omega
     obtain ⟨r1,r2⟩:=qqg hk
     obtain ⟨k1,k2,k3⟩:=qCO (b.getD i 0)
     have hraw:qCs (kd (b.getD i 0))=some (rk (b.getD i 0)):=qQe k1 k2
     have e1:List.set (cL b i) (rk (b.getD i 0)).toNat (IntKind.wrap .i64 (List.getD (cL b i) (rk (b.getD i 0)).toNat 0+1))=cL b (i+1):=by
      unfold cL
      have hle:=qUi b i (rk (b.getD i 0)).toNat
      rw [qHc _ (by omega),map_set,w_s (by omega) (by omega)]
      apply List.map_congr_left
      intro k hk
      simp only [List.mem_range] at hk
      rw [qUj]
      by_cases hkr:k=(rk (b.getD i 0)).toNat
      ·rw [if_pos hkr,if_pos (by omega),hkr];rfl
      ·rw [if_neg hkr,if_neg (by omega)];rfl
     rw [qp hz,qp hk]
     by_cases h8:kd (b.getD i 0)=8
     ·have hle1:=qWb b i 8
      have hle2:=qWb b i 24
      rcases qkc h8 with hx | hx
      ·have hs:sd (b.getD i 0)=0:=by rw [hx];decide
       have e2:List.set (kL b i) 0 (IntKind.wrap .i64 (List.getD (kL b i) 0 0+1))=kL b (i+1):=by
        unfold kL
        rw [qFD,qFD,hx,if_pos rfl,if_neg (by omega)]
        show [IntKind.wrap .i64 (((kT b i 8:Nat):Int)+1),_]=_
        rw [w_s (by omega) (by omega)]
        rfl
       rw [qr h8,qDH,qA,hs,qn (by omega) (by omega),qn (by omega) (by omega),hraw,qA,qn (by omega) (by omega),qn (by omega) (by omega),e1]
       show qCL (f+n+1) b _ b' h s _ (List.set (kL b i) 0 (IntKind.wrap .i64 (List.getD (kL b i) 0 0+1)))=_
       rw [e2]
       rfl
      ·have hs:sd (b.getD i 0)=1:=by rw [hx];decide
       have e2:List.set (kL b i) 1 (IntKind.wrap .i64 (List.getD (kL b i) 1 0+1))=kL b (i+1):=by
        unfold kL
        rw [qFD,qFD,hx,if_neg (by omega),if_pos rfl]
        show [_,IntKind.wrap .i64 (((kT b i 24:Nat):Int)+1)]=_
        rw [w_s (by omega) (by omega)]
        rfl
       rw [qr h8,qDH,qA,hs,qn (by omega) (by omega),qn (by omega) (by omega),hraw,qA,qn (by omega) (by omega),qn (by omega) (by omega),e1]
       show qCL (f+n+1) b _ b' h s _ (List.set (kL b i) 1 (IntKind.wrap .i64 (List.getD (kL b i) 1 0+1)))=_
       rw [e2]
       rfl
     ·have e2:kL b (i+1)=kL b i:=by
       have n8:b.getD i 0≠8:=fun h=>h8 (by rw [h];decide)
       have n24:b.getD i 0≠24:=fun h=>h8 (by rw [h];decide)
       unfold kL
       rw [qFD,qFD,if_neg n8,if_neg n24]
       rfl
      rw [qp h8,hraw,qA,qn (by omega) (by omega),qn (by omega) (by omega),e1,e2]
      rfl
theorem qqm {h:List Int} {s k:Nat} (_hs:s<2) (hk:k<8):(List.take 8 (List.drop (Nat.add (Nat.mul s 7) s) h)).getD k 0=h.getD (s*8+k) 0:=by
 rw [List.getD_eq_getElem?_getD,List.getElem?_take,if_pos hk,List.getElem?_drop,List.getD_eq_getElem?_getD]
 rw [show (Nat.add (Nat.mul s 7) s)+k=s*8+k from (by show s*7+s+k=s*8+k;omega)]
def qB3 (h:List Int) (s i:Nat) (g:Nat->Int) (j:Nat):Int:=if i<=j /\ j<8 then g j+h.getD (s*8+j) 0 else g j
theorem qUr {h:List Int} (hf:qAV h) (b:List Int) (S:Int) (kk h':List Int) (s:Nat) (hs:s<2):∀ (n i:Nat),i+n=8->∀ (g:Nat->Int),(∀ j,-200000+200*n<=g j /\ g j<=200000 - 200*n)->
  ∃ c,∀ f,qC2 (f+n+1) h s (List.take 8 (List.drop (Nat.add (Nat.mul s 7) s) h)) i b h' S ((List.range 9).map g) kk =
    some (if (List.range' i n).any (fun k=>bsH h k s) then .inl (55,h,s,b,h',S,c,kk) else .inr (h,s,b,h',S,(List.range 9).map (qB3 h s i g),kk)):=by
 intro n
 induction n with
 | zero=>
   intro i hi g hg
   refine ⟨[],fun f=>?_⟩
   show qEw (qC2 (f+0)) _ _ _ _ _ _ _ _ _=_
   unfold qEw
   rw [qY (by omega)]
   have:(List.range 9).map (qB3 h s i g)=(List.range 9).map g:=by
    apply List.map_congr_left
    intro j _
    unfold qB3
    rw [if_neg (by omega)]
   rw [this]
   rfl
 | succ n ih=>
   intro i hi g hg
   have hr:=qqm (h:=h) (s:=s) (k:=i) hs (by omega)
   have hb:=hf (s*8+i)
   by_cases hbad:bsH h i s=true
   ·refine ⟨(List.range 9).map g,fun f=>?_⟩
    show qEw (qC2 (f+n+1)) _ _ _ _ _ _ _ _ _=_
    unfold qEw
    have hx:=hbad
    unfold bsH at hx
    rw [decide_eq_true_eq] at hx
    rw [qi (by omega),qn (by omega) (by omega),cond_true,tn,hr,any_cons,hbad]
    by_cases h0:h.getD (s*8+i) 0<0
    ·rw [qi h0]
     rfl
    ·rw [qY h0,qCz (by omega),qr (by omega)]
     rfl
   ·have hx:bsH h i s=false:=by simpa using hbad
    have hx2:=hx
    unfold bsH at hx2
    rw [decide_eq_false_iff_not] at hx2
    obtain ⟨c,hc⟩:=ih (i+1) (by omega) (fun j=>if j=i then g j+h.getD (s*8+j) 0 else g j) (fun j=>by
     have:=hg j
     split
     ·rename_i hj;subst hj;omega
     ·omega)
    refine ⟨c,fun f=>?_⟩
    show qEw (qC2 (f+n+1)) _ _ _ _ _ _ _ _ _=_
    unfold qEw
    have hgi:=hg i
    have e1:List.set ((List.range 9).map g) i (IntKind.wrap .i64 (List.getD ((List.range 9).map g) i 0+h.getD (s*8+i) 0))=(List.range 9).map fun j=>if j=i then g j+h.getD (s*8+j) 0 else g j:=by
     rw [qHc _ (by omega),map_set,w_s (by omega) (by omega)]
     apply List.map_congr_left
     intro j _
     split
     ·rename_i hj;subst hj;rfl
     ·rfl
    have e2:(List.range 9).map (qB3 h s (i+1) fun j=>if j=i then g j+h.getD (s*8+j) 0 else g j)=(List.range 9).map (qB3 h s i g):=by
     apply List.map_congr_left
     intro j _
     unfold qB3
     by_cases hj:j=i
     ·subst hj;simp;omega
     ·simp only [hj,if_false]
      by_cases h1:i<=j /\ j<8
      ·rw [if_pos (by omega),if_pos h1]
      ·rw [if_neg (by omega),if_neg h1]
    have:=hc f
    rw [e2] at this
    rw [qi (by omega),qn (by omega) (by omega),cond_true,tn,hr,any_cons,hx,Bool.false_or,qY (by omega),c_8,e1,w_s (by omega) (by omega)]
    by_cases h0:h.getD (s*8+i) 0>0
    ·rw [qCz h0,qp (by omega),qp (by omega),qn (by omega) (by omega),qn (by omega) (by omega)]
     exact this
    ·rw [qCe h0,qn (by omega) (by omega),qn (by omega) (by omega)]
     exact this
theorem qhh {h:List Int} (hf:qAV h) (b h':List Int) (S:Int) (kk:List Int) (g:Nat->Int) (hg:∀ j,-100<=g j /\ g j<=100):
  ∃ c,∀ f,qCf (f+2+1) h 0 b h' S ((List.range 9).map g) kk =
    some (if (List.range' 0 2).any (fun s=>(List.range' 0 8).any fun k=>bsH h k s) then .inl (55,b,h',S,c,kk) else .inr (b,h',S,(List.range 9).map (qB3 h 1 0 (qB3 h 0 0 g)),kk)):=by
 obtain ⟨g8,hg8⟩:=qk 8 (by omega)
 obtain ⟨c0,h0⟩:=qUr hf b S kk h' 0 (by omega) 8 0 (by omega) g (fun j=>by have:=hg j;omega)
 have h0:=h0 g8
 rw [<- hg8] at h0
 obtain ⟨c1,h1⟩:=qUr hf b S kk h' 1 (by omega) 8 0 (by omega) (qB3 h 0 0 g) (fun j=>by
  have:=hg j
  have:=hf (0*8+j)
  unfold qB3
  split<;>omega)
 have h1:=h1 g8
 rw [<- hg8] at h1
 have any2:(List.range' 0 2).any (fun s=>(List.range' 0 8).any fun k=>bsH h k s)=((List.range' 0 8).any (fun k=>bsH h k 0)||(List.range' 0 8).any (fun k=>bsH h k 1)):=by
  rw [any_cons (fun s=>(List.range' 0 8).any fun k=>bsH h k s),any_cons (fun s=>(List.range' 0 8).any fun k=>bsH h k s) 1 0]
  simp
 rw [any2]
 cases hb0:(List.range' 0 8).any (fun k=>bsH h k 0) with
 | true=>
   refine ⟨c0,fun f=>?_⟩
   show qDR (qCf (f+2)) _ _ _ _ _ _ _=_
   unfold qDR
   rw [qi (by omega),qn (by omega) (by omega),show qC2 qB h 0 (List.take 8 (List.drop (Nat.add (Nat.mul (Int.toNat 0) 7) (Int.toNat 0)) h)) 0 b h' S ((List.range 9).map g) kk=_ from h0,hb0,qA]
   rfl
 | false=>
   refine ⟨c1,fun f=>?_⟩
   show qDR (qCf (f+2)) _ _ _ _ _ _ _=_
   unfold qDR
   rw [qi (by omega),qn (by omega) (by omega),show qC2 qB h 0 (List.take 8 (List.drop (Nat.add (Nat.mul (Int.toNat 0) 7) (Int.toNat 0)) h)) 0 b h' S ((List.range 9).map g) kk=_ from h0,hb0,qA,if_neg (by decide),qBE]
   simp only
   show qDR (qCf (f+1)) _ _ _ _ _ _ _=_
   unfold qDR
   rw [qi (by rw [w_s (by omega) (by omega)];omega),qn (by rw [w_s (by omega) (by omega)];omega) (by rw [w_s (by omega) (by omega)];omega)]
   rw [show IntKind.wrap .i64 (((0:Nat):Int)+1)=1 from rfl,show qC2 qB h 1 (List.take 8 (List.drop (Nat.add (Nat.mul (Int.toNat 1) 7) (Int.toNat 1)) h)) 0 b h' S ((List.range 9).map (qB3 h 0 0 g)) kk=_ from h1,qA]
   cases hb1:(List.range' 0 8).any (fun k=>bsH h k 1) with
   | true=>rfl
   | false=>
     rw [if_neg (by decide),qBE]
     simp only
     show qDR (qCf f) _ _ _ _ _ _ _=_
     unfold qDR
     rw [qY (by decide)]
     rfl
theorem qh1 {b:List Int} (hl:b.length=81) {k:Nat} (hk:1<=k):cnt b k=cT b 81 k:=by
 have hb:b=(List.range 81).map fun j=>b.getD j 0:=by
  apply List.ext_getElem
  ·simp [hl]
  ·intro i h1 h2
   rw [List.getElem_map,List.getElem_range,qFm h1]
 unfold cnt cT
 conv=>lhs;rw [hb]
 rw [List.countP_map]
 apply List.countP_congr
 intro j _
 show (rw_ (kd (b.getD j 0))==(k:Int))=true↔_
 simp [hk,rk]
theorem qta:∀ k:Fin 9,qLe ((k.val:Nat):Int)=some (qJr ((k.val:Nat):Int)):=by decide +kernel
theorem qho {b h:List Int} {g:Nat->Int} (hg:∀ k:Nat,1<=k->k<8->g k=cnt b k+hd_ h 0 k+hd_ h 1 k) (b' h':List Int) (s:Int):∀ (n i:Nat),i+n=8->1<=i->∀ f,
  qDS (f+n+1) i b' h' s ((List.range 9).map g)=some (if (List.range' i n).any (qBw b h) then .inl (51,b',h',s) else .inr (b',h',s)):=by
 intro n
 induction n with
 | zero=>
   intro i hi _ f
   show qGp (qDS (f+0)) _ _ _ _ _=_
   unfold qGp
   rw [qY (by omega)]
   rfl
 | succ n ih=>
   intro i hi h1 f
   show qGp (qDS (f+n+1)) _ _ _ _ _=_
   unfold qGp
   have ht:=qta ⟨i,by omega⟩
   simp only at ht
   rw [qi (by omega),qn (by omega) (by omega),ht,qA,tn,qHc _ (by omega),hg i h1 (by omega),any_cons,w_s (by omega) (by omega)]
   have:=ih (i+1) (by omega) (by omega) f
   by_cases ho:qJr i<cnt b i+hd_ h 0 i+hd_ h 1 i
   ·rw [qCz ho,show qBw b h i=true by unfold qBw;simpa using ho]
    rfl
   ·rw [qCe ho,show qBw b h i=false by unfold qBw;simpa using ho,Bool.false_or]
    exact this
theorem qhM (h:List Int):((List.range' 0 2).any fun s=>(List.range' 0 8).any fun k=>bsH h k s)=(List.range' 0 8).any fun k=>(List.range' 0 2).any (bsH h k):=by
 rw [Bool.eq_iff_iff]
 simp only [List.any_eq_true]
 constructor
 ·rintro ⟨s,hs,k,hk,h1⟩
  exact ⟨k,hk,s,hs,h1⟩
 ·rintro ⟨k,hk,s,hs,h1⟩
  exact ⟨s,hs,k,hk,h1⟩
theorem qTd {b:List Int} (hl:b.length=81) (h:(List.range' 0 81).any (bsP b)=false):Clean b:=by
 refine ⟨hl,fun i hi=>?_⟩
 rw [List.any_eq_false] at h
 have:=h i (by rw [List.mem_range'];exact ⟨i,hi,by omega⟩)
 unfold bsP at this
 rw [decide_eq_true_eq] at this
 omega
theorem qhb {b h:List Int} (hl:b.length=81) (hf:qAV h) (s:Int):qIY b h s=some (qAx b h s):=by
 obtain ⟨g81,hg81⟩:=qk 81 (by omega)
 obtain ⟨g7,hg7⟩:=qk 7 (by omega)
 obtain ⟨g2,hg2⟩:=qk 2 (by omega)
 obtain ⟨c6,k6,h6⟩:=qhr b h s b 81 0 (by omega)
 have h6:=h6 g81
 rw [<- hg81] at h6
 have z1:cL b 0=[0,0,0,0,0,0,0,0,0]:=rfl
 have z2:kL b 0=[0,0]:=rfl
 rw [z1,z2] at h6
 obtain ⟨c17,h17⟩:=qhh hf b h s (kL b 81) (fun k=>((cT b 81 k:Nat):Int)) (fun j=>by have:=qUi b 81 j;omega)
 have h17:=h17 g2
 rw [<- hg2] at h17
 have hgc:∀ k:Nat,1<=k->k<8->qB3 h 1 0 (qB3 h 0 0 fun k=>((cT b 81 k:Nat):Int)) k=cnt b k+hd_ h 0 k+hd_ h 1 k:=by
  intro k k1 k8
  unfold qB3
  rw [if_pos (by omega),if_pos (by omega),qh1 hl k1]
  rfl
 have h30:=qho hgc b h s 7 1 (by omega) (by omega) g7
 rw [<- hg7] at h30
 have main:(ob (qCL qB b 0 b h s ([0,0,0,0,0,0,0,0,0]) ([0,0])) fun t3_2=>
   sw t3_2 (fun (a3_0,_,_,_,_,_)=>
    some (a3_0))
    (fun (a3_0,a3_1,a3_2,a3_3,a3_4)=>
    ob (qCf qB a3_1 0 a3_0 a3_1 a3_2 a3_3 a3_4) fun t8_2=>
    sw t8_2 (fun (a8_0,_,_,_,_,_)=>
     some (a8_0))
     (fun (a8_0,a8_1,a8_2,a8_3,a8_4)=>
     br (!a8_4==[1,1])
      (some (50))
      (ob (qDS qB 1 a8_0 a8_1 a8_2 a8_3) fun t13_2=>
      sw t13_2 (fun (a13_0,_,_,_)=>
       some (a13_0))
       (fun (a13_0,a13_1,a13_2)=>
       ob (qFw a13_0 a13_1 a13_2) fun a16=>
       some (a16)))) ):Option Int) =
   some (if (List.range' 0 81).any (bsP b) then 55
    else if (List.range' 0 8).any (fun k=>(List.range' 0 2).any (bsH h k)) then 55
    else if ¬ (nP b 8=1 /\ nP b 24=1) then 50
    else if (List.range' 1 7).any (qBw b h) then 51
    else if (List.range' 0 81).any (fun i=>qA5 (b.getD i 0) i) then 52
    else if (List.range' 0 9).any (qBM b) then 53
    else 0):=by
  rw [show qCL qB b 0 b h s [0,0,0,0,0,0,0,0,0] [0,0]=_ from h6,qA]
  cases hbad:(List.range' 0 81).any (bsP b) with
  | true=>rfl
  | false=>
    have hc:=qTd hl hbad
    rw [if_neg (by decide),if_neg (by decide),qBE]
    simp only
    rw [show qCf qB h 0 b h s (cL b 81) (kL b 81)=_ from h17,qA,qhM]
    split
    ·rfl
    rw [qBE]
    simp only
    have hk:(!kL b 81==[1,1])=decide (¬ (nP b 8=1 /\ nP b 24=1)):=by
     show (!([((nP b 8:Nat):Int),((nP b 24:Nat):Int)]==[1,1]))=_
     rw [Bool.eq_iff_iff]
     simp
     omega
    rw [hk]
    by_cases h8:nP b 8=1 /\ nP b 24=1
    ·rw [qH (by simpa using h8),if_neg (by simpa using h8),show qDS qB 1 b h s _=_ from h30,qA]
     split
     ·rfl
     rw [qBE]
     simp only
     rw [qiq hc,qA]
    ·rw [qD (by rw [decide_eq_true_eq];exact h8),if_pos h8]
 unfold qIY qAx
 by_cases h0:s=0
 ·rw [qAf h0,if_neg (by simp [h0])]
  exact main
 ·rw [qAR h0]
  by_cases h1:s=1
  ·rw [qAf h1,if_neg (by simp [h1])]
   exact main
  ·rw [qAR h1,if_pos (by simp [h0,h1])]
end Go.Kk.Pl
namespace Go.Kk.Pl
def tk (b:List Int) (i:Nat):Bool:=decide (b.getD i 0≠0)
theorem qtS {b:List Int} (hc:Clean b) {i:Nat} (hi:i<81):(sds b 0 i||sds b 1 i)=tk b i:=by
 have:=hc.ok i hi
 unfold sds tk
 rw [Bool.eq_iff_iff]
 simp only [Bool.or_eq_true,decide_eq_true_eq]
 rcases this with h | h
 ·rw [h,qJW];simp
 ·have h1:=qIw h
  have h2:=qH6 h
  constructor
  ·intro _;omega
  ·intro _;exact h2
theorem qJm {b:List Int} (hc:Clean b) (h:List Int) (S:Int) (by_:List (List Int)):qC4 b h S by_ (qV b)=some (sLo (tk b),sHi (tk b)):=by
 unfold qC4
 have e0:(qV b).getD 0 []=prS (sds b 0):=rfl
 have e1:(qV b).getD 1 []=prS (sds b 1):=rfl
 rw [e0,e1,qHj,qHk,qHj,qHk,qHh,qA]
 obtain ⟨h1,h2⟩:=qB1 (f:=fun i=>sds b 0 i||sds b 1 i) (g:=tk b) fun i hi=>qtS hc hi
 simp only
 rw [h1,h2]
def sdP (b:List Int) (s:Int) (i:Nat):Bool:=decide (s=0 \/ s=1)&&sds b s i
theorem qQT (b h:List Int) (S s:Int) (by_:List (List Int)):qFu s b h S by_ (qV b)=some (sLo (sdP b s),sHi (sdP b s)):=by
 unfold qFu
 by_cases h0:s=0
 ·subst h0
  have:sdP b 0=sds b 0:=by funext i;unfold sdP;simp
  rw [this]
  rfl
 ·rw [qAR h0]
  by_cases h1:s=1
  ·subst h1
   have:sdP b 1=sds b 1:=by funext i;unfold sdP;simp
   rw [this]
   rfl
  ·have:sdP b s=fun _=>false:=by funext i;unfold sdP;simp [h0,h1]
   rw [qAR h1,this,qBn,qBm]
theorem qO9 (b h:List Int) (S s:Int) (sd':List (List Int)):qFr s b h S (qR b) sd'=some (fst (pcs b (pc s 8))):=by
 unfold qFr
 rw [qGC,qA]
 simp only
 rw [qOP,qA]
def hdP (h:List Int) (s k:Int):Int:=if (s=0 \/ s=1) /\ 1<=k /\ k<8 then hd_ h s k else 0
theorem qjf (b h:List Int) (S s k:Int) (by_ sd':List (List Int)):qCg s k b h S by_ sd'=some (hdP h s k):=by
 unfold hdP
 by_cases hv:(s=0 \/ s=1) /\ 1<=k /\ k<8
 ·rw [if_pos hv,qKk hv.1 hv.2.1 hv.2.2]
 ·rw [if_neg hv]
  unfold qCg
  by_cases h0:s=0
  ·rw [qAf h0]
   by_cases h1:k<1
   ·rw [qi h1]
   ·rw [qY h1,qDP (by omega)]
  ·rw [qAR h0]
   by_cases h2:s=1
   ·rw [qAf h2]
    by_cases h1:k<1
    ·rw [qi h1]
    ·rw [qY h1,qDP (by omega)]
   ·rw [qAR h2]
theorem qjt:isE (fun _=>false)=true:=by decide
end Go.Kk.Pl
namespace Go.Kk.Pl
def fl (q:Nat):Int:=((q / 9:Nat):Int)
def rn (q:Nat):Int:=((q % 9:Nat):Int)
def df (a c:Nat):Int:=fl c - fl a
def dr (a c:Nat):Int:=rn c - rn a
def upS (x:Int) (a c:Nat):Int:=if sd x=1 then dr a c else - dr a c
theorem geo {a:Nat} (ha:a<81):0<=fl a /\ fl a<=8 /\ 0<=rn a /\ rn a<=8 /\ (a:Int)=9*fl a+rn a:=by unfold fl rn;omega
theorem qIt {a c:Nat} (h:df a c=0) (h':dr a c=0):a=c:=by unfold df dr fl rn at *;omega
theorem qHF (a:Nat):df a a=0 /\ dr a a=0:=by unfold df dr;omega
def qBK (dx dy:Int) (a:Nat):Int:=if 0<=fl a+dx /\ fl a+dx<=8 /\ 0<=rn a+dy /\ rn a+dy<=8 then 9*(fl a+dx)+(rn a+dy) else -1
theorem qIP (q:Nat):Int.tdiv (q:Int) 9=fl q:=by unfold fl;rw [Int.tdiv_eq_ediv_of_nonneg (by omega)];omega
theorem qJp (q:Nat):Int.tmod (q:Int) 9=rn q:=qJo q
theorem qsJ (f r:Int):qCD f r=some (if 0<=f /\ f<=8 /\ 0<=r /\ r<=8 then 9*f+r else -1):=by
 unfold qCD
 by_cases h1:f<0
 ·rw [qi h1,if_neg (by omega)]
 by_cases h2:f>8
 ·rw [qY h1,qCz h2,if_neg (by omega)]
 by_cases h3:r<0
 ·rw [qY h1,qCe h2,qi h3,if_neg (by omega)]
 by_cases h4:r>8
 ·rw [qY h1,qCe h2,qY h3,qCz h4,if_neg (by omega)]
 ·rw [qY h1,qCe h2,qY h3,qCe h4,if_pos (by omega),w_s (n:=9*f) (by omega) (by omega),w_s (by omega) (by omega)]
theorem qOS {dx dy:Int} (h1:-8<=dx) (h2:dx<=8) (h3:-8<=dy) (h4:dy<=8) {a:Nat} (ha:a<81):qGX dx dy a=some (qBK dx dy a):=by
 have hg:=geo ha
 unfold qGX qGR qFd
 simp (disch:=omega) only [qY,qCd,qIP,qJp,qA,w_s,qsJ]
 rfl
theorem qnc {dx dy:Int} {a c:Nat} (ha:a<81) (hc:c<81):only (qBK dx dy a) c=decide (df a c=dx /\ dr a c=dy):=by
 have hg:=geo ha
 have hg2:=geo hc
 unfold only qBK df dr
 rw [decide_eq_decide]
 split<;>omega
def qB2 (k d u:Int):Prop:=
 (k=1 /\ d=0 /\ u=1) \/ (k=3 /\ (d=1 \/ d = -1) /\ u=2) \/ (k=4 /\ ((u=1 /\ -1<=d /\ d<=1) \/ (u = -1 /\ (d=1 \/ d = -1)))) \/
 ((k=5 \/ k=9 \/ k=10 \/ k=11 \/ k=12) /\ ((u=1 /\ -1<=d /\ d<=1) \/ (u=0 /\ (d=1 \/ d = -1)) \/ (u = -1 /\ d=0))) \/
 (k=8 /\ -1<=d /\ d<=1 /\ -1<=u /\ u<=1 /\ ¬ (d=0 /\ u=0)) \/ (k=14 /\ ((u=0 /\ (d=1 \/ d = -1)) \/ (d=0 /\ (u=1 \/ u = -1)))) \/
 (k=15 /\ (d=1 \/ d = -1) /\ (u=1 \/ u = -1))
instance (k d u:Int):Decidable (qB2 k d u):=by unfold qB2;infer_instance
def qA3 (x:Int) (a c:Nat):Bool:=decide (qB2 (kd x) (df a c) (upS x a c))
theorem qr2 {n:Int} (h1:-1000<=n) (h2:n<=1000):qFR n=some (if n<0 then -n else n):=by
 unfold qFR
 split
 ·rename_i h;rw [qi h,w_s (by omega) (by omega)];congr 1;omega
 ·rename_i h;rw [qY h]
theorem qSx {x:Int} {a c:Nat} (ha:a<81) (hc:c<81):-8<=upS x a c /\ upS x a c<=8 /\ -8<=df a c /\ df a c<=8 /\ -8<=dr a c /\ dr a c<=8:=by
 have hg:=geo ha
 have hg2:=geo hc
 unfold upS df dr
 split<;>omega
def stT (k u S : Int):Option Bool:=
 br (decide (S <= 1))
  (ob (qFR u) fun a5=>
   br (k == 1)
    (br (S==0)
     (some (u==1))
     (some (false)))
    (br (k == 3)
     (br (S==1)
      (some (u==2))
      (some (false)))
     (br (k == 4)
      (br (decide (a5<=1))
       (br (u==1)
        (some (true))
        (br (S==1)
         (some (u == -1))
         (some (false))))
       (some (false)))
      (br (k == 5)
       (br (decide (a5<=1))
        (br (decide (u >= 0))
         (some (true))
         (some (S==0)))
        (some (false)))
       (br (k == 9)
        (br (decide (a5<=1))
         (br (decide (u >= 0))
          (some (true))
          (some (S==0)))
         (some (false)))
        (br (k == 10)
         (br (decide (a5<=1))
          (br (decide (u >= 0))
           (some (true))
           (some (S==0)))
          (some (false)))
         (br (k == 11)
          (br (decide (a5<=1))
           (br (decide (u >= 0))
            (some (true))
            (some (S==0)))
           (some (false)))
          (br (k==12)
           (br (decide (a5<=1))
            (br (decide (u >= 0))
             (some (true))
             (some (S==0)))
            (some (false)))
           (br (k==8)
            (some (decide (a5<=1)))
            (br (k==14)
             (br (decide (a5<=1))
              (br (S==0)
               (some (true))
               (some (u==0)))
              (some (false)))
             (br (k==15)
              (br (decide (a5<=1))
               (br (S==1)
                (some (u != 0))
                (some (false)))
               (some (false)))
              (some (false)))))))))))))
   (br (k == 1)
    (br (S==0)
     (some (u==1))
     (some (false)))
    (br (k == 3)
     (br (S==1)
      (some (u==2))
      (some (false)))
     (br (k == 4)
      (some (false))
      (br (k == 5)
       (some (false))
       (br (k == 9)
        (some (false))
        (br (k==10)
         (some (false))
         (br (k==11)
          (some (false))
          (br (k==12)
           (some (false))
           (br (k==8)
            (some (false))
            (br (k==14)
             (some (false))
             (br (k==15)
              (some (false))
              (some (false)))))))))))))
theorem qsK:∀ (k:Fin 16) (d u:Fin 17),((d.val=8 /\ u.val=8) \/ stT ((k.val:Nat):Int) ((u.val:Int) - 8) (if (d.val:Int) - 8<0 then -((d.val:Int) - 8) else (d.val:Int) - 8) =
  some (decide (qB2 ((k.val:Nat):Int) ((d.val:Int) - 8) ((u.val:Int) - 8)))):=by decide +kernel
theorem qsp {k d u:Int} (hne:¬ (d=0 /\ u=0)) (k0:0<=k) (k1:k<=15) (u1:-8<=u) (u2:u<=8) (d1:-8<=d) (d2:d<=8):stT k u (if d<0 then -d else d)=some (decide (qB2 k d u)):=by
 have:=qsK ⟨k.toNat,by omega⟩ ⟨(d+8).toNat,by omega⟩ ⟨(u+8).toNat,by omega⟩
 simp only at this
 rw [show ((k.toNat:Nat):Int)=k by omega,show (((d+8).toNat:Nat):Int) - 8=d by omega,show (((u+8).toNat:Nat):Int) - 8=u by omega] at this
 exact this.resolve_left (by omega)
theorem qqZ (x:Int) {a c:Nat} (ha:a<81) (hc:c<81):qJL x a c=some (qA3 x a c):=by
 have hg:=geo ha
 have hg2:=geo hc
 have hr:=qSx (x:=x) ha hc
 unfold qJL qA3
 simp (disch:=omega) only [qY,qIP,qJp,qL2,qEZ,qA,w_s]
 by_cases hac:a=c
 ·subst hac
  rw [qr rfl]
  have:=qHF a
  have hu:upS x a a=0:=by unfold upS;rw [this.2];split<;>rfl
  rw [this.1,hu]
  symm
  rw [Option.some.injEq,decide_eq_false_iff_not]
  unfold qB2
  omega
 ·rw [qp (by omega)]
  have hne:¬ (df a c=0 /\ upS x a c=0):=by
   rintro ⟨h1,h2⟩
   refine hac (qIt h1 ?_)
   unfold upS at h2
   split at h2<;>omega
  have hS:=qr2 (n:=fl c - fl a) (by omega) (by omega)
  rw [hS,qA]
  obtain ⟨k0,k1,_⟩:=qCO x
  have:=qsp (k:=kd x) hne k0 k1 hr.1 hr.2.1 hr.2.2.1 hr.2.2.2.1
  rw [<- this]
  by_cases hs:sd x=1
  ·have hu:(0:Int) - (rn a - rn c)=upS x a c:=by unfold upS dr;rw [if_pos hs];omega
   rw [qr hs,hu]
   rfl
  ·have hu:rn a - rn c=upS x a c:=by unfold upS dr;rw [if_neg hs];omega
   rw [qp hs,hu]
   rfl
def qAX (k:Int):List (List Int):=if k=1 then [[0,-1]] else if k=3 then [[-1,-2],[1,-2]] else if k=4 then [[-1,-1],[0,-1],[1,-1],[-1,1],[1,1]]
 else if k=5 \/ k=9 \/ k=10 \/ k=11 \/ k=12 then [[-1,-1],[0,-1],[1,-1],[-1,0],[1,0],[0,1]]
 else if k=8 then [[-1,-1],[0,-1],[1,-1],[-1,0],[1,0],[0,1],[-1,1],[1,1]] else if k=14 then [[0,-1],[-1,0],[1,0],[0,1]]
 else if k=15 then [[-1,-1],[1,-1],[-1,1],[1,1]] else []
theorem qiZ:∀ k:Fin 16,qGY qB ((k.val:Nat):Int)=some ((qAX ((k.val:Nat):Int)).length,(qAX ((k.val:Nat):Int)).length,qAX ((k.val:Nat):Int)):=by decide +kernel
theorem qia {k:Int} (h0:0<=k) (h1:k<=15):qGY qB k=some ((qAX k).length,(qAX k).length,qAX k):=by
 have:=qiZ ⟨k.toNat,by omega⟩
 simpa only [show ((k.toNat:Nat):Int)=k by omega] using this
theorem qiY:∀ (k:Fin 16) (i:Fin 8),((qAX ((k.val:Nat):Int)).getD i.val []).length<=2 /\ -2<=((qAX ((k.val:Nat):Int)).getD i.val []).headD 0 /\ ((qAX ((k.val:Nat):Int)).getD i.val []).headD 0<=2 /\
  -2<=((qAX ((k.val:Nat):Int)).getD i.val []).tail.headD 0 /\ ((qAX ((k.val:Nat):Int)).getD i.val []).tail.headD 0<=2:=by decide +kernel
theorem qiW:∀ (k:Fin 16),(qAX ((k.val:Nat):Int)).length<=8:=by decide +kernel
def sg (x:Int):Int:=if sd x=1 then -1 else 1
theorem qel {dx dy:Int} (h:-8<=dx /\ dx<=8 /\ -8<=dy /\ dy<=8) (x:Int):qFg dx dy (sd x)=some (sg x*dx,sg x*dy):=by
 unfold qFg sg
 by_cases hs:sd x=1
 ·rw [qr hs,if_pos hs,w_s (by omega) (by omega),w_s (by omega) (by omega)]
  congr 2<;>omega
 ·rw [qp hs,if_neg hs]
  congr 2<;>omega
theorem qdL (x:Int):sg x=1 \/ sg x = -1:=by unfold sg;split<;>simp
def dx_ (r:List Int):Int:=r.headD 0
def dy_ (r:List Int):Int:=r.tail.headD 0
def qDM (x:Int) (L:List (List Int)) (a c:Nat):Bool:=L.any fun r=>decide (df a c=sg x*dx_ r /\ dr a c=sg x*dy_ r)
theorem qsN {x:Int} {a:Nat} (ha:a<81) (L:List (List Int)) (hlen:L.length<=8) (hr:∀ r∈L,r.length<=2 /\ -2<=dx_ r /\ dx_ r<=2 /\ -2<=dy_ r /\ dy_ r<=2) (N:Nat) (u v:Int):
  ∀ (n i:Nat),i+n=L.length->∀ (f:Nat->Bool) (F:Nat),qFi (F+n+1) x a L.length (Int.ofNat L.length) i u v (sLo f) (sHi f) N L =
    some (u,v,sLo fun c=>f c||qDM x (L.drop i) a c,sHi fun c=>f c||qDM x (L.drop i) a c):=by
 intro n
 induction n with
 | zero=>
   intro i hi f F
   show qIL (qFi (F+0)) _ _ _ _ _ _ _ _ _ _ _=_
   unfold qIL
   rw [qY (by simp;omega),List.drop_eq_nil_of_le (by omega)]
   have:(fun c=>f c||qDM x [] a c)=f:=by funext c;simp [qDM]
   rw [this]
 | succ n ih=>
   intro i hi f F
   show qIL (qFi (F+n+1)) _ _ _ _ _ _ _ _ _ _ _=_
   unfold qIL
   have hil:i<L.length:=by omega
   have hget:L.getD i []=L[i]:=by rw [List.getD_eq_getElem?_getD,List.getElem?_eq_getElem hil];rfl
   obtain ⟨r0,r1,r2,r3,r4⟩:=hr L[i] (List.getElem_mem hil)
   have ht:List.take 2 L[i]=L[i]:=List.take_of_length_le r0
   have hs:=qdL x
   rw [qi (by simp;omega),qn (by omega) (by omega),tn,hget,ht,qDH,qA]
   show ob (qFg (dx_ L[i]) (dy_ L[i]) (sd x)) _=_
   rw [qel (by omega),qA]
   simp only
   rw [qOS (by rcases hs with h | h<;>rw [h]<;>omega) (by rcases hs with h | h<;>rw [h]<;>omega) (by rcases hs with h | h<;>rw [h]<;>omega) (by rcases hs with h | h<;>rw [h]<;>omega) ha,qA,qGc,qA]
   simp only
   rw [w_s (by omega) (by omega)]
   refine (ih (i+1) (by omega) _ F).trans ?_
   have hd:L.drop i=L[i] :: L.drop (i+1):=List.drop_eq_getElem_cons hil
   obtain ⟨e1,e2⟩:=qB1 (f:=fun c=>(f c||only (qBK (sg x*dx_ L[i]) (sg x*dy_ L[i]) a) c)||qDM x (L.drop (i+1)) a c) (g:=fun c=>f c||qDM x (L.drop i) a c) fun c hc=>by
    rw [qnc ha hc,hd]
    unfold qDM
    rw [List.any_cons,Bool.or_assoc]
   rw [e1,e2]
theorem qfV:∀ (k:Fin 16) (d u:Fin 17),(qAX ((k.val:Nat):Int)).any (fun r=>decide ((d.val:Int) - 8=dx_ r /\ (u.val:Int) - 8 = -(dy_ r)))=decide (qB2 ((k.val:Nat):Int) ((d.val:Int) - 8) ((u.val:Int) - 8)):=by decide +kernel
theorem qfW:∀ (k:Fin 16) (d u:Fin 17),(qAX ((k.val:Nat):Int)).any (fun r=>decide ((d.val:Int) - 8 = -(dx_ r) /\ (u.val:Int) - 8 = -(dy_ r)))=decide (qB2 ((k.val:Nat):Int) ((d.val:Int) - 8) ((u.val:Int) - 8)):=by decide +kernel
theorem qfX (x:Int) {a c:Nat} (ha:a<81) (hc:c<81):qDM x (qAX (kd x)) a c=qA3 x a c:=by
 obtain ⟨k0,k1,_⟩:=qCO x
 have hr:=qSx (x:=x) ha hc
 unfold qA3 qDM sg upS
 by_cases hs:sd x=1
 ·simp only [hs,if_true]
  have:=qfW ⟨(kd x).toNat,by omega⟩ ⟨(df a c+8).toNat,by omega⟩ ⟨(dr a c+8).toNat,by omega⟩
  simp only [show (((kd x).toNat:Nat):Int)=kd x by omega,show (((df a c+8).toNat:Nat):Int) - 8=df a c by omega,show (((dr a c+8).toNat:Nat):Int) - 8=dr a c by omega] at this
  rw [<- this]
  congr 1
  funext r
  rw [decide_eq_decide]
  constructor<;>(rintro ⟨h1,h2⟩;constructor<;>omega)
 ·simp only [hs,if_false]
  have:=qfV ⟨(kd x).toNat,by omega⟩ ⟨(df a c+8).toNat,by omega⟩ ⟨(-dr a c+8).toNat,by omega⟩
  simp only [show (((kd x).toNat:Nat):Int)=kd x by omega,show (((df a c+8).toNat:Nat):Int) - 8=df a c by omega,show (((-dr a c+8).toNat:Nat):Int) - 8 = -dr a c by omega] at this
  rw [<- this]
  congr 1
  funext r
  rw [decide_eq_decide]
  constructor<;>(rintro ⟨h1,h2⟩;constructor<;>omega)
theorem qiX {k:Int} (h0:0<=k) (h1:k<=15):(qAX k).length<=8 /\ ∀ r∈qAX k,r.length<=2 /\ -2<=dx_ r /\ dx_ r<=2 /\ -2<=dy_ r /\ dy_ r<=2:=by
 have hl:=qiW ⟨k.toNat,by omega⟩
 simp only [show ((k.toNat:Nat):Int)=k by omega] at hl
 refine ⟨hl,fun r hr=>?_⟩
 obtain ⟨i,hi,rfl⟩:=List.getElem_of_mem hr
 have:=qiY ⟨k.toNat,by omega⟩ ⟨i,by omega⟩
 simp only [show ((k.toNat:Nat):Int)=k by omega] at this
 rw [List.getD_eq_getElem?_getD,List.getElem?_eq_getElem hi] at this
 exact this
theorem qsO (x:Int) {a:Nat} (ha:a<81):qJf x a=some (sLo (qA3 x a),sHi (qA3 x a)):=by
 obtain ⟨k0,k1,_⟩:=qCO x
 obtain ⟨hlen,hrs⟩:=qiX k0 k1
 obtain ⟨g,hg⟩:=qk (qAX (kd x)).length (by omega)
 have:=qsN (x:=x) ha (qAX (kd x)) hlen hrs (qAX (kd x)).length 0 0 (qAX (kd x)).length 0 (by omega) (fun _=>false) g
 rw [<- hg,qBn,qBm] at this
 unfold qJf
 rw [qBZ,qA,qia k0 k1,qA]
 simp only
 rw [show qFi qB x a (qAX (kd x)).length (Int.ofNat (qAX (kd x)).length) 0 0 0 0 0 (qAX (kd x)).length (qAX (kd x))=_ from this,qA]
 simp only
 obtain ⟨e1,e2⟩:=qB1 (f:=fun c=>false||qDM x (List.drop 0 (qAX (kd x))) a c) (g:=qA3 x a) fun c hc=>by
  rw [Bool.false_or,List.drop_zero,qfX x ha hc]
 rw [e1,e2]
end Go.Kk.Pl
namespace Go.Kk.Pl
def sgn (n:Int):Int:=if n<0 then -1 else if n>0 then 1 else 0
def q7 (a c:Nat):Int:=if a=c then 0 else if df a c=0 \/ dr a c=0 then 1 else if df a c=dr a c \/ df a c = -dr a c then 2 else 0
def mx (a c:Nat):Nat:=if (df a c).natAbs<(dr a c).natAbs then (dr a c).natAbs else (df a c).natAbs
def qAZ (a c:Nat):Int:=9*sgn (df a c)+sgn (dr a c)
def btw (a c:Nat):List Nat:=if q7 a c=0 then [] else (List.range (mx a c - 1)).map fun (j:Nat)=>((a:Int)+((j:Int)+1)*qAZ a c).toNat
theorem qr0 (n:Int):qHw n=some (sgn n):=by
 unfold qHw sgn
 split
 ·rename_i h;rw [qi h]
 ·rename_i h
  rw [qY h]
  split
  ·rename_i h2;rw [qCz h2]
  ·rename_i h2;rw [qCe h2]
theorem qYJ {a c:Nat} (ha:a<81) (hc:c<81):qHu a c=some (q7 a c):=by
 have hg:=geo ha
 have hg2:=geo hc
 unfold qHu q7
 simp (disch:=omega) only [qY,qIP,qJp,w_s]
 by_cases hac:a=c
 ·rw [qr (by omega),if_pos hac]
 ·rw [qp (by omega),if_neg hac]
  by_cases h1:df a c=0
  ·rw [qr (by unfold df at h1;omega),if_pos (.inl h1)]
  ·rw [qp (by unfold df at h1;omega)]
   by_cases h2:dr a c=0
   ·rw [qr (by unfold dr at h2;omega),if_pos (.inr h2)]
   ·rw [qp (by unfold dr at h2;omega),if_neg (by omega)]
    by_cases h3:df a c=dr a c
    ·rw [qr (by unfold df dr at h3;omega),if_pos (.inl h3)]
    ·rw [qp (by unfold df dr at h3;omega)]
     by_cases h4:df a c = -dr a c
     ·rw [qr (by unfold df dr at h4;omega),if_pos (.inr h4)]
     ·rw [qp (by unfold df dr at h4;omega),if_neg (by omega)]
theorem qLD {a c:Nat} (ha:a<81) (hc:c<81) (h:q7 a c≠0):1<=mx a c /\ mx a c<=8 /\ (c:Int)=a+(mx a c:Int)*qAZ a c /\ qAZ a c≠0 /\ -10<=qAZ a c /\ qAZ a c<=10:=by
 have hg:=geo ha
 have hg2:=geo hc
 have hdf:df a c=fl c - fl a:=rfl
 have hdr:dr a c=rn c - rn a:=rfl
 unfold q7 at h
 split at h
 ·exact absurd rfl h
 rename_i hac
 have hne:¬ (df a c=0 /\ dr a c=0):=fun hh=>hac (qIt hh.1 hh.2)
 have hl:df a c=0 \/ dr a c=0 \/ df a c=dr a c \/ df a c = -dr a c:=by
  split at h
  ·rename_i h1;rcases h1 with h1 | h1
   ·exact .inl h1
   ·exact .inr (.inl h1)
  ·split at h
   ·rename_i h1;rcases h1 with h1 | h1
    ·exact .inr (.inr (.inl h1))
    ·exact .inr (.inr (.inr h1))
   ·exact absurd rfl h
 clear h
 unfold mx qAZ sgn
 generalize df a c=d at *
 generalize dr a c=e at *
 rcases Int.lt_trichotomy d 0 with h1 | h1 | h1<;>rcases Int.lt_trichotomy e 0 with h2 | h2 | h2
 all_goals simp (disch:=omega) only [if_pos,if_neg]
 all_goals (refine ⟨by omega,by omega,by omega,by omega,by omega,by omega⟩)
theorem qLH {a c D:Int} {m j:Nat} (hm:c=a+(m:Int)*D) (ha:0<=a /\ a<81) (hc:0<=c /\ c<81) (hj:j<=m) (_hD:-10<=D /\ D<=10):0<=a+(j:Int)*D /\ a+(j:Int)*D<81:=by
 have hj':(j:Int)<=m:=by omega
 rcases Int.le_total 0 D with h | h
 ·have h1:(0:Int)<=(j:Int)*D:=Int.mul_nonneg (by omega) h
  have h2:(j:Int)*D<=(m:Int)*D:=Int.mul_le_mul_of_nonneg_right hj' h
  omega
 ·have h1:(j:Int)*D<=0:=Int.mul_nonpos_of_nonneg_of_nonpos (by omega) h
  have h2:(m:Int)*D<=(j:Int)*D:=Int.mul_le_mul_of_nonpos_right hj' h
  omega
theorem qgF {a c:Nat} (ha:a<81) (hc:c<81) (h:q7 a c≠0):∀ (n j:Nat),j+1+n=mx a c->∀ F,
  qFS (F+n+1) c j (qAZ a c) ((a:Int)+((j:Int)+1)*qAZ a c) j ((List.range j).map fun (j:Nat)=>(a:Int)+((j:Int)+1)*qAZ a c) =
   some (mx a c - 1,mx a c - 1,(List.range (mx a c - 1)).map fun (j:Nat)=>(a:Int)+((j:Int)+1)*qAZ a c):=by
 obtain ⟨m1,m8,hend,hD0,hD1,hD2⟩:=qLD ha hc h
 intro n
 induction n with
 | zero=>
   intro j hj F
   show qHs (qFS (F+0)) _ _ _ _ _ _=_
   unfold qHs
   have hjm:((j:Int)+1)=(mx a c:Int):=by omega
   rw [hjm,qAf (by omega),show mx a c - 1=j by omega]
 | succ n ih=>
   intro j hj F
   show qHs (qFS (F+n+1)) _ _ _ _ _ _=_
   unfold qHs
   have hne:¬ (a:Int)+((j:Int)+1)*qAZ a c=c:=by
    rw [hend]
    intro hh
    have:((j:Int)+1)*qAZ a c=(mx a c:Int)*qAZ a c:=by omega
    have:=Int.eq_of_mul_eq_mul_right hD0 this
    omega
   have hr:=qLH (j:=j+1) hend (by omega) (by omega) (by omega) ⟨hD1,hD2⟩
   have hr2:=qLH (j:=j+2) hend (by omega) (by omega) (by omega) ⟨hD1,hD2⟩
   have e2:(a:Int)+((j:Int)+1)*qAZ a c+qAZ a c=(a:Int)+(((j+1:Nat):Int)+1)*qAZ a c:=by
    rw [show (((j+1:Nat):Int)+1)=((j:Int)+1)+1 by omega,Int.add_mul ((j:Int)+1),Int.one_mul];omega
   have e3:(((j+2:Nat):Int))=(((j+1:Nat):Int)+1):=by omega
   rw [e3] at hr2
   rw [qAR hne,qD (by simp;omega),e2,w_s (by omega) (by omega),qM2 (by simp)]
   have e4:(((List.range j).map fun (j:Nat)=>(a:Int)+((j:Int)+1)*qAZ a c)++[(a:Int)+((j:Int)+1)*qAZ a c])=(List.range (j+1)).map fun (j:Nat)=>(a:Int)+((j:Int)+1)*qAZ a c:=by
    rw [List.range_succ,List.map_append];rfl
   rw [e4]
   exact ih (j+1) (by omega) F
theorem qIc {a c:Nat} (ha:a<81) (hc:c<81) {s:Nat} (hs:s∈btw a c):s<81:=by
 unfold btw at hs
 split at hs
 ·cases hs
 ·rename_i h
  obtain ⟨m1,m8,hend,hD0,hD1,hD2⟩:=qLD ha hc h
  obtain ⟨j,hj,rfl⟩:=List.mem_map.1 hs
  rw [List.mem_range] at hj
  have hr:=qLH (j:=j+1) hend (by omega) (by omega) (by omega) ⟨hD1,hD2⟩
  rw [show (((j+1:Nat):Int))=(j:Int)+1 by omega] at hr
  omega
theorem qhN {a c:Nat} (ha:a<81) (hc:c<81):(btw a c).length<=7:=by
 unfold btw
 split
 ·simp
 ·rename_i h
  obtain ⟨m1,m8,_⟩:=qLD ha hc h
  simp;omega
theorem qgH {a c:Nat} (ha:a<81) (hc:c<81):qJM a c=some ((btw a c).length,(btw a c).length,(btw a c).map Int.ofNat):=by
 have hg:=geo ha
 have hg2:=geo hc
 unfold qJM
 rw [qYJ ha hc,qA]
 by_cases h:q7 a c=0
 ·rw [qr h]
  unfold btw
  rw [if_pos h]
  rfl
 ·obtain ⟨m1,m8,hend,hD0,hD1,hD2⟩:=qLD ha hc h
  have hs1:-1<=sgn (df a c) /\ sgn (df a c)<=1:=by unfold sgn;split<;>(try split)<;>omega
  have hs2:-1<=sgn (dr a c) /\ sgn (dr a c)<=1:=by unfold sgn;split<;>(try split)<;>omega
  rw [qp h]
  simp (disch:=omega) only [qIP,qJp,w_s,qr0,qA]
  rw [show fl c - fl a=df a c from rfl,show rn c - rn a=dr a c from rfl,w_s (n:=9*sgn (df a c)) (by omega) (by omega),show 9*sgn (df a c)+sgn (dr a c)=qAZ a c from rfl,w_s (n:=qAZ a c) (by omega) (by omega),w_s (n:=(a:Int)+qAZ a c) (by omega) (by omega)]
  obtain ⟨g,hgm⟩:=qk (mx a c - 1) (by omega)
  have:=qgF ha hc h (mx a c - 1) 0 (by omega) g
  rw [<- hgm] at this
  have e0:(a:Int)+(((0:Nat):Int)+1)*qAZ a c=a+qAZ a c:=by
   rw [show ((0:Nat):Int)+1=1 from rfl,Int.one_mul]
  rw [e0] at this
  rw [show qFS qB c 0 (qAZ a c) ((a:Int)+qAZ a c) 0 []=_ from this,qA]
  unfold btw
  rw [if_neg h]
  simp only [List.length_map,List.length_range,List.map_map]
  congr 3
  apply List.map_congr_left
  intro j hj
  rw [List.mem_range] at hj
  have hr:=qLH (j:=j+1) hend (by omega) (by omega) (by omega) ⟨hD1,hD2⟩
  rw [show (((j+1:Nat):Int))=(j:Int)+1 by omega] at hr
  show _=Int.ofNat (Int.toNat _)
  simp only [Int.ofNat_eq_natCast]
  omega
def qAr (a c:Nat) (t:Nat->Bool):Bool:=(btw a c).all fun s=>!t s
theorem qi7 (t:List Bool) (L:List Nat) (hL:∀ s∈L,s<81) (hl:L.length<=100) (N:Nat):∀ (n i:Nat),i+n=L.length->∀ F,
  qFT (F+n+1) L.length i t N (L.map Int.ofNat)=some (if (L.drop i).all (fun s=>!t.getD s false) then .inr () else .inl false):=by
 intro n
 induction n with
 | zero=>
   intro i hi F
   show qHt (qFT (F+0)) _ _ _ _ _=_
   unfold qHt
   rw [qY (by simp;omega),List.drop_eq_nil_of_le (by omega)]
   rfl
 | succ n ih=>
   intro i hi F
   show qHt (qFT (F+n+1)) _ _ _ _ _=_
   unfold qHt
   have hil:i<L.length:=by omega
   have hd:L.drop i=L[i] :: L.drop (i+1):=List.drop_eq_getElem_cons hil
   have hget:(L.map Int.ofNat).getD i 0=(L[i]:Int):=by
    rw [List.getD_eq_getElem?_getD,List.getElem?_map,List.getElem?_eq_getElem hil];rfl
   have h81:=hL L[i] (List.getElem_mem hil)
   rw [qi (by simp;omega),qn (by omega) (by omega),tn,hget,qn (by omega) (by omega),tn,hd,List.all_cons,w_s (by omega) (by omega)]
   cases ht:t.getD L[i] false with
   | true=>rfl
   | false=>
     rw [b_f,Bool.not_false,Bool.true_and]
     exact ih (i+1) (by omega) F
theorem qi9 {a c:Nat} (ha:a<81) (hc:c<81) (t:List Bool):qAv a c t=some (qAr a c fun s=>t.getD s false):=by
 unfold qAv
 rw [qgH ha hc,qA]
 simp only
 have hlen:=qhN ha hc
 obtain ⟨g,hg⟩:=qk (btw a c).length (by omega)
 have:=qi7 t (btw a c) (fun s hs=>qIc ha hc hs) (by omega) (btw a c).length (btw a c).length 0 (by omega) g
 rw [<- hg] at this
 rw [show qFT qB (btw a c).length 0 t (btw a c).length ((btw a c).map Int.ofNat)=_ from this,qA,List.drop_zero]
 unfold qAr
 cases (btw a c).all fun s=>!t.getD s false<;>rfl
def slK (k d u:Int):Prop:=(k=2 /\ d=0 /\ 0<u) \/ ((k=6 \/ k=14) /\ ¬ (d=0 /\ u=0) /\ (d=u \/ d = -u)) \/ ((k=7 \/ k=15) /\ ¬ (d=0 /\ u=0) /\ (d=0 \/ u=0))
instance (k d u:Int):Decidable (slK k d u):=by unfold slK;infer_instance
def qAo (x:Int) (a c:Nat):Bool:=decide (slK (kd x) (df a c) (upS x a c))
def rch (x:Int) (a c:Nat) (t:Nat->Bool):Bool:=qA3 x a c||(qAo x a c&&qAr a c t)
theorem qlo {a c:Nat}:q7 a c=1↔(¬ (df a c=0 /\ dr a c=0)) /\ (df a c=0 \/ dr a c=0):=by
 unfold q7
 by_cases hac:a=c
 ·subst hac
  have:=qHF a
  simp [this.1,this.2]
 ·have:¬ (df a c=0 /\ dr a c=0):=fun h=>hac (qIt h.1 h.2)
  rw [if_neg hac]
  split
  ·rename_i h;simp [this,h]
  ·rename_i h
   split<;>simp [h]
theorem qlp {a c:Nat}:q7 a c=2↔(¬ (df a c=0 /\ dr a c=0)) /\ (df a c=dr a c \/ df a c = -dr a c):=by
 unfold q7
 by_cases hac:a=c
 ·subst hac
  have:=qHF a
  simp [this.1,this.2]
 ·have:¬ (df a c=0 /\ dr a c=0):=fun h=>hac (qIt h.1 h.2)
  rw [if_neg hac]
  split
  ·rename_i h
   constructor
   ·intro hh;omega
   ·rintro ⟨h1,h2⟩;omega
  ·rename_i h
   split
   ·rename_i h2;simp [h2];omega
   ·rename_i h2;simp [h2]
theorem qos (x:Int) {a c:Nat} (ha:a<81) (hc:c<81) (t:List Bool):qHv x a c t=some (rch x a c fun s=>t.getD s false):=by
 have hg:=geo ha
 have hg2:=geo hc
 unfold qHv
 rw [qqZ x ha hc,qA]
 unfold rch
 cases hst:qA3 x a c with
 | true=>rfl
 | false =>
   rw [b_f,qYJ ha hc,qA,qL2,qA,Bool.false_or]
   have l1:=qlo (a:=a) (c:=c)
   have l2:=qlp (a:=a) (c:=c)
   have hup:upS x a c=if sd x=1 then dr a c else -dr a c:=rfl
   have hdr:dr a c=rn c - rn a:=rfl
   have hdf:df a c=fl c - fl a:=rfl
   have fin:∀ (p:Bool),p=qAo x a c->(br p (ob (qAv a c t) fun a8=>some a8) (some false):Option Bool)=some (qAo x a c&&qAr a c fun s=>t.getD s false):=by
    intro p hp
    rw [hp,qi9 ha hc,qA]
    cases qAo x a c<;>rfl
   have sl:∀ {p:Prop} [Decidable p],(p↔slK (kd x) (df a c) (upS x a c))->decide p=qAo x a c:=by
    intro p _ h
    unfold qAo
    rw [decide_eq_decide];exact h
   have nsl:¬ slK (kd x) (df a c) (upS x a c)->(some false:Option Bool)=some (qAo x a c&&qAr a c fun s=>t.getD s false):=by
    intro h
    have:qAo x a c=false:=by unfold qAo;simpa using h
    rw [this];rfl
   simp (disch:=omega) only [qIP,qJp,w_s,qEZ,qA]
   have body : ∀ (u:Int),u=upS x a c->(br (kd x==2)
        (br (q7 a c==1)
         (br (fl a==fl c)
          (br (decide (u>0))
           (ob (qAv a c t) fun a8=>
           some (a8))
           (some (false)))
          (some (false)))
         (some (false)))
        (br (kd x==6)
         (br (q7 a c==2)
          (ob (qAv a c t) fun a8=>
          some (a8))
          (some (false)))
         (br (kd x==14)
          (br (q7 a c==2)
           (ob (qAv a c t) fun a8=>
           some (a8))
           (some (false)))
          (br (kd x==7)
           (br (q7 a c==1)
            (ob (qAv a c t) fun a8=>
            some (a8))
            (some (false)))
           (br (kd x==15)
            (br (q7 a c==1)
             (ob (qAv a c t) fun a8=>
             some (a8))
             (some (false)))
            (some (false))))))  : Option Bool)=some (qAo x a c&&qAr a c fun s=>t.getD s false):=by
    intro u hu
    by_cases k2:kd x=2
    ·rw [qr k2]
     by_cases h1:q7 a c=1
     ·rw [qr h1]
      by_cases h3:fl a=fl c
      ·rw [qr h3]
       refine fin _ ?_
       exact sl (by unfold slK;rw [<- hu];omega)
      ·rw [qp h3]
       exact nsl (by unfold slK;omega)
     ·rw [qp h1]
      refine nsl (by
       rw [l1] at h1
       unfold slK
       split at hup<;>omega)
    ·rw [qp k2]
     have two:(kd x=6 \/ kd x=14)->(br (q7 a c==2) (ob (qAv a c t) fun a8=>some a8) (some false):Option Bool)=some (qAo x a c&&qAr a c fun s=>t.getD s false):=by
      intro hk
      refine fin _ ?_
      have:(q7 a c==2)=decide (q7 a c=2):=by rw [Bool.eq_iff_iff];simp
      rw [this]
      refine sl ?_
      rw [l2]
      unfold slK
      split at hup<;>omega
     have one:(kd x=7 \/ kd x=15)->(br (q7 a c==1) (ob (qAv a c t) fun a8=>some a8) (some false):Option Bool)=some (qAo x a c&&qAr a c fun s=>t.getD s false):=by
      intro hk
      refine fin _ ?_
      have:(q7 a c==1)=decide (q7 a c=1):=by rw [Bool.eq_iff_iff];simp
      rw [this]
      refine sl ?_
      rw [l1]
      unfold slK
      split at hup<;>omega
     by_cases k6:kd x=6
     ·rw [qr k6];exact two (.inl k6)
     rw [qp k6]
     by_cases k14:kd x=14
     ·rw [qr k14];exact two (.inr k14)
     rw [qp k14]
     by_cases k7:kd x=7
     ·rw [qr k7];exact one (.inl k7)
     rw [qp k7]
     by_cases k15:kd x=15
     ·rw [qr k15];exact one (.inr k15)
     rw [qp k15]
     exact nsl (by unfold slK;omega)
   by_cases hs:sd x=1
   ·rw [qr hs]
    exact body _ (by rw [hup,if_pos hs];omega)
   ·rw [qp hs]
    exact body _ (by rw [hup,if_neg hs];omega)
end Go.Kk.Pl
namespace Go.Kk.Pl
def qBy (dx dy:Int):Nat->Int->List Nat
 | 0,_=>[]
 | n+1,p=>if p<0 then [] else p.toNat :: qBy dx dy n (qBK dx dy p.toNat)
def qAU (t:Nat->Bool):List Nat->Nat->Bool
 | [],_=>false
 | s :: L,c=>decide (c=s)||(!t s&&qAU t L c)
def qDa (dx dy:Int):Nat->Int->Bool
 | 0,p=>decide (p<0)
 | n+1,p=>decide (p<0)||qDa dx dy n (qBK dx dy p.toNat)
theorem qV0 (dx dy:Int) (a:Nat):-1<=qBK dx dy a /\ qBK dx dy a<81:=by unfold qBK;split<;>omega
theorem qtw {dx dy:Int} (h1:-8<=dx) (h2:dx<=8) (h3:-8<=dy) (h4:dy<=8) (t:Nat->Bool) (u v:Int):∀ (n:Nat) (p:Int),-1<=p->p<81->qDa dx dy n p=true->∀ (f:Nat->Bool) (F:Nat),
  qGH (F+n+1) p dx dy (sLo t) (sHi t) u v (sLo f) (sHi f)=some (u,v,sLo fun c=>f c||qAU t (qBy dx dy n p) c,sHi fun c=>f c||qAU t (qBy dx dy n p) c):=by
 intro n
 induction n with
 | zero=>
   intro p hp0 hp1 he f F
   show qHq (qGH (F+0)) _ _ _ _ _ _ _ _ _=_
   unfold qHq
   simp only [qDa,decide_eq_true_eq] at he
   rw [qCd (by omega)]
   have:(fun c=>f c||qAU t (qBy dx dy 0 p) c)=f:=by funext c;simp [qBy,qAU]
   rw [this]
 | succ n ih=>
   intro p hp0 hp1 he f F
   show qHq (qGH (F+n+1)) _ _ _ _ _ _ _ _ _=_
   unfold qHq
   by_cases hp:p<0
   ·rw [qCd (by omega)]
    have:(fun c=>f c||qAU t (qBy dx dy (n+1) p) c)=f:=by funext c;simp [qBy,qAU,hp]
    rw [this]
   ·obtain ⟨q,rfl⟩:∃ q:Nat,p=q:=⟨p.toNat,by omega⟩
    have hq:q<81:=by omega
    rw [qDP (by omega),qGc,qA]
    simp only
    rw [qEM,qA]
    have hhas:has t q=t q:=by unfold has;simp;intro _;omega
    have hL:qBy dx dy (n+1) q=q :: qBy dx dy n (qBK dx dy q):=by simp [qBy]
    rw [hhas,hL]
    cases ht:t q with
    | true=>
      rw [b_t]
      obtain ⟨e1,e2⟩:=qB1 (f:=fun i=>f i||only q i) (g:=fun c=>f c||qAU t (q :: qBy dx dy n (qBK dx dy q)) c) fun c hc=>by
       unfold qAU only
       rw [ht]
       have:decide ((c:Int)=(q:Int))=decide (c=q):=by rw [decide_eq_decide];omega
       rw [this];simp
      rw [e1,e2]
    | false=>
      rw [b_f,qOS h1 h2 h3 h4 hq,qA]
      obtain ⟨r1,r2⟩:=qV0 dx dy q
      have he':qDa dx dy n (qBK dx dy q)=true:=by
       simp only [qDa,Bool.or_eq_true,decide_eq_true_eq] at he
       rcases he with he | he
       ·omega
       ·simpa using he
      refine (ih _ r1 r2 he' _ F).trans ?_
      obtain ⟨e1,e2⟩:=qB1 (f:=fun c=>(f c||only q c)||qAU t (qBy dx dy n (qBK dx dy q)) c) (g:=fun c=>f c||qAU t (q :: qBy dx dy n (qBK dx dy q)) c) fun c hc=>by
       unfold only
       have:decide ((c:Int)=(q:Int))=decide (c=q):=by rw [decide_eq_decide];omega
       rw [this]
       show _=(f c||(decide (c=q)||(!t q&&qAU t (qBy dx dy n (qBK dx dy q)) c)))
       rw [ht]
       simp [Bool.or_assoc]
      rw [e1,e2]
def qBG (dx dy:Int) (a:Nat):List Nat:=qBy dx dy 9 (qBK dx dy a)
theorem qie:∀ (d:Fin 9) (a:Fin 81),(d.val=4 \/ qDa ((d.val / 3:Nat) - 1) ((d.val % 3:Nat) - 1) 9 (qBK ((d.val / 3:Nat) - 1) ((d.val % 3:Nat) - 1) a.val)=true):=by decide +kernel
theorem qe7 {dx dy:Int} (h1:-1<=dx) (h2:dx<=1) (h3:-1<=dy) (h4:dy<=1) (hne:¬ (dx=0 /\ dy=0)) {a:Nat} (ha:a<81) (t:Nat->Bool):
  qHp a dx dy (sLo t) (sHi t)=some (sLo (qAU t (qBG dx dy a)),sHi (qAU t (qBG dx dy a))):=by
 unfold qHp
 rw [qH (by rw [Bool.and_eq_false_iff];simp;omega),qOS (by omega) (by omega) (by omega) (by omega) ha,qA]
 obtain ⟨r1,r2⟩:=qV0 dx dy a
 have he:qDa dx dy 9 (qBK dx dy a)=true:=by
  have:=qie ⟨((dx+1)*3+(dy+1)).toNat,by omega⟩ ⟨a,ha⟩
  simp only at this
  rw [show (((((dx+1)*3+(dy+1)).toNat / 3:Nat):Int) - 1)=dx by omega,show (((((dx+1)*3+(dy+1)).toNat % 3:Nat):Int) - 1)=dy by omega] at this
  exact this.resolve_left (by omega)
 obtain ⟨g,hg⟩:=qk 9 (by omega)
 have:=qtw (by omega) (by omega) (by omega) (by omega) t 0 0 9 _ r1 r2 he (fun _=>false) g
 rw [<- hg,qBn,qBm] at this
 rw [this,qA]
 simp only [Bool.false_or]
 rfl
def qIh (a c:Nat):Bool:=decide (q7 a c=0)||((qBG (sgn (df a c)) (sgn (dr a c)) a).take (btw a c).length==btw a c&&((qBG (sgn (df a c)) (sgn (dr a c)) a)[(btw a c).length]? == some c && !(btw a c).contains c))
def qN5 (a:Nat) (dx dy:Int):Bool:=(qBG dx dy a).all fun c=>decide (c<81)&&(decide (q7 a c≠0)&&(decide (sgn (df a c)=dx)&&decide (sgn (dr a c)=dy)))
theorem qKM:∀ (a c:Fin 81),qIh a.val c.val=true:=by decide +kernel
theorem qUs:∀ (d:Fin 9) (a:Fin 81),(d.val=4 \/ qN5 a.val ((d.val / 3:Nat) - 1) ((d.val % 3:Nat) - 1)=true):=by decide +kernel
theorem qeo (t:Nat->Bool) {c:Nat}:∀ (P Q:List Nat),c ∉ P->qAU t (P++c :: Q) c=P.all fun s=>!t s
 | [],Q,_=>by simp [qAU]
 | s :: P,Q,h=>by
   simp only [List.mem_cons,not_or] at h
   show (decide (c=s)||(!t s&&qAU t (P++c :: Q) c))=_
   rw [qeo t P Q h.2,List.all_cons,show decide (c=s)=false by simpa using h.1,Bool.false_or]
theorem qem (t:Nat->Bool) {c:Nat}:∀ (P:List Nat),c ∉ P->qAU t P c=false
 | [],_=>rfl
 | s :: P,h=>by
   simp only [List.mem_cons,not_or] at h
   show (decide (c=s)||(!t s&&qAU t P c))=_
   rw [qem t P h.2,show decide (c=s)=false by simpa using h.1];simp
def onW (dx dy:Int) (a c:Nat):Bool:=decide (q7 a c≠0 /\ sgn (df a c)=dx /\ sgn (dr a c)=dy)
theorem qep {dx dy:Int} (h1:-1<=dx) (h2:dx<=1) (h3:-1<=dy) (h4:dy<=1) (hne:¬ (dx=0 /\ dy=0)) {a c:Nat} (ha:a<81) (hc:c<81) (t:Nat->Bool):
  qAU t (qBG dx dy a) c=(onW dx dy a c&&qAr a c t):=by
 unfold onW
 by_cases h:q7 a c≠0 /\ sgn (df a c)=dx /\ sgn (dr a c)=dy
 ·obtain ⟨hl,rfl,rfl⟩:=h
  have:=qKM ⟨a,ha⟩ ⟨c,hc⟩
  simp only [qIh,Bool.or_eq_true,decide_eq_true_eq,Bool.and_eq_true,beq_iff_eq,Bool.not_eq_true'] at this
  obtain ⟨e1,e2,e3⟩:=this.resolve_left hl
  have hlt:(btw a c).length<(qBG (sgn (df a c)) (sgn (dr a c)) a).length:=getElem?_lt e2
  have hsp:qBG (sgn (df a c)) (sgn (dr a c)) a=btw a c++c :: (qBG (sgn (df a c)) (sgn (dr a c)) a).drop ((btw a c).length+1):=by
   have:=qMU e2
   rw [e1] at this
   exact this
  rw [hsp,qeo t _ _ (by simpa using e3)]
  simp [hl,qAr]
 ·have hn:c ∉ qBG dx dy a:=by
   intro hm
   have:=qUs ⟨((dx+1)*3+(dy+1)).toNat,by omega⟩ ⟨a,ha⟩
   simp only at this
   rw [show (((((dx+1)*3+(dy+1)).toNat / 3:Nat):Int) - 1)=dx by omega,show (((((dx+1)*3+(dy+1)).toNat % 3:Nat):Int) - 1)=dy by omega] at this
   have:=this.resolve_left (by omega)
   unfold qN5 at this
   rw [List.all_eq_true] at this
   have:=this c hm
   simp only [Bool.and_eq_true,decide_eq_true_eq] at this
   exact h ⟨this.2.1,this.2.2.1,this.2.2.2⟩
  rw [qem t _ hn]
  rw [decide_eq_false h,Bool.false_and]
def qAT (k:Int):List (List Int):=if k=2 then [[0,-1]] else if k=6 \/ k=14 then [[-1,-1],[1,-1],[-1,1],[1,1]] else if k=7 \/ k=15 then [[0,-1],[-1,0],[1,0],[0,1]] else []
theorem qQs (k:Int):qGG k=some ((qAT k).length,(qAT k).length,qAT k):=by
 unfold qGG qAT
 by_cases h2:k=2
 ·rw [qr h2,if_pos h2];rfl
 rw [qp h2,if_neg h2]
 by_cases h6:k=6
 ·rw [qr h6,if_pos (.inl h6)];rfl
 rw [qp h6]
 by_cases h14:k=14
 ·rw [qr h14,if_pos (.inr h14)];rfl
 rw [qp h14,if_neg (by omega)]
 by_cases h7:k=7
 ·rw [qr h7,if_pos (.inl h7)];rfl
 rw [qp h7]
 by_cases h15:k=15
 ·rw [qr h15,if_pos (.inr h15)];rfl
 rw [qp h15,if_neg (by omega)];rfl
theorem qop (k:Int):(qAT k).length<=8 /\ ∀ r∈qAT k,r.length<=2 /\ -1<=dx_ r /\ dx_ r<=1 /\ -1<=dy_ r /\ dy_ r<=1 /\ ¬ (dx_ r=0 /\ dy_ r=0):=by
 have h1:∀ r∈[[0,-1]],(r:List Int).length<=2 /\ -1<=dx_ r /\ dx_ r<=1 /\ -1<=dy_ r /\ dy_ r<=1 /\ ¬ (dx_ r=0 /\ dy_ r=0):=by decide
 have h2:∀ r∈[[-1,-1],[1,-1],[-1,1],[1,1]],(r:List Int).length<=2 /\ -1<=dx_ r /\ dx_ r<=1 /\ -1<=dy_ r /\ dy_ r<=1 /\ ¬ (dx_ r=0 /\ dy_ r=0):=by decide
 have h3:∀ r∈[[0,-1],[-1,0],[1,0],[0,1]],(r:List Int).length<=2 /\ -1<=dx_ r /\ dx_ r<=1 /\ -1<=dy_ r /\ dy_ r<=1 /\ ¬ (dx_ r=0 /\ dy_ r=0):=by decide
 unfold qAT
 split
 ·exact ⟨by decide,h1⟩
 ·split
  ·exact ⟨by decide,h2⟩
  ·split
   ·exact ⟨by decide,h3⟩
   ·exact ⟨by decide,fun r hr=>by cases hr⟩
def qDN (x:Int) (L:List (List Int)) (a c:Nat):Bool:=L.any fun r=>onW (sg x*dx_ r) (sg x*dy_ r) a c
theorem qoX {x:Int} {a:Nat} (ha:a<81) (t:Nat->Bool) (L:List (List Int)) (hlen:L.length<=8) (hr:∀ r∈L,r.length<=2 /\ -1<=dx_ r /\ dx_ r<=1 /\ -1<=dy_ r /\ dy_ r<=1 /\ ¬ (dx_ r=0 /\ dy_ r=0)) (N:Nat) (u v:Int):
  ∀ (n i:Nat),i+n=L.length->∀ (f:Nat->Bool) (F:Nat),qFQ (F+n+1) x a L.length (Int.ofNat L.length) i (sLo t) (sHi t) u v (sLo f) (sHi f) N L =
    some (u,v,sLo fun c=>f c||(qDN x (L.drop i) a c&&qAr a c t),sHi fun c=>f c||(qDN x (L.drop i) a c&&qAr a c t)):=by
 intro n
 induction n with
 | zero=>
   intro i hi f F
   show qHo (qFQ (F+0)) _ _ _ _ _ _ _ _ _ _ _ _ _=_
   unfold qHo
   rw [qY (by simp;omega),List.drop_eq_nil_of_le (by omega)]
   have:(fun c=>f c||(qDN x [] a c&&qAr a c t))=f:=by funext c;simp [qDN]
   rw [this]
 | succ n ih=>
   intro i hi f F
   show qHo (qFQ (F+n+1)) _ _ _ _ _ _ _ _ _ _ _ _ _=_
   unfold qHo
   have hil:i<L.length:=by omega
   have hget:L.getD i []=L[i]:=by rw [List.getD_eq_getElem?_getD,List.getElem?_eq_getElem hil];rfl
   obtain ⟨r0,r1,r2,r3,r4,r5⟩:=hr L[i] (List.getElem_mem hil)
   have ht:List.take 2 L[i]=L[i]:=List.take_of_length_le r0
   have hs:=qdL x
   have c1:-1<=sg x*dx_ L[i] /\ sg x*dx_ L[i]<=1 /\ -1<=sg x*dy_ L[i] /\ sg x*dy_ L[i]<=1 /\ ¬ (sg x*dx_ L[i]=0 /\ sg x*dy_ L[i]=0):=by
    rcases hs with h | h<;>rw [h]<;>omega
   rw [qi (by simp;omega),qn (by omega) (by omega),tn,hget,ht,qDH,qA]
   show ob (qFg (dx_ L[i]) (dy_ L[i]) (sd x)) _=_
   rw [qel (by omega),qA]
   simp only
   rw [qe7 c1.1 c1.2.1 c1.2.2.1 c1.2.2.2.1 c1.2.2.2.2 ha,qA]
   simp only
   rw [qHh,qA]
   simp only
   rw [w_s (by omega) (by omega)]
   refine (ih (i+1) (by omega) _ F).trans ?_
   have hd:L.drop i=L[i] :: L.drop (i+1):=List.drop_eq_getElem_cons hil
   obtain ⟨e1,e2⟩:=qB1 (f:=fun c=>(f c||qAU t (qBG (sg x*dx_ L[i]) (sg x*dy_ L[i]) a) c)||(qDN x (L.drop (i+1)) a c&&qAr a c t)) (g:=fun c=>f c||(qDN x (L.drop i) a c&&qAr a c t)) fun c hc=>by
    rw [qep c1.1 c1.2.1 c1.2.2.1 c1.2.2.2.1 c1.2.2.2.2 ha hc,hd]
    unfold qDN
    rw [List.any_cons,Bool.and_or_distrib_right,Bool.or_assoc]
   rw [e1,e2]
def qEP (d e:Int):Prop:=¬ (d=0 /\ e=0) /\ (d=0 \/ e=0 \/ d=e \/ d = -e)
instance (d e:Int):Decidable (qEP d e):=by unfold qEP;infer_instance
theorem qLE (a c:Nat):q7 a c≠0↔qEP (df a c) (dr a c):=by
 unfold qEP q7
 by_cases hac:a=c
 ·subst hac
  have:=qHF a
  simp [this.1,this.2]
 ·have:¬ (df a c=0 /\ dr a c=0):=fun h=>hac (qIt h.1 h.2)
  rw [if_neg hac]
  split
  ·rename_i h;constructor
   ·intro _;exact ⟨this,by omega⟩
   ·intro _;omega
  ·split
   ·constructor
    ·intro _;exact ⟨this,by omega⟩
    ·intro _;omega
   ·constructor
    ·intro h;omega
    ·rintro ⟨_,h⟩;omega
theorem qfY:∀ (k:Fin 16) (d e:Fin 17),(qAT ((k.val:Nat):Int)).any (fun r=>decide (qEP ((d.val:Int) - 8) ((e.val:Int) - 8) /\ sgn ((d.val:Int) - 8)=dx_ r /\ sgn ((e.val:Int) - 8)=dy_ r))=decide (slK ((k.val:Nat):Int) ((d.val:Int) - 8) (-((e.val:Int) - 8))):=by decide +kernel
theorem qfZ:∀ (k:Fin 16) (d e:Fin 17),(qAT ((k.val:Nat):Int)).any (fun r=>decide (qEP ((d.val:Int) - 8) ((e.val:Int) - 8) /\ sgn ((d.val:Int) - 8) = -(dx_ r) /\ sgn ((e.val:Int) - 8) = -(dy_ r)))=decide (slK ((k.val:Nat):Int) ((d.val:Int) - 8) ((e.val:Int) - 8)):=by decide +kernel
theorem qfa (x:Int) {a c:Nat} (ha:a<81) (hc:c<81):qDN x (qAT (kd x)) a c=qAo x a c:=by
 obtain ⟨k0,k1,_⟩:=qCO x
 have hr:=qSx (x:=x) ha hc
 have hl:=qLE a c
 unfold qAo qDN onW sg upS
 by_cases hs:sd x=1
 ·simp only [hs,if_true]
  have:=qfZ ⟨(kd x).toNat,by omega⟩ ⟨(df a c+8).toNat,by omega⟩ ⟨(dr a c+8).toNat,by omega⟩
  simp only [show (((kd x).toNat:Nat):Int)=kd x by omega,show (((df a c+8).toNat:Nat):Int) - 8=df a c by omega,show (((dr a c+8).toNat:Nat):Int) - 8=dr a c by omega] at this
  rw [<- this]
  congr 1
  funext r
  rw [decide_eq_decide,hl]
  constructor<;>(rintro ⟨h1,h2,h3⟩;refine ⟨h1,?_,?_⟩<;>omega)
 ·simp only [hs,if_false]
  have:=qfY ⟨(kd x).toNat,by omega⟩ ⟨(df a c+8).toNat,by omega⟩ ⟨(dr a c+8).toNat,by omega⟩
  simp only [show (((kd x).toNat:Nat):Int)=kd x by omega,show (((df a c+8).toNat:Nat):Int) - 8=df a c by omega,show (((dr a c+8).toNat:Nat):Int) - 8=dr a c by omega] at this
  rw [<- this]
  congr 1
  funext r
  rw [decide_eq_decide,hl]
  constructor<;>(rintro ⟨h1,h2,h3⟩;refine ⟨h1,?_,?_⟩<;>omega)
theorem qLm (x:Int) {a:Nat} (ha:a<81) (t:Nat->Bool):qFP x a (sLo t) (sHi t)=some (sLo (fun c=>rch x a c t),sHi fun c=>rch x a c t):=by
 obtain ⟨hlen,hrs⟩:=qop (kd x)
 obtain ⟨g,hg⟩:=qk (qAT (kd x)).length (by omega)
 have:=qoX (x:=x) ha t (qAT (kd x)) hlen hrs (qAT (kd x)).length 0 0 (qAT (kd x)).length 0 (by omega) (qA3 x a) g
 rw [<- hg] at this
 unfold qFP
 rw [qsO x ha,qA]
 simp only
 rw [qBZ,qA,qQs,qA]
 simp only
 rw [show qFQ qB x a (qAT (kd x)).length (Int.ofNat (qAT (kd x)).length) 0 (sLo t) (sHi t) 0 0 (sLo (qA3 x a)) (sHi (qA3 x a)) (qAT (kd x)).length (qAT (kd x))=_ from this,qA]
 simp only
 obtain ⟨e1,e2⟩:=qB1 (f:=fun c=>qA3 x a c||(qDN x (List.drop 0 (qAT (kd x))) a c&&qAr a c t)) (g:=fun c=>rch x a c t) fun c hc=>by
  rw [List.drop_zero,qfa x ha hc]
  rfl
 rw [e1,e2]
end Go.Kk.Pl
namespace Go.Kk.Pl
theorem qgA:∀ (a c:Fin 81),(btw a.val c.val).all (fun s=>(btw c.val a.val).contains s)=true:=by decide +kernel
theorem qIb {a c:Nat} (ha:a<81) (hc:c<81) {s:Nat} (hs:s∈btw a c):s∈btw c a:=by
 have:=qgA ⟨a,ha⟩ ⟨c,hc⟩
 rw [List.all_eq_true] at this
 simpa using this s hs
theorem qG6 {a c:Nat} {t:Nat->Bool}:qAr a c t=true ↔ ∀ s∈btw a c,t s=false:=by simp [qAr]
theorem qi5 {a c:Nat} (ha:a<81) (hc:c<81) (t:Nat->Bool):qAr a c t=qAr c a t:=by
 rw [Bool.eq_iff_iff,qG6,qG6]
 exact ⟨fun h s hs=>h s (qIb hc ha hs),fun h s hs=>h s (qIb ha hc hs)⟩
theorem qi6 {a c:Nat} (ha:a<81) (hc:c<81) {t t':Nat->Bool} (h:∀ s,s<81->t s=t' s):qAr a c t=qAr a c t':=by
 rw [Bool.eq_iff_iff,qG6,qG6]
 exact ⟨fun hh s hs=>by rw [<- h s (qIc ha hc hs)];exact hh s hs,fun hh s hs=>by rw [h s (qIc ha hc hs)];exact hh s hs⟩
theorem qaM {x:Int} {a c:Nat} (ha:a<81) (hc:c<81) {t t':Nat->Bool} (h:∀ s,s<81->t s=t' s):rch x a c t=rch x a c t':=by
 unfold rch;rw [qi6 ha hc h]
theorem qD0 {s k:Int} (hs:s=0 \/ s=1) (h1:1<=k) (h2:k<=15) (h3:k≠13):sd (pc s k)=s /\ kd (pc s k)=k:=by
 rw [qA8 hs h1 h2 h3]
 have hk:=qHL hs h1 h2 h3
 refine ⟨?_,hk⟩
 unfold sd
 rw [hk,if_neg (by omega)]
 rcases hs with rfl | rfl
 ·rw [if_pos (by omega)]
 ·rw [if_neg (by omega)]
theorem qso (k d u:Int):qB2 k (-d) u↔qB2 k d u:=by
 unfold qB2
 exact or_congr (by omega) (or_congr (by omega) (or_congr (by omega) (or_congr (by omega) (or_congr (by omega) (or_congr (by omega) (by omega))))))
theorem qr4 (k d u:Int):slK k (-d) u↔slK k d u:=by
 unfold slK
 exact or_congr (by omega) (or_congr (by omega) (by omega))
theorem qom {s k:Int} (hs:s=0 \/ s=1) (h1:1<=k) (h2:k<=15) (h3:k≠13) {a c:Nat} (ha:a<81) (hc:c<81) (t:Nat->Bool):
  rch (pc (1 - s) k) a c t=rch (pc s k) c a t:=by
 obtain ⟨e1,e2⟩:=qD0 hs h1 h2 h3
 obtain ⟨e3,e4⟩:=qD0 (s:=1 - s) (by omega) h1 h2 h3
 have hd:df a c = -df c a:=by unfold df;omega
 have hr:dr a c = -dr c a:=by unfold dr;omega
 have hu:upS (pc (1 - s) k) a c=upS (pc s k) c a:=by
  unfold upS
  rw [e1,e3]
  rcases hs with rfl | rfl
  ·rw [if_pos (by omega),if_neg (by omega)];exact hr
  ·rw [if_neg (by omega),if_pos (by omega),hr];omega
 unfold rch qA3 qAo
 rw [e2,e4,hu,qi5 ha hc]
 have s1:decide (qB2 k (df a c) (upS (pc s k) c a))=decide (qB2 k (df c a) (upS (pc s k) c a)):=by
  rw [decide_eq_decide,hd];exact qso _ _ _
 have s2:decide (slK k (df a c) (upS (pc s k) c a))=decide (slK k (df c a) (upS (pc s k) c a)):=by
  rw [decide_eq_decide,hd];exact qr4 _ _ _
 rw [s1,s2]
theorem qQO {x:Int} (h:kd x≠0):x=pc (sd x) (kd x):=by
 obtain ⟨k0,k1,k2⟩:=qCO x
 have hs:=qH6 h
 rw [qA8 hs (by omega) k1 k2]
 have hr:=qIw h
 unfold sd kd at *
 rw [if_neg h]
 split at h
 ·omega
 ·rename_i hh
  rw [if_neg hh]
  split<;>omega
def onF (b:List Int) (q:Nat) (s:Int) (t:Nat->Bool) (i:Int) (c:Nat):Bool:=decide (sd (b.getD c 0)=s /\ i<=kd (b.getD c 0))&&rch (b.getD c 0) c q t
theorem qfk {b:List Int} (h:List Int) (S:Int) (sd':List (List Int)) {s:Int} (hs:s=0 \/ s=1) {q:Nat} (hq:q<81) (t:Nat->Bool) (u v:Int):∀ (n:Nat) (k:Int),k=16 - n->n<=15->∀ (f:Nat->Bool) (F:Nat),
  qEB (F+n+1) q s k b h S (qR b) sd' (sLo t) (sHi t) u v (sLo f) (sHi f)=some (b,h,S,qR b,sd',u,v,sLo fun c=>f c||onF b q s t k c,sHi fun c=>f c||onF b q s t k c):=by
 intro n
 induction n with
 | zero=>
   intro k hk _ f F
   show qGj (qEB (F+0)) _ _ _ _ _ _ _ _ _ _ _ _ _ _=_
   unfold qGj
   rw [qf8 (by omega)]
   have:(fun c=>f c||onF b q s t k c)=f:=by
    funext c
    have:=(qCO (b.getD c 0)).2.1
    unfold onF
    rw [decide_eq_false (by omega)]
    simp
   rw [this]
 | succ n ih=>
   intro k hk hn f F
   show qGj (qEB (F+n+1)) _ _ _ _ _ _ _ _ _ _ _ _ _ _=_
   unfold qGj
   rw [qf7 (by omega),w_s (n:=1 - s) (by omega) (by omega),qLR,qA,w_s (n:=k+1) (by omega) (by omega)]
   by_cases h13:k=13
   ·have hz:pc (1 - s) k=0:=qQN (by omega)
    rw [qr hz]
    refine (ih (k+1) (by omega) (by omega) f F).trans ?_
    have:(fun c=>f c||onF b q s t (k+1) c)=fun c=>f c||onF b q s t k c:=by
     funext c
     have:=(qCO (b.getD c 0)).2.2
     unfold onF
     congr 2
     rw [decide_eq_decide]
     omega
    rw [this]
   ·have hp:=qA8 (s:=1 - s) (k:=k) (by omega) (by omega) (by omega) h13
    rw [qp (by rw [hp];omega),qLm _ hq,qA]
    simp only
    rw [qGC,qA]
    simp only
    rw [qEq,qA]
    simp only
    rw [qHh,qA]
    simp only
    refine (ih (k+1) (by omega) (by omega) _ F).trans ?_
    obtain ⟨e1,e2⟩:=qB1 (f:=fun c=>(f c||(rch (pc (1 - s) k) q c t&&pcs b (pc s k) c))||onF b q s t (k+1) c) (g:=fun c=>f c||onF b q s t k c) fun c hc=>by
     rw [qom hs (by omega) (by omega) h13 hq hc,Bool.or_assoc]
     congr 1
     obtain ⟨g1,g2⟩:=qD0 hs (by omega) (by omega) h13
     have hne:pc s k≠0:=by rw [qA8 hs (by omega) (by omega) h13];omega
     unfold onF pcs
     by_cases hx:b.getD c 0=pc s k
     ·rw [hx,g1,g2,decide_eq_true (show pc s k≠0 /\ pc s k=pc s k from ⟨hne,rfl⟩),decide_eq_false (by omega),decide_eq_true (by omega)]
      simp
     ·rw [decide_eq_false (p:=pc s k≠0 /\ b.getD c 0=pc s k) (by omega),Bool.and_false,Bool.false_or]
      congr 1
      rw [decide_eq_decide]
      constructor
      ·rintro ⟨h1,h2⟩;exact ⟨h1,by omega⟩
      ·rintro ⟨h1,h2⟩
       refine ⟨h1,?_⟩
       rcases Int.lt_or_eq_of_le h2 with h3 | h3
       ·omega
       ·exfalso
        apply hx
        have hk0:kd (b.getD c 0)≠0:=by omega
        have:=qQO hk0
        rw [h1,<- h3] at this
        exact this
    rw [e1,e2]
def onS (b:List Int) (q s:Int) (t:Nat->Bool) (c:Nat):Bool:=decide (0<=q /\ q<81)&&(decide (s=0 \/ s=1)&&(decide (sd (b.getD c 0)=s)&&rch (b.getD c 0) c q.toNat t))
theorem qnS (b:List Int) {s:Int} (hs:s=0 \/ s=1) (q:Nat) (hq:q<81) (t:Nat->Bool):onF b q s t 1=onS b q s t:=by
 funext c
 unfold onF onS
 rw [decide_eq_true (show (0:Int)<=q /\ (q:Int)<81 by omega),decide_eq_true hs,Bool.true_and,Bool.true_and]
 congr 1
 rw [decide_eq_decide]
 constructor
 ·exact fun h=>h.1
 ·intro h
  refine ⟨h,?_⟩
  have:=(qCO (b.getD c 0)).1
  rcases Int.lt_or_eq_of_le this with h1 | h1
  ·omega
  ·rw [qcM h1.symm] at h;omega
theorem qZD (b h:List Int) (S:Int) (sd':List (List Int)) (q s:Int) (t:Nat->Bool):qGi q s (sLo t) (sHi t) b h S (qR b) sd'=some (sLo (onS b q s t),sHi (onS b q s t)):=by
 have none:¬ ((0<=q /\ q<81) /\ (s=0 \/ s=1))->onS b q s t=fun _=>false:=by
  intro hn
  funext c
  unfold onS
  by_cases h1:0<=q /\ q<81
  ·rw [decide_eq_false (p:=s=0 \/ s=1) (fun h2=>hn ⟨h1,h2⟩)];simp
  ·rw [decide_eq_false h1];simp
 unfold qGi
 by_cases h0:q<0
 ·rw [qi h0,none (by omega),qBn,qBm]
 rw [qY h0]
 by_cases h1:q >= 81
 ·rw [qDP h1,none (by omega),qBn,qBm]
 rw [qCd h1]
 obtain ⟨a,rfl⟩:∃ a:Nat,q=a:=⟨q.toNat,by omega⟩
 obtain ⟨g,hg⟩:=qk 15 (by omega)
 have main:(s=0 \/ s=1)->qEB qB a s 1 b h S (qR b) sd' (sLo t) (sHi t) 0 0 0 0=some (b,h,S,qR b,sd',0,0,sLo (onS b a s t),sHi (onS b a s t)):=by
  intro hs
  have:=qfk (b:=b) h S sd' hs (q:=a) (by omega) t 0 0 15 1 (by omega) (by omega) (fun _=>false) g
  rw [<- hg,qBn,qBm] at this
  rw [this,qnS b hs a (by omega)]
  simp only [Bool.false_or]
 by_cases h2:s=0
 ·rw [qAf h2,main (.inl h2),qA]
 ·rw [qAR h2]
  by_cases h3:s=1
  ·rw [qAf h3,main (.inr h3),qA]
  ·rw [qAR h3,none (by omega),qBn,qBm]
def kg (b:List Int) (s:Int):Int:=fst (pcs b (pc s 8))
def chs (b:List Int) (s:Int):Nat->Bool:=onS b (kg b s) (1 - s) (tk b)
def inC (b:List Int) (s:Int):Bool:=!isE (chs b s)
theorem qV2 (f:Nat->Bool):-1<=fst f /\ fst f<81:=by
 unfold fst
 split
 ·rename_i i hi
  have:=List.mem_of_find?_eq_some hi
  rw [List.mem_range] at this
  omega
 ·omega
theorem qN4 {b:List Int} (hc:Clean b) (h:List Int) (S:Int) {s:Int} (hs:-10<=s /\ s<=10):qFn s b h S (qR b) (qV b)=some (sLo (chs b s),sHi (chs b s)):=by
 unfold qFn
 rw [qO9,qA,qJm hc,qA]
 simp only
 rw [w_s (by omega) (by omega),qZD,qA]
 rfl
theorem qjl {b:List Int} (hc:Clean b) (h:List Int) (S:Int) {s:Int} (hs:-10<=s /\ s<=10):qIW s b h S (qR b) (qV b)=some (inC b s):=by
 unfold qIW
 rw [qN4 hc h S hs,qA]
 simp only
 rw [qIm,qA]
 rfl
theorem qIi {b h:List Int} {s:Int} (hl:b.length=81) (hz:qAx b h s=0):Clean b /\ (s=0 \/ s=1):=by
 unfold qAx at hz
 split at hz
 ·omega
 ·rename_i hs
  split at hz
  ·omega
  ·rename_i hb
   exact ⟨qTd hl (by simpa using hb),by omega⟩
def qCK (b h:List Int) (s:Int):Int:=if qAx b h s≠0 then qAx b h s else if inC b (1 - s) then 54 else 0
theorem qfl {b h:List Int} (hl:b.length=81) (hf:qAV h) (s:Int):qGh b h s=some (qCK b h s):=by
 unfold qGh qCK
 rw [qhb hl hf,qA]
 by_cases hz:qAx b h s=0
 ·obtain ⟨hc,hs⟩:=qIi hl hz
  rw [qAf hz,if_neg (by simpa using hz),qQA hl,qA,qN8 hc]
  simp only
  rw [w_s (by omega) (by omega),qjl hc h s (by omega),qA]
  cases inC b (1 - s)<;>rfl
 ·rw [qAR hz,if_pos hz]
def tkL (b:List Int) (i:Nat):List Bool:=(List.range 81).map fun j=>decide (j<i)&&tk b j
theorem qtN (b h:List Int) (s:Int) (w:List Bool):∀ (n i:Nat),i+n=81->∀ F,qEY (F+n+1) i b h s w (tkL b i)=some (w,tkL b 81):=by
 intro n
 induction n with
 | zero=>
   intro i hi F
   show qHy (qEY (F+0)) _ _ _ _ _ _=_
   unfold qHy
   rw [qY (by omega),show i=81 by omega]
 | succ n ih=>
   intro i hi F
   show qHy (qEY (F+n+1)) _ _ _ _ _ _=_
   unfold qHy
   have e:List.set (tkL b i) i (b.getD i 0 != 0)=tkL b (i+1):=by
    unfold tkL
    rw [map_set]
    apply List.map_congr_left
    intro j _
    split
    ·rename_i hj;subst hj
     rw [decide_eq_true (show j<j+1 by omega),Bool.true_and]
     unfold tk
     rw [Bool.eq_iff_iff];simp
    ·rename_i hj
     congr 1
     rw [decide_eq_decide];omega
   rw [qi (by omega),qn (by omega) (by omega),qn (by omega) (by omega),tn,e,w_s (by omega) (by omega)]
   exact ih (i+1) (by omega) F
theorem qtR (b:List Int):tkL b 0=List.replicate 81 false:=by
 unfold tkL
 apply List.ext_getElem
 ·simp
 ·intro i h1 h2
  rw [List.getElem_map,List.getElem_replicate,decide_eq_false (by omega),Bool.false_and]
def qIO (b:List Int):List Bool:=tkL b 81
theorem qtO (b h:List Int) (s:Int):qJO b h s=some (qIO b):=by
 obtain ⟨g,hg⟩:=qk 81 (by omega)
 have:=qtN b h s (List.replicate 81 false) 81 0 (by omega) g
 rw [<- hg,qtR] at this
 unfold qJO
 show ob (qEY qB 0 b h s (List.replicate 81 false) (List.replicate 81 false)) _=_
 rw [show qEY qB 0 b h s (List.replicate 81 false) (List.replicate 81 false)=_ from this,qA]
 rfl
theorem qtM (b:List Int) {i:Nat} (h:i<81):(qIO b).getD i false=tk b i:=by
 unfold qIO tkL
 rw [qHc _ h,decide_eq_true h,Bool.true_and]
theorem qoq (b:List Int) (x:Int) {a c:Nat} (ha:a<81) (hc:c<81):qHv x a c (qIO b)=some (rch x a c (tk b)):=by
 rw [qos x ha hc,qaM ha hc fun s hs=>qtM b hs]
theorem qqi (b h:List Int) (S:Int) {s:Int} (hs:s=0 \/ s=1):∀ (n i:Nat),i+n=81->(∀ j,j<i->pcs b (pc s 8) j=false)->∀ F,qFX (F+n+1) s i b h S=some (if kg b s = -1 then .inr () else .inl (kg b s)):=by
 have hp:pc s 8=16*s+8:=qA8 hs (by omega) (by omega) (by omega)
 intro n
 induction n with
 | zero=>
   intro i hi hj F
   show qH1 (qFX (F+0)) _ _ _ _ _=_
   unfold qH1
   have:kg b s = -1:=qV1 fun j hj'=>hj j (by omega)
   rw [qY (by omega),if_pos this]
 | succ n ih=>
   intro i hi hj F
   show qH1 (qFX (F+n+1)) _ _ _ _ _=_
   unfold qH1
   rw [qi (by omega),qn (by omega) (by omega),tn,c_8,w_s (n:=16*s) (by omega) (by omega),w_s (n:=16*s+8) (by omega) (by omega),w_s (by omega) (by omega),<- hp]
   by_cases hx:b.getD i 0=pc s 8
   ·have hk:pcs b (pc s 8) i=true:=by unfold pcs;rw [decide_eq_true];exact ⟨by rw [hp];omega,hx⟩
    have:kg b s=i:=qKg (by omega) hk hj
    rw [qr hx,this,if_neg (by omega)]
   ·rw [qp hx]
    refine ih (i+1) (by omega) (fun j hj'=>?_) F
    by_cases hji:j=i
    ·subst hji;unfold pcs;rw [decide_eq_false];exact fun hh=>hx hh.2
    ·exact hj j (by omega)
theorem qqj (b h:List Int) (S:Int) {s:Int} (hs:s=0 \/ s=1):qJR b h S s=some (kg b s):=by
 obtain ⟨g,hg⟩:=qk 81 (by omega)
 have:=qqi b h S hs 81 0 (by omega) (fun j hj=>absurd hj (by omega)) g
 rw [<- hg] at this
 unfold qJR
 rw [show qFX qB s 0 b h S=_ from this,qA]
 split
 ·rename_i hk;rw [hk];rfl
 ·rfl
theorem qqe (b h:List Int) (S s:Int) (hs:s=0 \/ s=1) (k:Nat) (hk:k<81):∀ (n i:Nat),i+n=81->∀ F,
  qFW (F+n+1) s k i b h S (qIO b)=some (if (List.range' i n).any (onS b k (1 - s) (tk b)) then .inl true else .inr ()):=by
 intro n
 induction n with
 | zero=>
   intro i hi F
   show qH0 (qFW (F+0)) _ _ _ _ _ _ _=_
   unfold qH0
   rw [qY (by omega)]
   rfl
 | succ n ih=>
   intro i hi F
   show qH0 (qFW (F+n+1)) _ _ _ _ _ _ _=_
   unfold qH0
   have hr:=ih (i+1) (by omega) F
   rw [qi (by omega),qn (by omega) (by omega),tn,c_8,qL2,qA,w_s (n:=1 - s) (by omega) (by omega),w_s (by omega) (by omega),any_cons]
   have hon:onS b k (1 - s) (tk b) i=(decide (sd (b.getD i 0)=1 - s)&&rch (b.getD i 0) i k (tk b)):=by
    unfold onS
    rw [decide_eq_true (show (0:Int)<=k /\ (k:Int)<81 by omega),decide_eq_true (show 1 - s=0 \/ 1 - s=1 by omega),Bool.true_and,Bool.true_and,tn]
   rw [hon]
   by_cases hsd:sd (b.getD i 0)=1 - s
   ·rw [qr hsd,qn (by omega) (by omega),qoq b _ (by omega) hk,qA,decide_eq_true hsd,Bool.true_and]
    cases rch (b.getD i 0) i k (tk b) with
    | true=>rfl
    | false=>rw [b_f,Bool.false_or];exact hr
   ·rw [qp hsd,decide_eq_false hsd,Bool.false_and,Bool.false_or]
    exact hr
theorem qfb (f:Nat->Bool):(List.range' 0 81).any f = !isE f:=by
 unfold isE
 rw [qZ1,Bool.eq_iff_iff]
 simp only [List.any_eq_true,Bool.not_eq_true']
 rw [List.all_eq_false]
 simp
theorem qqd (b h:List Int) (S:Int) {s:Int} (hs:s=0 \/ s=1):qJQ b h S s=some (inC b s):=by
 unfold qJQ
 rw [qtO,qA,qqj b h S hs,qA]
 have hr:=qV2 (pcs b (pc s 8))
 have hkg:kg b s=fst (pcs b (pc s 8)):=rfl
 by_cases hk:kg b s<0
 ·rw [qi hk]
  have:chs b s=fun _=>false:=by
   funext c
   unfold chs onS
   rw [decide_eq_false (by omega),Bool.false_and]
  unfold inC
  rw [this,qjt]
  rfl
 ·obtain ⟨k,hkk⟩:∃ k:Nat,kg b s=k:=⟨(kg b s).toNat,by omega⟩
  obtain ⟨g,hg⟩:=qk 81 (by omega)
  have:=qqe b h S s hs k (by omega) 81 0 (by omega) g
  rw [<- hg,qfb,<- hkk] at this
  rw [qY hk,show qFW qB s (kg b s) 0 b h S (qIO b)=_ from this,qA]
  unfold inC chs
  cases isE (onS b (kg b s) (1 - s) (tk b))<;>rfl
theorem qoU {b h:List Int} (hl:b.length=81) (hf:qAV h) (s:Int):qJP b h s=some (qCK b h s):=by
 unfold qJP qCK
 rw [qb9 hl hf,qA]
 by_cases hz:qAx b h s=0
 ·obtain ⟨hc,hs⟩:=qIi hl hz
  rw [qAf hz,if_neg (by simpa using hz),w_s (by omega) (by omega),qqd b h s (by omega),qA]
  cases inC b (1 - s)<;>rfl
 ·rw [qAR hz,if_pos hz]
def ofL (L:List Int) (c:Nat):Bool:=L.any fun q=>only q c
theorem qmr (L:List Int) (hl:L.length<=1000) (N:Nat) (u v:Int):∀ (n i:Nat),i+n=L.length->∀ (f:Nat->Bool) (F:Nat),
  qFc (F+n+1) L.length L.length i N L u v (sLo f) (sHi f)=some (N,L,u,v,sLo fun c=>f c||ofL (L.drop i) c,sHi fun c=>f c||ofL (L.drop i) c):=by
 intro n
 induction n with
 | zero=>
   intro i hi f F
   show qID (qFc (F+0)) _ _ _ _ _ _ _ _ _=_
   unfold qID
   rw [qY (by omega),List.drop_eq_nil_of_le (by omega)]
   have:(fun c=>f c||ofL [] c)=f:=by funext c;simp [ofL]
   rw [this]
 | succ n ih=>
   intro i hi f F
   show qID (qFc (F+n+1)) _ _ _ _ _ _ _ _ _=_
   unfold qID
   have hil:i<L.length:=by omega
   have hget:L.getD i 0=L[i]:=qFm hil
   rw [qi (by omega),qn (by omega) (by omega),tn,hget,qGc,qA]
   simp only
   rw [w_s (by omega) (by omega)]
   refine (ih (i+1) (by omega) _ F).trans ?_
   have hd:L.drop i=L[i] :: L.drop (i+1):=List.drop_eq_getElem_cons hil
   have:(fun c=>(f c||only L[i] c)||ofL (L.drop (i+1)) c)=fun c=>f c||ofL (L.drop i) c:=by
    funext c
    rw [hd]
    unfold ofL
    rw [List.any_cons,Bool.or_assoc]
   rw [this]
theorem qms (L:List Int) (hl:L.length<=1000) (N:Nat):qIC L.length N L=some (sLo (ofL L),sHi (ofL L)):=by
 obtain ⟨g,hg⟩:=qk L.length (by omega)
 have:=qmr L hl N 0 0 L.length 0 (by omega) (fun _=>false) g
 rw [<- hg,qBn,qBm] at this
 unfold qIC
 rw [show qFc qB L.length (Int.ofNat L.length) 0 N L 0 0 0 0=_ from this,qA]
 simp only [Bool.false_or,List.drop_zero]
theorem qEh (f:Nat->Bool):(sq f).length<=81:=by
 unfold sq;rw [List.length_map];exact Nat.le_trans (List.length_filter_le _ _) (by simp)
end Go.Kk.Pl
namespace Go.Kk.Pl
theorem qGW {f:Nat->Bool} {q:Int} (h:q∈sq f):0<=q /\ q<81 /\ f q.toNat=true:=by
 unfold sq at h
 obtain ⟨j,hj,rfl⟩:=List.mem_map.1 h
 obtain ⟨h1,h2⟩:=List.mem_filter.1 hj
 rw [List.mem_range] at h1
 refine ⟨by simp,by simp only [Int.ofNat_eq_natCast];omega,by simpa using h2⟩
theorem qYY {f:Nat->Bool} {q:Nat} (hq:q<81) (h:f q=true):(q:Int)∈sq f:=by
 unfold sq
 exact List.mem_map.2 ⟨q,List.mem_filter.2 ⟨by simpa using hq,h⟩,rfl⟩
end Go.Kk.Pl
namespace Go.Kk.Pl
theorem qen (t:Nat->Bool) {c:Nat} (ht:t c=true) {i:Nat}:∀ (P Q:List Nat),(∀ s∈P,t s=false)->qAU t (P++c :: Q) i=(P.contains i||decide (i=c))
 | [],Q,_=>by
   show (decide (i=c)||(!t c&&qAU t Q i))=_
   rw [ht];simp
 | s :: P,Q,h=>by
   show (decide (i=s)||(!t s&&qAU t (P++c :: Q) i))=_
   rw [h s List.mem_cons_self,Bool.not_false,Bool.true_and,qen t ht P Q (fun s hs=>h s (List.mem_cons_of_mem _ hs)),List.contains_cons,Bool.or_assoc]
   congr 1
theorem qnU {dx dy:Int} {a c:Nat} (ha:a<81) (hc:c<81) (h:onW dx dy a c=true) (i:Nat):(qAU (only c) (qBG dx dy a) i && !only c i)=(btw a c).contains i:=by
 obtain ⟨hl,rfl,rfl⟩:=of_decide_eq_true h
 have:=qKM ⟨a,ha⟩ ⟨c,hc⟩
 simp only [qIh,Bool.or_eq_true,decide_eq_true_eq,Bool.and_eq_true,beq_iff_eq,Bool.not_eq_true'] at this
 obtain ⟨e1,e2,e3⟩:=this.resolve_left hl
 have hsp:qBG (sgn (df a c)) (sgn (dr a c)) a=btw a c++c :: (qBG (sgn (df a c)) (sgn (dr a c)) a).drop ((btw a c).length+1):=by
  have:=qMU e2
  rw [e1] at this
  exact this
 have hn:c ∉ btw a c:=by simpa using e3
 rw [hsp,qen (only c) (by unfold only;simp) _ _ (fun s hs=>by
  unfold only
  rw [decide_eq_false_iff_not]
  intro e
  have:s=c:=by omega
  exact hn (this ▸ hs))]
 unfold only
 by_cases hi:i=c
 ·subst hi
  rw [e3];simp
 ·rw [decide_eq_false hi,decide_eq_false (p:=(i:Int)=c) (by omega)];simp
theorem qnV {dx dy:Int} (h1:-1<=dx) (h2:dx<=1) (h3:-1<=dy) (h4:dy<=1) (hne:¬ (dx=0 /\ dy=0)) {a c:Nat} (ha:a<81) (hc:c<81):qAU (only c) (qBG dx dy a) c=onW dx dy a c:=by
 rw [qep h1 h2 h3 h4 hne ha hc]
 cases h:onW dx dy a c with
 | false=>rfl
 | true=>
   rw [Bool.true_and,qG6]
   intro s hs
   unfold only
   rw [decide_eq_false_iff_not]
   intro e
   have hsc:s=c:=by omega
   obtain ⟨hl,_,_⟩:=of_decide_eq_true h
   have:=qKM ⟨a,ha⟩ ⟨c,hc⟩
   simp only [qIh,Bool.or_eq_true,decide_eq_true_eq,Bool.and_eq_true,beq_iff_eq,Bool.not_eq_true'] at this
   have:=(this.resolve_left hl).2.2
   rw [<- hsc] at this
   have h2:(btw a s).contains s=true:=List.contains_iff_mem.mpr (hsc ▸ hs)
   rw [this] at h2
   cases h2
def qAp:List (List Int):=[[-1,-1],[1,-1],[-1,1],[1,1],[0,-1],[-1,0],[1,0],[0,1]]
theorem qfQ {a c:Nat}:(qAp.any fun r=>onW (dx_ r) (dy_ r) a c)=decide (q7 a c≠0):=by
 unfold qAp onW dx_ dy_
 by_cases h:q7 a c=0
 ·simp [h]
 ·have hl:=(qLE a c).mp h
  have hx:sgn (df a c) = -1 \/ sgn (df a c)=0 \/ sgn (df a c)=1:=by unfold sgn;split<;>(try split)<;>omega
  have hy:sgn (dr a c) = -1 \/ sgn (dr a c)=0 \/ sgn (dr a c)=1:=by unfold sgn;split<;>(try split)<;>omega
  have hn:¬ (sgn (df a c)=0 /\ sgn (dr a c)=0):=by
   unfold qEP at hl
   unfold sgn
   split<;>split<;>(try split)<;>(try split)<;>omega
  rcases hx with hx | hx | hx<;>rcases hy with hy | hy | hy<;>simp [hx,hy,h] at hn ⊢
theorem qgG {a c:Nat} (ha:a<81) (hc:c<81) (N:Nat):∀ (n i:Nat),i+n=8->∀ F,
  qFO (F+n+1) a c 8 8 i 0 0 N qAp=some (if (qAp.drop i).any (fun r=>onW (dx_ r) (dy_ r) a c) then .inl (sLo (fun i=>(btw a c).contains i),sHi (fun i=>(btw a c).contains i)) else .inr (0,0)):=by
 intro n
 induction n with
 | zero=>
   intro i hi F
   show qHn (qFO (F+0)) _ _ _ _ _ _ _ _ _=_
   unfold qHn
   rw [qY (by omega),List.drop_eq_nil_of_le (by show 8<=i;omega)]
   rfl
 | succ n ih=>
   intro i hi F
   show qHn (qFO (F+n+1)) _ _ _ _ _ _ _ _ _=_
   unfold qHn
   obtain ⟨r,hget,hdr,e1,e2,g1,g2,g3,g4,g5⟩:∃ r,qAp.getD i []=r /\ qAp.drop i=r :: qAp.drop (i+1) /\ List.headD (List.take 2 r) 0=dx_ r /\ List.headD (List.tail (List.take 2 r)) 0=dy_ r /\ -1<=dx_ r /\ dx_ r<=1 /\ -1<=dy_ r /\ dy_ r<=1 /\ ¬ (dx_ r=0 /\ dy_ r=0):=by
    have:∀ j:Fin 8,qAp.drop j.val=qAp.getD j.val [] :: qAp.drop (j.val+1) /\ List.headD (List.take 2 (qAp.getD j.val [])) 0=dx_ (qAp.getD j.val []) /\ List.headD (List.tail (List.take 2 (qAp.getD j.val []))) 0=dy_ (qAp.getD j.val []) /\ -1<=dx_ (qAp.getD j.val []) /\ dx_ (qAp.getD j.val [])<=1 /\ -1<=dy_ (qAp.getD j.val []) /\ dy_ (qAp.getD j.val [])<=1 /\ ¬ (dx_ (qAp.getD j.val [])=0 /\ dy_ (qAp.getD j.val [])=0):=by decide
    exact ⟨_,rfl,this ⟨i,by omega⟩⟩
   have ho:ofL [(c:Int)]=only c:=by
    funext j;unfold ofL;simp
   have hof:qIC 1 1 [(c:Int)]=some (sLo (only c),sHi (only c)):=by
    have:=qms [(c:Int)] (by simp) 1
    rw [ho] at this
    exact this
   have hh:∀ g:Nat->Bool,has g (c:Int)=g c:=by
    intro g;unfold has;rw [decide_eq_true (by omega),decide_eq_true (by omega),tn];rfl
   rw [qi (by omega),qn (by omega) (by omega),tn,hget,e1,e2,hof,qA]
   simp only
   rw [qe7 g1 g2 g3 g4 g5 ha,qA]
   simp only
   rw [qEM,qA,hh,qnV g1 g2 g3 g4 g5 ha hc,hdr,List.any_cons]
   cases hon:onW (dx_ r) (dy_ r) a c with
   | true=>
     rw [b_t,qJw,qA,Bool.true_or,if_pos rfl]
     have:(fun i=>qAU (only c) (qBG (dx_ r) (dy_ r) a) i && !only c i)=fun i=>(btw a c).contains i:=by
      funext j;exact qnU ha hc hon j
     rw [this]
   | false=>
     rw [b_f,Bool.false_or,w_s (n:=(i:Int)+1) (by omega) (by omega)]
     exact ih (i+1) (by omega) F
theorem qZ3 {a c:Nat} (ha:a<81) (hc:c<81):qHm a c=some (sLo (fun i=>(btw a c).contains i),sHi (fun i=>(btw a c).contains i)):=by
 unfold qHm
 rw [qQs,qA]
 simp only
 rw [qQs,qA]
 simp only
 obtain ⟨g,hg⟩:=qk 8 (by omega)
 have:=qgG ha hc ((qAT 6).length+(qAT 7).length) 8 0 (by omega) g
 rw [<- hg,List.drop_zero,qfQ] at this
 have e8:(qAT 6).length+(qAT 7).length=8:=by decide
 have eL:List.append (List.take (qAT 6).length (qAT 6)) (List.take (qAT 7).length (qAT 7))=qAp:=by decide
 rw [eL,e8] at *
 rw [qD (by decide),show qFO qB a c 8 (Int.ofNat 8) 0 0 0 8 qAp=_ from this,qA]
 by_cases h:q7 a c=0
 ·rw [decide_eq_false (p:=q7 a c≠0) (by simpa using h),if_neg (by simp),qBE]
  have:btw a c=[]:=by unfold btw;rw [if_pos h]
  rw [this]
  simp only [List.contains_nil]
  rw [qBn,qBm]
 ·rw [decide_eq_true (p:=q7 a c≠0) h,if_pos rfl,qef]
end Go.Kk.Pl
namespace Go.Kk.Pl
def qDb (s q:Int):Int:=if 0<=q /\ q<81 then qCk s q.toNat else -1
theorem qsM {s:Int} (hs:s = -1 \/ s=0 \/ s=1) (q:Int):qFh s q=some (qDb s q):=by
 unfold qDb
 by_cases h:0<=q /\ q<81
 ·rw [if_pos h]
  have:=qdX hs (q:=q.toNat) (by omega)
  rwa [show ((q.toNat:Nat):Int)=q by omega] at this
 ·rw [if_neg h]
  unfold qFh
  by_cases h0:q<0
  ·rw [qi h0]
  ·rw [qY h0,qDP (by omega)]
def qFy (x q:Int):Bool:=decide (((kd x=1 \/ kd x=2) /\ qDb (sd x) q=0) \/ (kd x=3 /\ (qDb (sd x) q=0 \/ qDb (sd x) q=1)))
theorem qOE (x:Int) {q:Nat} (hq:q<81):qFy x q=qA5 x q:=by
 unfold qFy qA5 qDb
 rw [if_pos (by omega),tn]
theorem qdU (x q:Int):qD4 x q=some (qFy x q):=by
 unfold qD4
 rw [qDH,qA,qsM (qMA x),qA,qBZ,qA]
 unfold qFy
 generalize kd x=k
 generalize qDb (sd x) q=n
 simp only [qKJ,beq_iff_eq]
 repeat' split
 all_goals first
  | (rw [Option.some.injEq,Bool.eq_iff_iff];simp;omega)
  | (simp;omega)
def qIS (s:Int) (i:Nat):Bool:=decide (0<=qCk s i /\ qCk s i<=2)
theorem qS4:∀ s:Fin 3,qJg ((s.val:Int) - 1)=some (sLo (qIS ((s.val:Int) - 1)),sHi (qIS ((s.val:Int) - 1))):=by decide +kernel
theorem qt4 (x:Int):qJg (sd x)=some (sLo (qIS (sd x)),sHi (qIS (sd x))):=by
 rcases qMA x with h | h | h<;>rw [h]
 ·exact qS4 0
 ·exact qS4 1
 ·exact qS4 2
def inZ (s q:Int):Bool:=decide (0<=qDb s q /\ qDb s q<=2)
theorem qWS (s q:Int):has (qIS s) q=inZ s q:=by
 unfold has inZ qDb qIS
 by_cases h:0<=q /\ q<81
 ·rw [if_pos h,decide_eq_true h.1,decide_eq_true h.2,Bool.true_and,Bool.true_and]
 ·rw [if_neg h]
  by_cases h0:0<=q
  ·rw [decide_eq_false (p:=q<81) (by omega)];simp
  ·rw [decide_eq_false h0];simp
def qDi (x f t:Int):Bool:=decide (up_ (kd x)≠0)&&(inZ (sd x) f||inZ (sd x) t)
def qET (x t:Int):Bool:=decide (up_ (kd x)≠0)&&qFy x t
theorem qoQ (x f t:Int):qIs x f t=some (qDi x f t,qET x t):=by
 unfold qIs qDi qET
 rw [qBZ,qA,qJt,qA]
 by_cases hu:up_ (kd x)=0
 ·rw [qr hu,decide_eq_false (by simpa using hu)];rfl
 ·rw [qp hu,qDH,qA,qt4,qA]
  simp only
  rw [qEM,qA,qWS,decide_eq_true hu]
  cases inZ (sd x) f with
  | true=>rw [b_t,qdU,qA];rfl
  | false=>rw [b_f,qEM,qA,qWS,qdU,qA];rfl
def qDV (f t d:Int) (p:Bool):Int:=if ¬ (0<=t /\ t<81) then 1 else if d≠0 then (if 1<=d /\ d<=7 /\ f=0 /\ p=false then 0 else 70) else if ¬ (0<=f /\ f<81) then 1 else if f=t then 70 else 0
def qDT (b h:List Int) (s f t d:Int) (p:Bool):Bool:=decide (qDV f t d p=0)&&(decide (s=0 \/ s=1) &&
 if d≠0 then decide (0<hd_ h s d)&&decide (at_ b t=0)
 else decide (sd (at_ b f)=s /\ sd (at_ b t)≠s /\ kd (at_ b t)≠8)&&(!p||decide (up_ (kd (at_ b f))≠0)))
theorem qUt {f t d:Int} {p:Bool} (h:qDV f t d p=0):(0<=t /\ t<81) /\ (d≠0->1<=d /\ d<=7 /\ f=0 /\ p=false) /\ (d=0->(0<=f /\ f<81) /\ f≠t):=by
 unfold qDV at h
 split at h
 ·omega
 ·rename_i ht
  split at h
  ·rename_i hd
   split at h
   ·rename_i h2;exact ⟨by omega,fun _=>h2,fun h3=>absurd h3 hd⟩
   ·omega
  ·rename_i hd
   split at h
   ·omega
   ·split at h
    ·omega
    ·exact ⟨by omega,fun h3=>absurd h3 hd,fun _=>⟨by omega,by omega⟩⟩
theorem qBJ {b:List Int} {q:Int} (h:0<=q /\ q<81):at_ b q=b.getD q.toNat 0:=by unfold at_;rw [if_pos h]
def qA1 (b h:List Int) (s f t d:Int) (p:Bool):Bool:=qDT b h s f t d p &&
 if d≠0 then !qFy (16*s+d) t&&(decide (d≠1)||decide (nF b (16*s+d) (t.toNat / 9)=0))
 else rch (at_ b f) f.toNat t.toNat (tk b)&&if p=true then qDi (at_ b f) f t else !qET (at_ b f) t
theorem qJ1:qGO=some (sLo fun _=>true,sHi fun _=>true):=by decide +kernel
theorem qmn (f:Nat->Bool):qJZ (sLo f) (sHi f)=some (sLo fun i=>!f i,sHi fun i=>!f i):=by
 unfold qJZ
 rw [qJ1,qA]
 simp only
 rw [qLJ,qA]
 simp only [Bool.true_and]
def qBA (b:List Int) (s k:Int) (i:Nat):Bool:=!qA5 (pc s k) i&&(decide (k≠1)||decide (nF b (pc s 1) (i / 9)=0))
theorem qOA (f:Nat->Bool):isE f=decide (qAy f=0):=by
 unfold isE qAy
 rw [Bool.eq_iff_iff,decide_eq_true_eq,List.countP_eq_zero,List.all_eq_true]
 simp
theorem qi8 {b:List Int} (h:List Int) (S:Int) (sd':List (List Int)) {s k:Int} (hs:s=0 \/ s=1) (L:List Int) (hL:∀ q∈L,0<=q /\ q<81) (hl:L.length<=1000) (N:Nat) (u v:Int):∀ (n i:Nat),i+n=L.length->∀ (f:Nat->Bool) (F:Nat),
  qDc (F+n+1) s k (pc s k) L.length L.length i b h S (qR b) sd' u v (sLo f) (sHi f) N L=some (b,h,S,qR b,sd',u,v,sLo fun c=>f c||((L.drop i).any fun q=>decide ((c:Int)=q)&&qBA b s k c),sHi fun c=>f c||((L.drop i).any fun q=>decide ((c:Int)=q)&&qBA b s k c)):=by
 intro n
 induction n with
 | zero=>
   intro i hi f F
   show qHE (qDc (F+0)) _ _ _ _ _ _ _ _ _ _ _ _ _ _ _ _ _=_
   unfold qHE
   rw [qY (by omega),List.drop_eq_nil_of_le (by omega)]
   simp
 | succ n ih=>
   intro i hi f F
   show qHE (qDc (F+n+1)) _ _ _ _ _ _ _ _ _ _ _ _ _ _ _ _ _=_
   unfold qHE
   have hil:i<L.length:=by omega
   obtain ⟨q0,q1⟩:=hL L[i] (List.getElem_mem hil)
   have hget:L.getD i 0=L[i]:=qFm hil
   obtain ⟨q,hq⟩:∃ q:Nat,L[i]=q:=⟨L[i].toNat,by omega⟩
   have hd:L.drop i=L[i] :: L.drop (i+1):=List.drop_eq_getElem_cons hil
   rw [qi (by omega),qn (by omega) (by omega),tn,hget,hq,qdV _ (by omega),qA,w_s (n:=(i:Int)+1) (by omega) (by omega)]
   have skip:qBA b s k q=false->qDc (F+n+1) s k (pc s k) L.length L.length ((i:Int)+1) b h S (qR b) sd' u v (sLo f) (sHi f) N L =
     some (b,h,S,qR b,sd',u,v,sLo fun c=>f c||((L.drop i).any fun q=>decide ((c:Int)=q)&&qBA b s k c),sHi fun c=>f c||((L.drop i).any fun q=>decide ((c:Int)=q)&&qBA b s k c)):=by
    intro hf
    refine (ih (i+1) (by omega) f F).trans ?_
    have:(fun c=>f c||((L.drop (i+1)).any fun q=>decide ((c:Int)=q)&&qBA b s k c))=fun c=>f c||((L.drop i).any fun q=>decide ((c:Int)=q)&&qBA b s k c):=by
     funext c
     rw [hd,List.any_cons,hq]
     by_cases hcq:(c:Int)=q
     ·have:c=q:=by omega
      subst this
      rw [hf];simp
     ·rw [decide_eq_false hcq];simp
    rw [this]
   have take:qBA b s k q=true->(ob (qBD (sLo f) (sHi f) q) fun z=>qDc (F+n+1) s k (pc s k) L.length L.length ((i:Int)+1) b h S (qR b) sd' u v z.1 z.2 N L) =
     some (b,h,S,qR b,sd',u,v,sLo fun c=>f c||((L.drop i).any fun q=>decide ((c:Int)=q)&&qBA b s k c),sHi fun c=>f c||((L.drop i).any fun q=>decide ((c:Int)=q)&&qBA b s k c)):=by
    intro hf
    rw [qGc,qA]
    simp only
    refine (ih (i+1) (by omega) _ F).trans ?_
    have:(fun c=>(f c||only q c)||((L.drop (i+1)).any fun q=>decide ((c:Int)=q)&&qBA b s k c))=fun c=>f c||((L.drop i).any fun q=>decide ((c:Int)=q)&&qBA b s k c):=by
     funext c
     rw [hd,List.any_cons,hq,Bool.or_assoc]
     congr 2
     unfold only
     by_cases hcq:(c:Int)=q
     ·have:c=q:=by omega
      subst this
      rw [hf];simp
     ·rw [decide_eq_false hcq];simp
    rw [this]
   cases hdead:qA5 (pc s k) q with
   | true=>rw [b_t];exact skip (by unfold qBA;rw [hdead];rfl)
   | false=>
     rw [b_f]
     by_cases hk:k=1
     ·rw [qr hk,qGC,qA]
      simp only
      unfold qGR
      rw [qIP,w_s (by unfold fl;omega) (by unfold fl;omega),qA,show fl q=((q / 9:Nat):Int) from rfl,qWW (by omega),qA]
      simp only
      rw [qEq,qA]
      simp only
      rw [qIm,qA,qOA,qU5 b (by rw [qA8 hs (by omega) (by omega) (by omega)];omega) (by omega)]
      by_cases hn:nF b (pc s 1) (q / 9)=0
      ·rw [decide_eq_true hn,Bool.not_true,b_f]
       exact take (by unfold qBA;rw [hdead,decide_eq_true hn];simp)
      ·rw [decide_eq_false hn,Bool.not_false,b_t]
       exact skip (by unfold qBA;rw [hdead,decide_eq_false hn,decide_eq_false (p:=k≠1) (by simpa using hk)];rfl)
     ·rw [qp hk]
      exact take (by unfold qBA;rw [hdead,decide_eq_true (p:=k≠1) hk];rfl)
def qA0 (b:List Int) (s k:Int) (i:Nat):Bool:=decide ((s=0 \/ s=1) /\ 1<=k /\ k<=7)&&(!tk b i&&qBA b s k i)
theorem qi4 {b:List Int} (hc:Clean b) (h:List Int) (S s k:Int):qIr s k b h S (qR b) (qV b)=some (sLo (qA0 b s k),sHi (qA0 b s k)):=by
 have none:¬ ((s=0 \/ s=1) /\ 1<=k /\ k<=7)->qA0 b s k=fun _=>false:=by
  intro hn;funext c;unfold qA0;rw [decide_eq_false hn,Bool.false_and]
 unfold qIr
 rw [qLR,qA]
 by_cases hz:pc s k=0
 ·have:¬ ((s=0 \/ s=1) /\ 1<=k /\ k<=7):=by
   rintro ⟨hs,h1,h7⟩
   rw [qA8 hs h1 (by omega) (by omega)] at hz
   omega
  rw [qr hz,none this,qBn,qBm]
 ·rw [qp hz]
  have hv:(s=0 \/ s=1) /\ 1<=k /\ k<=15 /\ k≠13:=by
   unfold pc at hz
   split at hz
   ·rename_i h;exact h
   ·exact absurd rfl hz
  by_cases h8:k >= 8
  ·rw [qDP h8,none (by omega),qBn,qBm]
  ·rw [qCd h8,qJm hc,qA]
   simp only
   rw [qmn,qA]
   simp only
   rw [qJe,qA]
   simp only
   have hlen:=qEh fun i=>!tk b i
   obtain ⟨g,hg⟩:=qk (sq fun i=>!tk b i).length (by omega)
   have:=qi8 (b:=b) h S (qV b) (k:=k) hv.1 (sq fun i=>!tk b i) (fun q hq=>⟨(qGW hq).1,(qGW hq).2.1⟩) (by omega) (sq fun i=>!tk b i).length 0 0 (sq fun i=>!tk b i).length 0 (by omega) (fun _=>false) g
   rw [<- hg,qBn,qBm] at this
   rw [show qDc qB s k (pc s k) (sq fun i=>!tk b i).length (Int.ofNat (sq fun i=>!tk b i).length) 0 b h S (qR b) (qV b) 0 0 0 0 (sq fun i=>!tk b i).length (sq fun i=>!tk b i)=_ from this,qA]
   simp only [Bool.false_or,List.drop_zero]
   obtain ⟨e1,e2⟩:=qB1 (f:=fun c=>(sq fun i=>!tk b i).any fun q=>decide ((c:Int)=q)&&qBA b s k c) (g:=qA0 b s k) fun c hcc=>by
    unfold qA0
    rw [decide_eq_true (p:=(s=0 \/ s=1) /\ 1<=k /\ k<=7) ⟨hv.1,hv.2.1,by omega⟩,Bool.true_and,Bool.eq_iff_iff,List.any_eq_true,Bool.and_eq_true]
    constructor
    ·rintro ⟨q,hq,hh⟩
     rw [Bool.and_eq_true,decide_eq_true_eq] at hh
     have:=(qGW hq).2.2
     rw [<- hh.1,tn] at this
     exact ⟨this,hh.2⟩
    ·rintro ⟨h1,h2⟩
     exact ⟨c,qYY hcc h1,by rw [h2];simp⟩
   rw [e1,e2]
end Go.Kk.Pl
namespace Go.Kk.Pl
end Go.Kk.Pl
