/- What the program's functions come to, told plainly: the texts of this project that this claim leans on, cut down to what is used. -/
import Derived.Test.YtpppdecfohkkfaaGreatDoorKkU1
namespace Go.Kk.Pl
theorem qfK {s:Int} (hs:s = -1 \/ s=0 \/ s=1) {q:Nat} (hq:q<81):qF3 s q=some (qCo s q):=by
 unfold qF3 qFz qCo
 rcases hs with rfl | rfl | rfl
 ·simp (disch:=omega) only[qW,qBf,qk]
  simp
 ·simp (disch:=omega) only[qW,qBf,ql,qKI,qA]
  simp
 ·simp (disch:=omega) only[qW,qBf,qk,ql,qKI,qA,w_s]
  simp
theorem qfI (x:Int) {q:Nat} (hq:q<81):qEB x q=some (qA2 x q):=by
 unfold qEB
 rw[qDM,qA,qfK (qGl x) hq,qA,qBY,qA]
 unfold qA2
 generalize kd x=k
 generalize qCo (sd x) q=n
 simp only[qI3,beq_iff_eq]
 repeat' split
 all_goals first
  | (rw[Option.some.injEq,Bool.eq_iff_iff];simp;omega)
  | (simp;omega)
def pc (s k:Int):Int:=if (s=0 \/ s=1) /\ 1<=k /\ k<=15 /\ k≠13 then 16*s+k else 0
theorem qAy {s k:Int} (hs:s=0 \/ s=1) (h1:1<=k) (h2:k<=15) (h3:k≠13):pc s k=16*s+k:=by unfold pc;rw[if_pos ⟨hs,h1,h2,h3⟩]
theorem qQt {s k:Int} (h:¬ ((s=0 \/ s=1) /\ 1<=k /\ k<=15 /\ k≠13)):pc s k=0:=by unfold pc;rw[if_neg h]
theorem qpD (s k:Int):0<=pc s k /\ pc s k<32:=by unfold pc;split<;>omega
theorem qLz (s k:Int):qAk s k=some (pc s k):=by
 by_cases hs:s=0 \/ s=1
 ·by_cases h:1<=k /\ k<=15 /\ k≠13
  ·rw[qL0 hs h.1 h.2.1 h.2.2,qAy hs h.1 h.2.1 h.2.2]
  ·rw[qQt (by omega)]
   unfold qAk
   simp only[qI3,bne_iff_ne,ne_eq,beq_iff_eq,decide_eq_true_eq]
   repeat' split
   all_goals first | rfl | omega
 ·rw[qQt (by omega)]
  unfold qAk
  simp (disch:=omega) only[qp]
theorem qpE (b:List Int):pcs b 0=fun _=>false:=by funext i;unfold pcs;simp
theorem qGb (b h:List Int) (S s k:Int) (sd':List (List Int)):qC5 s k b h S (qJ b) sd'=some (sLo (pcs b (pc s k)),sHi (pcs b (pc s k))):=by
 unfold qC5
 obtain⟨h0,h1⟩:=qpD s k
 rw[qLz,qA]
 by_cases hz:pc s k=0
 ·rw[ql hz,hz,qpE,qBn,qBm]
 ·rw[qk hz,qd h0 (by omega),qOc b h0 h1]
  rfl
def inF (f:Nat) (i:Nat):Bool:=decide (i / 9=f)
theorem qlN:∀ f:Fin 9,qId ((f.val:Nat):Int)=some (sLo (inF f.val),sHi (inF f.val)):=by decide +kernel
theorem qXP {f:Nat} (h:f<9):qId f=some (sLo (inF f),sHi (inF f)):=qlN ⟨f,h⟩
theorem qkQ:∀ f:Fin 9,(List.range 81).filter (fun i=>decide (i / 9=f.val))=(List.range 9).map (9*f.val+·):=by decide +kernel
theorem qVy (b:List Int) {x:Int} (hx:x≠0) {f:Nat} (hf:f<9):qAv (fun i=>pcs b x i&&inF f i)=nF b x f:=by
 unfold qAv nF inF
 have:(List.range 81).countP (fun i=>pcs b x i&&decide (i / 9=f))=((List.range 81).filter (fun i=>decide (i / 9=f))).countP (pcs b x):=by
  rw[List.countP_filter]
 rw[this,qkQ ⟨f,hf⟩,List.countP_map]
 apply List.countP_congr
 intro r _
 show pcs b x (9*f+r)=true↔_
 unfold pcs
 simp[hx]
theorem qkR (b h:List Int) (S:Int) (sd':List (List Int)) (q:Nat) (hq:q<9) (X:Int):∀ f,qE8 (f+2+1) q X 0 b h S (qJ b) sd'=some (if qBL b q then .inl (53,X,b,h,S,qJ b,sd') else .inr (X,b,h,S,qJ b,sd')):=by
 intro f
 have step:∀ (s:Int) (hs:s=0 \/ s=1) rec,qE9 rec q X s b h S (qJ b) sd'=if 1<nF b (16*s+1) q then some (.inl (53,X,b,h,S,qJ b,sd')) else rec q X (s+1) b h S (qJ b) sd':=by
  intro s hs rec
  unfold qE9
  rw[qe (by omega),qGb,qA]
  simp only
  rw[qXP hq,qA]
  simp only
  rw[qEy,qA]
  simp only
  rw[qOn,qA,qAy hs (by omega) (by omega) (by omega),qVy b (by omega) hq,w_s (by omega) (by omega)]
  split
  ·rw[qBT (by omega)]
  ·rw[qBU (by omega)]
 show qE9 (qE8 (f+2)) _ _ _ _ _ _ _ _=_
 rw[step 0 (.inl rfl)]
 unfold qBL
 split
 ·rename_i h1
  rw[show (decide (1<nF b 1 q)||decide (1<nF b 17 q))=true by simp at h1;simp[h1]]
  rfl
 ·rename_i h1
  show qE9 (qE8 (f+1)) _ _ _ _ _ _ _ _=_
  rw[show (0:Int)+1=1 from rfl,step 1 (.inr rfl)]
  split
  ·rename_i h2
   rw[show (decide (1<nF b 1 q)||decide (1<nF b 17 q))=true by simp at h2;simp[h2]]
   rfl
  ·rename_i h2
   rw[show (decide (1<nF b 1 q)||decide (1<nF b 17 q))=false by simp at h1 h2;simp;omega]
   show qE9 (qE8 f) _ _ _ _ _ _ _ _=_
   unfold qE9
   rw[qW (by omega)]
   rfl
theorem qkT (b h:List Int) (S:Int) (sd':List (List Int)):∀ (n i:Nat),i+n=9->∀ f,qFB (f+n+1) i b h S (qJ b) sd'=some (if (List.range' i n).any (qBL b) then .inl 53 else .inr ()):=by
 intro n
 induction n with
 | zero=>
   intro i hi f
   show qHI (qFB (f+0)) _ _ _ _ _ _=_
   unfold qHI
   rw[qW (by omega)]
   rfl
 | succ n ih=>
   intro i hi f
   show qHI (qFB (f+n+1)) _ _ _ _ _ _=_
   unfold qHI
   obtain⟨g,hg⟩:=qh 2 (by omega)
   have h12:=qkR b h S sd' i (by omega) i g
   rw[<- hg] at h12
   rw[qe (by omega),h12,qA,any_cons]
   have:=ih (i+1) (by omega) f
   cases hb:qBL b i with
   | true=>rfl
   | false=>
     rw[Bool.false_or,if_neg (by decide),qAe]
     simp only
     rw[w_s (by omega) (by omega)]
     exact this
theorem qkS (b h:List Int) (s:Int) (b':List Int):∀ (n i:Nat),i+n=81->∀ f,qFA (f+n+1) b i b' h s=some (if (List.range' i n).any (fun i=>qA2 (b.getD i 0) i) then .inl (52,b',h,s) else .inr (b',h,s)):=by
 intro n
 induction n with
 | zero=>
   intro i hi f
   show qHH (qFA (f+0)) _ _ _ _ _=_
   unfold qHH
   rw[qW (by omega)]
   rfl
 | succ n ih=>
   intro i hi f
   show qHH (qFA (f+n+1)) _ _ _ _ _=_
   unfold qHH
   have:=ih (i+1) (by omega) f
   rw[qe (by omega),qd (by omega) (by omega),cond_true,tn,qfI _ (by omega),qA,any_cons,w_s (by omega) (by omega)]
   cases hb:qA2 (b.getD i 0) i with
   | true=>rfl
   | false=>
     rw[b_f,Bool.false_or]
     exact this
theorem qkU {b:List Int} (hc:Clean b) (h:List Int) (s:Int):qGI b h s=some (if (List.range' 0 81).any (fun i=>qA2 (b.getD i 0) i) then 52 else if (List.range' 0 9).any (qBL b) then 53 else 0):=by
 obtain⟨g81,hg81⟩:=qh 81 (by omega)
 obtain⟨g9,hg9⟩:=qh 9 (by omega)
 have c2:=qkS b h s b 81 0 (by omega) g81
 rw[<- hg81] at c2
 have c9:=qkT b h s (qP b) 9 0 (by omega) g9
 rw[<- hg9] at c9
 unfold qGI
 rw[show qFA qB b 0 b h s=_ from c2,qA]
 split
 ·rfl
 rw[qAe]
 simp only
 rw[qLx hc.len,qKv hc,qA]
 simp only
 rw[show qFB qB 0 b h s (qJ b) (qP b)=_ from c9,qA]
 split
 ·rfl
 ·rfl
def rk (x:Int):Int:=rw_ (kd x)
theorem qsh {x:Int} (h:kd x=0):rk x=0:=by unfold rk;rw[h];decide
theorem qsg {x:Int} (h:kd x≠0):1<=rk x /\ rk x<=8:=by
 obtain⟨k1,k2,k3⟩:=qBv x
 unfold rk rw_
 rw[if_neg (by omega)]
 split<;>omega
def cT (b:List Int) (i:Nat) (k:Nat):Nat:=(List.range i).countP fun j=>decide (1<=k)&&rk (b.getD j 0)==k
def kT (b:List Int) (i:Nat) (x:Int):Nat:=(List.range i).countP fun j=>b.getD j 0==x
theorem qVd (b:List Int) (i k:Nat):cT b i k<=i:=Nat.le_trans List.countP_le_length (by simp)
theorem qXV (b:List Int) (i:Nat) (x:Int):kT b i x<=i:=Nat.le_trans List.countP_le_length (by simp)
theorem qVe (b:List Int) (i k:Nat):cT b (i+1) k=cT b i k+if 1<=k /\ rk (b.getD i 0)=k then 1 else 0:=by
 unfold cT
 rw[List.range_succ,List.countP_append]
 by_cases h:1<=k /\ rk (b.getD i 0)=k
 ·simp[h]
 ·rw[if_neg h]
  have:(decide (1<=k)&&rk (b.getD i 0)==(k:Int))=false:=by
   rw[Bool.and_eq_false_iff]
   by_cases h1:1<=k
   ·right;simpa using fun h2=>h ⟨h1,h2⟩
   ·left;simpa using h1
  simp only[List.countP_cons,List.countP_nil,this]
  rfl
theorem qFN (b:List Int) (i:Nat) (x:Int):kT b (i+1) x=kT b i x+if b.getD i 0=x then 1 else 0:=by
 unfold kT
 rw[List.range_succ,List.countP_append]
 by_cases h:b.getD i 0=x
 ·simp
 ·rw[if_neg h]
  have:(b.getD i 0==x)=false:=by simpa using h
  simp only[List.countP_cons,List.countP_nil,this]
  rfl
def cL (b:List Int) (i:Nat):List Int:=(List.range 9).map fun k=>((cT b i k:Nat):Int)
def kL (b:List Int) (i:Nat):List Int:=[((kT b i 8:Nat):Int),((kT b i 24:Nat):Int)]
theorem ql4 {x:Int} (h:kd x=8):x=8 \/ x=24:=by
 unfold kd at h
 split at h
 ·cases h
 ·omega
theorem qjZ (b h:List Int) (s:Int) (b':List Int):∀ (n i:Nat),i+n=81->∃ c k,∀ f,qCP (f+n+1) b i b' h s (cL b i) (kL b i) =
  some (if (List.range' i n).any (bsP b) then .inl (55,b',h,s,c,k) else .inr (b',h,s,cL b 81,kL b 81)):=by
 intro n
 induction n with
 | zero=>
   intro i hi
   refine⟨[],[],fun f=>?_⟩
   show qE6 (qCP (f+0)) _ _ _ _ _ _ _=_
   unfold qE6
   rw[qW (by omega),show i=81 by omega]
   rfl
 | succ n ih=>
   intro i hi
   obtain⟨c,k,hr⟩:=ih (i+1) (by omega)
   by_cases hbad:bsP b i=true
   ·refine⟨cL b i,kL b i,fun f=>?_⟩
    show qE6 (qCP (f+n+1)) _ _ _ _ _ _ _=_
    unfold qE6
    have hb:=hbad
    unfold bsP at hb
    rw[decide_eq_true_eq] at hb
    rw[qe (by omega),qd (by omega) (by omega),cond_true,tn,qBY,qA,qk hb.1,ql hb.2,any_cons,hbad]
    rfl
   ·refine⟨c,k,fun f=>?_⟩
    show qE6 (qCP (f+n+1)) _ _ _ _ _ _ _=_
    unfold qE6
    have hb:bsP b i=false:=by simpa using hbad
    rw[any_cons,hb,Bool.false_or,<- hr f]
    unfold bsP at hb
    rw[decide_eq_false_iff_not] at hb
    rw[qe (by omega),qd (by omega) (by omega),cond_true,tn,qBY,qA,w_s (by omega) (by omega)]
    by_cases hz:b.getD i 0=0
    ·have e1:cL b (i+1)=cL b i:=by
      unfold cL
      apply List.map_congr_left
      intro k _
      rw[qVe,hz,qsh (by decide),if_neg (by omega)]
      rfl
     have e2:kL b (i+1)=kL b i:=by
      unfold kL
      rw[qFN,qFN,hz,if_neg (by omega),if_neg (by omega)]
      rfl
     rw[ql hz,e1,e2]
     rfl
    ·have hk:kd (b.getD i 0)≠0:=by omega
     obtain⟨r1,r2⟩:=qsg hk
     obtain⟨k1,k2,k3⟩:=qBv (b.getD i 0)
     have hraw:qCw (kd (b.getD i 0))=some (rk (b.getD i 0)):=qQ2 k1 k2
     have e1:List.set (cL b i) (rk (b.getD i 0)).toNat (IntKind.wrap .i64 (List.getD (cL b i) (rk (b.getD i 0)).toNat 0+1))=cL b (i+1):=by
      unfold cL
      have hle:=qVd b i (rk (b.getD i 0)).toNat
      rw[qHt _ (by omega),map_set,w_s (by omega) (by omega)]
      apply List.map_congr_left
      intro k hk
      simp only[List.mem_range] at hk
      rw[qVe]
      by_cases hkr:k=(rk (b.getD i 0)).toNat
      ·rw[if_pos hkr,if_pos (by omega),hkr];rfl
      ·rw[if_neg hkr,if_neg (by omega)];rfl
     rw[qk hz,qk hk]
     by_cases h8:kd (b.getD i 0)=8
     ·have hle1:=qXV b i 8
      have hle2:=qXV b i 24
      rcases ql4 h8 with hx | hx
      ·have hs:sd (b.getD i 0)=0:=by rw[hx];decide
       have e2:List.set (kL b i) 0 (IntKind.wrap .i64 (List.getD (kL b i) 0 0+1))=kL b (i+1):=by
        unfold kL
        rw[qFN,qFN,hx,if_pos rfl,if_neg (by omega)]
        show [IntKind.wrap .i64 (((kT b i 8:Nat):Int)+1),_]=_
        rw[w_s (by omega) (by omega)]
        rfl
       rw[ql h8,qDM,qA,hs,qd (by omega) (by omega),qd (by omega) (by omega),hraw,qA,qd (by omega) (by omega),qd (by omega) (by omega),e1]
       show qCP (f+n+1) b _ b' h s _ (List.set (kL b i) 0 (IntKind.wrap .i64 (List.getD (kL b i) 0 0+1)))=_
       rw[e2]
       rfl
      ·have hs:sd (b.getD i 0)=1:=by rw[hx];decide
       have e2:List.set (kL b i) 1 (IntKind.wrap .i64 (List.getD (kL b i) 1 0+1))=kL b (i+1):=by
        unfold kL
        rw[qFN,qFN,hx,if_neg (by omega),if_pos rfl]
        show [_,IntKind.wrap .i64 (((kT b i 24:Nat):Int)+1)]=_
        rw[w_s (by omega) (by omega)]
        rfl
       rw[ql h8,qDM,qA,hs,qd (by omega) (by omega),qd (by omega) (by omega),hraw,qA,qd (by omega) (by omega),qd (by omega) (by omega),e1]
       show qCP (f+n+1) b _ b' h s _ (List.set (kL b i) 1 (IntKind.wrap .i64 (List.getD (kL b i) 1 0+1)))=_
       rw[e2]
       rfl
     ·have e2:kL b (i+1)=kL b i:=by
       have n8:b.getD i 0≠8:=fun h=>h8 (by rw[h];decide)
       have n24:b.getD i 0≠24:=fun h=>h8 (by rw[h];decide)
       unfold kL
       rw[qFN,qFN,if_neg n8,if_neg n24]
       rfl
      rw[qk h8,hraw,qA,qd (by omega) (by omega),qd (by omega) (by omega),e1,e2]
      rfl
theorem qsm {h:List Int} {s k:Nat} (_hs:s<2) (hk:k<8):(List.take 8 (List.drop (Nat.add (Nat.mul s 7) s) h)).getD k 0=h.getD (s*8+k) 0:=by
 rw[List.getD_eq_getElem?_getD,List.getElem?_take,if_pos hk,List.getElem?_drop,List.getD_eq_getElem?_getD]
 rw[show (Nat.add (Nat.mul s 7) s)+k=s*8+k from (by show s*7+s+k=s*8+k;omega)]
def qB7 (h:List Int) (s i:Nat) (g:Nat->Int) (j:Nat):Int:=if i<=j /\ j<8 then g j+h.getD (s*8+j) 0 else g j
theorem qVm {h:List Int} (hf:qAO h) (b:List Int) (S:Int) (kk h':List Int) (s:Nat) (hs:s<2):∀ (n i:Nat),i+n=8->∀ (g:Nat->Int),(∀ j,-200000+200*n<=g j /\ g j<=200000 - 200*n)->
  ∃ c,∀ f,qC4 (f+n+1) h s (List.take 8 (List.drop (Nat.add (Nat.mul s 7) s) h)) i b h' S ((List.range 9).map g) kk =
    some (if (List.range' i n).any (fun k=>bsH h k s) then .inl (55,h,s,b,h',S,c,kk) else .inr (h,s,b,h',S,(List.range 9).map (qB7 h s i g),kk)):=by
 intro n
 induction n with
 | zero=>
   intro i hi g hg
   refine⟨[],fun f=>?_⟩
   show qE5 (qC4 (f+0)) _ _ _ _ _ _ _ _ _=_
   unfold qE5
   rw[qW (by omega)]
   have:(List.range 9).map (qB7 h s i g)=(List.range 9).map g:=by
    apply List.map_congr_left
    intro j _
    unfold qB7
    rw[if_neg (by omega)]
   rw[this]
   rfl
 | succ n ih=>
   intro i hi g hg
   have hr:=qsm (h:=h) (s:=s) (k:=i) hs (by omega)
   have hb:=hf (s*8+i)
   by_cases hbad:bsH h i s=true
   ·refine⟨(List.range 9).map g,fun f=>?_⟩
    show qE5 (qC4 (f+n+1)) _ _ _ _ _ _ _ _ _=_
    unfold qE5
    have hx:=hbad
    unfold bsH at hx
    rw[decide_eq_true_eq] at hx
    rw[qe (by omega),qd (by omega) (by omega),cond_true,tn,hr,any_cons,hbad]
    by_cases h0:h.getD (s*8+i) 0<0
    ·rw[qe h0]
     rfl
    ·rw[qW h0,qBT (by omega),ql (by omega)]
     rfl
   ·have hx:bsH h i s=false:=by simpa using hbad
    have hx2:=hx
    unfold bsH at hx2
    rw[decide_eq_false_iff_not] at hx2
    obtain⟨c,hc⟩:=ih (i+1) (by omega) (fun j=>if j=i then g j+h.getD (s*8+j) 0 else g j) (fun j=>by
     have:=hg j
     split
     ·rename_i hj;subst hj;omega
     ·omega)
    refine⟨c,fun f=>?_⟩
    show qE5 (qC4 (f+n+1)) _ _ _ _ _ _ _ _ _=_
    unfold qE5
    have hgi:=hg i
    have e1:List.set ((List.range 9).map g) i (IntKind.wrap .i64 (List.getD ((List.range 9).map g) i 0+h.getD (s*8+i) 0))=(List.range 9).map fun j=>if j=i then g j+h.getD (s*8+j) 0 else g j:=by
     rw[qHt _ (by omega),map_set,w_s (by omega) (by omega)]
     apply List.map_congr_left
     intro j _
     split
     ·rename_i hj;subst hj;rfl
     ·rfl
    have e2:(List.range 9).map (qB7 h s (i+1) fun j=>if j=i then g j+h.getD (s*8+j) 0 else g j)=(List.range 9).map (qB7 h s i g):=by
     apply List.map_congr_left
     intro j _
     unfold qB7
     by_cases hj:j=i
     ·subst hj;simp;omega
     ·simp only[hj,if_false]
      by_cases h1:i<=j /\ j<8
      ·rw[if_pos (by omega),if_pos h1]
      ·rw[if_neg (by omega),if_neg h1]
    have:=hc f
    rw[e2] at this
    rw[qe (by omega),qd (by omega) (by omega),cond_true,tn,hr,any_cons,hx,Bool.false_or,qW (by omega),c_8,e1,w_s (by omega) (by omega)]
    by_cases h0:h.getD (s*8+i) 0>0
    ·rw[qBT h0,qk (by omega),qk (by omega),qd (by omega) (by omega),qd (by omega) (by omega)]
     exact this
    ·rw[qBU h0,qd (by omega) (by omega),qd (by omega) (by omega)]
     exact this
theorem qjP {h:List Int} (hf:qAO h) (b h':List Int) (S:Int) (kk:List Int) (g:Nat->Int) (hg:∀ j,-100<=g j /\ g j<=100):
  ∃ c,∀ f,qCh (f+2+1) h 0 b h' S ((List.range 9).map g) kk =
    some (if (List.range' 0 2).any (fun s=>(List.range' 0 8).any fun k=>bsH h k s) then .inl (55,b,h',S,c,kk) else .inr (b,h',S,(List.range 9).map (qB7 h 1 0 (qB7 h 0 0 g)),kk)):=by
 obtain⟨g8,hg8⟩:=qh 8 (by omega)
 obtain⟨c0,h0⟩:=qVm hf b S kk h' 0 (by omega) 8 0 (by omega) g (fun j=>by have:=hg j;omega)
 have h0:=h0 g8
 rw[<- hg8] at h0
 obtain⟨c1,h1⟩:=qVm hf b S kk h' 1 (by omega) 8 0 (by omega) (qB7 h 0 0 g) (fun j=>by
  have:=hg j
  have:=hf (0*8+j)
  unfold qB7
  split<;>omega)
 have h1:=h1 g8
 rw[<- hg8] at h1
 have any2:(List.range' 0 2).any (fun s=>(List.range' 0 8).any fun k=>bsH h k s)=((List.range' 0 8).any (fun k=>bsH h k 0)||(List.range' 0 8).any (fun k=>bsH h k 1)):=by
  rw[any_cons (fun s=>(List.range' 0 8).any fun k=>bsH h k s),any_cons (fun s=>(List.range' 0 8).any fun k=>bsH h k s) 1 0]
  simp
 rw[any2]
 cases hb0:(List.range' 0 8).any (fun k=>bsH h k 0) with
 | true=>
   refine⟨c0,fun f=>?_⟩
   show qDW (qCh (f+2)) _ _ _ _ _ _ _=_
   unfold qDW
   rw[qe (by omega),qd (by omega) (by omega),show qC4 qB h 0 (List.take 8 (List.drop (Nat.add (Nat.mul (Int.toNat 0) 7) (Int.toNat 0)) h)) 0 b h' S ((List.range 9).map g) kk=_ from h0,hb0,qA]
   rfl
 | false=>
   refine⟨c1,fun f=>?_⟩
   show qDW (qCh (f+2)) _ _ _ _ _ _ _=_
   unfold qDW
   rw[qe (by omega),qd (by omega) (by omega),show qC4 qB h 0 (List.take 8 (List.drop (Nat.add (Nat.mul (Int.toNat 0) 7) (Int.toNat 0)) h)) 0 b h' S ((List.range 9).map g) kk=_ from h0,hb0,qA,if_neg (by decide),qAe]
   simp only
   show qDW (qCh (f+1)) _ _ _ _ _ _ _=_
   unfold qDW
   rw[qe (by rw[w_s (by omega) (by omega)];omega),qd (by rw[w_s (by omega) (by omega)];omega) (by rw[w_s (by omega) (by omega)];omega)]
   rw[show IntKind.wrap .i64 (((0:Nat):Int)+1)=1 from rfl,show qC4 qB h 1 (List.take 8 (List.drop (Nat.add (Nat.mul (Int.toNat 1) 7) (Int.toNat 1)) h)) 0 b h' S ((List.range 9).map (qB7 h 0 0 g)) kk=_ from h1,qA]
   cases hb1:(List.range' 0 8).any (fun k=>bsH h k 1) with
   | true=>rfl
   | false=>
     rw[if_neg (by decide),qAe]
     simp only
     show qDW (qCh f) _ _ _ _ _ _ _=_
     unfold qDW
     rw[qW (by decide)]
     rfl
theorem qji {b:List Int} (hl:b.length=81) {k:Nat} (hk:1<=k):cnt b k=cT b 81 k:=by
 have hb:b=(List.range 81).map fun j=>b.getD j 0:=by
  apply List.ext_getElem
  ·simp[hl]
  ·intro i h1 h2
   rw[List.getElem_map,List.getElem_range,qF9 h1]
 unfold cnt cT
 conv=>lhs;rw[hb]
 rw[List.countP_map]
 apply List.countP_congr
 intro j _
 show (rw_ (kd (b.getD j 0))==(k:Int))=true↔_
 simp[hk,rk]
theorem qvW:∀ k:Fin 9,qMD ((k.val:Nat):Int)=some (qKL ((k.val:Nat):Int)):=by decide +kernel
theorem qjW {b h:List Int} {g:Nat->Int} (hg:∀ k:Nat,1<=k->k<8->g k=cnt b k+hd_ h 0 k+hd_ h 1 k) (b' h':List Int) (s:Int):∀ (n i:Nat),i+n=8->1<=i->∀ f,
  qDX (f+n+1) i b' h' s ((List.range 9).map g)=some (if (List.range' i n).any (qBy b h) then .inl (51,b',h',s) else .inr (b',h',s)):=by
 intro n
 induction n with
 | zero=>
   intro i hi _ f
   show qHC (qDX (f+0)) _ _ _ _ _=_
   unfold qHC
   rw[qW (by omega)]
   rfl
 | succ n ih=>
   intro i hi h1 f
   show qHC (qDX (f+n+1)) _ _ _ _ _=_
   unfold qHC
   have ht:=qvW ⟨i,by omega⟩
   simp only at ht
   rw[qe (by omega),qd (by omega) (by omega),ht,qA,tn,qHt _ (by omega),hg i h1 (by omega),any_cons,w_s (by omega) (by omega)]
   have:=ih (i+1) (by omega) (by omega) f
   by_cases ho:qKL i<cnt b i+hd_ h 0 i+hd_ h 1 i
   ·rw[qBT ho,show qBy b h i=true by unfold qBy;simpa using ho]
    rfl
   ·rw[qBU ho,show qBy b h i=false by unfold qBy;simpa using ho,Bool.false_or]
    exact this
theorem qi4 (h:List Int):((List.range' 0 2).any fun s=>(List.range' 0 8).any fun k=>bsH h k s)=(List.range' 0 8).any fun k=>(List.range' 0 2).any (bsH h k):=by
 rw[Bool.eq_iff_iff]
 simp only[List.any_eq_true]
 constructor
 ·rintro ⟨s,hs,k,hk,h1⟩
  exact⟨k,hk,s,hs,h1⟩
 ·rintro ⟨k,hk,s,hs,h1⟩
  exact⟨s,hs,k,hk,h1⟩
theorem qUY {b:List Int} (hl:b.length=81) (h:(List.range' 0 81).any (bsP b)=false):Clean b:=by
 refine⟨hl,fun i hi=>?_⟩
 rw[List.any_eq_false] at h
 have:=h i (by rw[List.mem_range'];exact⟨i,hi,by omega⟩)
 unfold bsP at this
 rw[decide_eq_true_eq] at this
 omega
theorem qjJ {b h:List Int} (hl:b.length=81) (hf:qAO h) (s:Int):qIz b h s=some (qAu b h s):=by
 obtain⟨g81,hg81⟩:=qh 81 (by omega)
 obtain⟨g7,hg7⟩:=qh 7 (by omega)
 obtain⟨g2,hg2⟩:=qh 2 (by omega)
 obtain⟨c6,k6,h6⟩:=qjZ b h s b 81 0 (by omega)
 have h6:=h6 g81
 rw[<- hg81] at h6
 have z1:cL b 0=[0,0,0,0,0,0,0,0,0]:=rfl
 have z2:kL b 0=[0,0]:=rfl
 rw[z1,z2] at h6
 obtain⟨c17,h17⟩:=qjP hf b h s (kL b 81) (fun k=>((cT b 81 k:Nat):Int)) (fun j=>by have:=qVd b 81 j;omega)
 have h17:=h17 g2
 rw[<- hg2] at h17
 have hgc:∀ k:Nat,1<=k->k<8->qB7 h 1 0 (qB7 h 0 0 fun k=>((cT b 81 k:Nat):Int)) k=cnt b k+hd_ h 0 k+hd_ h 1 k:=by
  intro k k1 k8
  unfold qB7
  rw[if_pos (by omega),if_pos (by omega),qji hl k1]
  rfl
 have h30:=qjW hgc b h s 7 1 (by omega) (by omega) g7
 rw[<- hg7] at h30
 have main:(ob (qCP qB b 0 b h s ([0,0,0,0,0,0,0,0,0]) ([0,0])) fun t3_2=>
   sw t3_2 (fun (a3_0,_,_,_,_,_)=>
    some (a3_0))
    (fun (a3_0,a3_1,a3_2,a3_3,a3_4)=>
    ob (qCh qB a3_1 0 a3_0 a3_1 a3_2 a3_3 a3_4) fun t8_2=>
    sw t8_2 (fun (a8_0,_,_,_,_,_)=>
     some (a8_0))
     (fun (a8_0,a8_1,a8_2,a8_3,a8_4)=>
     br (!a8_4==[1,1])
      (some (50))
      (ob (qDX qB 1 a8_0 a8_1 a8_2 a8_3) fun t13_2=>
      sw t13_2 (fun (a13_0,_,_,_)=>
       some (a13_0))
       (fun (a13_0,a13_1,a13_2)=>
       ob (qGI a13_0 a13_1 a13_2) fun a16=>
       some (a16)))) ):Option Int) =
   some (if (List.range' 0 81).any (bsP b) then 55
    else if (List.range' 0 8).any (fun k=>(List.range' 0 2).any (bsH h k)) then 55
    else if ¬ (nP b 8=1 /\ nP b 24=1) then 50
    else if (List.range' 1 7).any (qBy b h) then 51
    else if (List.range' 0 81).any (fun i=>qA2 (b.getD i 0) i) then 52
    else if (List.range' 0 9).any (qBL b) then 53
    else 0):=by
  rw[show qCP qB b 0 b h s [0,0,0,0,0,0,0,0,0] [0,0]=_ from h6,qA]
  cases hbad:(List.range' 0 81).any (bsP b) with
  | true=>rfl
  | false=>
    have hc:=qUY hl hbad
    rw[if_neg (by decide),if_neg (by decide),qAe]
    simp only
    rw[show qCh qB h 0 b h s (cL b 81) (kL b 81)=_ from h17,qA,qi4]
    split
    ·rfl
    rw[qAe]
    simp only
    have hk:(!kL b 81==[1,1])=decide (¬ (nP b 8=1 /\ nP b 24=1)):=by
     show (!([((nP b 8:Nat):Int),((nP b 24:Nat):Int)]==[1,1]))=_
     rw[Bool.eq_iff_iff]
     simp
     omega
    rw[hk]
    by_cases h8:nP b 8=1 /\ nP b 24=1
    ·rw[qO (by simpa using h8),if_neg (by simpa using h8),show qDX qB 1 b h s _=_ from h30,qA]
     split
     ·rfl
     rw[qAe]
     simp only
     rw[qkU hc,qA]
    ·rw[qG (by rw[decide_eq_true_eq];exact h8),if_pos h8]
 unfold qIz qAu
 by_cases h0:s=0
 ·rw[qt h0,if_neg (by simp[h0])]
  exact main
 ·rw[qp h0]
  by_cases h1:s=1
  ·rw[qt h1,if_neg (by simp[h1])]
   exact main
  ·rw[qp h1,if_pos (by simp[h0,h1])]
end Go.Kk.Pl
namespace Go.Kk.Pl
def tk (b:List Int) (i:Nat):Bool:=decide (b.getD i 0≠0)
theorem qvO {b:List Int} (hc:Clean b) {i:Nat} (hi:i<81):(sds b 0 i||sds b 1 i)=tk b i:=by
 have:=hc.ok i hi
 unfold sds tk
 rw[Bool.eq_iff_iff]
 simp only[Bool.or_eq_true,decide_eq_true_eq]
 rcases this with h | h
 ·rw[h,qJ2];simp
 ·have h1:=qJP h
  have h2:=qIY h
  constructor
  ·intro _;omega
  ·intro _;exact h2
theorem qKG {b:List Int} (hc:Clean b) (h:List Int) (S:Int) (by_:List (List Int)):qC6 b h S by_ (qP b)=some (sLo (tk b),sHi (tk b)):=by
 unfold qC6
 have e0:(qP b).getD 0 []=prS (sds b 0):=rfl
 have e1:(qP b).getD 1 []=prS (sds b 1):=rfl
 rw[e0,e1,qH1,qH2,qH1,qH2,qHy,qA]
 obtain⟨h1,h2⟩:=qB5 (f:=fun i=>sds b 0 i||sds b 1 i) (g:=tk b) fun i hi=>qvO hc hi
 simp only
 rw[h1,h2]
def sdP (b:List Int) (s:Int) (i:Nat):Bool:=decide (s=0 \/ s=1)&&sds b s i
theorem qQy (b h:List Int) (S s:Int) (by_:List (List Int)):qGG s b h S by_ (qP b)=some (sLo (sdP b s),sHi (sdP b s)):=by
 unfold qGG
 by_cases h0:s=0
 ·subst h0
  have:sdP b 0=sds b 0:=by funext i;unfold sdP;simp
  rw[this]
  rfl
 ·rw[qp h0]
  by_cases h1:s=1
  ·subst h1
   have:sdP b 1=sds b 1:=by funext i;unfold sdP;simp
   rw[this]
   rfl
  ·have:sdP b s=fun _=>false:=by funext i;unfold sdP;simp[h0,h1]
   rw[qp h1,this,qBn,qBm]
theorem qPh (b h:List Int) (S s:Int) (sd':List (List Int)):qGE s b h S (qJ b) sd'=some (fst (pcs b (pc s 8))):=by
 unfold qGE
 rw[qGb,qA]
 simp only
 rw[qOz,qA]
def hdP (h:List Int) (s k:Int):Int:=if (s=0 \/ s=1) /\ 1<=k /\ k<8 then hd_ h s k else 0
theorem qlI (b h:List Int) (S s k:Int) (by_ sd':List (List Int)):qCi s k b h S by_ sd'=some (hdP h s k):=by
 unfold hdP
 by_cases hv:(s=0 \/ s=1) /\ 1<=k /\ k<8
 ·rw[if_pos hv,qLG hv.1 hv.2.1 hv.2.2]
 ·rw[if_neg hv]
  unfold qCi
  by_cases h0:s=0
  ·rw[qt h0]
   by_cases h1:k<1
   ·rw[qe h1]
   ·rw[qW h1,qB8 (by omega)]
  ·rw[qp h0]
   by_cases h2:s=1
   ·rw[qt h2]
    by_cases h1:k<1
    ·rw[qe h1]
    ·rw[qW h1,qB8 (by omega)]
   ·rw[qp h2]
theorem qlR:isE (fun _=>false)=true:=by decide
end Go.Kk.Pl
namespace Go.Kk.Pl
def fl (q:Nat):Int:=((q / 9:Nat):Int)
def rn (q:Nat):Int:=((q % 9:Nat):Int)
def df (a c:Nat):Int:=fl c - fl a
def dr (a c:Nat):Int:=rn c - rn a
def upS (x:Int) (a c:Nat):Int:=if sd x=1 then dr a c else - dr a c
theorem geo {a:Nat} (ha:a<81):0<=fl a /\ fl a<=8 /\ 0<=rn a /\ rn a<=8 /\ (a:Int)=9*fl a+rn a:=by unfold fl rn;omega
theorem qJO {a c:Nat} (h:df a c=0) (h':dr a c=0):a=c:=by unfold df dr fl rn at *;omega
theorem qHd (a:Nat):df a a=0 /\ dr a a=0:=by unfold df dr;omega
def qBH (dx dy:Int) (a:Nat):Int:=if 0<=fl a+dx /\ fl a+dx<=8 /\ 0<=rn a+dy /\ rn a+dy<=8 then 9*(fl a+dx)+(rn a+dy) else -1
theorem qIr (q:Nat):Int.tdiv (q:Int) 9=fl q:=by unfold fl;rw[Int.tdiv_eq_ediv_of_nonneg (by omega)];omega
theorem qKJ (q:Nat):Int.tmod (q:Int) 9=rn q:=qKI q
theorem quF (f r:Int):qCb f r=some (if 0<=f /\ f<=8 /\ 0<=r /\ r<=8 then 9*f+r else -1):=by
 unfold qCb
 by_cases h1:f<0
 ·rw[qe h1,if_neg (by omega)]
 by_cases h2:f>8
 ·rw[qW h1,qBT h2,if_neg (by omega)]
 by_cases h3:r<0
 ·rw[qW h1,qBU h2,qe h3,if_neg (by omega)]
 by_cases h4:r>8
 ·rw[qW h1,qBU h2,qW h3,qBT h4,if_neg (by omega)]
 ·rw[qW h1,qBU h2,qW h3,qBU h4,if_pos (by omega),w_s (n:=9*f) (by omega) (by omega),w_s (by omega) (by omega)]
theorem qO1 {dx dy:Int} (h1:-8<=dx) (h2:dx<=8) (h3:-8<=dy) (h4:dy<=8) {a:Nat} (ha:a<81):qGv dx dy a=some (qBH dx dy a):=by
 have hg:=geo ha
 unfold qGv qGp qFz
 simp (disch:=omega) only[qW,qBf,qIr,qKJ,qA,w_s,quF]
 rfl
theorem qoz {dx dy:Int} {a c:Nat} (ha:a<81) (hc:c<81):only (qBH dx dy a) c=decide (df a c=dx /\ dr a c=dy):=by
 have hg:=geo ha
 have hg2:=geo hc
 unfold only qBH df dr
 rw[decide_eq_decide]
 split<;>omega
def qB6 (k d u:Int):Prop:=
 (k=1 /\ d=0 /\ u=1) \/ (k=3 /\ (d=1 \/ d = -1) /\ u=2) \/ (k=4 /\ ((u=1 /\ -1<=d /\ d<=1) \/ (u = -1 /\ (d=1 \/ d = -1)))) \/
 ((k=5 \/ k=9 \/ k=10 \/ k=11 \/ k=12) /\ ((u=1 /\ -1<=d /\ d<=1) \/ (u=0 /\ (d=1 \/ d = -1)) \/ (u = -1 /\ d=0))) \/
 (k=8 /\ -1<=d /\ d<=1 /\ -1<=u /\ u<=1 /\ ¬ (d=0 /\ u=0)) \/ (k=14 /\ ((u=0 /\ (d=1 \/ d = -1)) \/ (d=0 /\ (u=1 \/ u = -1)))) \/
 (k=15 /\ (d=1 \/ d = -1) /\ (u=1 \/ u = -1))
instance (k d u:Int):Decidable (qB6 k d u):=by unfold qB6;infer_instance
def qA0 (x:Int) (a c:Nat):Bool:=decide (qB6 (kd x) (df a c) (upS x a c))
theorem qt1 {n:Int} (h1:-1000<=n) (h2:n<=1000):qFi n=some (if n<0 then -n else n):=by
 unfold qFi
 split
 ·rename_i h;rw[qe h,w_s (by omega) (by omega)];congr 1;omega
 ·rename_i h;rw[qW h]
theorem qTq {x:Int} {a c:Nat} (ha:a<81) (hc:c<81):-8<=upS x a c /\ upS x a c<=8 /\ -8<=df a c /\ df a c<=8 /\ -8<=dr a c /\ dr a c<=8:=by
 have hg:=geo ha
 have hg2:=geo hc
 unfold upS df dr
 split<;>omega
def stT (k u S : Int):Option Bool:=
 br (decide (S <= 1))
  (ob (qFi u) fun a5=>
   br (k == 1)
    (br (S==0)
     (some (u==1))
     (some (false)))
    (br (k == 3)
     (br (S==1)
      (some (u==2))
      (some (false)))
     (br (k == 4)
      (br (decide (a5<=1))
       (br (u==1)
        (some (true))
        (br (S==1)
         (some (u == -1))
         (some (false))))
       (some (false)))
      (br (k == 5)
       (br (decide (a5<=1))
        (br (decide (u >= 0))
         (some (true))
         (some (S==0)))
        (some (false)))
       (br (k == 9)
        (br (decide (a5<=1))
         (br (decide (u >= 0))
          (some (true))
          (some (S==0)))
         (some (false)))
        (br (k == 10)
         (br (decide (a5<=1))
          (br (decide (u >= 0))
           (some (true))
           (some (S==0)))
          (some (false)))
         (br (k == 11)
          (br (decide (a5<=1))
           (br (decide (u >= 0))
            (some (true))
            (some (S==0)))
           (some (false)))
          (br (k==12)
           (br (decide (a5<=1))
            (br (decide (u >= 0))
             (some (true))
             (some (S==0)))
            (some (false)))
           (br (k==8)
            (some (decide (a5<=1)))
            (br (k==14)
             (br (decide (a5<=1))
              (br (S==0)
               (some (true))
               (some (u==0)))
              (some (false)))
             (br (k==15)
              (br (decide (a5<=1))
               (br (S==1)
                (some (u != 0))
                (some (false)))
               (some (false)))
              (some (false)))))))))))))
   (br (k == 1)
    (br (S==0)
     (some (u==1))
     (some (false)))
    (br (k == 3)
     (br (S==1)
      (some (u==2))
      (some (false)))
     (br (k == 4)
      (some (false))
      (br (k == 5)
       (some (false))
       (br (k == 9)
        (some (false))
        (br (k==10)
         (some (false))
         (br (k==11)
          (some (false))
          (br (k==12)
           (some (false))
           (br (k==8)
            (some (false))
            (br (k==14)
             (some (false))
             (br (k==15)
              (some (false))
              (some (false)))))))))))))
theorem quG:∀ (k:Fin 16) (d u:Fin 17),((d.val=8 /\ u.val=8) \/ stT ((k.val:Nat):Int) ((u.val:Int) - 8) (if (d.val:Int) - 8<0 then -((d.val:Int) - 8) else (d.val:Int) - 8) =
  some (decide (qB6 ((k.val:Nat):Int) ((d.val:Int) - 8) ((u.val:Int) - 8)))):=by decide +kernel
theorem qul {k d u:Int} (hne:¬ (d=0 /\ u=0)) (k0:0<=k) (k1:k<=15) (u1:-8<=u) (u2:u<=8) (d1:-8<=d) (d2:d<=8):stT k u (if d<0 then -d else d)=some (decide (qB6 k d u)):=by
 have:=quG ⟨k.toNat,by omega⟩ ⟨(d+8).toNat,by omega⟩ ⟨(u+8).toNat,by omega⟩
 simp only at this
 rw[show ((k.toNat:Nat):Int)=k by omega,show (((d+8).toNat:Nat):Int) - 8=d by omega,show (((u+8).toNat:Nat):Int) - 8=u by omega] at this
 exact this.resolve_left (by omega)
theorem qsb (x:Int) {a c:Nat} (ha:a<81) (hc:c<81):qJk x a c=some (qA0 x a c):=by
 have hg:=geo ha
 have hg2:=geo hc
 have hr:=qTq (x:=x) ha hc
 unfold qJk qA0
 simp (disch:=omega) only[qW,qIr,qKJ,qEh,qB4,qA,w_s]
 by_cases hac:a=c
 ·subst hac
  rw[ql rfl]
  have:=qHd a
  have hu:upS x a a=0:=by unfold upS;rw[this.2];split<;>rfl
  rw[this.1,hu]
  symm
  rw[Option.some.injEq,decide_eq_false_iff_not]
  unfold qB6
  omega
 ·rw[qk (by omega)]
  have hne:¬ (df a c=0 /\ upS x a c=0):=by
   rintro ⟨h1,h2⟩
   refine hac (qJO h1 ?_)
   unfold upS at h2
   split at h2<;>omega
  have hS:=qt1 (n:=fl c - fl a) (by omega) (by omega)
  rw[hS,qA]
  obtain⟨k0,k1,_⟩:=qBv x
  have:=qul (k:=kd x) hne k0 k1 hr.1 hr.2.1 hr.2.2.1 hr.2.2.2.1
  rw[<- this]
  by_cases hs:sd x=1
  ·have hu:(0:Int) - (rn a - rn c)=upS x a c:=by unfold upS dr;rw[if_pos hs];omega
   rw[ql hs,hu]
   rfl
  ·have hu:rn a - rn c=upS x a c:=by unfold upS dr;rw[if_neg hs];omega
   rw[qk hs,hu]
   rfl
def qAW (k:Int):List (List Int):=if k=1 then [[0,-1]] else if k=3 then [[-1,-2],[1,-2]] else if k=4 then [[-1,-1],[0,-1],[1,-1],[-1,1],[1,1]]
 else if k=5 \/ k=9 \/ k=10 \/ k=11 \/ k=12 then [[-1,-1],[0,-1],[1,-1],[-1,0],[1,0],[0,1]]
 else if k=8 then [[-1,-1],[0,-1],[1,-1],[-1,0],[1,0],[0,1],[-1,1],[1,1]] else if k=14 then [[0,-1],[-1,0],[1,0],[0,1]]
 else if k=15 then [[-1,-1],[1,-1],[-1,1],[1,1]] else []
theorem qkE:∀ k:Fin 16,qGw qB ((k.val:Nat):Int)=some ((qAW ((k.val:Nat):Int)).length,(qAW ((k.val:Nat):Int)).length,qAW ((k.val:Nat):Int)):=by decide +kernel
theorem qkF {k:Int} (h0:0<=k) (h1:k<=15):qGw qB k=some ((qAW k).length,(qAW k).length,qAW k):=by
 have:=qkE ⟨k.toNat,by omega⟩
 simpa only[show ((k.toNat:Nat):Int)=k by omega] using this
theorem qkD:∀ (k:Fin 16) (i:Fin 8),((qAW ((k.val:Nat):Int)).getD i.val []).length<=2 /\ -2<=((qAW ((k.val:Nat):Int)).getD i.val []).headD 0 /\ ((qAW ((k.val:Nat):Int)).getD i.val []).headD 0<=2 /\
  -2<=((qAW ((k.val:Nat):Int)).getD i.val []).tail.headD 0 /\ ((qAW ((k.val:Nat):Int)).getD i.val []).tail.headD 0<=2:=by decide +kernel
theorem qkB:∀ (k:Fin 16),(qAW ((k.val:Nat):Int)).length<=8:=by decide +kernel
def sg (x:Int):Int:=if sd x=1 then -1 else 1
theorem qgY {dx dy:Int} (h:-8<=dx /\ dx<=8 /\ -8<=dy /\ dy<=8) (x:Int):qF2 dx dy (sd x)=some (sg x*dx,sg x*dy):=by
 unfold qF2 sg
 by_cases hs:sd x=1
 ·rw[ql hs,if_pos hs,w_s (by omega) (by omega),w_s (by omega) (by omega)]
  congr 2<;>omega
 ·rw[qk hs,if_neg hs]
  congr 2<;>omega
theorem qe8 (x:Int):sg x=1 \/ sg x = -1:=by unfold sg;split<;>simp
def dx_ (r:List Int):Int:=r.headD 0
def dy_ (r:List Int):Int:=r.tail.headD 0
def qDS (x:Int) (L:List (List Int)) (a c:Nat):Bool:=L.any fun r=>decide (df a c=sg x*dx_ r /\ dr a c=sg x*dy_ r)
theorem quJ {x:Int} {a:Nat} (ha:a<81) (L:List (List Int)) (hlen:L.length<=8) (hr:∀ r∈L,r.length<=2 /\ -2<=dx_ r /\ dx_ r<=2 /\ -2<=dy_ r /\ dy_ r<=2) (N:Nat) (u v:Int):
  ∀ (n i:Nat),i+n=L.length->∀ (f:Nat->Bool) (F:Nat),qF4 (F+n+1) x a L.length (Int.ofNat L.length) i u v (sLo f) (sHi f) N L =
    some (u,v,sLo fun c=>f c||qDS x (L.drop i) a c,sHi fun c=>f c||qDS x (L.drop i) a c):=by
 intro n
 induction n with
 | zero=>
   intro i hi f F
   show qIn (qF4 (F+0)) _ _ _ _ _ _ _ _ _ _ _=_
   unfold qIn
   rw[qW (by simp;omega),List.drop_eq_nil_of_le (by omega)]
   have:(fun c=>f c||qDS x [] a c)=f:=by funext c;simp[qDS]
   rw[this]
 | succ n ih=>
   intro i hi f F
   show qIn (qF4 (F+n+1)) _ _ _ _ _ _ _ _ _ _ _=_
   unfold qIn
   have hil:i<L.length:=by omega
   have hget:L.getD i []=L[i]:=by rw[List.getD_eq_getElem?_getD,List.getElem?_eq_getElem hil];rfl
   obtain⟨r0,r1,r2,r3,r4⟩:=hr L[i] (List.getElem_mem hil)
   have ht:List.take 2 L[i]=L[i]:=List.take_of_length_le r0
   have hs:=qe8 x
   rw[qe (by simp;omega),qd (by omega) (by omega),tn,hget,ht,qDM,qA]
   show ob (qF2 (dx_ L[i]) (dy_ L[i]) (sd x)) _=_
   rw[qgY (by omega),qA]
   simp only
   rw[qO1 (by rcases hs with h | h<;>rw[h]<;>omega) (by rcases hs with h | h<;>rw[h]<;>omega) (by rcases hs with h | h<;>rw[h]<;>omega) (by rcases hs with h | h<;>rw[h]<;>omega) ha,qA,qG0,qA]
   simp only
   rw[w_s (by omega) (by omega)]
   refine (ih (i+1) (by omega) _ F).trans ?_
   have hd:L.drop i=L[i] :: L.drop (i+1):=List.drop_eq_getElem_cons hil
   obtain⟨e1,e2⟩:=qB5 (f:=fun c=>(f c||only (qBH (sg x*dx_ L[i]) (sg x*dy_ L[i]) a) c)||qDS x (L.drop (i+1)) a c) (g:=fun c=>f c||qDS x (L.drop i) a c) fun c hc=>by
    rw[qoz ha hc,hd]
    unfold qDS
    rw[List.any_cons,Bool.or_assoc]
   rw[e1,e2]
theorem qhI:∀ (k:Fin 16) (d u:Fin 17),(qAW ((k.val:Nat):Int)).any (fun r=>decide ((d.val:Int) - 8=dx_ r /\ (u.val:Int) - 8 = -(dy_ r)))=decide (qB6 ((k.val:Nat):Int) ((d.val:Int) - 8) ((u.val:Int) - 8)):=by decide +kernel
theorem qhJ:∀ (k:Fin 16) (d u:Fin 17),(qAW ((k.val:Nat):Int)).any (fun r=>decide ((d.val:Int) - 8 = -(dx_ r) /\ (u.val:Int) - 8 = -(dy_ r)))=decide (qB6 ((k.val:Nat):Int) ((d.val:Int) - 8) ((u.val:Int) - 8)):=by decide +kernel
theorem qhK (x:Int) {a c:Nat} (ha:a<81) (hc:c<81):qDS x (qAW (kd x)) a c=qA0 x a c:=by
 obtain⟨k0,k1,_⟩:=qBv x
 have hr:=qTq (x:=x) ha hc
 unfold qA0 qDS sg upS
 by_cases hs:sd x=1
 ·simp only[hs,if_true]
  have:=qhJ ⟨(kd x).toNat,by omega⟩ ⟨(df a c+8).toNat,by omega⟩ ⟨(dr a c+8).toNat,by omega⟩
  simp only[show (((kd x).toNat:Nat):Int)=kd x by omega,show (((df a c+8).toNat:Nat):Int) - 8=df a c by omega,show (((dr a c+8).toNat:Nat):Int) - 8=dr a c by omega] at this
  rw[<- this]
  congr 1
  funext r
  rw[decide_eq_decide]
  constructor<;>(rintro ⟨h1,h2⟩;constructor<;>omega)
 ·simp only[hs,if_false]
  have:=qhI ⟨(kd x).toNat,by omega⟩ ⟨(df a c+8).toNat,by omega⟩ ⟨(-dr a c+8).toNat,by omega⟩
  simp only[show (((kd x).toNat:Nat):Int)=kd x by omega,show (((df a c+8).toNat:Nat):Int) - 8=df a c by omega,show (((-dr a c+8).toNat:Nat):Int) - 8 = -dr a c by omega] at this
  rw[<- this]
  congr 1
  funext r
  rw[decide_eq_decide]
  constructor<;>(rintro ⟨h1,h2⟩;constructor<;>omega)
theorem qkC {k:Int} (h0:0<=k) (h1:k<=15):(qAW k).length<=8 /\ ∀ r∈qAW k,r.length<=2 /\ -2<=dx_ r /\ dx_ r<=2 /\ -2<=dy_ r /\ dy_ r<=2:=by
 have hl:=qkB ⟨k.toNat,by omega⟩
 simp only[show ((k.toNat:Nat):Int)=k by omega] at hl
 refine⟨hl,fun r hr=>?_⟩
 obtain⟨i,hi,rfl⟩:=List.getElem_of_mem hr
 have:=qkD ⟨k.toNat,by omega⟩ ⟨i,by omega⟩
 simp only[show ((k.toNat:Nat):Int)=k by omega] at this
 rw[List.getD_eq_getElem?_getD,List.getElem?_eq_getElem hi] at this
 exact this
theorem quK (x:Int) {a:Nat} (ha:a<81):qKA x a=some (sLo (qA0 x a),sHi (qA0 x a)):=by
 obtain⟨k0,k1,_⟩:=qBv x
 obtain⟨hlen,hrs⟩:=qkC k0 k1
 obtain⟨g,hg⟩:=qh (qAW (kd x)).length (by omega)
 have:=quJ (x:=x) ha (qAW (kd x)) hlen hrs (qAW (kd x)).length 0 0 (qAW (kd x)).length 0 (by omega) (fun _=>false) g
 rw[<- hg,qBn,qBm] at this
 unfold qKA
 rw[qBY,qA,qkF k0 k1,qA]
 simp only
 rw[show qF4 qB x a (qAW (kd x)).length (Int.ofNat (qAW (kd x)).length) 0 0 0 0 0 (qAW (kd x)).length (qAW (kd x))=_ from this,qA]
 simp only
 obtain⟨e1,e2⟩:=qB5 (f:=fun c=>false||qDS x (List.drop 0 (qAW (kd x))) a c) (g:=qA0 x a) fun c hc=>by
  rw[Bool.false_or,List.drop_zero,qhK x ha hc]
 rw[e1,e2]
end Go.Kk.Pl
namespace Go.Kk.Pl
def sgn (n:Int):Int:=if n<0 then -1 else if n>0 then 1 else 0
def qy (a c:Nat):Int:=if a=c then 0 else if df a c=0 \/ dr a c=0 then 1 else if df a c=dr a c \/ df a c = -dr a c then 2 else 0
def mx (a c:Nat):Nat:=if (df a c).natAbs<(dr a c).natAbs then (dr a c).natAbs else (df a c).natAbs
def qAY (a c:Nat):Int:=9*sgn (df a c)+sgn (dr a c)
def btw (a c:Nat):List Nat:=if qy a c=0 then [] else (List.range (mx a c - 1)).map fun (j:Nat)=>((a:Int)+((j:Int)+1)*qAY a c).toNat
theorem qtz (n:Int):qID n=some (sgn n):=by
 unfold qID sgn
 split
 ·rename_i h;rw[qe h]
 ·rename_i h
  rw[qW h]
  split
  ·rename_i h2;rw[qBT h2]
  ·rename_i h2;rw[qBU h2]
theorem qY7 {a c:Nat} (ha:a<81) (hc:c<81):qIC a c=some (qy a c):=by
 have hg:=geo ha
 have hg2:=geo hc
 unfold qIC qy
 simp (disch:=omega) only[qW,qIr,qKJ,w_s]
 by_cases hac:a=c
 ·rw[ql (by omega),if_pos hac]
 ·rw [qk (by omega),if_neg hac]
  by_cases h1:df a c=0
  ·rw[ql (by unfold df at h1;omega),if_pos (.inl h1)]
  ·rw[qk (by unfold df at h1;omega)]
   by_cases h2:dr a c=0
   ·rw[ql (by unfold dr at h2;omega),if_pos (.inr h2)]
   ·rw[qk (by unfold dr at h2;omega),if_neg (by omega)]
    by_cases h3:df a c=dr a c
    ·rw[ql (by unfold df dr at h3;omega),if_pos (.inl h3)]
    ·rw[qk (by unfold df dr at h3;omega)]
     by_cases h4:df a c = -dr a c
     ·rw[ql (by unfold df dr at h4;omega),if_pos (.inr h4)]
     ·rw[qk (by unfold df dr at h4;omega),if_neg (by omega)]
theorem qLh {a c:Nat} (ha:a<81) (hc:c<81) (h:qy a c≠0):1<=mx a c /\ mx a c<=8 /\ (c:Int)=a+(mx a c:Int)*qAY a c /\ qAY a c≠0 /\ -10<=qAY a c /\ qAY a c<=10:=by
 have hg:=geo ha
 have hg2:=geo hc
 have hdf:df a c=fl c - fl a:=rfl
 have hdr:dr a c=rn c - rn a:=rfl
 unfold qy at h
 split at h
 ·exact absurd rfl h
 rename_i hac
 have hne:¬ (df a c=0 /\ dr a c=0):=fun hh=>hac (qJO hh.1 hh.2)
 have hl:df a c=0 \/ dr a c=0 \/ df a c=dr a c \/ df a c = -dr a c:=by
  split at h
  ·rename_i h1;rcases h1 with h1 | h1
   ·exact .inl h1
   ·exact .inr (.inl h1)
  ·split at h
   ·rename_i h1;rcases h1 with h1 | h1
    ·exact .inr (.inr (.inl h1))
    ·exact .inr (.inr (.inr h1))
   ·exact absurd rfl h
 clear h
 unfold mx qAY sgn
 generalize df a c=d at *
 generalize dr a c=e at *
 rcases Int.lt_trichotomy d 0 with h1 | h1 | h1<;>rcases Int.lt_trichotomy e 0 with h2 | h2 | h2
 all_goals simp (disch:=omega) only[if_pos,if_neg]
 all_goals (refine⟨by omega,by omega,by omega,by omega,by omega,by omega⟩)
theorem qLn {a c D:Int} {m j:Nat} (hm:c=a+(m:Int)*D) (ha:0<=a /\ a<81) (hc:0<=c /\ c<81) (hj:j<=m) (_hD:-10<=D /\ D<=10):0<=a+(j:Int)*D /\ a+(j:Int)*D<81:=by
 have hj':(j:Int)<=m:=by omega
 rcases Int.le_total 0 D with h | h
 ·have h1:(0:Int)<=(j:Int)*D:=Int.mul_nonneg (by omega) h
  have h2:(j:Int)*D<=(m:Int)*D:=Int.mul_le_mul_of_nonneg_right hj' h
  omega
 ·have h1:(j:Int)*D<=0:=Int.mul_nonpos_of_nonneg_of_nonpos (by omega) h
  have h2:(m:Int)*D<=(j:Int)*D:=Int.mul_le_mul_of_nonpos_right hj' h
  omega
theorem qhx {a c:Nat} (ha:a<81) (hc:c<81) (h:qy a c≠0):∀ (n j:Nat),j+1+n=mx a c->∀ F,
  qFj (F+n+1) c j (qAY a c) ((a:Int)+((j:Int)+1)*qAY a c) j ((List.range j).map fun (j:Nat)=>(a:Int)+((j:Int)+1)*qAY a c) =
   some (mx a c - 1,mx a c - 1,(List.range (mx a c - 1)).map fun (j:Nat)=>(a:Int)+((j:Int)+1)*qAY a c):=by
 obtain⟨m1,m8,hend,hD0,hD1,hD2⟩:=qLh ha hc h
 intro n
 induction n with
 | zero=>
   intro j hj F
   show qIA (qFj (F+0)) _ _ _ _ _ _=_
   unfold qIA
   have hjm:((j:Int)+1)=(mx a c:Int):=by omega
   rw[hjm,qt (by omega),show mx a c - 1=j by omega]
 | succ n ih=>
   intro j hj F
   show qIA (qFj (F+n+1)) _ _ _ _ _ _=_
   unfold qIA
   have hne:¬ (a:Int)+((j:Int)+1)*qAY a c=c:=by
    rw[hend]
    intro hh
    have:((j:Int)+1)*qAY a c=(mx a c:Int)*qAY a c:=by omega
    have:=Int.eq_of_mul_eq_mul_right hD0 this
    omega
   have hr:=qLn (j:=j+1) hend (by omega) (by omega) (by omega) ⟨hD1,hD2⟩
   have hr2:=qLn (j:=j+2) hend (by omega) (by omega) (by omega) ⟨hD1,hD2⟩
   have e2:(a:Int)+((j:Int)+1)*qAY a c+qAY a c=(a:Int)+(((j+1:Nat):Int)+1)*qAY a c:=by
    rw[show (((j+1:Nat):Int)+1)=((j:Int)+1)+1 by omega,Int.add_mul ((j:Int)+1),Int.one_mul];omega
   have e3:(((j+2:Nat):Int))=(((j+1:Nat):Int)+1):=by omega
   rw[e3] at hr2
   rw[qp hne,qG (by simp;omega),e2,w_s (by omega) (by omega),qNc (by simp)]
   have e4:(((List.range j).map fun (j:Nat)=>(a:Int)+((j:Int)+1)*qAY a c)++[(a:Int)+((j:Int)+1)*qAY a c])=(List.range (j+1)).map fun (j:Nat)=>(a:Int)+((j:Int)+1)*qAY a c:=by
    rw[List.range_succ,List.map_append];rfl
   rw[e4]
   exact ih (j+1) (by omega) F
theorem qI5 {a c:Nat} (ha:a<81) (hc:c<81) {s:Nat} (hs:s∈btw a c):s<81:=by
 unfold btw at hs
 split at hs
 ·cases hs
 ·rename_i h
  obtain⟨m1,m8,hend,hD0,hD1,hD2⟩:=qLh ha hc h
  obtain⟨j,hj,rfl⟩:=List.mem_map.1 hs
  rw[List.mem_range] at hj
  have hr:=qLn (j:=j+1) hend (by omega) (by omega) (by omega) ⟨hD1,hD2⟩
  rw[show (((j+1:Nat):Int))=(j:Int)+1 by omega] at hr
  omega
theorem qi5 {a c:Nat} (ha:a<81) (hc:c<81):(btw a c).length<=7:=by
 unfold btw
 split
 ·simp
 ·rename_i h
  obtain⟨m1,m8,_⟩:=qLh ha hc h
  simp;omega
theorem qhz {a c:Nat} (ha:a<81) (hc:c<81):qJl a c=some ((btw a c).length,(btw a c).length,(btw a c).map Int.ofNat):=by
 have hg:=geo ha
 have hg2:=geo hc
 unfold qJl
 rw[qY7 ha hc,qA]
 by_cases h:qy a c=0
 ·rw[ql h]
  unfold btw
  rw[if_pos h]
  rfl
 ·obtain⟨m1,m8,hend,hD0,hD1,hD2⟩:=qLh ha hc h
  have hs1:-1<=sgn (df a c) /\ sgn (df a c)<=1:=by unfold sgn;split<;>(try split)<;>omega
  have hs2:-1<=sgn (dr a c) /\ sgn (dr a c)<=1:=by unfold sgn;split<;>(try split)<;>omega
  rw[qk h]
  simp (disch:=omega) only[qIr,qKJ,w_s,qtz,qA]
  rw[show fl c - fl a=df a c from rfl,show rn c - rn a=dr a c from rfl,w_s (n:=9*sgn (df a c)) (by omega) (by omega),show 9*sgn (df a c)+sgn (dr a c)=qAY a c from rfl,w_s (n:=qAY a c) (by omega) (by omega),w_s (n:=(a:Int)+qAY a c) (by omega) (by omega)]
  obtain⟨g,hgm⟩:=qh (mx a c - 1) (by omega)
  have:=qhx ha hc h (mx a c - 1) 0 (by omega) g
  rw[<- hgm] at this
  have e0:(a:Int)+(((0:Nat):Int)+1)*qAY a c=a+qAY a c:=by
   rw[show ((0:Nat):Int)+1=1 from rfl,Int.one_mul]
  rw[e0] at this
  rw[show qFj qB c 0 (qAY a c) ((a:Int)+qAY a c) 0 []=_ from this,qA]
  unfold btw
  rw[if_neg h]
  simp only[List.length_map,List.length_range,List.map_map]
  congr 3
  apply List.map_congr_left
  intro j hj
  rw[List.mem_range] at hj
  have hr:=qLn (j:=j+1) hend (by omega) (by omega) (by omega) ⟨hD1,hD2⟩
  rw[show (((j+1:Nat):Int))=(j:Int)+1 by omega] at hr
  show _=Int.ofNat (Int.toNat _)
  simp only[Int.ofNat_eq_natCast]
  omega
def qAn (a c:Nat) (t:Nat->Bool):Bool:=(btw a c).all fun s=>!t s
theorem qkk (t:List Bool) (L:List Nat) (hL:∀ s∈L,s<81) (hl:L.length<=100) (N:Nat):∀ (n i:Nat),i+n=L.length->∀ F,
  qFk (F+n+1) L.length i t N (L.map Int.ofNat)=some (if (L.drop i).all (fun s=>!t.getD s false) then .inr () else .inl false):=by
 intro n
 induction n with
 | zero=>
   intro i hi F
   show qIB (qFk (F+0)) _ _ _ _ _=_
   unfold qIB
   rw[qW (by simp;omega),List.drop_eq_nil_of_le (by omega)]
   rfl
 | succ n ih=>
   intro i hi F
   show qIB (qFk (F+n+1)) _ _ _ _ _=_
   unfold qIB
   have hil:i<L.length:=by omega
   have hd:L.drop i=L[i] :: L.drop (i+1):=List.drop_eq_getElem_cons hil
   have hget:(L.map Int.ofNat).getD i 0=(L[i]:Int):=by
    rw[List.getD_eq_getElem?_getD,List.getElem?_map,List.getElem?_eq_getElem hil];rfl
   have h81:=hL L[i] (List.getElem_mem hil)
   rw[qe (by simp;omega),qd (by omega) (by omega),tn,hget,qd (by omega) (by omega),tn,hd,List.all_cons,w_s (by omega) (by omega)]
   cases ht:t.getD L[i] false with
   | true=>rfl
   | false=>
     rw[b_f,Bool.not_false,Bool.true_and]
     exact ih (i+1) (by omega) F
theorem qkm {a c:Nat} (ha:a<81) (hc:c<81) (t:List Bool):qAs a c t=some (qAn a c fun s=>t.getD s false):=by
 unfold qAs
 rw[qhz ha hc,qA]
 simp only
 have hlen:=qi5 ha hc
 obtain⟨g,hg⟩:=qh (btw a c).length (by omega)
 have:=qkk t (btw a c) (fun s hs=>qI5 ha hc hs) (by omega) (btw a c).length (btw a c).length 0 (by omega) g
 rw[<- hg] at this
 rw[show qFk qB (btw a c).length 0 t (btw a c).length ((btw a c).map Int.ofNat)=_ from this,qA,List.drop_zero]
 unfold qAn
 cases (btw a c).all fun s=>!t.getD s false<;>rfl
def slK (k d u:Int):Prop:=(k=2 /\ d=0 /\ 0<u) \/ ((k=6 \/ k=14) /\ ¬ (d=0 /\ u=0) /\ (d=u \/ d = -u)) \/ ((k=7 \/ k=15) /\ ¬ (d=0 /\ u=0) /\ (d=0 \/ u=0))
instance (k d u:Int):Decidable (slK k d u):=by unfold slK;infer_instance
def qAl (x:Int) (a c:Nat):Bool:=decide (slK (kd x) (df a c) (upS x a c))
def rch (x:Int) (a c:Nat) (t:Nat->Bool):Bool:=qA0 x a c||(qAl x a c&&qAn a c t)
theorem qm6 {a c:Nat}:qy a c=1↔(¬ (df a c=0 /\ dr a c=0)) /\ (df a c=0 \/ dr a c=0):=by
 unfold qy
 by_cases hac:a=c
 ·subst hac
  have:=qHd a
  simp[this.1,this.2]
 ·have:¬ (df a c=0 /\ dr a c=0):=fun h=>hac (qJO h.1 h.2)
  rw[if_neg hac]
  split
  ·rename_i h;simp[this,h]
  ·rename_i h
   split<;>simp[h]
theorem qm7 {a c:Nat}:qy a c=2↔(¬ (df a c=0 /\ dr a c=0)) /\ (df a c=dr a c \/ df a c = -dr a c):=by
 unfold qy
 by_cases hac:a=c
 ·subst hac
  have:=qHd a
  simp[this.1,this.2]
 ·have:¬ (df a c=0 /\ dr a c=0):=fun h=>hac (qJO h.1 h.2)
  rw[if_neg hac]
  split
  ·rename_i h
   constructor
   ·intro hh;omega
   ·rintro ⟨h1,h2⟩;omega
  ·rename_i h
   split
   ·rename_i h2;simp[h2];omega
   ·rename_i h2;simp[h2]
theorem qqI (x:Int) {a c:Nat} (ha:a<81) (hc:c<81) (t:List Bool):qFl x a c t=some (rch x a c fun s=>t.getD s false):=by
 have hg:=geo ha
 have hg2:=geo hc
 unfold qFl
 rw[qsb x ha hc,qA]
 unfold rch
 cases hst:qA0 x a c with
 | true=>rfl
 | false =>
   rw[b_f,qY7 ha hc,qA,qEh,qA,Bool.false_or]
   have l1:=qm6 (a:=a) (c:=c)
   have l2:=qm7 (a:=a) (c:=c)
   have hup:upS x a c=if sd x=1 then dr a c else -dr a c:=rfl
   have hdr:dr a c=rn c - rn a:=rfl
   have hdf:df a c=fl c - fl a:=rfl
   have fin:∀ (p:Bool),p=qAl x a c->(br p (ob (qAs a c t) fun a8=>some a8) (some false):Option Bool)=some (qAl x a c&&qAn a c fun s=>t.getD s false):=by
    intro p hp
    rw[hp,qkm ha hc,qA]
    cases qAl x a c<;>rfl
   have sl:∀ {p:Prop} [Decidable p],(p↔slK (kd x) (df a c) (upS x a c))->decide p=qAl x a c:=by
    intro p _ h
    unfold qAl
    rw[decide_eq_decide];exact h
   have nsl:¬ slK (kd x) (df a c) (upS x a c)->(some false:Option Bool)=some (qAl x a c&&qAn a c fun s=>t.getD s false):=by
    intro h
    have:qAl x a c=false:=by unfold qAl;simpa using h
    rw[this];rfl
   simp (disch:=omega) only[qIr,qKJ,w_s,qB4,qA]
   have body : ∀ (u:Int),u=upS x a c->(br (kd x==2)
        (br (qy a c==1)
         (br (fl a==fl c)
          (br (decide (u>0))
           (ob (qAs a c t) fun a8=>
           some (a8))
           (some (false)))
          (some (false)))
         (some (false)))
        (br (kd x==6)
         (br (qy a c==2)
          (ob (qAs a c t) fun a8=>
          some (a8))
          (some (false)))
         (br (kd x==14)
          (br (qy a c==2)
           (ob (qAs a c t) fun a8=>
           some (a8))
           (some (false)))
          (br (kd x==7)
           (br (qy a c==1)
            (ob (qAs a c t) fun a8=>
            some (a8))
            (some (false)))
           (br (kd x==15)
            (br (qy a c==1)
             (ob (qAs a c t) fun a8=>
             some (a8))
             (some (false)))
            (some (false))))))  : Option Bool)=some (qAl x a c&&qAn a c fun s=>t.getD s false):=by
    intro u hu
    by_cases k2:kd x=2
    ·rw[ql k2]
     by_cases h1:qy a c=1
     ·rw[ql h1]
      by_cases h3:fl a=fl c
      ·rw[ql h3]
       refine fin _ ?_
       exact sl (by unfold slK;rw[<- hu];omega)
      ·rw[qk h3]
       exact nsl (by unfold slK;omega)
     ·rw[qk h1]
      refine nsl (by
       rw[l1] at h1
       unfold slK
       split at hup<;>omega)
    ·rw[qk k2]
     have two:(kd x=6 \/ kd x=14)->(br (qy a c==2) (ob (qAs a c t) fun a8=>some a8) (some false):Option Bool)=some (qAl x a c&&qAn a c fun s=>t.getD s false):=by
      intro hk
      refine fin _ ?_
      have:(qy a c==2)=decide (qy a c=2):=by rw[Bool.eq_iff_iff];simp
      rw[this]
      refine sl ?_
      rw[l2]
      unfold slK
      split at hup<;>omega
     have one:(kd x=7 \/ kd x=15)->(br (qy a c==1) (ob (qAs a c t) fun a8=>some a8) (some false):Option Bool)=some (qAl x a c&&qAn a c fun s=>t.getD s false):=by
      intro hk
      refine fin _ ?_
      have:(qy a c==1)=decide (qy a c=1):=by rw[Bool.eq_iff_iff];simp
      rw[this]
      refine sl ?_
      rw[l1]
      unfold slK
      split at hup<;>omega
     by_cases k6:kd x=6
     ·rw[ql k6];exact two (.inl k6)
     rw[qk k6]
     by_cases k14:kd x=14
     ·rw[ql k14];exact two (.inr k14)
     rw[qk k14]
     by_cases k7:kd x=7
     ·rw[ql k7];exact one (.inl k7)
     rw[qk k7]
     by_cases k15:kd x=15
     ·rw[ql k15];exact one (.inr k15)
     rw[qk k15]
     exact nsl (by unfold slK;omega)
   by_cases hs:sd x=1
   ·rw[ql hs]
    exact body _ (by rw[hup,if_pos hs];omega)
   ·rw[qk hs]
    exact body _ (by rw[hup,if_neg hs];omega)
end Go.Kk.Pl
namespace Go.Kk.Pl
def qB1 (dx dy:Int):Nat->Int->List Nat
 | 0,_=>[]
 | n+1,p=>if p<0 then [] else p.toNat :: qB1 dx dy n (qBH dx dy p.toNat)
def qAV (t:Nat->Bool):List Nat->Nat->Bool
 | [],_=>false
 | s :: L,c=>decide (c=s)||(!t s&&qAV t L c)
def qDe (dx dy:Int):Nat->Int->Bool
 | 0,p=>decide (p<0)
 | n+1,p=>decide (p<0)||qDe dx dy n (qBH dx dy p.toNat)
theorem qWr (dx dy:Int) (a:Nat):-1<=qBH dx dy a /\ qBH dx dy a<81:=by unfold qBH;split<;>omega
theorem qvr {dx dy:Int} (h1:-8<=dx) (h2:dx<=8) (h3:-8<=dy) (h4:dy<=8) (t:Nat->Bool) (u v:Int):∀ (n:Nat) (p:Int),-1<=p->p<81->qDe dx dy n p=true->∀ (f:Nat->Bool) (F:Nat),
  qGf (F+n+1) p dx dy (sLo t) (sHi t) u v (sLo f) (sHi f)=some (u,v,sLo fun c=>f c||qAV t (qB1 dx dy n p) c,sHi fun c=>f c||qAV t (qB1 dx dy n p) c):=by
 intro n
 induction n with
 | zero=>
   intro p hp0 hp1 he f F
   show qH8 (qGf (F+0)) _ _ _ _ _ _ _ _ _=_
   unfold qH8
   simp only[qDe,decide_eq_true_eq] at he
   rw[qBf (by omega)]
   have:(fun c=>f c||qAV t (qB1 dx dy 0 p) c)=f:=by funext c;simp[qB1,qAV]
   rw[this]
 | succ n ih=>
   intro p hp0 hp1 he f F
   show qH8 (qGf (F+n+1)) _ _ _ _ _ _ _ _ _=_
   unfold qH8
   by_cases hp:p<0
   ·rw[qBf (by omega)]
    have:(fun c=>f c||qAV t (qB1 dx dy (n+1) p) c)=f:=by funext c;simp[qB1,qAV,hp]
    rw[this]
   ·obtain⟨q,rfl⟩:∃ q:Nat,p=q:=⟨p.toNat,by omega⟩
    have hq:q<81:=by omega
    rw[qB8 (by omega),qG0,qA]
    simp only
    rw[qER,qA]
    have hhas:has t q=t q:=by unfold has;simp;intro _;omega
    have hL:qB1 dx dy (n+1) q=q :: qB1 dx dy n (qBH dx dy q):=by simp[qB1]
    rw[hhas,hL]
    cases ht:t q with
    | true=>
      rw[b_t]
      obtain⟨e1,e2⟩:=qB5 (f:=fun i=>f i||only q i) (g:=fun c=>f c||qAV t (q :: qB1 dx dy n (qBH dx dy q)) c) fun c hc=>by
       unfold qAV only
       rw[ht]
       have:decide ((c:Int)=(q:Int))=decide (c=q):=by rw[decide_eq_decide];omega
       rw[this];simp
      rw[e1,e2]
    | false=>
      rw[b_f,qO1 h1 h2 h3 h4 hq,qA]
      obtain⟨r1,r2⟩:=qWr dx dy q
      have he':qDe dx dy n (qBH dx dy q)=true:=by
       simp only[qDe,Bool.or_eq_true,decide_eq_true_eq] at he
       rcases he with he | he
       ·omega
       ·simpa using he
      refine (ih _ r1 r2 he' _ F).trans ?_
      obtain⟨e1,e2⟩:=qB5 (f:=fun c=>(f c||only q c)||qAV t (qB1 dx dy n (qBH dx dy q)) c) (g:=fun c=>f c||qAV t (q :: qB1 dx dy n (qBH dx dy q)) c) fun c hc=>by
       unfold only
       have:decide ((c:Int)=(q:Int))=decide (c=q):=by rw[decide_eq_decide];omega
       rw[this]
       show _=(f c||(decide (c=q)||(!t q&&qAV t (qB1 dx dy n (qBH dx dy q)) c)))
       rw[ht]
       simp[Bool.or_assoc]
      rw[e1,e2]
def qBD (dx dy:Int) (a:Nat):List Nat:=qB1 dx dy 9 (qBH dx dy a)
theorem qkI:∀ (d:Fin 9) (a:Fin 81),(d.val=4 \/ qDe ((d.val / 3:Nat) - 1) ((d.val % 3:Nat) - 1) 9 (qBH ((d.val / 3:Nat) - 1) ((d.val % 3:Nat) - 1) a.val)=true):=by decide +kernel
theorem qgu {dx dy:Int} (h1:-1<=dx) (h2:dx<=1) (h3:-1<=dy) (h4:dy<=1) (hne:¬ (dx=0 /\ dy=0)) {a:Nat} (ha:a<81) (t:Nat->Bool):
  qH7 a dx dy (sLo t) (sHi t)=some (sLo (qAV t (qBD dx dy a)),sHi (qAV t (qBD dx dy a))):=by
 unfold qH7
 rw[qO (by rw[Bool.and_eq_false_iff];simp;omega),qO1 (by omega) (by omega) (by omega) (by omega) ha,qA]
 obtain⟨r1,r2⟩:=qWr dx dy a
 have he:qDe dx dy 9 (qBH dx dy a)=true:=by
  have:=qkI ⟨((dx+1)*3+(dy+1)).toNat,by omega⟩ ⟨a,ha⟩
  simp only at this
  rw[show (((((dx+1)*3+(dy+1)).toNat / 3:Nat):Int) - 1)=dx by omega,show (((((dx+1)*3+(dy+1)).toNat % 3:Nat):Int) - 1)=dy by omega] at this
  exact this.resolve_left (by omega)
 obtain⟨g,hg⟩:=qh 9 (by omega)
 have:=qvr (by omega) (by omega) (by omega) (by omega) t 0 0 9 _ r1 r2 he (fun _=>false) g
 rw[<- hg,qBn,qBm] at this
 rw[this,qA]
 simp only[Bool.false_or]
 rfl
def qJA (a c:Nat):Bool:=decide (qy a c=0)||((qBD (sgn (df a c)) (sgn (dr a c)) a).take (btw a c).length==btw a c&&((qBD (sgn (df a c)) (sgn (dr a c)) a)[(btw a c).length]? == some c && !(btw a c).contains c))
def qOf (a:Nat) (dx dy:Int):Bool:=(qBD dx dy a).all fun c=>decide (c<81)&&(decide (qy a c≠0)&&(decide (sgn (df a c)=dx)&&decide (sgn (dr a c)=dy)))
theorem qKr:∀ (a c:Fin 81),qJA a.val c.val=true:=by decide +kernel
theorem qVn:∀ (d:Fin 9) (a:Fin 81),(d.val=4 \/ qOf a.val ((d.val / 3:Nat) - 1) ((d.val % 3:Nat) - 1)=true):=by decide +kernel
theorem qgb (t:Nat->Bool) {c:Nat}:∀ (P Q:List Nat),c ∉ P->qAV t (P++c :: Q) c=P.all fun s=>!t s
 | [],Q,_=>by simp[qAV]
 | s :: P,Q,h=>by
   simp only[List.mem_cons,not_or] at h
   show (decide (c=s)||(!t s&&qAV t (P++c :: Q) c))=_
   rw[qgb t P Q h.2,List.all_cons,show decide (c=s)=false by simpa using h.1,Bool.false_or]
theorem qgZ (t:Nat->Bool) {c:Nat}:∀ (P:List Nat),c ∉ P->qAV t P c=false
 | [],_=>rfl
 | s :: P,h=>by
   simp only[List.mem_cons,not_or] at h
   show (decide (c=s)||(!t s&&qAV t P c))=_
   rw[qgZ t P h.2,show decide (c=s)=false by simpa using h.1];simp
def onW (dx dy:Int) (a c:Nat):Bool:=decide (qy a c≠0 /\ sgn (df a c)=dx /\ sgn (dr a c)=dy)
theorem qgc {dx dy:Int} (h1:-1<=dx) (h2:dx<=1) (h3:-1<=dy) (h4:dy<=1) (hne:¬ (dx=0 /\ dy=0)) {a c:Nat} (ha:a<81) (hc:c<81) (t:Nat->Bool):
  qAV t (qBD dx dy a) c=(onW dx dy a c&&qAn a c t):=by
 unfold onW
 by_cases h:qy a c≠0 /\ sgn (df a c)=dx /\ sgn (dr a c)=dy
 ·obtain⟨hl,rfl,rfl⟩:=h
  have:=qKr ⟨a,ha⟩ ⟨c,hc⟩
  simp only[qJA,Bool.or_eq_true,decide_eq_true_eq,Bool.and_eq_true,beq_iff_eq,Bool.not_eq_true'] at this
  obtain⟨e1,e2,e3⟩:=this.resolve_left hl
  have hlt:(btw a c).length<(qBD (sgn (df a c)) (sgn (dr a c)) a).length:=getElem?_lt e2
  have hsp:qBD (sgn (df a c)) (sgn (dr a c)) a=btw a c++c :: (qBD (sgn (df a c)) (sgn (dr a c)) a).drop ((btw a c).length+1):=by
   have:=qM8 e2
   rw[e1] at this
   exact this
  rw[hsp,qgb t _ _ (by simpa using e3)]
  simp[hl,qAn]
 ·have hn:c ∉ qBD dx dy a:=by
   intro hm
   have:=qVn ⟨((dx+1)*3+(dy+1)).toNat,by omega⟩ ⟨a,ha⟩
   simp only at this
   rw[show (((((dx+1)*3+(dy+1)).toNat / 3:Nat):Int) - 1)=dx by omega,show (((((dx+1)*3+(dy+1)).toNat % 3:Nat):Int) - 1)=dy by omega] at this
   have:=this.resolve_left (by omega)
   unfold qOf at this
   rw[List.all_eq_true] at this
   have:=this c hm
   simp only[Bool.and_eq_true,decide_eq_true_eq] at this
   exact h ⟨this.2.1,this.2.2.1,this.2.2.2⟩
  rw[qgZ t _ hn]
  rw[decide_eq_false h,Bool.false_and]
def qAT (k:Int):List (List Int):=if k=2 then [[0,-1]] else if k=6 \/ k=14 then [[-1,-1],[1,-1],[-1,1],[1,1]] else if k=7 \/ k=15 then [[0,-1],[-1,0],[1,0],[0,1]] else []
theorem qRG (k:Int):qGe k=some ((qAT k).length,(qAT k).length,qAT k):=by
 unfold qGe qAT
 by_cases h2:k=2
 ·rw[ql h2,if_pos h2];rfl
 rw[qk h2,if_neg h2]
 by_cases h6:k=6
 ·rw[ql h6,if_pos (.inl h6)];rfl
 rw[qk h6]
 by_cases h14:k=14
 ·rw[ql h14,if_pos (.inr h14)];rfl
 rw[qk h14,if_neg (by omega)]
 by_cases h7:k=7
 ·rw[ql h7,if_pos (.inl h7)];rfl
 rw[qk h7]
 by_cases h15:k=15
 ·rw[ql h15,if_pos (.inr h15)];rfl
 rw[qk h15,if_neg (by omega)];rfl
theorem qqG (k:Int):(qAT k).length<=8 /\ ∀ r∈qAT k,r.length<=2 /\ -1<=dx_ r /\ dx_ r<=1 /\ -1<=dy_ r /\ dy_ r<=1 /\ ¬ (dx_ r=0 /\ dy_ r=0):=by
 have h1:∀ r∈[[0,-1]],(r:List Int).length<=2 /\ -1<=dx_ r /\ dx_ r<=1 /\ -1<=dy_ r /\ dy_ r<=1 /\ ¬ (dx_ r=0 /\ dy_ r=0):=by decide
 have h2:∀ r∈[[-1,-1],[1,-1],[-1,1],[1,1]],(r:List Int).length<=2 /\ -1<=dx_ r /\ dx_ r<=1 /\ -1<=dy_ r /\ dy_ r<=1 /\ ¬ (dx_ r=0 /\ dy_ r=0):=by decide
 have h3:∀ r∈[[0,-1],[-1,0],[1,0],[0,1]],(r:List Int).length<=2 /\ -1<=dx_ r /\ dx_ r<=1 /\ -1<=dy_ r /\ dy_ r<=1 /\ ¬ (dx_ r=0 /\ dy_ r=0):=by decide
 unfold qAT
 split
 ·exact⟨by decide,h1⟩
 ·split
  ·exact⟨by decide,h2⟩
  ·split
   ·exact⟨by decide,h3⟩
   ·exact⟨by decide,fun r hr=>by cases hr⟩
def qDT (x:Int) (L:List (List Int)) (a c:Nat):Bool:=L.any fun r=>onW (sg x*dx_ r) (sg x*dy_ r) a c
theorem qp0 {x:Int} {a:Nat} (ha:a<81) (t:Nat->Bool) (L:List (List Int)) (hlen:L.length<=8) (hr:∀ r∈L,r.length<=2 /\ -1<=dx_ r /\ dx_ r<=1 /\ -1<=dy_ r /\ dy_ r<=1 /\ ¬ (dx_ r=0 /\ dy_ r=0)) (N:Nat) (u v:Int):
  ∀ (n i:Nat),i+n=L.length->∀ (f:Nat->Bool) (F:Nat),qFg (F+n+1) x a L.length (Int.ofNat L.length) i (sLo t) (sHi t) u v (sLo f) (sHi f) N L =
    some (u,v,sLo fun c=>f c||(qDT x (L.drop i) a c&&qAn a c t),sHi fun c=>f c||(qDT x (L.drop i) a c&&qAn a c t)):=by
 intro n
 induction n with
 | zero=>
   intro i hi f F
   show qH6 (qFg (F+0)) _ _ _ _ _ _ _ _ _ _ _ _ _=_
   unfold qH6
   rw[qW (by simp;omega),List.drop_eq_nil_of_le (by omega)]
   have:(fun c=>f c||(qDT x [] a c&&qAn a c t))=f:=by funext c;simp[qDT]
   rw[this]
 | succ n ih=>
   intro i hi f F
   show qH6 (qFg (F+n+1)) _ _ _ _ _ _ _ _ _ _ _ _ _=_
   unfold qH6
   have hil:i<L.length:=by omega
   have hget:L.getD i []=L[i]:=by rw[List.getD_eq_getElem?_getD,List.getElem?_eq_getElem hil];rfl
   obtain⟨r0,r1,r2,r3,r4,r5⟩:=hr L[i] (List.getElem_mem hil)
   have ht:List.take 2 L[i]=L[i]:=List.take_of_length_le r0
   have hs:=qe8 x
   have c1:-1<=sg x*dx_ L[i] /\ sg x*dx_ L[i]<=1 /\ -1<=sg x*dy_ L[i] /\ sg x*dy_ L[i]<=1 /\ ¬ (sg x*dx_ L[i]=0 /\ sg x*dy_ L[i]=0):=by
    rcases hs with h | h<;>rw[h]<;>omega
   rw[qe (by simp;omega),qd (by omega) (by omega),tn,hget,ht,qDM,qA]
   show ob (qF2 (dx_ L[i]) (dy_ L[i]) (sd x)) _=_
   rw[qgY (by omega),qA]
   simp only
   rw[qgu c1.1 c1.2.1 c1.2.2.1 c1.2.2.2.1 c1.2.2.2.2 ha,qA]
   simp only
   rw[qHy,qA]
   simp only
   rw[w_s (by omega) (by omega)]
   refine (ih (i+1) (by omega) _ F).trans ?_
   have hd:L.drop i=L[i] :: L.drop (i+1):=List.drop_eq_getElem_cons hil
   obtain⟨e1,e2⟩:=qB5 (f:=fun c=>(f c||qAV t (qBD (sg x*dx_ L[i]) (sg x*dy_ L[i]) a) c)||(qDT x (L.drop (i+1)) a c&&qAn a c t)) (g:=fun c=>f c||(qDT x (L.drop i) a c&&qAn a c t)) fun c hc=>by
    rw[qgc c1.1 c1.2.1 c1.2.2.1 c1.2.2.2.1 c1.2.2.2.2 ha hc,hd]
    unfold qDT
    rw[List.any_cons,Bool.and_or_distrib_right,Bool.or_assoc]
   rw[e1,e2]
def qEU (d e:Int):Prop:=¬ (d=0 /\ e=0) /\ (d=0 \/ e=0 \/ d=e \/ d = -e)
instance (d e:Int):Decidable (qEU d e):=by unfold qEU;infer_instance
theorem qLi (a c:Nat):qy a c≠0↔qEU (df a c) (dr a c):=by
 unfold qEU qy
 by_cases hac:a=c
 ·subst hac
  have:=qHd a
  simp[this.1,this.2]
 ·have:¬ (df a c=0 /\ dr a c=0):=fun h=>hac (qJO h.1 h.2)
  rw[if_neg hac]
  split
  ·rename_i h;constructor
   ·intro _;exact⟨this,by omega⟩
   ·intro _;omega
  ·split
   ·constructor
    ·intro _;exact⟨this,by omega⟩
    ·intro _;omega
   ·constructor
    ·intro h;omega
    ·rintro ⟨_,h⟩;omega
theorem qhL:∀ (k:Fin 16) (d e:Fin 17),(qAT ((k.val:Nat):Int)).any (fun r=>decide (qEU ((d.val:Int) - 8) ((e.val:Int) - 8) /\ sgn ((d.val:Int) - 8)=dx_ r /\ sgn ((e.val:Int) - 8)=dy_ r))=decide (slK ((k.val:Nat):Int) ((d.val:Int) - 8) (-((e.val:Int) - 8))):=by decide +kernel
theorem qhM:∀ (k:Fin 16) (d e:Fin 17),(qAT ((k.val:Nat):Int)).any (fun r=>decide (qEU ((d.val:Int) - 8) ((e.val:Int) - 8) /\ sgn ((d.val:Int) - 8) = -(dx_ r) /\ sgn ((e.val:Int) - 8) = -(dy_ r)))=decide (slK ((k.val:Nat):Int) ((d.val:Int) - 8) ((e.val:Int) - 8)):=by decide +kernel
theorem qhN (x:Int) {a c:Nat} (ha:a<81) (hc:c<81):qDT x (qAT (kd x)) a c=qAl x a c:=by
 obtain⟨k0,k1,_⟩:=qBv x
 have hr:=qTq (x:=x) ha hc
 have hl:=qLi a c
 unfold qAl qDT onW sg upS
 by_cases hs:sd x=1
 ·simp only[hs,if_true]
  have:=qhM ⟨(kd x).toNat,by omega⟩ ⟨(df a c+8).toNat,by omega⟩ ⟨(dr a c+8).toNat,by omega⟩
  simp only[show (((kd x).toNat:Nat):Int)=kd x by omega,show (((df a c+8).toNat:Nat):Int) - 8=df a c by omega,show (((dr a c+8).toNat:Nat):Int) - 8=dr a c by omega] at this
  rw[<- this]
  congr 1
  funext r
  rw[decide_eq_decide,hl]
  constructor<;>(rintro ⟨h1,h2,h3⟩;refine⟨h1,?_,?_⟩<;>omega)
 ·simp only[hs,if_false]
  have:=qhL ⟨(kd x).toNat,by omega⟩ ⟨(df a c+8).toNat,by omega⟩ ⟨(dr a c+8).toNat,by omega⟩
  simp only[show (((kd x).toNat:Nat):Int)=kd x by omega,show (((df a c+8).toNat:Nat):Int) - 8=df a c by omega,show (((dr a c+8).toNat:Nat):Int) - 8=dr a c by omega] at this
  rw[<- this]
  congr 1
  funext r
  rw[decide_eq_decide,hl]
  constructor<;>(rintro ⟨h1,h2,h3⟩;refine⟨h1,?_,?_⟩<;>omega)
theorem qML (x:Int) {a:Nat} (ha:a<81) (t:Nat->Bool):qFf x a (sLo t) (sHi t)=some (sLo (fun c=>rch x a c t),sHi fun c=>rch x a c t):=by
 obtain⟨hlen,hrs⟩:=qqG (kd x)
 obtain⟨g,hg⟩:=qh (qAT (kd x)).length (by omega)
 have:=qp0 (x:=x) ha t (qAT (kd x)) hlen hrs (qAT (kd x)).length 0 0 (qAT (kd x)).length 0 (by omega) (qA0 x a) g
 rw[<- hg] at this
 unfold qFf
 rw[quK x ha,qA]
 simp only
 rw[qBY,qA,qRG,qA]
 simp only
 rw[show qFg qB x a (qAT (kd x)).length (Int.ofNat (qAT (kd x)).length) 0 (sLo t) (sHi t) 0 0 (sLo (qA0 x a)) (sHi (qA0 x a)) (qAT (kd x)).length (qAT (kd x))=_ from this,qA]
 simp only
 obtain⟨e1,e2⟩:=qB5 (f:=fun c=>qA0 x a c||(qDT x (List.drop 0 (qAT (kd x))) a c&&qAn a c t)) (g:=fun c=>rch x a c t) fun c hc=>by
  rw[List.drop_zero,qhN x ha hc]
  rfl
 rw[e1,e2]
end Go.Kk.Pl
namespace Go.Kk.Pl
theorem qht:∀ (a c:Fin 81),(btw a.val c.val).all (fun s=>(btw c.val a.val).contains s)=true:=by decide +kernel
theorem qI4 {a c:Nat} (ha:a<81) (hc:c<81) {s:Nat} (hs:s∈btw a c):s∈btw c a:=by
 have:=qht ⟨a,ha⟩ ⟨c,hc⟩
 rw[List.all_eq_true] at this
 simpa using this s hs
theorem qHU {a c:Nat} {t:Nat->Bool}:qAn a c t=true ↔ ∀ s∈btw a c,t s=false:=by simp[qAn]
theorem qki {a c:Nat} (ha:a<81) (hc:c<81) (t:Nat->Bool):qAn a c t=qAn c a t:=by
 rw[Bool.eq_iff_iff,qHU,qHU]
 exact⟨fun h s hs=>h s (qI4 hc ha hs),fun h s hs=>h s (qI4 ha hc hs)⟩
theorem qkj {a c:Nat} (ha:a<81) (hc:c<81) {t t':Nat->Bool} (h:∀ s,s<81->t s=t' s):qAn a c t=qAn a c t':=by
 rw[Bool.eq_iff_iff,qHU,qHU]
 exact⟨fun hh s hs=>by rw[<- h s (qI5 ha hc hs)];exact hh s hs,fun hh s hs=>by rw[h s (qI5 ha hc hs)];exact hh s hs⟩
theorem qbK {x:Int} {a c:Nat} (ha:a<81) (hc:c<81) {t t':Nat->Bool} (h:∀ s,s<81->t s=t' s):rch x a c t=rch x a c t':=by
 unfold rch;rw[qkj ha hc h]
theorem qD7 {s k:Int} (hs:s=0 \/ s=1) (h1:1<=k) (h2:k<=15) (h3:k≠13):sd (pc s k)=s /\ kd (pc s k)=k:=by
 rw[qAy hs h1 h2 h3]
 have hk:=qHg hs h1 h2 h3
 refine⟨?_,hk⟩
 unfold sd
 rw[hk,if_neg (by omega)]
 rcases hs with rfl | rfl
 ·rw[if_pos (by omega)]
 ·rw[if_neg (by omega)]
theorem quk (k d u:Int):qB6 k (-d) u↔qB6 k d u:=by
 unfold qB6
 exact or_congr (by omega) (or_congr (by omega) (or_congr (by omega) (or_congr (by omega) (or_congr (by omega) (or_congr (by omega) (by omega))))))
theorem qt3 (k d u:Int):slK k (-d) u↔slK k d u:=by
 unfold slK
 exact or_congr (by omega) (or_congr (by omega) (by omega))
theorem qqF {s k:Int} (hs:s=0 \/ s=1) (h1:1<=k) (h2:k<=15) (h3:k≠13) {a c:Nat} (ha:a<81) (hc:c<81) (t:Nat->Bool):
  rch (pc (1 - s) k) a c t=rch (pc s k) c a t:=by
 obtain⟨e1,e2⟩:=qD7 hs h1 h2 h3
 obtain⟨e3,e4⟩:=qD7 (s:=1 - s) (by omega) h1 h2 h3
 have hd:df a c = -df c a:=by unfold df;omega
 have hr:dr a c = -dr c a:=by unfold dr;omega
 have hu:upS (pc (1 - s) k) a c=upS (pc s k) c a:=by
  unfold upS
  rw[e1,e3]
  rcases hs with rfl | rfl
  ·rw[if_pos (by omega),if_neg (by omega)];exact hr
  ·rw[if_neg (by omega),if_pos (by omega),hr];omega
 unfold rch qA0 qAl
 rw[e2,e4,hu,qki ha hc]
 have s1:decide (qB6 k (df a c) (upS (pc s k) c a))=decide (qB6 k (df c a) (upS (pc s k) c a)):=by
  rw[decide_eq_decide,hd];exact quk _ _ _
 have s2:decide (slK k (df a c) (upS (pc s k) c a))=decide (slK k (df c a) (upS (pc s k) c a)):=by
  rw[decide_eq_decide,hd];exact qt3 _ _ _
 rw[s1,s2]
theorem qL9 {x:Int} (h:kd x≠0):x=pc (sd x) (kd x):=by
 obtain⟨k0,k1,k2⟩:=qBv x
 have hs:=qIY h
 rw[qAy hs (by omega) k1 k2]
 have hr:=qJP h
 unfold sd kd at *
 rw[if_neg h]
 split at h
 ·omega
 ·rename_i hh
  rw[if_neg hh]
  split<;>omega
def onF (b:List Int) (q:Nat) (s:Int) (t:Nat->Bool) (i:Int) (c:Nat):Bool:=decide (sd (b.getD c 0)=s /\ i<=kd (b.getD c 0))&&rch (b.getD c 0) c q t
theorem qhX {b:List Int} (h:List Int) (S:Int) (sd':List (List Int)) {s:Int} (hs:s=0 \/ s=1) {q:Nat} (hq:q<81) (t:Nat->Bool) (u v:Int):∀ (n:Nat) (k:Int),k=16 - n->n<=15->∀ (f:Nat->Bool) (F:Nat),
  qEH (F+n+1) q s k b h S (qJ b) sd' (sLo t) (sHi t) u v (sLo f) (sHi f)=some (b,h,S,qJ b,sd',u,v,sLo fun c=>f c||onF b q s t k c,sHi fun c=>f c||onF b q s t k c):=by
 intro n
 induction n with
 | zero=>
   intro k hk _ f F
   show qG7 (qEH (F+0)) _ _ _ _ _ _ _ _ _ _ _ _ _ _=_
   unfold qG7
   rw[qKb (by omega)]
   have:(fun c=>f c||onF b q s t k c)=f:=by
    funext c
    have:=(qBv (b.getD c 0)).2.1
    unfold onF
    rw[decide_eq_false (by omega)]
    simp
   rw[this]
 | succ n ih=>
   intro k hk hn f F
   show qG7 (qEH (F+n+1)) _ _ _ _ _ _ _ _ _ _ _ _ _ _=_
   unfold qG7
   rw[qKa (by omega),w_s (n:=1 - s) (by omega) (by omega),qLz,qA,w_s (n:=k+1) (by omega) (by omega)]
   by_cases h13:k=13
   ·have hz:pc (1 - s) k=0:=qQt (by omega)
    rw[ql hz]
    refine (ih (k+1) (by omega) (by omega) f F).trans ?_
    have:(fun c=>f c||onF b q s t (k+1) c)=fun c=>f c||onF b q s t k c:=by
     funext c
     have:=(qBv (b.getD c 0)).2.2
     unfold onF
     congr 2
     rw[decide_eq_decide]
     omega
    rw[this]
   ·have hp:=qAy (s:=1 - s) (k:=k) (by omega) (by omega) (by omega) h13
    rw[qk (by rw[hp];omega),qML _ hq,qA]
    simp only
    rw[qGb,qA]
    simp only
    rw[qEy,qA]
    simp only
    rw[qHy,qA]
    simp only
    refine (ih (k+1) (by omega) (by omega) _ F).trans ?_
    obtain⟨e1,e2⟩:=qB5 (f:=fun c=>(f c||(rch (pc (1 - s) k) q c t&&pcs b (pc s k) c))||onF b q s t (k+1) c) (g:=fun c=>f c||onF b q s t k c) fun c hc=>by
     rw[qqF hs (by omega) (by omega) h13 hq hc,Bool.or_assoc]
     congr 1
     obtain⟨g1,g2⟩:=qD7 hs (by omega) (by omega) h13
     have hne:pc s k≠0:=by rw[qAy hs (by omega) (by omega) h13];omega
     unfold onF pcs
     by_cases hx:b.getD c 0=pc s k
     ·rw[hx,g1,g2,decide_eq_true (show pc s k≠0 /\ pc s k=pc s k from ⟨hne,rfl⟩),decide_eq_false (by omega),decide_eq_true (by omega)]
      simp
     ·rw[decide_eq_false (p:=pc s k≠0 /\ b.getD c 0=pc s k) (by omega),Bool.and_false,Bool.false_or]
      congr 1
      rw[decide_eq_decide]
      constructor
      ·rintro ⟨h1,h2⟩;exact⟨h1,by omega⟩
      ·rintro ⟨h1,h2⟩
       refine⟨h1,?_⟩
       rcases Int.lt_or_eq_of_le h2 with h3 | h3
       ·omega
       ·exfalso
        apply hx
        have hk0:kd (b.getD c 0)≠0:=by omega
        have:=qL9 hk0
        rw[h1,<- h3] at this
        exact this
    rw[e1,e2]
def onS (b:List Int) (q s:Int) (t:Nat->Bool) (c:Nat):Bool:=decide (0<=q /\ q<81)&&(decide (s=0 \/ s=1)&&(decide (sd (b.getD c 0)=s)&&rch (b.getD c 0) c q.toNat t))
theorem qop (b:List Int) {s:Int} (hs:s=0 \/ s=1) (q:Nat) (hq:q<81) (t:Nat->Bool):onF b q s t 1=onS b q s t:=by
 funext c
 unfold onF onS
 rw[decide_eq_true (show (0:Int)<=q /\ (q:Int)<81 by omega),decide_eq_true hs,Bool.true_and,Bool.true_and]
 congr 1
 rw[decide_eq_decide]
 constructor
 ·exact fun h=>h.1
 ·intro h
  refine⟨h,?_⟩
  have:=(qBv (b.getD c 0)).1
  rcases Int.lt_or_eq_of_le this with h1 | h1
  ·omega
  ·rw[qd9 h1.symm] at h;omega
theorem qaB (b h:List Int) (S:Int) (sd':List (List Int)) (q s:Int) (t:Nat->Bool):qG6 q s (sLo t) (sHi t) b h S (qJ b) sd'=some (sLo (onS b q s t),sHi (onS b q s t)):=by
 have none:¬ ((0<=q /\ q<81) /\ (s=0 \/ s=1))->onS b q s t=fun _=>false:=by
  intro hn
  funext c
  unfold onS
  by_cases h1:0<=q /\ q<81
  ·rw[decide_eq_false (p:=s=0 \/ s=1) (fun h2=>hn ⟨h1,h2⟩)];simp
  ·rw[decide_eq_false h1];simp
 unfold qG6
 by_cases h0:q<0
 ·rw[qe h0,none (by omega),qBn,qBm]
 rw[qW h0]
 by_cases h1:q >= 81
 ·rw[qB8 h1,none (by omega),qBn,qBm]
 rw[qBf h1]
 obtain⟨a,rfl⟩:∃ a:Nat,q=a:=⟨q.toNat,by omega⟩
 obtain⟨g,hg⟩:=qh 15 (by omega)
 have main:(s=0 \/ s=1)->qEH qB a s 1 b h S (qJ b) sd' (sLo t) (sHi t) 0 0 0 0=some (b,h,S,qJ b,sd',0,0,sLo (onS b a s t),sHi (onS b a s t)):=by
  intro hs
  have:=qhX (b:=b) h S sd' hs (q:=a) (by omega) t 0 0 15 1 (by omega) (by omega) (fun _=>false) g
  rw[<- hg,qBn,qBm] at this
  rw[this,qop b hs a (by omega)]
  simp only[Bool.false_or]
 by_cases h2:s=0
 ·rw[qt h2,main (.inl h2),qA]
 ·rw[qp h2]
  by_cases h3:s=1
  ·rw[qt h3,main (.inr h3),qA]
  ·rw[qp h3,none (by omega),qBn,qBm]
def kg (b:List Int) (s:Int):Int:=fst (pcs b (pc s 8))
def chs (b:List Int) (s:Int):Nat->Bool:=onS b (kg b s) (1 - s) (tk b)
def inC (b:List Int) (s:Int):Bool:=!isE (chs b s)
theorem qWt (f:Nat->Bool):-1<=fst f /\ fst f<81:=by
 unfold fst
 split
 ·rename_i i hi
  have:=List.mem_of_find?_eq_some hi
  rw[List.mem_range] at this
  omega
 ·omega
theorem qOe {b:List Int} (hc:Clean b) (h:List Int) (S:Int) {s:Int} (hs:-10<=s /\ s<=10):qGA s b h S (qJ b) (qP b)=some (sLo (chs b s),sHi (chs b s)):=by
 unfold qGA
 rw[qPh,qA,qKG hc,qA]
 simp only
 rw[w_s (by omega) (by omega),qaB,qA]
 rfl
theorem qLI {b:List Int} (hc:Clean b) (h:List Int) (S:Int) {s:Int} (hs:-10<=s /\ s<=10):qEG s b h S (qJ b) (qP b)=some (inC b s):=by
 unfold qEG
 rw[qOe hc h S hs,qA]
 simp only
 rw[qJG,qA]
 rfl
theorem qJC {b h:List Int} {s:Int} (hl:b.length=81) (hz:qAu b h s=0):Clean b /\ (s=0 \/ s=1):=by
 unfold qAu at hz
 split at hz
 ·omega
 ·rename_i hs
  split at hz
  ·omega
  ·rename_i hb
   exact⟨qUY hl (by simpa using hb),by omega⟩
def qBe (b h:List Int) (s:Int):Int:=if qAu b h s≠0 then qAu b h s else if inC b (1 - s) then 54 else 0
theorem qUB {b h:List Int} (hl:b.length=81) (hf:qAO h) (s:Int):qG5 b h s=some (qBe b h s):=by
 unfold qG5 qBe
 rw[qjJ hl hf,qA]
 by_cases hz:qAu b h s=0
 ·obtain⟨hc,hs⟩:=qJC hl hz
  rw[qt hz,if_neg (by simpa using hz),qLx hl,qA,qKv hc]
  simp only
  rw[w_s (by omega) (by omega),qLI hc h s (by omega),qA]
  cases inC b (1 - s)<;>rfl
 ·rw[qp hz,if_pos hz]
def tkL (b:List Int) (i:Nat):List Bool:=(List.range 81).map fun j=>decide (j<i)&&tk b j
theorem qvL (b h:List Int) (s:Int) (w:List Bool):∀ (n i:Nat),i+n=81->∀ F,qEe (F+n+1) i b h s w (tkL b i)=some (w,tkL b 81):=by
 intro n
 induction n with
 | zero=>
   intro i hi F
   show qIF (qEe (F+0)) _ _ _ _ _ _=_
   unfold qIF
   rw[qW (by omega),show i=81 by omega]
 | succ n ih=>
   intro i hi F
   show qIF (qEe (F+n+1)) _ _ _ _ _ _=_
   unfold qIF
   have e:List.set (tkL b i) i (b.getD i 0 != 0)=tkL b (i+1):=by
    unfold tkL
    rw[map_set]
    apply List.map_congr_left
    intro j _
    split
    ·rename_i hj;subst hj
     rw[decide_eq_true (show j<j+1 by omega),Bool.true_and]
     unfold tk
     rw[Bool.eq_iff_iff];simp
    ·rename_i hj
     congr 1
     rw[decide_eq_decide];omega
   rw[qe (by omega),qd (by omega) (by omega),qd (by omega) (by omega),tn,e,w_s (by omega) (by omega)]
   exact ih (i+1) (by omega) F
theorem qvN (b:List Int):tkL b 0=List.replicate 81 false:=by
 unfold tkL
 apply List.ext_getElem
 ·simp
 ·intro i h1 h2
  rw[List.getElem_map,List.getElem_replicate,decide_eq_false (by omega),Bool.false_and]
def qDO (b:List Int):List Bool:=tkL b 81
theorem qTi (b h:List Int) (s:Int):qEd b h s=some (qDO b):=by
 obtain⟨g,hg⟩:=qh 81 (by omega)
 have:=qvL b h s (List.replicate 81 false) 81 0 (by omega) g
 rw[<- hg,qvN] at this
 unfold qEd
 show ob (qEe qB 0 b h s (List.replicate 81 false) (List.replicate 81 false)) _=_
 rw[show qEe qB 0 b h s (List.replicate 81 false) (List.replicate 81 false)=_ from this,qA]
 rfl
theorem qvK (b:List Int) {i:Nat} (h:i<81):(qDO b).getD i false=tk b i:=by
 unfold qDO tkL
 rw[qHt _ h,decide_eq_true h,Bool.true_and]
theorem qRH (b:List Int) (x:Int) {a c:Nat} (ha:a<81) (hc:c<81):qFl x a c (qDO b)=some (rch x a c (tk b)):=by
 rw[qqI x ha hc,qbK ha hc fun s hs=>qvK b hs]
theorem qsi (b h:List Int) (S:Int) {s:Int} (hs:s=0 \/ s=1):∀ (n i:Nat),i+n=81->(∀ j,j<i->pcs b (pc s 8) j=false)->∀ F,qFp (F+n+1) s i b h S=some (if kg b s = -1 then .inr () else .inl (kg b s)):=by
 have hp:pc s 8=16*s+8:=qAy hs (by omega) (by omega) (by omega)
 intro n
 induction n with
 | zero=>
   intro i hi hj F
   show qII (qFp (F+0)) _ _ _ _ _=_
   unfold qII
   have:kg b s = -1:=qWs fun j hj'=>hj j (by omega)
   rw[qW (by omega),if_pos this]
 | succ n ih=>
   intro i hi hj F
   show qII (qFp (F+n+1)) _ _ _ _ _=_
   unfold qII
   rw[qe (by omega),qd (by omega) (by omega),tn,c_8,w_s (n:=16*s) (by omega) (by omega),w_s (n:=16*s+8) (by omega) (by omega),w_s (by omega) (by omega),<- hp]
   by_cases hx:b.getD i 0=pc s 8
   ·have hk:pcs b (pc s 8) i=true:=by unfold pcs;rw[decide_eq_true];exact⟨by rw[hp];omega,hx⟩
    have:kg b s=i:=qLC (by omega) hk hj
    rw[ql hx,this,if_neg (by omega)]
   ·rw[qk hx]
    refine ih (i+1) (by omega) (fun j hj'=>?_) F
    by_cases hji:j=i
    ·subst hji;unfold pcs;rw[decide_eq_false];exact fun hh=>hx hh.2
    ·exact hj j (by omega)
theorem qsj (b h:List Int) (S:Int) {s:Int} (hs:s=0 \/ s=1):qJq b h S s=some (kg b s):=by
 obtain⟨g,hg⟩:=qh 81 (by omega)
 have:=qsi b h S hs 81 0 (by omega) (fun j hj=>absurd hj (by omega)) g
 rw[<- hg] at this
 unfold qJq
 rw[show qFp qB s 0 b h S=_ from this,qA]
 split
 ·rename_i hk;rw[hk];rfl
 ·rfl
theorem qse (b h:List Int) (S s:Int) (hs:s=0 \/ s=1) (k:Nat) (hk:k<81):∀ (n i:Nat),i+n=81->∀ F,
  qFo (F+n+1) s k i b h S (qDO b)=some (if (List.range' i n).any (onS b k (1 - s) (tk b)) then .inl true else .inr ()):=by
 intro n
 induction n with
 | zero=>
   intro i hi F
   show qIG (qFo (F+0)) _ _ _ _ _ _ _=_
   unfold qIG
   rw[qW (by omega)]
   rfl
 | succ n ih=>
   intro i hi F
   show qIG (qFo (F+n+1)) _ _ _ _ _ _ _=_
   unfold qIG
   have hr:=ih (i+1) (by omega) F
   rw[qe (by omega),qd (by omega) (by omega),tn,c_8,qEh,qA,w_s (n:=1 - s) (by omega) (by omega),w_s (by omega) (by omega),any_cons]
   have hon:onS b k (1 - s) (tk b) i=(decide (sd (b.getD i 0)=1 - s)&&rch (b.getD i 0) i k (tk b)):=by
    unfold onS
    rw[decide_eq_true (show (0:Int)<=k /\ (k:Int)<81 by omega),decide_eq_true (show 1 - s=0 \/ 1 - s=1 by omega),Bool.true_and,Bool.true_and,tn]
   rw[hon]
   by_cases hsd:sd (b.getD i 0)=1 - s
   ·rw[ql hsd,qd (by omega) (by omega),qRH b _ (by omega) hk,qA,decide_eq_true hsd,Bool.true_and]
    cases rch (b.getD i 0) i k (tk b) with
    | true=>rfl
    | false=>rw[b_f,Bool.false_or];exact hr
   ·rw[qk hsd,decide_eq_false hsd,Bool.false_and,Bool.false_or]
    exact hr
theorem qhO (f:Nat->Bool):(List.range' 0 81).any f = !isE f:=by
 unfold isE
 rw[qay,Bool.eq_iff_iff]
 simp only[List.any_eq_true,Bool.not_eq_true']
 rw[List.all_eq_false]
 simp
theorem qIU (b h:List Int) (S:Int) {s:Int} (hs:s=0 \/ s=1):qD2 b h S s=some (inC b s):=by
 unfold qD2
 rw[qTi,qA,qsj b h S hs,qA]
 have hr:=qWt (pcs b (pc s 8))
 have hkg:kg b s=fst (pcs b (pc s 8)):=rfl
 by_cases hk:kg b s<0
 ·rw[qe hk]
  have:chs b s=fun _=>false:=by
   funext c
   unfold chs onS
   rw[decide_eq_false (by omega),Bool.false_and]
  unfold inC
  rw[this,qlR]
  rfl
 ·obtain⟨k,hkk⟩:∃ k:Nat,kg b s=k:=⟨(kg b s).toNat,by omega⟩
  obtain⟨g,hg⟩:=qh 81 (by omega)
  have:=qse b h S s hs k (by omega) 81 0 (by omega) g
  rw[<- hg,qhO,<- hkk] at this
  rw[qW hk,show qFo qB s (kg b s) 0 b h S (qDO b)=_ from this,qA]
  unfold inC chs
  cases isE (onS b (kg b s) (1 - s) (tk b))<;>rfl
theorem qa0 {b h:List Int} (hl:b.length=81) (hf:qAO h) (s:Int):qJo b h s=some (qBe b h s):=by
 unfold qJo qBe
 rw[qds hl hf,qA]
 by_cases hz:qAu b h s=0
 ·obtain⟨hc,hs⟩:=qJC hl hz
  rw[qt hz,if_neg (by simpa using hz),w_s (by omega) (by omega),qIU b h s (by omega),qA]
  cases inC b (1 - s)<;>rfl
 ·rw[qp hz,if_pos hz]
def ofL (L:List Int) (c:Nat):Bool:=L.any fun q=>only q c
theorem qoE (L:List Int) (hl:L.length<=1000) (N:Nat) (u v:Int):∀ (n i:Nat),i+n=L.length->∀ (f:Nat->Bool) (F:Nat),
  qFy (F+n+1) L.length L.length i N L u v (sLo f) (sHi f)=some (N,L,u,v,sLo fun c=>f c||ofL (L.drop i) c,sHi fun c=>f c||ofL (L.drop i) c):=by
 intro n
 induction n with
 | zero=>
   intro i hi f F
   show qIf (qFy (F+0)) _ _ _ _ _ _ _ _ _=_
   unfold qIf
   rw[qW (by omega),List.drop_eq_nil_of_le (by omega)]
   have:(fun c=>f c||ofL [] c)=f:=by funext c;simp[ofL]
   rw[this]
 | succ n ih=>
   intro i hi f F
   show qIf (qFy (F+n+1)) _ _ _ _ _ _ _ _ _=_
   unfold qIf
   have hil:i<L.length:=by omega
   have hget:L.getD i 0=L[i]:=qF9 hil
   rw[qe (by omega),qd (by omega) (by omega),tn,hget,qG0,qA]
   simp only
   rw[w_s (by omega) (by omega)]
   refine (ih (i+1) (by omega) _ F).trans ?_
   have hd:L.drop i=L[i] :: L.drop (i+1):=List.drop_eq_getElem_cons hil
   have:(fun c=>(f c||only L[i] c)||ofL (L.drop (i+1)) c)=fun c=>f c||ofL (L.drop i) c:=by
    funext c
    rw[hd]
    unfold ofL
    rw[List.any_cons,Bool.or_assoc]
   rw[this]
theorem qoF (L:List Int) (hl:L.length<=1000) (N:Nat):qIe L.length N L=some (sLo (ofL L),sHi (ofL L)):=by
 obtain⟨g,hg⟩:=qh L.length (by omega)
 have:=qoE L hl N 0 0 L.length 0 (by omega) (fun _=>false) g
 rw[<- hg,qBn,qBm] at this
 unfold qIe
 rw[show qFy qB L.length (Int.ofNat L.length) 0 N L 0 0 0 0=_ from this,qA]
 simp only[Bool.false_or,List.drop_zero]
theorem qEp (f:Nat->Bool):(sq f).length<=81:=by
 unfold sq;rw[List.length_map];exact Nat.le_trans (List.length_filter_le _ _) (by simp)
end Go.Kk.Pl
namespace Go.Kk.Pl
theorem qGu {f:Nat->Bool} {q:Int} (h:q∈sq f):0<=q /\ q<81 /\ f q.toNat=true:=by
 unfold sq at h
 obtain⟨j,hj,rfl⟩:=List.mem_map.1 h
 obtain⟨h1,h2⟩:=List.mem_filter.1 hj
 rw[List.mem_range] at h1
 refine⟨by simp,by simp only[Int.ofNat_eq_natCast];omega,by simpa using h2⟩
theorem qZU {f:Nat->Bool} {q:Nat} (hq:q<81) (h:f q=true):(q:Int)∈sq f:=by
 unfold sq
 exact List.mem_map.2 ⟨q,List.mem_filter.2 ⟨by simpa using hq,h⟩,rfl⟩
end Go.Kk.Pl
namespace Go.Kk.Pl
theorem qga (t:Nat->Bool) {c:Nat} (ht:t c=true) {i:Nat}:∀ (P Q:List Nat),(∀ s∈P,t s=false)->qAV t (P++c :: Q) i=(P.contains i||decide (i=c))
 | [],Q,_=>by
   show (decide (i=c)||(!t c&&qAV t Q i))=_
   rw[ht];simp
 | s :: P,Q,h=>by
   show (decide (i=s)||(!t s&&qAV t (P++c :: Q) i))=_
   rw[h s List.mem_cons_self,Bool.not_false,Bool.true_and,qga t ht P Q (fun s hs=>h s (List.mem_cons_of_mem _ hs)),List.contains_cons,Bool.or_assoc]
   congr 1
theorem qor {dx dy:Int} {a c:Nat} (ha:a<81) (hc:c<81) (h:onW dx dy a c=true) (i:Nat):(qAV (only c) (qBD dx dy a) i && !only c i)=(btw a c).contains i:=by
 obtain⟨hl,rfl,rfl⟩:=of_decide_eq_true h
 have:=qKr ⟨a,ha⟩ ⟨c,hc⟩
 simp only[qJA,Bool.or_eq_true,decide_eq_true_eq,Bool.and_eq_true,beq_iff_eq,Bool.not_eq_true'] at this
 obtain⟨e1,e2,e3⟩:=this.resolve_left hl
 have hsp:qBD (sgn (df a c)) (sgn (dr a c)) a=btw a c++c :: (qBD (sgn (df a c)) (sgn (dr a c)) a).drop ((btw a c).length+1):=by
  have:=qM8 e2
  rw[e1] at this
  exact this
 have hn:c ∉ btw a c:=by simpa using e3
 rw[hsp,qga (only c) (by unfold only;simp) _ _ (fun s hs=>by
  unfold only
  rw[decide_eq_false_iff_not]
  intro e
  have:s=c:=by omega
  exact hn (this ▸ hs))]
 unfold only
 by_cases hi:i=c
 ·subst hi
  rw[e3];simp
 ·rw[decide_eq_false hi,decide_eq_false (p:=(i:Int)=c) (by omega)];simp
theorem qos {dx dy:Int} (h1:-1<=dx) (h2:dx<=1) (h3:-1<=dy) (h4:dy<=1) (hne:¬ (dx=0 /\ dy=0)) {a c:Nat} (ha:a<81) (hc:c<81):qAV (only c) (qBD dx dy a) c=onW dx dy a c:=by
 rw[qgc h1 h2 h3 h4 hne ha hc]
 cases h:onW dx dy a c with
 | false=>rfl
 | true=>
   rw[Bool.true_and,qHU]
   intro s hs
   unfold only
   rw[decide_eq_false_iff_not]
   intro e
   have hsc:s=c:=by omega
   obtain⟨hl,_,_⟩:=of_decide_eq_true h
   have:=qKr ⟨a,ha⟩ ⟨c,hc⟩
   simp only[qJA,Bool.or_eq_true,decide_eq_true_eq,Bool.and_eq_true,beq_iff_eq,Bool.not_eq_true'] at this
   have:=(this.resolve_left hl).2.2
   rw[<- hsc] at this
   have h2:(btw a s).contains s=true:=List.contains_iff_mem.mpr (hsc ▸ hs)
   rw[this] at h2
   cases h2
def qAm:List (List Int):=[[-1,-1],[1,-1],[-1,1],[1,1],[0,-1],[-1,0],[1,0],[0,1]]
theorem qhD {a c:Nat}:(qAm.any fun r=>onW (dx_ r) (dy_ r) a c)=decide (qy a c≠0):=by
 unfold qAm onW dx_ dy_
 by_cases h:qy a c=0
 ·simp[h]
 ·have hl:=(qLi a c).mp h
  have hx:sgn (df a c) = -1 \/ sgn (df a c)=0 \/ sgn (df a c)=1:=by unfold sgn;split<;>(try split)<;>omega
  have hy:sgn (dr a c) = -1 \/ sgn (dr a c)=0 \/ sgn (dr a c)=1:=by unfold sgn;split<;>(try split)<;>omega
  have hn:¬ (sgn (df a c)=0 /\ sgn (dr a c)=0):=by
   unfold qEU at hl
   unfold sgn
   split<;>split<;>(try split)<;>(try split)<;>omega
  rcases hx with hx | hx | hx<;>rcases hy with hy | hy | hy<;>simp[hx,hy,h] at hn ⊢
theorem qhy {a c:Nat} (ha:a<81) (hc:c<81) (N:Nat):∀ (n i:Nat),i+n=8->∀ F,
  qFe (F+n+1) a c 8 8 i 0 0 N qAm=some (if (qAm.drop i).any (fun r=>onW (dx_ r) (dy_ r) a c) then .inl (sLo (fun i=>(btw a c).contains i),sHi (fun i=>(btw a c).contains i)) else .inr (0,0)):=by
 intro n
 induction n with
 | zero=>
   intro i hi F
   show qH5 (qFe (F+0)) _ _ _ _ _ _ _ _ _=_
   unfold qH5
   rw[qW (by omega),List.drop_eq_nil_of_le (by show 8<=i;omega)]
   rfl
 | succ n ih=>
   intro i hi F
   show qH5 (qFe (F+n+1)) _ _ _ _ _ _ _ _ _=_
   unfold qH5
   obtain⟨r,hget,hdr,e1,e2,g1,g2,g3,g4,g5⟩:∃ r,qAm.getD i []=r /\ qAm.drop i=r :: qAm.drop (i+1) /\ List.headD (List.take 2 r) 0=dx_ r /\ List.headD (List.tail (List.take 2 r)) 0=dy_ r /\ -1<=dx_ r /\ dx_ r<=1 /\ -1<=dy_ r /\ dy_ r<=1 /\ ¬ (dx_ r=0 /\ dy_ r=0):=by
    have:∀ j:Fin 8,qAm.drop j.val=qAm.getD j.val [] :: qAm.drop (j.val+1) /\ List.headD (List.take 2 (qAm.getD j.val [])) 0=dx_ (qAm.getD j.val []) /\ List.headD (List.tail (List.take 2 (qAm.getD j.val []))) 0=dy_ (qAm.getD j.val []) /\ -1<=dx_ (qAm.getD j.val []) /\ dx_ (qAm.getD j.val [])<=1 /\ -1<=dy_ (qAm.getD j.val []) /\ dy_ (qAm.getD j.val [])<=1 /\ ¬ (dx_ (qAm.getD j.val [])=0 /\ dy_ (qAm.getD j.val [])=0):=by decide
    exact⟨_,rfl,this ⟨i,by omega⟩⟩
   have ho:ofL [(c:Int)]=only c:=by
    funext j;unfold ofL;simp
   have hof:qIe 1 1 [(c:Int)]=some (sLo (only c),sHi (only c)):=by
    have:=qoF [(c:Int)] (by simp) 1
    rw[ho] at this
    exact this
   have hh:∀ g:Nat->Bool,has g (c:Int)=g c:=by
    intro g;unfold has;rw[decide_eq_true (by omega),decide_eq_true (by omega),tn];rfl
   rw[qe (by omega),qd (by omega) (by omega),tn,hget,e1,e2,hof,qA]
   simp only
   rw[qgu g1 g2 g3 g4 g5 ha,qA]
   simp only
   rw[qER,qA,hh,qos g1 g2 g3 g4 g5 ha hc,hdr,List.any_cons]
   cases hon:onW (dx_ r) (dy_ r) a c with
   | true=>
     rw[b_t,qKQ,qA,Bool.true_or,if_pos rfl]
     have:(fun i=>qAV (only c) (qBD (dx_ r) (dy_ r) a) i && !only c i)=fun i=>(btw a c).contains i:=by
      funext j;exact qor ha hc hon j
     rw[this]
   | false=>
     rw[b_f,Bool.false_or,w_s (n:=(i:Int)+1) (by omega) (by omega)]
     exact ih (i+1) (by omega) F
theorem qa1 {a c:Nat} (ha:a<81) (hc:c<81):qH4 a c=some (sLo (fun i=>(btw a c).contains i),sHi (fun i=>(btw a c).contains i)):=by
 unfold qH4
 rw[qRG,qA]
 simp only
 rw[qRG,qA]
 simp only
 obtain⟨g,hg⟩:=qh 8 (by omega)
 have:=qhy ha hc ((qAT 6).length+(qAT 7).length) 8 0 (by omega) g
 rw[<- hg,List.drop_zero,qhD] at this
 have e8:(qAT 6).length+(qAT 7).length=8:=by decide
 have eL:List.append (List.take (qAT 6).length (qAT 6)) (List.take (qAT 7).length (qAT 7))=qAm:=by decide
 rw[eL,e8] at *
 rw[qG (by decide),show qFe qB a c 8 (Int.ofNat 8) 0 0 0 8 qAm=_ from this,qA]
 by_cases h:qy a c=0
 ·rw[decide_eq_false (p:=qy a c≠0) (by simpa using h),if_neg (by simp),qAe]
  have:btw a c=[]:=by unfold btw;rw[if_pos h]
  rw[this]
  simp only[List.contains_nil]
  rw[qBn,qBm]
 ·rw[decide_eq_true (p:=qy a c≠0) h,if_pos rfl,qIp]
end Go.Kk.Pl
namespace Go.Kk.Pl
theorem qSU (k:Int):qEc k=some (up_ k):=by
 unfold qEc up_
 by_cases h1:k >= 1
 ·rw[qB8 h1]
  by_cases h7:k<=7
  ·rw[qKa h7]
   by_cases h5:k=5
   ·rw[qt h5];simp[h5]
   ·rw[qp h5,w_s (by omega) (by omega),if_pos (by omega)]
  ·rw[qKb h7,if_neg (by omega)]
 ·rw[qBf h1,if_neg (by omega)]
def qAh (s q:Int):Int:=if 0<=q /\ q<81 then qCo s q.toNat else -1
theorem qST {s:Int} (hs:s = -1 \/ s=0 \/ s=1) (q:Int):qDJ s q=some (qAh s q):=by
 unfold qAh
 by_cases h:0<=q /\ q<81
 ·rw[if_pos h]
  have:=qdu hs (q:=q.toNat) (by omega)
  rwa [show ((q.toNat:Nat):Int)=q by omega] at this
 ·rw[if_neg h]
  unfold qDJ
  by_cases h0:q<0
  ·rw[qe h0]
  ·rw[qW h0,qBT (by omega)]
theorem quI {s:Int} (hs:s = -1 \/ s=0 \/ s=1) (q:Int):qF3 s q=some (qAh s q):=by
 unfold qAh
 by_cases h:0<=q /\ q<81
 ·rw[if_pos h]
  have:=qfK hs (q:=q.toNat) (by omega)
  rwa [show ((q.toNat:Nat):Int)=q by omega] at this
 ·rw[if_neg h]
  unfold qF3
  by_cases h0:q<0
  ·rw[qe h0]
  ·rw[qW h0,qB8 (by omega)]
def qDc (x q:Int):Bool:=decide (((kd x=1 \/ kd x=2) /\ qAh (sd x) q=0) \/ (kd x=3 /\ (qAh (sd x) q=0 \/ qAh (sd x) q=1)))
theorem qOo (x:Int) {q:Nat} (hq:q<81):qDc x q=qA2 x q:=by
 unfold qDc qA2 qAh
 rw[if_pos (by omega),tn]
theorem qfH (x q:Int):qEB x q=some (qDc x q):=by
 unfold qEB
 rw[qDM,qA,quI (qGl x),qA,qBY,qA]
 unfold qDc
 generalize kd x=k
 generalize qAh (sd x) q=n
 simp only[qI3,beq_iff_eq]
 repeat' split
 all_goals first
  | (rw[Option.some.injEq,Bool.eq_iff_iff];simp;omega)
  | (simp;omega)
theorem qdt (x q:Int):qDI x q=some (qDc x q):=by
 unfold qDI
 rw[qEh,qA,qST (qGl x),qA,qB4,qA]
 unfold qDc
 generalize kd x=k
 generalize qAh (sd x) q=n
 simp only[qI3,beq_iff_eq]
 repeat' split
 all_goals first
  | (rw[Option.some.injEq,Bool.eq_iff_iff];simp;omega)
  | (simp;omega)
def qIu (s:Int) (i:Nat):Bool:=decide (0<=qCo s i /\ qCo s i<=2)
theorem qTy:∀ s:Fin 3,qKB ((s.val:Int) - 1)=some (sLo (qIu ((s.val:Int) - 1)),sHi (qIu ((s.val:Int) - 1))):=by decide +kernel
theorem qvz (x:Int):qKB (sd x)=some (sLo (qIu (sd x)),sHi (qIu (sd x))):=by
 rcases qGl x with h | h | h<;>rw[h]
 ·exact qTy 0
 ·exact qTy 1
 ·exact qTy 2
def inZ (s q:Int):Bool:=decide (0<=qAh s q /\ qAh s q<=2)
theorem qXL (s q:Int):has (qIu s) q=inZ s q:=by
 unfold has inZ qAh qIu
 by_cases h:0<=q /\ q<81
 ·rw[if_pos h,decide_eq_true h.1,decide_eq_true h.2,Bool.true_and,Bool.true_and]
 ·rw[if_neg h]
  by_cases h0:0<=q
  ·rw[decide_eq_false (p:=q<81) (by omega)];simp
  ·rw[decide_eq_false h0];simp
def qCu (x f t:Int):Bool:=decide (up_ (kd x)≠0)&&(inZ (sd x) f||inZ (sd x) t)
def qDD (x t:Int):Bool:=decide (up_ (kd x)≠0)&&qDc x t
theorem qpm (x f t:Int):qJN x f t=some (qCu x f t,qDD x t):=by
 unfold qJN qCu qDD
 rw[qBY,qA,qKN,qA]
 by_cases hu:up_ (kd x)=0
 ·rw[ql hu,decide_eq_false (by simpa using hu)];rfl
 ·rw[qk hu,qDM,qA,qvz,qA]
  simp only
  rw[qER,qA,qXL,decide_eq_true hu]
  cases inZ (sd x) f with
  | true=>rw[b_t,qfH,qA];rfl
  | false=>rw[b_f,qER,qA,qXL,qfH,qA];rfl
theorem qsY (x f t:Int):qJt x f t=some (qCu x f t):=by
 unfold qJt qCu
 rw[qB4,qA,qSU,qA]
 by_cases hu:up_ (kd x)=0
 ·rw[ql hu,decide_eq_false (by simpa using hu)];rfl
 ·rw[qk hu,qEh,qA,qST (qGl x),qA,qA,qST (qGl x),qA,decide_eq_true hu,Bool.true_and]
  unfold inZ
  by_cases h1:qAh (sd x) f >= 0
  ·rw[qB8 h1]
   by_cases h2:qAh (sd x) f<=2
   ·rw[qKa h2,decide_eq_true (p:=0<=qAh (sd x) f /\ qAh (sd x) f<=2) (by omega)];rfl
   ·rw[qKb h2,decide_eq_false (p:=0<=qAh (sd x) f /\ qAh (sd x) f<=2) (by omega),Bool.false_or]
    by_cases h3:qAh (sd x) t >= 0
    ·rw[qB8 h3];congr 1;rw[decide_eq_decide];omega
    ·rw[qBf h3,decide_eq_false (by omega)]
  ·rw[qBf h1,decide_eq_false (p:=0<=qAh (sd x) f /\ qAh (sd x) f<=2) (by omega),Bool.false_or]
   by_cases h3:qAh (sd x) t >= 0
   ·rw[qB8 h3];congr 1;rw[decide_eq_decide];omega
   ·rw[qBf h3,decide_eq_false (by omega)]
theorem qsZ (x t:Int):qJu x t=some (qDD x t):=by
 unfold qJu qDD
 rw[qB4,qA,qSU,qA]
 by_cases hu:up_ (kd x)=0
 ·rw[qt hu,decide_eq_false (by simpa using hu)];rfl
 ·rw[qp hu,qdt,qA,decide_eq_true hu];rfl
def qCQ (f t d:Int) (p:Bool):Int:=if ¬ (0<=t /\ t<81) then 1 else if d≠0 then (if 1<=d /\ d<=7 /\ f=0 /\ p=false then 0 else 70) else if ¬ (0<=f /\ f<81) then 1 else if f=t then 70 else 0
theorem qsX (f t d:Int) (p:Bool):qJn f t d p=some (qCQ f t d p):=by
 unfold qJn qCQ
 by_cases h1:t<0
 ·rw[qe h1,if_pos (by omega)]
 rw[qW h1]
 by_cases h2:t>80
 ·rw[qBT h2,if_pos (by omega)]
 rw[qBU h2,if_neg (by omega)]
 by_cases hd:d=0
 ·rw[qt hd,if_neg (by simpa using hd)]
  by_cases h3:f<0
  ·rw[qe h3,if_pos (by omega)]
  rw[qW h3]
  by_cases h4:f>80
  ·rw[qBT h4,if_pos (by omega)]
  rw[qBU h4,if_neg (by omega)]
  by_cases h5:f=t
  ·rw[ql h5,if_pos h5]
  ·rw[qk h5,if_neg h5]
 ·rw[qp hd,if_pos hd]
  by_cases h3:d<1
  ·rw[qe h3,if_neg (by omega)]
  rw[qW h3]
  by_cases h4:d>7
  ·rw[qBT h4,if_neg (by omega)]
  rw[qBU h4]
  by_cases h5:f=0
  ·rw[qt h5]
   cases p with
   | true=>rw[b_t,if_neg (by simp)]
   | false=>rw[b_f,if_pos ⟨by omega,by omega,h5,rfl⟩]
  ·rw[qp h5,if_neg (by omega)]
def qBW (b h:List Int) (s f t d:Int) (p:Bool):Bool:=decide (qCQ f t d p=0)&&(decide (s=0 \/ s=1) &&
 if d≠0 then decide (0<hd_ h s d)&&decide (at_ b t=0)
 else decide (sd (at_ b f)=s /\ sd (at_ b t)≠s /\ kd (at_ b t)≠8)&&(!p||decide (up_ (kd (at_ b f))≠0)))
theorem qJB {f t d:Int} {p:Bool} (h:qCQ f t d p=0):(0<=t /\ t<81) /\ (d≠0->1<=d /\ d<=7 /\ f=0 /\ p=false) /\ (d=0->(0<=f /\ f<81) /\ f≠t):=by
 unfold qCQ at h
 split at h
 ·omega
 ·rename_i ht
  split at h
  ·rename_i hd
   split at h
   ·rename_i h2;exact⟨by omega,fun _=>h2,fun h3=>absurd h3 hd⟩
   ·omega
  ·rename_i hd
   split at h
   ·omega
   ·split at h
    ·omega
    ·exact⟨by omega,fun h3=>absurd h3 hd,fun _=>⟨by omega,by omega⟩⟩
theorem qAa {b:List Int} {q:Int} (h:0<=q /\ q<81):at_ b q=b.getD q.toNat 0:=by unfold at_;rw[if_pos h]
theorem qsS (b h:List Int) (s f t d:Int) (p:Bool):qJr b h s f t d p=some (qBW b h s f t d p):=by
 unfold qJr qBW
 rw[qsX,qA]
 by_cases hm:qCQ f t d p=0
 ·obtain ⟨ht,hdr,hmv⟩:=qJB hm
  rw[qt hm,decide_eq_true hm,Bool.true_and]
  have main:(s=0 \/ s=1)->(br (inB t 81)
   (br (d != 0)
    (br (inB s 2)
     (br (inB d 8)
      (br (decide (List.getD h (Int.toNat s*8+Int.toNat d) 0>0))
       (some (conv IntKind.i8 IntKind.i64 (List.getD b (Int.toNat t) 0)==0))
       (some (false)))
      (none))
     (none))
    (br (inB f 81)
     (ob (qBA (conv IntKind.i8 IntKind.i64 (List.getD b (Int.toNat f) 0))) fun a8=>
     br (a8 != s)
      (some (false))
      (ob (qBA (conv IntKind.i8 IntKind.i64 (List.getD b (Int.toNat t) 0))) fun a9=>
      br (a9==s)
       (some (false))
       (ob (qAU (conv IntKind.i8 IntKind.i64 (List.getD b (Int.toNat t) 0))) fun a10=>
       br (a10==8)
        (some (false))
        (br (!p)
         (some (true))
         (ob (qAU (conv IntKind.i8 IntKind.i64 (List.getD b (Int.toNat f) 0))) fun a11=>
         ob (qEc a11) fun a12=>
         some (a12 != 0))))))
     (none)))
   (none):Option Bool)=some (if d≠0 then decide (0<hd_ h s d)&&decide (at_ b t=0)
    else decide (sd (at_ b f)=s /\ sd (at_ b t)≠s /\ kd (at_ b t)≠8)&&(!p||decide (up_ (kd (at_ b f))≠0))):=by
   intro hs
   rw[qd ht.1 (by omega)]
   by_cases hd:d=0
   ·obtain⟨hf,_⟩:=hmv hd
    rw[qt hd,if_neg (by simpa using hd),qd hf.1 (by omega),c_8,c_8,qEh,qA,<- qAa hf,<- qAa ht]
    by_cases h1:sd (at_ b f)=s
    ·rw[qt h1,qEh,qA]
     by_cases h2:sd (at_ b t)=s
     ·rw[ql h2,decide_eq_false (by omega)];rfl
     ·rw [qk h2,qB4,qA]
      by_cases h3:kd (at_ b t)=8
      ·rw[ql h3,decide_eq_false (by omega)];rfl
      ·rw[qk h3,decide_eq_true (by omega),Bool.true_and]
       cases p with
       | false=>rfl
       | true=>
         rw[Bool.not_true,b_f,qB4,qA,qSU,qA,Bool.false_or]
         congr 1
         rw[Bool.eq_iff_iff];simp
    ·rw[qp h1,decide_eq_false (by omega)];rfl
   ·obtain⟨d1,d7,_,_⟩:=hdr hd
    rw[qp hd,if_pos hd,qd (by omega) (by omega),qd (by omega) (by omega),c_8,<- qAa ht]
    show br (decide (hd_ h s d>0)) _ _=_
    by_cases h1:hd_ h s d>0
    ·rw[qBT h1,decide_eq_true (p:=0<hd_ h s d) h1,Bool.true_and]
     congr 1
    ·rw[qBU h1,decide_eq_false (p:=0<hd_ h s d) h1,Bool.false_and]
  by_cases h0:s=0
  ·rw[qt h0,decide_eq_true (p:=s=0 \/ s=1) (.inl h0),Bool.true_and];exact main (.inl h0)
  ·rw[qp h0]
   by_cases h1:s=1
   ·rw[qt h1,decide_eq_true (p:=s=0 \/ s=1) (.inr h1),Bool.true_and];exact main (.inr h1)
   ·rw[qp h1,decide_eq_false (p:=s=0 \/ s=1) (by omega),Bool.false_and]
 ·rw[qp hm,decide_eq_false hm,Bool.false_and]
def qz (b h:List Int) (s f t d:Int) (p:Bool):Bool:=qBW b h s f t d p &&
 if d≠0 then !qDc (16*s+d) t&&(decide (d≠1)||decide (nF b (16*s+d) (t.toNat / 9)=0))
 else rch (at_ b f) f.toNat t.toNat (tk b)&&if p=true then qCu (at_ b f) f t else !qDD (at_ b f) t
theorem qJy (b h:List Int) (s f t d:Int) (p:Bool):qEg b h s f t d p=some (qz b h s f t d p):=by
 unfold qEg qz
 rw[qsS,qA]
 cases hcan:qBW b h s f t d p with
 | false=>rfl
 | true=>
   rw[Bool.not_true,b_f,Bool.true_and]
   unfold qBW at hcan
   simp only[Bool.and_eq_true,decide_eq_true_eq] at hcan
   obtain⟨hm,hs,_⟩:=hcan
   obtain⟨ht,hdr,hmv⟩:=qJB hm
   by_cases hd:d=0
   ·obtain⟨hf,_⟩:=hmv hd
    rw[qt hd,if_neg (by simpa using hd),qd hf.1 (by omega),c_8,qTi,qA,<- qAa hf]
    have:=qRH b (at_ b f) (a:=f.toNat) (c:=t.toNat) (by omega) (by omega)
    rw[show ((f.toNat:Nat):Int)=f by omega,show ((t.toNat:Nat):Int)=t by omega] at this
    rw[this,qA]
    cases rch (at_ b f) f.toNat t.toNat (tk b) with
    | false=>rfl
    | true=>
      rw[Bool.not_true,b_f,Bool.true_and]
      cases p with
      | true=>rw[b_t,qsY,qA,if_pos rfl]
      | false=>rw[b_f,qsZ,qA,if_neg (by simp)]
   ·obtain⟨d1,d7,_,_⟩:=hdr hd
    rw[qp hd,if_pos hd,w_s (n:=16*s) (by omega) (by omega),w_s (n:=16*s+d) (by omega) (by omega),qdt,qA]
    cases qDc (16*s+d) t with
    | true=>rfl
    | false=>
      rw[Bool.not_false,b_t,Bool.true_and]
      by_cases h1:d=1
      ·have htd:Int.tdiv t 9=((t.toNat / 9:Nat):Int):=by rw[Int.tdiv_eq_ediv_of_nonneg ht.1];omega
       rw[qt h1,htd,w_s (n:=((t.toNat / 9:Nat):Int)) (by omega) (by omega),qL4 b h s (16*s+d) (t.toNat / 9) (by omega),qA,decide_eq_false (p:=d≠1) (by simpa using h1),Bool.false_or]
       congr 1
       rw[Bool.eq_iff_iff];simp
      ·rw[qp h1,decide_eq_true (p:=d≠1) h1,Bool.true_or]
theorem qKV:qGm=some (sLo fun _=>true,sHi fun _=>true):=by decide +kernel
theorem qoA (f:Nat->Bool):qJ5 (sLo f) (sHi f)=some (sLo fun i=>!f i,sHi fun i=>!f i):=by
 unfold qJ5
 rw[qKV,qA]
 simp only
 rw[qLp,qA]
 simp only[Bool.true_and]
def qA8 (b:List Int) (s k:Int) (i:Nat):Bool:=!qA2 (pc s k) i&&(decide (k≠1)||decide (nF b (pc s 1) (i / 9)=0))
theorem qOk (f:Nat->Bool):isE f=decide (qAv f=0):=by
 unfold isE qAv
 rw[Bool.eq_iff_iff,decide_eq_true_eq,List.countP_eq_zero,List.all_eq_true]
 simp
theorem qkl {b:List Int} (h:List Int) (S:Int) (sd':List (List Int)) {s k:Int} (hs:s=0 \/ s=1) (L:List Int) (hL:∀ q∈L,0<=q /\ q<81) (hl:L.length<=1000) (N:Nat) (u v:Int):∀ (n i:Nat),i+n=L.length->∀ (f:Nat->Bool) (F:Nat),
  qDf (F+n+1) s k (pc s k) L.length L.length i b h S (qJ b) sd' u v (sLo f) (sHi f) N L=some (b,h,S,qJ b,sd',u,v,sLo fun c=>f c||((L.drop i).any fun q=>decide ((c:Int)=q)&&qA8 b s k c),sHi fun c=>f c||((L.drop i).any fun q=>decide ((c:Int)=q)&&qA8 b s k c)):=by
 intro n
 induction n with
 | zero=>
   intro i hi f F
   show qHc (qDf (F+0)) _ _ _ _ _ _ _ _ _ _ _ _ _ _ _ _ _=_
   unfold qHc
   rw[qW (by omega),List.drop_eq_nil_of_le (by omega)]
   simp
 | succ n ih=>
   intro i hi f F
   show qHc (qDf (F+n+1)) _ _ _ _ _ _ _ _ _ _ _ _ _ _ _ _ _=_
   unfold qHc
   have hil:i<L.length:=by omega
   obtain⟨q0,q1⟩:=hL L[i] (List.getElem_mem hil)
   have hget:L.getD i 0=L[i]:=qF9 hil
   obtain⟨q,hq⟩:∃ q:Nat,L[i]=q:=⟨L[i].toNat,by omega⟩
   have hd:L.drop i=L[i] :: L.drop (i+1):=List.drop_eq_getElem_cons hil
   rw[qe (by omega),qd (by omega) (by omega),tn,hget,hq,qfI _ (by omega),qA,w_s (n:=(i:Int)+1) (by omega) (by omega)]
   have skip:qA8 b s k q=false->qDf (F+n+1) s k (pc s k) L.length L.length ((i:Int)+1) b h S (qJ b) sd' u v (sLo f) (sHi f) N L =
     some (b,h,S,qJ b,sd',u,v,sLo fun c=>f c||((L.drop i).any fun q=>decide ((c:Int)=q)&&qA8 b s k c),sHi fun c=>f c||((L.drop i).any fun q=>decide ((c:Int)=q)&&qA8 b s k c)):=by
    intro hf
    refine (ih (i+1) (by omega) f F).trans ?_
    have:(fun c=>f c||((L.drop (i+1)).any fun q=>decide ((c:Int)=q)&&qA8 b s k c))=fun c=>f c||((L.drop i).any fun q=>decide ((c:Int)=q)&&qA8 b s k c):=by
     funext c
     rw[hd,List.any_cons,hq]
     by_cases hcq:(c:Int)=q
     ·have:c=q:=by omega
      subst this
      rw[hf];simp
     ·rw[decide_eq_false hcq];simp
    rw[this]
   have take:qA8 b s k q=true->(ob (qBB (sLo f) (sHi f) q) fun z=>qDf (F+n+1) s k (pc s k) L.length L.length ((i:Int)+1) b h S (qJ b) sd' u v z.1 z.2 N L) =
     some (b,h,S,qJ b,sd',u,v,sLo fun c=>f c||((L.drop i).any fun q=>decide ((c:Int)=q)&&qA8 b s k c),sHi fun c=>f c||((L.drop i).any fun q=>decide ((c:Int)=q)&&qA8 b s k c)):=by
    intro hf
    rw[qG0,qA]
    simp only
    refine (ih (i+1) (by omega) _ F).trans ?_
    have:(fun c=>(f c||only q c)||((L.drop (i+1)).any fun q=>decide ((c:Int)=q)&&qA8 b s k c))=fun c=>f c||((L.drop i).any fun q=>decide ((c:Int)=q)&&qA8 b s k c):=by
     funext c
     rw[hd,List.any_cons,hq,Bool.or_assoc]
     congr 2
     unfold only
     by_cases hcq:(c:Int)=q
     ·have:c=q:=by omega
      subst this
      rw[hf];simp
     ·rw[decide_eq_false hcq];simp
    rw[this]
   cases hdead:qA2 (pc s k) q with
   | true=>rw[b_t];exact skip (by unfold qA8;rw[hdead];rfl)
   | false=>
     rw[b_f]
     by_cases hk:k=1
     ·rw[ql hk,qGb,qA]
      simp only
      unfold qGp
      rw[qIr,w_s (by unfold fl;omega) (by unfold fl;omega),qA,show fl q=((q / 9:Nat):Int) from rfl,qXP (by omega),qA]
      simp only
      rw[qEy,qA]
      simp only
      rw[qJG,qA,qOk,qVy b (by rw[qAy hs (by omega) (by omega) (by omega)];omega) (by omega)]
      by_cases hn:nF b (pc s 1) (q / 9)=0
      ·rw[decide_eq_true hn,Bool.not_true,b_f]
       exact take (by unfold qA8;rw[hdead,decide_eq_true hn];simp)
      ·rw[decide_eq_false hn,Bool.not_false,b_t]
       exact skip (by unfold qA8;rw[hdead,decide_eq_false hn,decide_eq_false (p:=k≠1) (by simpa using hk)];rfl)
     ·rw[qk hk]
      exact take (by unfold qA8;rw[hdead,decide_eq_true (p:=k≠1) hk];rfl)
def qAx (b:List Int) (s k:Int) (i:Nat):Bool:=decide ((s=0 \/ s=1) /\ 1<=k /\ k<=7)&&(!tk b i&&qA8 b s k i)
theorem qkh {b:List Int} (hc:Clean b) (h:List Int) (S s k:Int):qJM s k b h S (qJ b) (qP b)=some (sLo (qAx b s k),sHi (qAx b s k)):=by
 have none:¬ ((s=0 \/ s=1) /\ 1<=k /\ k<=7)->qAx b s k=fun _=>false:=by
  intro hn;funext c;unfold qAx;rw[decide_eq_false hn,Bool.false_and]
 unfold qJM
 rw[qLz,qA]
 by_cases hz:pc s k=0
 ·have:¬ ((s=0 \/ s=1) /\ 1<=k /\ k<=7):=by
   rintro ⟨hs,h1,h7⟩
   rw[qAy hs h1 (by omega) (by omega)] at hz
   omega
  rw[ql hz,none this,qBn,qBm]
 ·rw [qk hz]
  have hv:(s=0 \/ s=1) /\ 1<=k /\ k<=15 /\ k≠13:=by
   unfold pc at hz
   split at hz
   ·rename_i h;exact h
   ·exact absurd rfl hz
  by_cases h8:k >= 8
  ·rw[qB8 h8,none (by omega),qBn,qBm]
  ·rw[qBf h8,qKG hc,qA]
   simp only
   rw[qoA,qA]
   simp only
   rw[qJ9,qA]
   simp only
   have hlen:=qEp fun i=>!tk b i
   obtain⟨g,hg⟩:=qh (sq fun i=>!tk b i).length (by omega)
   have:=qkl (b:=b) h S (qP b) (k:=k) hv.1 (sq fun i=>!tk b i) (fun q hq=>⟨(qGu hq).1,(qGu hq).2.1⟩) (by omega) (sq fun i=>!tk b i).length 0 0 (sq fun i=>!tk b i).length 0 (by omega) (fun _=>false) g
   rw[<- hg,qBn,qBm] at this
   rw[show qDf qB s k (pc s k) (sq fun i=>!tk b i).length (Int.ofNat (sq fun i=>!tk b i).length) 0 b h S (qJ b) (qP b) 0 0 0 0 (sq fun i=>!tk b i).length (sq fun i=>!tk b i)=_ from this,qA]
   simp only[Bool.false_or,List.drop_zero]
   obtain⟨e1,e2⟩:=qB5 (f:=fun c=>(sq fun i=>!tk b i).any fun q=>decide ((c:Int)=q)&&qA8 b s k c) (g:=qAx b s k) fun c hcc=>by
    unfold qAx
    rw[decide_eq_true (p:=(s=0 \/ s=1) /\ 1<=k /\ k<=7) ⟨hv.1,hv.2.1,by omega⟩,Bool.true_and,Bool.eq_iff_iff,List.any_eq_true,Bool.and_eq_true]
    constructor
    ·rintro ⟨q,hq,hh⟩
     rw[Bool.and_eq_true,decide_eq_true_eq] at hh
     have:=(qGu hq).2.2
     rw[<- hh.1,tn] at this
     exact⟨this,hh.2⟩
    ·rintro ⟨h1,h2⟩
     exact⟨c,qZU hcc h1,by rw[h2];simp⟩
   rw[e1,e2]
end Go.Kk.Pl
namespace Go.Kk.Pl
end Go.Kk.Pl
