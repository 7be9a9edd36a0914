/- What the program's functions come to, told plainly: the texts of this project that this claim leans on, cut down to what is used. -/
import Derived.Test.YtcilcokdgpnkmaaGreatDoorKkU4
namespace Go.Kk.Pl
set_option maxRecDepth 100000
def vOf (b h:List Int) (s:Int):Int:=(qDb b h s).getD 0
theorem qex {b h:List Int} {s:Int} (hp:PosP b h s):qDb b h s=some (vOf b h s) /\ -26000<=vOf b h s /\ vOf b h s<=26000:=by
 obtain⟨v,hv,v0,v1⟩:=hp.value
 unfold vOf
 rw[hv]
 exact⟨rfl,v0,v1⟩
def qJL (l:List Int) (x:Int):Prop:=x∈l /\ ∀ y∈l,y<=x
theorem qJL.uniq {l:List Int} {x y:Int} (h:qJL l x) (h':qJL l y):x=y:=by
 have:=h.2 y h'.1
 have:=h'.2 x h.1
 omega
def mxI:List Int->Int
 | []=>-100000
 | x :: r=>max x (mxI r)
theorem ql1 {l:List Int} {y:Int} (h:y∈l):y<=mxI l:=by
 induction l with
 | nil=>cases h
 | cons x r ih=>
   unfold mxI
   rcases List.mem_cons.1 h with h | h
   ·omega
   ·have:=ih h;omega
theorem qYc {l:List Int} (h0:l≠[]) (hl:∀ y∈l,-100000<y):mxI l∈l:=by
 induction l with
 | nil=>exact absurd rfl h0
 | cons x r ih=>
   unfold mxI
   cases r with
   | nil=>
     have:=hl x (by simp)
     have e:max x (mxI [])=x:=by unfold mxI;omega
     rw[e];simp
   | cons y r=>
     have h1:=ih (by simp) fun z hz=>hl z (by simp[hz])
     by_cases hc:mxI (y :: r)<=x
     ·have e:max x (mxI (y :: r))=x:=by omega
      rw[e];simp
     ·have e:max x (mxI (y :: r))=mxI (y :: r):=by omega
      rw[e];exact List.mem_cons_of_mem _ h1
theorem ql2 {l:List Int} (h0:l≠[]) (hl:∀ y∈l,-100000<y):qJL l (mxI l):=⟨qYc h0 hl,fun _ hy=>ql1 hy⟩
def Vt:Nat->Nat->List Int->List Int->Int->Int
 | 0,ply,b,h,s=>if (lgL b h s).length=0 then (ply:Int) - 30000 else vOf b h s
 | e+1,ply,b,h,s=>if (lgL b h s).length=0 then (ply:Int) - 30000 else mxI ((lgL b h s).map fun m=>-(Vt e (ply+1) (mbM b s m) (mhM b h s m) (1 - s)))
def VA (e ply:Nat) (b h:List Int) (s:Int) (m:List Int):Int:=-(Vt e (ply+1) (mbM b s m) (mhM b h s m) (1 - s))
theorem qCt {d ply:Nat} {b h:List Int} {s:Int} (h0:(lgL b h s).length=0):Vt d ply b h s=(ply:Int) - 30000:=by
 cases d<;>(unfold Vt;rw[if_pos h0])
theorem qHX {ply:Nat} {b h:List Int} {s:Int} (h0:(lgL b h s).length≠0):Vt 0 ply b h s=vOf b h s:=by unfold Vt;rw[if_neg h0]
def okS (d ply:Nat) (x:Int):Prop:=(-26000<=x /\ x<=26000) \/ (30000 - (ply:Int) - d<=x /\ x<=30000 - (ply:Int)) \/ (-(30000 - (ply:Int))<=x /\ x <= -(30000 - (ply:Int) - d))
theorem qJ9 {e ply:Nat} {x:Int} (h:okS e (ply+1) x):okS (e+1) ply (-x):=by
 unfold okS at *
 omega
theorem qmM {d ply:Nat} (hply:d+ply<=64) {x:Int} (h:okS d ply x):okS d 0 (av x ply):=by
 unfold okS at *
 unfold av
 split
 ·omega
 ·split<;>omega
theorem qmL {d ply:Nat} (hply:d+ply<=64) {x:Int} (h:okS d 0 x):okS d ply (av x (-(ply:Int))):=by
 unfold okS at *
 unfold av
 split
 ·omega
 ·split<;>omega
theorem qgV {d ply:Nat} (hply:d+ply<=64) {x:Int} (h:okS d 0 x):av (av x (-(ply:Int))) ply=x:=by
 unfold okS at h
 unfold av
 by_cases h1:27000<x
 ·rw[if_pos h1,if_pos (by omega)];omega
 ·rw[if_neg h1]
  by_cases h2:x < -27000
  ·rw[if_pos h2,if_neg (by omega),if_pos (by omega)];omega
  ·rw[if_neg h2,if_neg h1,if_neg h2]
theorem qNu {d ply:Nat} (hply:d+ply<=64) {x y:Int} (h:okS d 0 x) (h':okS d 0 y) (hxy:x<=y):av x (-(ply:Int))<=av y (-(ply:Int)):=by
 unfold okS at *
 unfold av
 split<;>split<;>(try split)<;>(try split)<;>omega
theorem qT6 {d ply:Nat} (hply:d+ply<=64) {x y:Int} (h:okS d ply x) (h':okS d ply y) (hxy:x<=y):av x ply<=av y ply:=by
 unfold okS at *
 unfold av
 split<;>split<;>(try split)<;>(try split)<;>omega
theorem qgW {e ply:Nat} (hply:e+1+ply<=64) {w:Int} (h:okS e 0 w):av (-(av w (-((1:Nat):Int)))) (-(ply:Int)) = -(av w (-((ply+1:Nat):Int))):=by
 unfold okS at h
 unfold av
 by_cases h1:27000<w
 ·rw[if_pos h1,if_neg (by omega),if_pos (by omega),if_pos h1];omega
 ·rw[if_neg h1,if_neg h1]
  by_cases h2:w < -27000
  ·rw[if_pos h2,if_pos (by omega),if_pos h2];omega
  ·rw[if_neg h2,if_neg (by omega),if_neg (by omega),if_neg h2]
theorem qFI:∀ (d ply:Nat),d+ply<=64->∀ {b h:List Int} {s:Int},PosP b h s->okS d ply (Vt d ply b h s):=by
 intro d
 induction d with
 | zero=>
   intro ply hply b h s hp
   by_cases h0:(lgL b h s).length=0
   ·rw[qCt h0];unfold okS;omega
   ·rw[qHX h0]
    obtain⟨v,hv,v0,v1⟩:=hp.value
    unfold vOf
    rw[hv]
    exact .inl ⟨v0,v1⟩
 | succ e ih=>
   intro ply hply b h s hp
   by_cases h0:(lgL b h s).length=0
   ·rw[qCt h0];unfold okS;omega
   ·unfold Vt
    rw[if_neg h0]
    have hall:∀ m∈lgL b h s,okS (e+1) ply (-(Vt e (ply+1) (mbM b s m) (mhM b h s m) (1 - s))):=fun m hm=>qJ9 (ih (ply+1) (by omega) (hp.after hm))
    obtain⟨m,hm,he⟩:=List.mem_map.1 (qYc (l:=(lgL b h s).map fun m=>-(Vt e (ply+1) (mbM b s m) (mhM b h s m) (1 - s))) (by
     intro h;rw[List.map_eq_nil_iff] at h;rw[h] at h0;exact h0 rfl) (by
     intro y hy
     obtain⟨m,hm,rfl⟩:=List.mem_map.1 hy
     have:=hall m hm
     unfold okS at this
     omega))
    rw[<- he]
    exact hall m hm
theorem qNd {e ply:Nat} (hply:e+1+ply<=64) {b h:List Int} {s:Int} (hp:PosP b h s) (h0:(lgL b h s).length≠0):qJL ((lgL b h s).map (VA e ply b h s)) (Vt (e+1) ply b h s):=by
 unfold Vt
 rw[if_neg h0]
 refine ql2 (by intro h;rw[List.map_eq_nil_iff] at h;rw[h] at h0;exact h0 rfl) fun y hy=>?_
 obtain⟨m,hm,rfl⟩:=List.mem_map.1 hy
 have:=qJ9 (qFI e (ply+1) (by omega) (hp.after hm))
 unfold okS at this
 unfold VA
 omega
theorem qTb:∀ (d ply:Nat),d+ply<=64->∀ {b h:List Int} {s:Int},PosP b h s->Vt d ply b h s=av (Vt d 0 b h s) (-(ply:Int)):=by
 intro d
 induction d with
 | zero=>
   intro ply hply b h s hp
   by_cases h0:(lgL b h s).length=0
   ·rw[qCt h0,qCt h0];unfold av;rw[if_neg (by omega),if_pos (by omega)];omega
   ·have:=(qex hp).2
    rw[qHX h0,qHX h0]
    unfold av
    rw[if_neg (by omega),if_neg (by omega)]
 | succ e ih=>
   intro ply hply b h s hp
   by_cases h0:(lgL b h s).length=0
   ·rw[qCt h0,qCt h0];unfold av;rw[if_neg (by omega),if_pos (by omega)];omega
   ·have h1:=qNd (e:=e) (ply:=ply) hply hp h0
    have h2:=qNd (e:=e) (ply:=0) (by omega) hp h0
    refine h1.uniq ?_
    have hf:∀ m∈lgL b h s,VA e ply b h s m=av (VA e 0 b h s m) (-(ply:Int)):=by
     intro m hm
     have hp2:=hp.after hm
     unfold VA
     rw[ih (ply+1) (by omega) hp2,ih (0+1) (by omega) hp2]
     exact (qgW hply (qFI e 0 (by omega) hp2)).symm
    have hk:∀ m∈lgL b h s,okS (e+1) 0 (VA e 0 b h s m):=fun m hm=>qJ9 (qFI e 1 (by omega) (hp.after hm))
    obtain⟨m,hm,he⟩:=List.mem_map.1 h2.1
    refine⟨List.mem_map.2 ⟨m,hm,by rw[hf m hm,he]⟩,fun y hy=>?_⟩
    obtain⟨m',hm',rfl⟩:=List.mem_map.1 hy
    rw[hf m' hm',<- he]
    exact qNu (d:=e+1) hply (hk m' hm') (hk m hm) (by rw[he];exact h2.2 _ (List.mem_map.2 ⟨m',hm',rfl⟩))
theorem qfg {d ply:Nat} (hply:d+ply<=64) {b h:List Int} {s:Int} (hp:PosP b h s):av (Vt d ply b h s) ply=Vt d 0 b h s:=by
 rw[qTb d ply hply hp]
 exact qgV hply (qFI d 0 (by omega) hp)
end Go.Kk.Pl
namespace Go.Kk.Pl
set_option maxRecDepth 100000
def EXB (b h:List Int) (s e0 e1 e2:Int):Prop:=∃ d:Nat,e0=d /\ 1<=d /\ d<=64 /\ okS d 0 e1 /\ (e2=0->e1=Vt d 0 b h s) /\ (e2=1->e1<=Vt d 0 b h s) /\ (e2=2->Vt d 0 b h s<=e1) /\ (e2=0 \/ e2=1 \/ e2=2)
def qNc (r:List Int):Prop:=(r.length=106 /\ r.getD 0 0=0) \/ ∃ b h s e0 e1 e2 m,r=qCn b h s e0 e1 e2 (m0 m) (m1 m) (m2 m) (m3 m) /\ PosP b h s /\ m∈lgL b h s /\ EXB b h s e0 e1 e2
structure TabX (N:Nat) (T:List (List Int)):Prop where
 pos:1<=N
 top:N<=65536
 len:T.length=N
 row:∀ q,q<N->qNc (T.getD q [])
theorem qNc.len {r:List Int} (h:qNc r):r.length=106:=by
 rcases h with h | ⟨b,h',s,e0,e1,e2,m,rfl,hp,_⟩
 ·exact h.1
 ·exact qqX hp.len hp.hlen
theorem qtE {N:Nat} (h0:1<=N) (h1:N<=65536):TabX N (List.replicate N qGW):=by
 refine⟨h0,h1,by simp,fun q hq=>.inl ?_⟩
 rw[List.getD_eq_getElem?_getD,List.getElem?_replicate,if_pos hq]
 exact⟨by simp[qGW],rfl⟩
theorem TabX.get {N:Nat} {T:List (List Int)} (hT:TabX N T) {b h:List Int} {s:Int} (u:Int):
  qEK b h s N u N T=some (0,0,0,0,0,0,false,false) \/ ∃ e0 e1 e2 m,qEK b h s N u N T=some (e0,e1,e2,m0 m,m1 m,m2 m,m3 m,true) /\ m∈lgL b h s /\ EXB b h s e0 e1 e2:=by
 obtain⟨q,hq,hat⟩:=qTk b h s N hT.pos hT.top
 rcases hT.row q hq with hr | ⟨b',h',s',e0,e1,e2,m,hr,hp,hm,he⟩
 ·exact .inl (qj3 b h s hat u N T hr.2)
 ·have:=qj2 b h s hat u N T hr hp.len hp.hlen
  by_cases hc:b'=b /\ h'=h /\ s'=s
  ·rw[if_pos hc] at this
   obtain⟨rfl,rfl,rfl⟩:=hc
   exact .inr ⟨e0,e1,e2,m,this,hm,he⟩
  ·rw[if_neg hc] at this
   exact .inl this
theorem TabX.put {N:Nat} {T:List (List Int)} (hT:TabX N T) {b h:List Int} {s:Int} (hp:PosP b h s) (u e0 e1 e2:Int) {m:List Int} (hm:m∈lgL b h s) (he:EXB b h s e0 e1 e2):
  ∃ u' T',qFB b h s e0 e1 e2 (m0 m) (m1 m) (m2 m) (m3 m) N u N T=some (N,u',N,T') /\ TabX N T':=by
 obtain⟨q,hq,hat⟩:=qTk b h s N hT.pos hT.top
 refine⟨_,_,qnh b h s e0 e1 e2 _ _ _ _ hat u N T (hT.row q hq).len,hT.pos,hT.top,by simp[hT.len],fun q' hq'=>?_⟩
 by_cases hqq:q=q'
 ·subst hqq
  rw[List.getD_eq_getElem?_getD,List.getElem?_set_self (by rw[hT.len];exact hq)]
  exact .inr ⟨b,h,s,e0,e1,e2,m,rfl,hp,hm,he⟩
 ·rw[List.getD_eq_getElem?_getD,List.getElem?_set_ne hqq,<- List.getD_eq_getElem?_getD]
  exact hT.row q' hq'
structure GoodX (d ply:Nat) (b h:List Int) (s x2 x3 sc:Int) (L:List (List Int)):Prop where
 stuck:(lgL b h s).length=0->sc=(ply:Int) - 30000 /\ L=[]
 oks:okS d ply sc
 up:sc<x3->Vt d ply b h s<=sc
 dn:x2<sc->sc<=Vt d ply b h s
 play:qGX b h s L
 len:L.length<=d
 live:(lgL b h s).length≠0->0<d->L≠[]
def qJJ (d ply:Nat) (x2 x3 bu:Int) (N n:Nat) (b h:List Int) (s:Int) (st:List (List Int)) (r:Option ((Int×Nat×Bool×Int×Int×Nat×Int×Int×Nat×Nat×List (List Int)×List Int×List Int×Int×List (List Int)×List (List Int)×Nat×List (List Int)×Nat×List (List Int))⊕(Int×Nat×Bool×Int×Int×Nat×Int×Int×Nat×Nat×List (List Int)×List Int×List Int×Int×List (List Int)×List (List Int)×Nat×List (List Int)×Nat×List (List Int)))):Prop:=
 ∃ (sc:Int) (ok:Bool) (nd' u':Int) (T':List (List Int)) (x':Nat) (st':List (List Int)) (L:List (List Int)),
   (r=some (.inl (sc,L.length,ok,nd',bu,N,u',kof b h s,n,N,T',b,h,s,qI b,qL b,x',st',L.length,L)) \/
    r=some (.inr (sc,L.length,ok,nd',bu,N,u',kof b h s,n,N,T',b,h,s,qI b,qL b,x',st',L.length,L))) /\
   st'.take n=st.take n /\ n<=st'.length /\ TabX N T' /\ (ok=true->GoodX d ply b h s x2 x3 sc L)
def qJM (look:Int->Int->Int->Int->Int->Int->Nat->Int->Int->Nat->Nat->List (List Int)->List Int->List Int->Int->List (List Int)->List (List Int)->Nat->List (List Int)->Option ((Int×Nat×Bool×Int×Int×Nat×Int×Int×Nat×Nat×List (List Int)×List Int×List Int×Int×List (List Int)×List (List Int)×Nat×List (List Int)×Nat×List (List Int))⊕(Int×Nat×Bool×Int×Int×Nat×Int×Int×Nat×Nat×List (List Int)×List Int×List Int×Int×List (List Int)×List (List Int)×Nat×List (List Int)×Nat×List (List Int)))) (d ply:Nat):Prop:=
 ∀ (x2 x3 nd bu:Int) (N:Nat) (u:Int) (n:Nat) (T:List (List Int)) (b h:List Int) (s:Int) (x:Nat) (st:List (List Int)),PosP b h s->TabX N T->n<=st.length->n<=100+ply->-60000<=x2->x2<x3->x3<=60000->
   qJJ d ply x2 x3 bu N n b h s st (look d ply x2 x3 nd bu N u (kof b h s) n N T b h s (qI b) (qL b) x st)
structure BestX (e ply:Nat) (b h:List Int) (s:Int) (M:List (List Int)) (i:Nat) (x2 best:Int) (L:List (List Int)):Prop where
 none:i=0->best = -60000 /\ L=[]
 oks:0<i->okS (e+1) ply best
 line:0<i->∃ m r,L=m :: r /\ m∈lgL b h s /\ qGX (mbM b s m) (mhM b h s m) (1 - s) r /\ r.length<=e
 dn:x2<best->∃ j,j<i /\ best<=VA e ply b h s (M.getD j [])
def UpX (e ply:Nat) (b h:List Int) (s:Int) (M:List (List Int)) (i:Nat) (best:Int):Prop:=∀ j,j<i->VA e ply b h s (M.getD j [])<=best
theorem BestX.stepX {e ply:Nat} {b h:List Int} {s:Int} {M:List (List Int)} {i:Nat} {x2 x3 best:Int} {L:List (List Int)} (hB:BestX e ply b h s M i x2 best L) (hU:UpX e ply b h s M i best) (hx2:-60000<=x2) (hlow:max x2 best<x3) (hply:e+1+ply<=64) (hi:i<M.length) (hm:M[i]∈lgL b h s)
  {sc:Int} {L':List (List Int)} (hg:GoodX e (ply+1) (mbM b s M[i]) (mhM b h s M[i]) (1 - s) (-x3) (-(max x2 best)) sc L'):
  (-30000 <= -sc /\ -sc<=30000) /\ (best < -sc->BestX e ply b h s M (i+1) x2 (-sc) (M[i] :: L') /\ (-sc<x3->UpX e ply b h s M (i+1) (-sc))) /\ (¬ best < -sc->0<i /\ BestX e ply b h s M (i+1) x2 best L /\ UpX e ply b h s M (i+1) best):=by
 have hM:M.getD i []=M[i]:=atL hi
 have hok:=qJ9 hg.oks
 have hr:-30000 <= -sc /\ -sc<=30000:=by unfold okS at hok;omega
 have hup:=hg.up
 have hdn:=hg.dn
 have hVA:VA e ply b h s M[i] = -(Vt e (ply+1) (mbM b s M[i]) (mhM b h s M[i]) (1 - s)):=rfl
 refine⟨hr,fun hlt=>⟨⟨fun h=>absurd h (Nat.succ_ne_zero _),fun _=>hok,fun _=>⟨_,_,rfl,hm,hg.play,hg.len⟩,fun hx=>⟨i,Nat.lt_succ_self i,?_⟩⟩,fun hx j hj=>?_⟩,fun hge=>?_⟩
 ·have:=hup (by omega)
  rw[hM,hVA];omega
 ·by_cases hji:j=i
  ·subst hji
   have:=hdn (by omega)
   rw[hM,hVA];omega
  ·have:=hU j (by omega);omega
 ·have hi0:0<i:=by
   rcases Nat.eq_zero_or_pos i with h0 | h0
   ·have:=(hB.none h0).1;omega
   ·exact h0
  refine⟨hi0,⟨fun h=>absurd h (Nat.succ_ne_zero _),fun _=>hB.oks hi0,fun _=>hB.line hi0,fun hx=>?_⟩,fun j hj=>?_⟩
  ·obtain⟨j,hj,h1⟩:=hB.dn hx
   exact⟨j,by omega,h1⟩
  ·by_cases hji:j=i
   ·subst hji
    have:=hdn (by omega)
    rw[hM,hVA];omega
   ·exact hU j (by omega)
theorem qlZ {self:Int->Int->Int->Int->Int->Int->Nat->Int->Int->Nat->Nat->List (List Int)->List Int->List Int->Int->List (List Int)->List (List Int)->Nat->List (List Int)->Option ((Int×Nat×Bool×Int×Int×Nat×Int×Int×Nat×Nat×List (List Int)×List Int×List Int×Int×List (List Int)×List (List Int)×Nat×List (List Int)×Nat×List (List Int))⊕(Int×Nat×Bool×Int×Int×Nat×Int×Int×Nat×Nat×List (List Int)×List Int×List Int×Int×List (List Int)×List (List Int)×Nat×List (List Int)×Nat×List (List Int)))}
  {e ply:Nat} (hself:qJM self e (ply+1)) (hply:e+1+ply<=64) {b h:List Int} {s:Int} (hp:PosP b h s) {M:List (List Int)} (hM:∀ m∈M,m∈lgL b h s) (hl:M.length<=100000) (x2 x3 bu:Int) (hx2:-60000<=x2) (hx3:x3<=60000) (N n:Nat) (hn:n<=100+ply):
  ∀ (k i:Nat),i+k=M.length->∀ (best nd u:Int) (L T:List (List Int)) (x:Nat) (st:List (List Int)),BestX e ply b h s M i x2 best L->UpX e ply b h s M i best->max x2 best<x3->TabX N T->n<=st.length->∀ F,
    ∃ (nd' u':Int) (T':List (List Int)) (x':Nat) (st':List (List Int)),st'.take n=st.take n /\ n<=st'.length /\ TabX N T' /\
      ((∃ a1 a2 a3 a4,qCo self (F+k+1) ((e+1:Nat):Int) ply x2 x3 best L.length (max x2 best) M.length M.length i nd bu N u (kof b h s) n N T b h s (qI b) (qL b) x st L.length L M.length M =
          some (.inl (((e+1:Nat):Int),(ply:Int),x2,x3,0,0,false,a1,a2,nd',bu,N,u',kof b h s,n,N,T',b,h,s,qI b,qL b,x',st',0,[],a3,a4))) \/
       (∃ best' L' i',qCo self (F+k+1) ((e+1:Nat):Int) ply x2 x3 best L.length (max x2 best) M.length M.length i nd bu N u (kof b h s) n N T b h s (qI b) (qL b) x st L.length L M.length M =
          some (.inr (((e+1:Nat):Int),(ply:Int),x2,x3,best',L'.length,nd',bu,N,u',kof b h s,n,N,T',b,h,s,qI b,qL b,x',st',L'.length,L')) /\
          BestX e ply b h s M i' x2 best' L' /\ i'<=M.length /\ (k≠0->0<i') /\ i<=i' /\ (best'<x3->i'=M.length /\ UpX e ply b h s M i' best'))):=by
 intro k
 induction k with
 | zero=>
   intro i hi best nd u L T x st hB hU hlow hT hst F
   refine⟨nd,u,T,x,st,rfl,hst,hT,.inr ⟨best,L,i,?_,hB,by omega,fun h=>absurd rfl h,Nat.le_refl _,fun _=>⟨by omega,hU⟩⟩⟩
   rw[qCo.eq_2]
   unfold qMr
   rw[qY (by omega)]
 | succ k ih=>
   intro i hi best nd u L T x st hB hU hlow hT hst F
   have hil:i<M.length:=by omega
   have hm:=hM M[i] (List.getElem_mem hil)
   have hp2:=hp.after hm
   have hw3:IntKind.wrap .i64 (0 - x3) = -x3:=by rw[w_s (by omega) (by omega)];omega
   have hwl:IntKind.wrap .i64 (0 - max x2 best) = -(max x2 best):=by rw[w_s (by omega) (by omega)];omega
   obtain⟨sc,ok,nd',u',T',x',st',L',hcall,h1,h2,h3,h4⟩:=hself (-x3) (-(max x2 best)) nd bu N u (n+1) T _ _ _ (n+1) (List.append (List.take n st) [qL0 b s M[i]]) hp2 hT (by rw[qmE hst];omega) (by omega) (by omega) (by omega) (by omega)
   have hnote:st'.getD n []=qL0 b s M[i]:=by rw[qtN h1 (by omega),qmD hst]
   have htk:st'.take n=st.take n:=by
    have:=congrArg (List.take n) h1
    rwa [List.take_take,List.take_take,Nat.min_eq_left (by omega),qmF hst] at this
   have hback:=hp.back hm n (by omega) x' st' hnote
   have body:qCo self (F+(k+1)+1) ((e+1:Nat):Int) ply x2 x3 best L.length (max x2 best) M.length M.length i nd bu N u (kof b h s) n N T b h s (qI b) (qL b) x st L.length L M.length M =
     br (!ok) (some (.inl (((e+1:Nat):Int),(ply:Int),x2,x3,0,0,false,best,L.length,nd',bu,N,u',kof b h s,n,N,T',b,h,s,qI b,qL b,x',st',0,[],L.length,L)))
      (br (decide (IntKind.wrap .i64 (0 - sc)>best))
       (br (decide ((1+L'.length)*32<=140737488355328))
        (br (decide (max (max x2 best) (IntKind.wrap .i64 (0 - sc)) >= x3))
         (some (.inr (((e+1:Nat):Int),(ply:Int),x2,x3,IntKind.wrap .i64 (0 - sc),1+L'.length,nd',bu,N,u',kof b h s,n,N,T',b,h,s,qI b,qL b,x',st',1+L'.length,[m0 M[i],m1 M[i],m2 M[i],bi (m3 M[i])] :: List.take L'.length L')))
         (qCo self (F+k+1) ((e+1:Nat):Int) ply x2 x3 (IntKind.wrap .i64 (0 - sc)) (1+L'.length) (max (max x2 best) (IntKind.wrap .i64 (0 - sc))) M.length M.length ((i+1:Nat):Int) nd' bu N u' (kof b h s) n N T' b h s (qI b) (qL b) x' st' (1+L'.length) ([m0 M[i],m1 M[i],m2 M[i],bi (m3 M[i])] :: List.take L'.length L') M.length M))
        none)
       (br (decide (max (max x2 best) best >= x3))
        (some (.inr (((e+1:Nat):Int),(ply:Int),x2,x3,best,L.length,nd',bu,N,u',kof b h s,n,N,T',b,h,s,qI b,qL b,x',st',L.length,L)))
        (qCo self (F+k+1) ((e+1:Nat):Int) ply x2 x3 best L.length (max (max x2 best) best) M.length M.length ((i+1:Nat):Int) nd' bu N u' (kof b h s) n N T' b h s (qI b) (qL b) x' st' L.length L M.length M))):=by
    rw[qCo.eq_2]
    unfold qMr
    rw[qZ (by omega),qU (by omega) (by omega),tn,atL hil]
    simp only[hdM]
    rw[hp.make hm n (by omega),qA,qAH]
    simp only
    rw[w_s (n:=((e+1:Nat):Int) - 1) (by omega) (by omega),w_s (n:=(ply:Int)+1) (by omega) (by omega),show ((e+1:Nat):Int) - 1=(e:Int) by omega,show (ply:Int)+1=((ply+1:Nat):Int) by omega]
    rw[w_s (n:=(i:Int)+1) (by omega) (by omega),hw3,hwl]
    simp only[qlg]
    rcases hcall with hcall | hcall
    ·rw[hcall,qA,qFA]
     simp only
     rw[hback,qA]
     rfl
    ·rw[hcall,qA,qAH]
     simp only
     rw[hback,qA]
     rfl
   rw[body]
   cases ok with
   | false=>exact⟨nd',u',T',x',st',htk,by omega,h3,.inl ⟨_,_,_,_,rfl⟩⟩
   | true=>
     obtain⟨hr,hB1,hB2⟩:=hB.stepX hU hx2 hlow hply hil hm (h4 rfl)
     have hw:IntKind.wrap .i64 (0 - sc) = -sc:=by rw[w_s (by omega) (by omega)];omega
     have hlen:L'.length<=64:=by have:=(h4 rfl).len;omega
     have hrow:([m0 M[i],m1 M[i],m2 M[i],bi (m3 M[i])] :: List.take L'.length L')=M[i] :: L':=by
      rw[<- (hp.full hm).1.1,List.take_length]
     simp only[Bool.not_true,b_f,hw,hrow,qlJ M[i] L']
     by_cases hlt:best < -sc
     ·obtain⟨hB',hU'⟩:=hB1 hlt
      rw[qD (by simpa using hlt),qD (by simp only[decide_eq_true_eq,List.length_cons];omega)]
      have hmax:max (max x2 best) (-sc)=max x2 (-sc):=by omega
      rw[hmax]
      by_cases hcut:max x2 (-sc) >= x3
      ·rw[qD (by simpa using hcut)]
       exact⟨nd',u',T',x',st',htk,by omega,h3,.inr ⟨-sc,M[i] :: L',i+1,rfl,hB',by omega,fun _=>by omega,by omega,fun hx=>by omega⟩⟩
      ·rw[qH (by simpa using hcut)]
       obtain⟨nd2,u2,T2,x2',st2,q1,q2,q3,q4⟩:=ih (i+1) (by omega) (-sc) nd' u' (M[i] :: L') T' x' st' hB' (hU' (by omega)) (by omega) h3 (by omega) F
       refine⟨nd2,u2,T2,x2',st2,by rw[q1,htk],q2,q3,?_⟩
       rcases q4 with q4 | ⟨b2,L2,i2,q5,q6,q7,q8,q9,q10⟩
       ·exact .inl q4
       ·exact .inr ⟨b2,L2,i2,q5,q6,q7,fun _=>by omega,by omega,q10⟩
     ·obtain⟨hi0,hB',hU'⟩:=hB2 hlt
      rw[qH (by simpa using hlt)]
      have hmax:max (max x2 best) best=max x2 best:=by omega
      rw[hmax,qH (by simp only[decide_eq_false_iff_not];omega)]
      obtain⟨nd2,u2,T2,x2',st2,q1,q2,q3,q4⟩:=ih (i+1) (by omega) best nd' u' L T' x' st' hB' hU' hlow h3 (by omega) F
      refine⟨nd2,u2,T2,x2',st2,by rw[q1,htk],q2,q3,?_⟩
      rcases q4 with q4 | ⟨b2,L2,i2,q5,q6,q7,q8,q9,q10⟩
      ·exact .inl q4
      ·exact .inr ⟨b2,L2,i2,q5,q6,q7,fun _=>by omega,by omega,q10⟩
theorem qQA {self:Int->Int->Int->Int->Int->Int->Nat->Int->Int->Nat->Nat->List (List Int)->List Int->List Int->Int->List (List Int)->List (List Int)->Nat->List (List Int)->Option ((Int×Nat×Bool×Int×Int×Nat×Int×Int×Nat×Nat×List (List Int)×List Int×List Int×Int×List (List Int)×List (List Int)×Nat×List (List Int)×Nat×List (List Int))⊕(Int×Nat×Bool×Int×Int×Nat×Int×Int×Nat×Nat×List (List Int)×List Int×List Int×Int×List (List Int)×List (List Int)×Nat×List (List Int)×Nat×List (List Int)))} {e ply:Nat} (hself:qJM self e (ply+1)) (hply:e+1+ply<=64) {b h:List Int} {s:Int} (hp:PosP b h s) (h0:(lgL b h s).length≠0)
  {M:List (List Int)} (hM:∀ m,m∈M↔m∈lgL b h s) (hl:M.length=(lgL b h s).length) (x2 x3 nd bu:Int) (hx2:-60000<=x2) (hx:x2<x3) (hx3:x3<=60000) {N:Nat} (u:Int) {n:Nat} (hn:n<=100+ply) {T:List (List Int)} (hT:TabX N T) (x:Nat) {st:List (List Int)} (hst:n<=st.length):
  qJJ (e+1) ply x2 x3 bu N n b h s st (qIN self ((e+1:Nat):Int) ply x2 x3 nd bu N u (kof b h s) n N T b h s (qI b) (qL b) x st M.length M.length M):=by
 have hlen:=qJ0 b h s
 have hB:BestX e ply b h s M 0 x2 (-60000) []:=⟨fun _=>⟨rfl,rfl⟩,fun h=>absurd h (by omega),fun h=>absurd h (by omega),fun h=>absurd h (by omega)⟩
 have hU:UpX e ply b h s M 0 (-60000):=fun j hj=>absurd hj (by omega)
 obtain⟨g,hg⟩:=qe M.length (by omega)
 obtain⟨nd',u',T',x',st',q1,q2,q3,q4⟩:=qlZ hself hply hp (fun m hm=>(hM m).1 hm) (by omega) x2 x3 bu hx2 hx3 N n hn M.length 0 (by omega) (-60000) (IntKind.wrap .i64 (nd+1)) u [] T x st hB hU (by omega) hT hst g
 have hm2:max x2 (-60000)=x2:=by omega
 rw[<- hg,hm2] at q4
 unfold qIN
 rcases q4 with⟨a1,a2,a3,a4,q4⟩ | ⟨best,L,i',q4,q5,q6,q7,_,q8⟩
 ·refine⟨0,false,nd',u',T',x',st',[],.inr ?_,q1,q2,q3,(by intro h;cases h)⟩
  rw[show qCo self qB ((e+1:Nat):Int) ply x2 x3 (-60000) 0 x2 M.length (Int.ofNat M.length) 0 (IntKind.wrap .i64 (nd+1)) bu N u (kof b h s) n N T b h s (qI b) (qL b) x st 0 [] M.length M=_ from q4,qA,qFA]
  rfl
 ·have hi':0<i':=q7 (by omega)
  have hoks:=q5.oks hi'
  obtain⟨m,r,hL,hm,hpl,hrl⟩:=q5.line hi'
  subst hL
  obtain⟨p1,p2,p3⟩:=qnb ⟨m,r,rfl,hm,hpl,hrl⟩
  have hmax:=qNd hply hp h0
  have hVok:=qFI (e+1) ply hply hp
  have hup:best<x3->Vt (e+1) ply b h s<=best:=by
   intro hb
   obtain⟨hi2,hU2⟩:=q8 hb
   obtain⟨m',hm',he'⟩:=List.mem_map.1 hmax.1
   obtain⟨j,hj,hje⟩:=List.getElem_of_mem ((hM m').2 hm')
   have:=hU2 j (by omega)
   rw[atL hj,hje,he'] at this
   exact this
  have hdn:x2<best->best<=Vt (e+1) ply b h s:=by
   intro hb
   obtain⟨j,hj,h1⟩:=q5.dn hb
   have hjl:j<M.length:=by omega
   rw[atL hjl] at h1
   have:=hmax.2 _ (List.mem_map.2 ⟨M[j],(hM _).1 (List.getElem_mem hjl),rfl⟩)
   omega
  have hgood:GoodX (e+1) ply b h s x2 x3 best (m :: r):=⟨fun h=>absurd h h0,hoks,hup,hdn,p1,p2,fun _ _=>p3⟩
  have haway:qGG best ply=some (av best ply):=by
   unfold okS at hoks
   exact qT7 (by omega) (by omega) (by omega) (by omega)
  have hnorm:=qfg hply hp
  have hEX:∀ e2:Int,(e2=0 \/ e2=1 \/ e2=2)->(e2=0->x2<best /\ best<x3)->(e2=1->x2<best)->(e2=2->best<x3)->EXB b h s ((e+1:Nat):Int) (av best ply) e2:=by
   intro e2 h3 ha hb hc
   refine⟨e+1,rfl,by omega,by omega,qmM hply hoks,fun hq=>?_,fun hq=>?_,fun hq=>?_,h3⟩
   ·have h1:=hup (ha hq).2
    have h2:=hdn (ha hq).1
    rw[<- hnorm,show best=Vt (e+1) ply b h s by omega]
   ·rw[<- hnorm];exact qT6 hply hoks hVok (hdn (hb hq))
   ·rw[<- hnorm];exact qT6 hply hVok hoks (hup (hc hq))
  have fin:∀ e2:Int,EXB b h s ((e+1:Nat):Int) (av best ply) e2->qJJ (e+1) ply x2 x3 bu N n b h s st (ob (qFB b h s ((e+1:Nat):Int) (av best ply) e2 (m0 m) (m1 m) (m2 m) (m3 m) N u' N T') fun (a0,a1,a2,a3)=>
    some (Sum.inr (best,(m :: r).length,true,nd',bu,a0,a1,kof b h s,n,a2,a3,b,h,s,qI b,qL b,x',st',(m :: r).length,m :: r))):=by
   intro e2 he2
   obtain⟨u2,T2,k1,k2⟩:=q3.put hp u' _ _ e2 hm he2
   rw[k1,qA]
   exact⟨best,true,nd',u2,T2,x',st',m :: r,.inr rfl,q1,q2,k2,fun _=>hgood⟩
  rw[show qCo self qB ((e+1:Nat):Int) ply x2 x3 (-60000) 0 x2 M.length (Int.ofNat M.length) 0 (IntKind.wrap .i64 (nd+1)) bu N u (kof b h s) n N T b h s (qI b) (qL b) x st 0 [] M.length M=_ from q4]
  rw[qA,qAH]
  simp only[hdM,List.getD_cons_zero]
  rw[haway,qA,qU (by omega) (by rw[List.length_cons];omega)]
  by_cases hc1:best >= x3
  ·rw[qD (by simpa using hc1)]
   exact fin 1 (hEX 1 (by omega) (fun h=>by omega) (fun _=>by omega) (fun h=>by omega))
  ·rw[qH (by simpa using hc1)]
   by_cases hc2:best<=x2
   ·rw[qD (by simpa using hc2)]
    exact fin 2 (hEX 2 (by omega) (fun h=>by omega) (fun h=>by omega) (fun _=>by omega))
   ·rw[qH (by simpa using hc2)]
    exact fin 0 (hEX 0 (by omega) (fun _=>by omega) (fun h=>by omega) (fun h=>by omega))
theorem qlV {self:Int->Int->Int->Int->Int->Int->Nat->Int->Int->Nat->Nat->List (List Int)->List Int->List Int->Int->List (List Int)->List (List Int)->Nat->List (List Int)->Option ((Int×Nat×Bool×Int×Int×Nat×Int×Int×Nat×Nat×List (List Int)×List Int×List Int×Int×List (List Int)×List (List Int)×Nat×List (List Int)×Nat×List (List Int))⊕(Int×Nat×Bool×Int×Int×Nat×Int×Int×Nat×Nat×List (List Int)×List Int×List Int×Int×List (List Int)×List (List Int)×Nat×List (List Int)×Nat×List (List Int)))} {e ply:Nat} (hself:qJM self e (ply+1)) (hply:e+1+ply<=64) {b h:List Int} {s:Int} (hp:PosP b h s) (h0:(lgL b h s).length≠0)
  (x2 x3 nd bu:Int) (hx2:-60000<=x2) (hx:x2<x3) (hx3:x3<=60000) {N:Nat} (u:Int) {n:Nat} (hn:n<=100+ply) {T:List (List Int)} (hT:TabX N T) (x:Nat) {st:List (List Int)} (hst:n<=st.length) (f t d:Int) (p:Bool):
  qJJ (e+1) ply x2 x3 bu N n b h s st (qCK self ((e+1:Nat):Int) ply x2 x3 nd bu N u (kof b h s) n N T b h s (qI b) (qL b) x st (lgL b h s).length (lgL b h s).length (lgL b h s) f t d p):=by
 have hlen:=qJ0 b h s
 have h4:∀ m∈lgL b h s,Mv4 m:=fun m hm=>(hp.full hm).1
 have base:=qQA hself hply hp h0 (M:=lgL b h s) (fun m=>Iff.rfl) rfl x2 x3 nd bu hx2 hx hx3 u hn hT x hst
 unfold qCK
 rcases qkG h4 (by omega) f t d p with⟨j,h1,h2,h3⟩ | h3
 ·rw[h3,qA]
  by_cases hj:j=0
  ·subst hj
   rw[qH (by decide)]
   exact base
  ·rw[qD (by simp only[decide_eq_true_eq];omega),w_s (n:=(j:Int)+1) (by omega) (by omega),qD (qJw (by omega) (by omega)),qD (by
    have:Int.toNat ((j:Int)+1)=j+1:=by omega
    rw[this]
    simp only[Bool.true_and,decide_eq_true_eq,Int.ofNat_eq_natCast];omega),qD (qJw (by omega) (by omega)),qU (by omega) (by omega),qfl (by omega) h1 (fun m hm=>by rw[(h4 m hm).1];rfl)]
   have:=qQA hself hply hp h0 (M:=qHY (lgL b h s) j [f,t,d,bi p]) (fun m=>qfm h2 m) (qTd h1) x2 x3 nd bu hx2 hx hx3 u hn hT x hst
   rw[qTd h1] at this
   exact this
 ·rw[h3,qA,qH (by decide)]
  exact base
theorem qlW:∀ (d ply:Nat),d+ply<=64->∀ F,qJM (qCP (F+d+1)) d ply:=by
 intro d
 induction d with
 | zero=>
   intro ply hply F x2 x3 nd bu N u n T b h s x st hp hT hst hn hx2 hx hx3
   rw[qCP.eq_2,qYC]
   by_cases hb:nd >= bu
   ·rw[qD (by simpa using hb)]
    exact⟨0,false,nd,u,T,x,st,[],.inl rfl,rfl,hst,hT,(by intro h;cases h)⟩
   rw[qH (by simpa using hb),hp.all,qA]
   simp only
   rw[qFs]
   by_cases h0:(lgL b h s).length=0
   ·rw[qD (by simpa using h0),w_s (n:=(ply:Int) - 30000) (by omega) (by omega)]
    exact⟨_,true,_,u,T,x,st,[],.inl rfl,rfl,hst,hT,fun _=>⟨fun _=>⟨rfl,rfl⟩,by unfold okS;omega,fun _=>by rw[qCt h0];omega,fun _=>by rw[qCt h0];omega,trivial,Nat.zero_le _,fun h=>absurd h0 h⟩⟩
   ·obtain⟨hv,v0,v1⟩:=qex hp
    rw[qH (by simpa using h0),qD (by rfl),hv,qA]
    exact⟨_,true,_,u,T,x,st,[],.inl rfl,rfl,hst,hT,fun _=>⟨fun h=>absurd h h0,.inl ⟨v0,v1⟩,fun _=>by rw[qHX h0];omega,fun _=>by rw[qHX h0];omega,trivial,Nat.zero_le _,fun _ h=>absurd h (by omega)⟩⟩
 | succ e ih=>
   intro ply hply F x2 x3 nd bu N u n T b h s x st hp hT hst hn hx2 hx hx3
   have hself:qJM (qCP (F+(e+1))) e (ply+1):=ih (ply+1) (by omega) F
   rw[qCP.eq_2,qYC]
   by_cases hb:nd >= bu
   ·rw[qD (by simpa using hb)]
    exact⟨0,false,nd,u,T,x,st,[],.inl rfl,rfl,hst,hT,(by intro h;cases h)⟩
   rw[qH (by simpa using hb),hp.all,qA]
   simp only
   rw[qFs]
   by_cases h0:(lgL b h s).length=0
   ·rw[qD (by simpa using h0),w_s (n:=(ply:Int) - 30000) (by omega) (by omega)]
    exact⟨_,true,_,u,T,x,st,[],.inl rfl,rfl,hst,hT,fun _=>⟨fun _=>⟨rfl,rfl⟩,by unfold okS;omega,fun _=>by rw[qCt h0];omega,fun _=>by rw[qCt h0];omega,trivial,Nat.zero_le _,fun h=>absurd h0 h⟩⟩
   rw[qH (by simpa using h0),qH (by rw[beq_eq_false_iff_ne];omega)]
   rcases hT.get (b:=b) (h:=h) (s:=s) u with hget | ⟨e0,e1,e2,m,hget,hm,he⟩
   ·rw[hget,qA]
    simp only[b_f]
    exact qQA hself hply hp h0 (fun _=>Iff.rfl) rfl x2 x3 nd bu hx2 hx hx3 u hn hT x hst
   ·have hX:=qlV hself hply hp h0 x2 x3 nd bu hx2 hx hx3 u hn hT x hst (m0 m) (m1 m) (m2 m) (m3 m)
    obtain⟨dd,hd0,hd1,hd2,hd3,hd4,hd5,hd6,hd7⟩:=he
    have hw:IntKind.wrap .i64 (0 - (ply:Int)) = -(ply:Int):=by rw[w_s (by omega) (by omega)];omega
    have hlo1:-30000<=e1 /\ e1<=30000:=by unfold okS at hd3;omega
    rw[hget,qA]
    simp only[b_t]
    rw[hw,qT7 (x:=e1) (p:=-(ply:Int)) (by omega) (by omega) (by omega) (by omega),qA]
    by_cases hde:e0=((e+1:Nat):Int)
    ·rw [qD (by simpa using hde)]
     by_cases hpl:(ply:Int)>0
     ·rw [qD (by simpa using hpl)]
      have hde2:dd=e+1:=by omega
      subst hde2
      have hsh:=qTb (e+1) ply hply hp
      have hV0:=qFI (e+1) 0 (by omega) hp
      have hRET:((av e1 (-(ply:Int)))<x3->Vt (e+1) ply b h s<=av e1 (-(ply:Int)))->(x2<av e1 (-(ply:Int))->av e1 (-(ply:Int))<=Vt (e+1) ply b h s)->
        qJJ (e+1) ply x2 x3 bu N n b h s st (some (Sum.inl (av e1 (-(ply:Int)),1,true,IntKind.wrap IntKind.i64 (nd+1),bu,N,u,kof b h s,n,N,T,b,h,s,qI b,qL b,x,st,1,[[m0 m,m1 m,m2 m,bi (m3 m)]]))):=by
       intro r1 r2
       rw[<- (hp.full hm).1.1]
       exact⟨_,true,_,u,T,x,st,[m],.inl rfl,rfl,hst,hT,fun _=>⟨fun h=>absurd h h0,qmL hply hd3,r1,r2,⟨hm,trivial⟩,by simp,fun _ _=>by simp⟩⟩
      by_cases z0:e2=0
      ·rw[qD (by simpa using z0)]
       have:=hd4 z0
       rw[this] at hRET ⊢
       rw[<- hsh] at hRET ⊢
       exact hRET (fun _=>Int.le_refl _) (fun _=>Int.le_refl _)
      ·rw[qH (by simpa using z0)]
       by_cases z1:e2=1
       ·rw[qD (by simpa using z1)]
        by_cases z3:av e1 (-(ply:Int)) >= x3
        ·rw[qD (by simpa using z3)]
         refine hRET (fun h=>by omega) (fun _=>?_)
         rw[hsh]
         exact qNu hply hd3 hV0 (hd5 z1)
        ·rw[qH (by simpa using z3),qH (by rw[beq_eq_false_iff_ne];omega)]
         exact hX
       ·rw[qH (by simpa using z1)]
        have z2:e2=2:=by omega
        rw[qD (by simpa using z2)]
        by_cases z3:av e1 (-(ply:Int))<=x2
        ·rw[qD (by simpa using z3)]
         refine hRET (fun _=>?_) (fun h=>by omega)
         rw[hsh]
         exact qNu hply hV0 hd3 (hd6 z2)
        ·rw[qH (by simpa using z3)]
         exact hX
     ·rw[qH (by simpa using hpl)]
      exact hX
    ·rw[qH (by simpa using hde)]
     exact hX
end Go.Kk.Pl
namespace Go.Kk.Pl
def nm (m:List Int):List Int:=[m0 m,m1 m,m2 m,bi (m3 m)]
theorem nm0 (m:List Int):m0 (nm m)=m0 m:=rfl
theorem nm1 (m:List Int):m1 (nm m)=m1 m:=rfl
theorem nm2 (m:List Int):m2 (nm m)=m2 m:=rfl
theorem nm3 (m:List Int):m3 (nm m)=m3 m:=qHg (m3 m)
def lg (b h:List Int) (s:Int) (m:List Int):Bool:=(lgL b h s).contains (nm m)
theorem qkL {b h:List Int} {s:Int} {m:List Int} (hm:lg b h s m=true):nm m∈lgL b h s:=by simpa[lg] using hm
theorem PosP.is {b h:List Int} {s:Int} (hp:PosP b h s) (m:List Int):qD0 (m0 m) (m1 m) (m2 m) (m3 m) b h s (qI b) (qL b)=some (lg b h s m,b,h,s,qI b,qL b):=by
 obtain⟨hc,hs,hno,k,k',hk,hk'⟩:=qG1 hp.len hp.zero
 exact qky hc h hs hk hk' _ _ _ _
theorem PosP.rnext {b h:List Int} {s:Int} (hp:PosP b h s) {m:List Int} (hm:lg b h s m=true):qF7 b h s (m0 m) (m1 m) (m2 m) (m3 m)=some (mbM b s m,mhM b h s m,1 - s):=by
 have:=hp.canP (qkL hm)
 rw[nm0,nm1,nm2,nm3] at this
 exact qQd hp.clean hp.side this
def zB:List Int:=[0,0,0,0,0,0,0,0,0,0,0,0,0,0,0,0,0,0,0,0,0,0,0,0,0,0,0,0,0,0,0,0,0,0,0,0,0,0,0,0,0,0,0,0,0,0,0,0,0,0,0,0,0,0,0,0,0,0,0,0,0,0,0,0,0,0,0,0,0,0,0,0,0,0,0,0,0,0,0,0,0]
end Go.Kk.Pl
namespace Go.Kk.Pl
set_option maxRecDepth 100000
theorem qYO (d:Int):(bif true then bif decide (64<d) then 64 else d else bif decide (64>d) then 64 else d)=min d 64:=by
 simp only[cond_true]
 cases hc:decide (64<d) with
 | true=>have:=of_decide_eq_true hc;simp only[cond_true];omega
 | false=>have:=of_decide_eq_false hc;simp only[cond_false];omega
theorem qX4 {b h:List Int} {s:Int} (hp:PosP b h s) {m:List Int} (hm:m∈lgL b h s):lg b h s m=true:=by
 unfold lg
 rw[show nm m=m from ((hp.full hm).1.1).symm]
 simpa using hm
end Go.Kk.Pl
namespace Go.Kk.Pl
set_option maxRecDepth 100000
def vp (k:Int):Int:=(qDc k).getD 0
def vs (q:Nat):Int:=(qEL (q:Int)).getD 0
def vh (k:Nat):Int:=(qHT (k:Int)).getD 0
theorem qfO {x:Int} (h0:kd x≠0) (h8:kd x≠8):qDc (kd x)=some (vp (kd x)) /\ 0<=vp (kd x) /\ vp (kd x)<=1250:=by
 obtain⟨v,h1,h2,h3⟩:=qfP h0 h8
 have:=(qKv (rw_ (kd x))).2
 unfold vp
 rw[h1]
 exact⟨rfl,h2,by show v<=1250;omega⟩
theorem qTQ {q:Nat} (h:q<81):qEL (q:Int)=some (vs q) /\ 0<=vs q /\ vs q<=4:=by
 obtain⟨v,h1,h2,h3⟩:=qfQ h
 unfold vs
 rw[h1]
 exact⟨rfl,h2,h3⟩
theorem qfM {k:Nat} (h:k<8):qHT (k:Int)=some (vh k) /\ 0<=vh k /\ vh k<=1254:=by
 obtain⟨v,h1,h2,h3⟩:=qfN h
 have:=(qKv (k:Int)).2
 unfold vh
 rw[h1]
 exact⟨rfl,h2,by show v<=1254;omega⟩
def c1 (b:List Int) (s:Int) (i:Nat):Int:=if sd (b.getD i 0)=s /\ kd (b.getD i 0)≠8 then vp (kd (b.getD i 0))+vs i else 0
def SB (b:List Int) (s:Int):Nat->Nat->Int
 | 0,_=>0
 | n+1,i=>c1 b s i+SB b s n (i+1)
def SH (h:List Int) (j:Nat):Nat->Nat->Int
 | 0,_=>0
 | n+1,k=>h.getD (j*8+k) 0*vh k+SH h j n (k+1)
theorem qtn {b:List Int} (hc:Clean b) (x2 x3:List Int) (x4:Int):∀ (n i:Nat),i+n=81->∀ (a0 a1:Int),0<=a0->0<=a1->a0+a1<=1254*i->∀ F,
  qAh (F+n+1) b i x2 x3 x4 [a0,a1]=some (x2,x3,x4,[a0+SB b 0 n i,a1+SB b 1 n i]) /\ 0<=a0+SB b 0 n i /\ 0<=a1+SB b 1 n i /\ a0+SB b 0 n i+(a1+SB b 1 n i)<=1254*81:=by
 intro n
 induction n with
 | zero=>
   intro i hi a0 a1 h0 h1 hs F
   refine⟨?_,by simp only[SB];omega,by simp only[SB];omega,by simp only[SB];omega⟩
   rw[qAh.eq_2]
   unfold qJH
   rw[qY (by omega)]
   simp only[SB,Int.add_zero]
 | succ n ih=>
   intro i hi a0 a1 h0 h1 hs F
   have body:qAh (F+(n+1)+1) b i x2 x3 x4 [a0,a1]=br (decide (sd (b.getD i 0) >= 0))
     (br (kd (b.getD i 0) != 8)
      (br (inB (sd (b.getD i 0)) 2)
       (ob (qDc (kd (b.getD i 0))) fun a12=>ob (qEL i) fun a13=>br (inB (sd (b.getD i 0)) 2)
        (qAh (F+n+1) b ((i+1:Nat):Int) x2 x3 x4 (List.set [a0,a1] (Int.toNat (sd (b.getD i 0))) (IntKind.wrap .i64 (List.getD [a0,a1] (Int.toNat (sd (b.getD i 0))) 0+IntKind.wrap .i64 (a12+a13))))) none) none)
      (qAh (F+n+1) b ((i+1:Nat):Int) x2 x3 x4 [a0,a1]))
     (qAh (F+n+1) b ((i+1:Nat):Int) x2 x3 x4 [a0,a1]):=by
    rw[qAh.eq_2]
    unfold qJH
    rw[qZ (by omega),qU (by omega) (by omega)]
    simp only[cond_true,tn,qCR,qAk,qA]
    rw[w_s (n:=(i:Int)+1) (by omega) (by omega)]
    rfl
   have skip:c1 b 0 i=0->c1 b 1 i=0->qAh (F+n+1) b ((i+1:Nat):Int) x2 x3 x4 [a0,a1]=some (x2,x3,x4,[a0+SB b 0 (n+1) i,a1+SB b 1 (n+1) i]) /\ 0<=a0+SB b 0 (n+1) i /\ 0<=a1+SB b 1 (n+1) i /\ a0+SB b 0 (n+1) i+(a1+SB b 1 (n+1) i)<=1254*81:=by
    intro e0 e1
    simp only[SB,e0,e1,Int.zero_add]
    exact ih (i+1) (by omega) a0 a1 h0 h1 (by omega) F
   rw[body]
   by_cases hk0:kd (b.getD i 0)=0
   ·have hs:sd (b.getD i 0) = -1:=by unfold sd;rw[if_pos hk0]
    rw[hs,qH (by decide)]
    exact skip (by unfold c1;rw[hs,if_neg (by omega)]) (by unfold c1;rw[hs,if_neg (by omega)])
   have hsd:sd (b.getD i 0)=0 \/ sd (b.getD i 0)=1:=by unfold sd;rw[if_neg hk0];split<;>simp
   rw[qD (by rcases hsd with h | h<;>rw[h]<;>decide)]
   by_cases hk8:kd (b.getD i 0)=8
   ·rw[qp hk8]
    exact skip (by unfold c1;rw[if_neg (fun h=>h.2 hk8)]) (by unfold c1;rw[if_neg (fun h=>h.2 hk8)])
   rw[qo hk8]
   obtain⟨hv,v0,v1⟩:=qfO hk0 hk8
   obtain⟨hu,u0,u1⟩:=qTQ (q:=i) (by omega)
   rw[qU (by omega) (by omega),hv,qA,hu,qA,qU (by omega) (by omega),w_s (n:=vp (kd (b.getD i 0))+vs i) (by omega) (by omega)]
   rcases hsd with h | h
   ·have e0:c1 b 0 i=vp (kd (b.getD i 0))+vs i:=by unfold c1;rw[if_pos ⟨h,hk8⟩]
    have e1:c1 b 1 i=0:=by unfold c1;rw[h,if_neg (by omega)]
    rw[h]
    simp only[SB,e0,e1,Int.zero_add]
    have:=ih (i+1) (by omega) (a0+(vp (kd (b.getD i 0))+vs i)) a1 (by omega) h1 (by omega) F
    rw[<- Int.add_assoc a0]
    have e:List.set [a0,a1] (Int.toNat 0) (IntKind.wrap .i64 (List.getD [a0,a1] (Int.toNat 0) 0+(vp (kd (b.getD i 0))+vs i)))=[a0+(vp (kd (b.getD i 0))+vs i),a1]:=by
     show [IntKind.wrap .i64 (a0+(vp (kd (b.getD i 0))+vs i)),a1]=_
     rw[w_s (by omega) (by omega)]
    rw[e]
    exact this
   ·have e1:c1 b 1 i=vp (kd (b.getD i 0))+vs i:=by unfold c1;rw[if_pos ⟨h,hk8⟩]
    have e0:c1 b 0 i=0:=by unfold c1;rw[h,if_neg (by omega)]
    rw[h]
    simp only[SB,e0,e1,Int.zero_add]
    have:=ih (i+1) (by omega) a0 (a1+(vp (kd (b.getD i 0))+vs i)) h0 (by omega) (by omega) F
    rw[<- Int.add_assoc a1]
    have e:List.set [a0,a1] (Int.toNat 1) (IntKind.wrap .i64 (List.getD [a0,a1] (Int.toNat 1) 0+(vp (kd (b.getD i 0))+vs i)))=[a0,a1+(vp (kd (b.getD i 0))+vs i)]:=by
     show [a0,IntKind.wrap .i64 (a1+(vp (kd (b.getD i 0))+vs i))]=_
     rw[w_s (by omega) (by omega)]
    rw[e]
    exact this
theorem qWx {c v:Int} (c0:0<=c) (c1:c<=127) (v0:0<=v) (v1:v<=1254):0<=c*v /\ c*v<=159258:=by
 have h1:c*v<=127*v:=Int.mul_le_mul_of_nonneg_right c1 v0
 have h2:(127:Int)*v<=127*1254:=Int.mul_le_mul_of_nonneg_left v1 (by omega)
 exact⟨Int.mul_nonneg c0 v0,by omega⟩
theorem qez {h:List Int} {j:Nat} (hj:j<2) (hr:∀ k,k<8->0<=h.getD (j*8+k) 0 /\ h.getD (j*8+k) 0<=127) (x1 x5 x6:List Int) (x2 x7:Int):∀ (n k:Nat),k+n=8->∀ (a0 a1:Int),0<=a0->0<=a1->a0+a1<=2000000+200000*k->∀ F,
  qBA (F+n+1) j x1 x2 (List.take 8 (List.drop (j*8) h)) k x5 x6 x7 [a0,a1]=some (x1,x2,x5,x6,x7,if j=0 then [a0+SH h j n k,a1] else [a0,a1+SH h j n k]) /\ 0<=SH h j n k /\ SH h j n k<=159258*n:=by
 intro n
 induction n with
 | zero=>
   intro k hk a0 a1 h0 h1 hs F
   refine⟨?_,by simp[SH],by simp[SH]⟩
   rw[qBA.eq_2]
   unfold qJG
   rw[qY (by omega)]
   simp only[SH,Int.add_zero]
   split<;>rfl
 | succ n ih=>
   intro k hk a0 a1 h0 h1 hs F
   obtain⟨hv,v0,v1⟩:=qfM (k:=k) (by omega)
   obtain⟨c0,cc⟩:=hr k (by omega)
   obtain⟨m0',m1'⟩:=qWx c0 cc v0 v1
   have hrow:=qDV h j k (by omega)
   have body:qBA (F+(n+1)+1) j x1 x2 (List.take 8 (List.drop (j*8) h)) k x5 x6 x7 [a0,a1]=qBA (F+n+1) j x1 x2 (List.take 8 (List.drop (j*8) h)) ((k+1:Nat):Int) x5 x6 x7 (List.set [a0,a1] j (IntKind.wrap .i64 (List.getD [a0,a1] j 0+IntKind.wrap .i64 (h.getD (j*8+k) 0*vh k)))):=by
    rw[qBA.eq_2]
    unfold qJG
    rw[qZ (by omega),qU (by omega) (by omega),qU (by omega) (by omega),hv,qA,qU (by omega) (by omega)]
    simp only[cond_true,tn,c_8]
    rw[w_s (n:=(k:Int)+1) (by omega) (by omega),hrow]
    rfl
   rw[body,w_s (n:=h.getD (j*8+k) 0*vh k) (by omega) (by omega)]
   have hcase:j=0 \/ j=1:=by omega
   rcases hcase with hz | hz<;>subst hz
   ·have e:List.set [a0,a1] 0 (IntKind.wrap .i64 (List.getD [a0,a1] 0 0+h.getD (0*8+k) 0*vh k))=[a0+h.getD (0*8+k) 0*vh k,a1]:=by
     show [IntKind.wrap .i64 (a0+h.getD (0*8+k) 0*vh k),a1]=_
     rw[w_s (by omega) (by omega)]
    rw[e]
    obtain⟨q1,q2,q3⟩:=ih (k+1) (by omega) (a0+h.getD (0*8+k) 0*vh k) a1 (by omega) h1 (by omega) F
    rw[q1]
    simp only[SH]
    refine⟨by simp[Int.add_assoc],by omega,by omega⟩
   ·have e:List.set [a0,a1] 1 (IntKind.wrap .i64 (List.getD [a0,a1] 1 0+h.getD (1*8+k) 0*vh k))=[a0,a1+h.getD (1*8+k) 0*vh k]:=by
     show [a0,IntKind.wrap .i64 (a1+h.getD (1*8+k) 0*vh k)]=_
     rw[w_s (by omega) (by omega)]
    rw[e]
    obtain⟨q1,q2,q3⟩:=ih (k+1) (by omega) a0 (a1+h.getD (1*8+k) 0*vh k) h0 (by omega) (by omega) F
    rw[q1]
    simp only[SH]
    refine⟨by simp[Int.add_assoc],by omega,by omega⟩
def tot (b h:List Int) (j:Nat):Int:=SB b j 81 0+SH h j 8 0
theorem qPT {b h:List Int} {s:Int} (hp:PosP b h s):∀ j,j<2->∀ k,k<8->0<=h.getD (j*8+k) 0 /\ h.getD (j*8+k) 0<=127:=by
 intro j hj k hk
 have h1:=(qLI.1 (qKy hp.zero)).hands k hk j hj
 have h2:=hp.fits (j*8+k)
 unfold bsH at h1
 have h1:=of_decide_eq_false h1
 omega
theorem qtl {b h:List Int} {s:Int} (hp:PosP b h s):vOf b h s=(if s=1 then tot b h 1 - tot b h 0 else tot b h 0 - tot b h 1) /\ 0<=SB b 0 81 0 /\ 0<=SB b 1 81 0 /\ SB b 0 81 0+SB b 1 81 0<=1254*81 /\ 0<=SH h 0 8 0 /\ SH h 0 8 0<=1274064 /\ 0<=SH h 1 8 0 /\ SH h 1 8 0<=1274064:=by
 obtain⟨g,hg⟩:=qe 81 (by omega)
 obtain⟨g8,hg8⟩:=qe 8 (by omega)
 obtain⟨g2,hg2⟩:=qe 2 (by omega)
 obtain⟨e5,p1,p2,p3⟩:=qtn hp.clean b h s 81 0 (by omega) 0 0 (by omega) (by omega) (by omega) g
 simp only[Int.zero_add] at e5 p1 p2 p3
 rw[<- hg] at e5
 obtain⟨f5,f1,f2⟩:=qez (j:=0) (by omega) (qPT hp 0 (by omega)) h b h 0 s 8 0 (by omega) (SB b 0 81 0) (SB b 1 81 0) p1 p2 (by omega) g8
 rw[<- hg8,if_pos rfl] at f5
 obtain⟨k5,k1,k2⟩:=qez (j:=1) (by omega) (qPT hp 1 (by omega)) h b h 1 s 8 0 (by omega) (SB b 0 81 0+SH h 0 8 0) (SB b 1 81 0) (by omega) p2 (by omega) g8
 rw[<- hg8,if_neg (by omega)] at k5
 refine⟨?_,p1,p2,p3,f1,by omega,k1,by omega⟩
 have e10:qDC qB h 0 b h s [SB b 0 81 0,SB b 1 81 0]=some (b,h,s,[SB b 0 81 0+SH h 0 8 0,SB b 1 81 0+SH h 1 8 0]):=by
  rw[hg2,qDC.eq_2]
  unfold qGT
  rw[qZ (by omega),qU (by omega) (by omega)]
  have:qBA qB 0 h 0 (List.take 8 (List.drop (Nat.add (Nat.mul (Int.toNat 0) 7) (Int.toNat 0)) h)) 0 b h s [SB b 0 81 0,SB b 1 81 0]=_:=f5
  rw[this,qA]
  simp only
  rw[show IntKind.wrap .i64 ((0:Int)+1)=1 by rfl,qDC.eq_2]
  unfold qGT
  rw[qZ (by omega),qU (by omega) (by omega)]
  have:qBA qB 1 h 1 (List.take 8 (List.drop (Nat.add (Nat.mul (Int.toNat 1) 7) (Int.toNat 1)) h)) 0 b h s [SB b 0 81 0+SH h 0 8 0,SB b 1 81 0]=_:=k5
  rw[this,qA]
  simp only
  rw[show IntKind.wrap .i64 ((1:Int)+1)=2 by rfl,qDC.eq_2]
  unfold qGT
  rw[qY (by omega)]
 unfold vOf qDb tot
 have e5':qAh qB b 0 b h s [0,0]=some (b,h,s,[SB b 0 81 0,SB b 1 81 0]):=e5
 rw[e5',qA]
 simp only
 rw[e10,qA]
 simp only
 show (br (s==1) (some (IntKind.wrap .i64 ((SB b 1 81 0+SH h 1 8 0) - (SB b 0 81 0+SH h 0 8 0)))) (some (IntKind.wrap .i64 ((SB b 0 81 0+SH h 0 8 0) - (SB b 1 81 0+SH h 1 8 0))))).getD 0=_
 rw[w_s (by omega) (by omega),w_s (by omega) (by omega)]
 by_cases hs:s=1
 ·rw[qD (by simpa using hs),if_pos hs];rfl
 ·rw[qH (by simpa using hs),if_neg hs];rfl
def P17:List Int:=[0,100,300,350,500,550,850,950,0,600,550,550,550,0,1100,1250]
theorem qm8:∀ n:Fin 32,kd (n.val:Int)=0 \/ kd (n.val:Int)=8 \/ (kd (n.val:Int)<16 /\ P17.getD (kd (n.val:Int)).toNat 0=vp (kd (n.val:Int))):=by decide +kernel
theorem qm9 {x:Int} (h0:kd x≠0) (h8:kd x≠8):0<=kd x /\ kd x<16 /\ P17.getD (kd x).toNat 0=vp (kd x):=by
 have hx:0<=x /\ x<=31:=by
  unfold kd at h0
  split at h0
  ·exact absurd rfl h0
  ·omega
 have hk:0<=kd x:=by unfold kd;split<;>omega
 obtain⟨n,hn⟩:=qLT hx.1 hx.2
 subst hn
 rcases qm8 n with h | h | h
 ·exact absurd h h0
 ·exact absurd h h8
 ·exact⟨hk,h⟩
theorem qqc:∀ n:Fin 81,qKT (n.val:Int)=qEL (n.val:Int):=by decide +kernel
theorem qqd {q:Nat} (h:q<81):qKT (q:Int)=some (vs q):=by
 rw[qqc ⟨q,h⟩]
 exact (qTQ h).1
theorem qqP:∀ n:Fin 8,n.val=0 \/ IntKind.wrap .i64 (P17.getD n.val 0+IntKind.wrap .i64 (Int.tdiv (P17.getD n.val 0) 10))=vh n.val:=by decide +kernel
theorem qt8:vh 0=0:=by decide +kernel
theorem qqa {b:List Int} (_hc:Clean b) (j:Nat) (hj:j<2) (x4:List Int) (x5:Int):∀ (n i:Nat),i+n=81->∀ (a:Int),0<=a->a<=1254*i->∀ F,
  qEy (F+n+1) j a i b x4 x5=some ((j:Int),a+SB b j n i,b,x4,x5) /\ 0<=a+SB b j n i /\ a+SB b j n i<=1254*81:=by
 intro n
 induction n with
 | zero=>
   intro i hi a h0 h1 F
   refine⟨?_,by simp only[SB];omega,by simp only[SB];omega⟩
   rw[qEy.eq_2]
   unfold qMg
   rw[qY (by omega)]
   simp only[SB,Int.add_zero]
 | succ n ih=>
   intro i hi a h0 h1 F
   have skip:c1 b j i=0->qEy (F+n+1) j a ((i+1:Nat):Int) b x4 x5=some ((j:Int),a+SB b j (n+1) i,b,x4,x5) /\ 0<=a+SB b j (n+1) i /\ a+SB b j (n+1) i<=1254*81:=by
    intro e0
    simp only[SB,e0,Int.zero_add]
    exact ih (i+1) (by omega) a h0 (by omega) F
   rw[qEy.eq_2]
   unfold qMg
   rw[qZ (by omega),qU (by omega) (by omega)]
   simp only[tn,c_8,qEA,qBp,qA]
   rw[w_s (n:=(i:Int)+1) (by omega) (by omega),show (i:Int)+1=((i+1:Nat):Int) by omega]
   by_cases hs:sd (b.getD i 0)=j
   ·rw[qD (by simpa using hs)]
    by_cases hk8:kd (b.getD i 0)=8
    ·rw[qp hk8]
     exact skip (by unfold c1;rw[if_neg (fun h=>h.2 hk8)])
    ·rw[qo hk8]
     have hk0:kd (b.getD i 0)≠0:=by
      intro h
      unfold sd at hs
      rw[if_pos h] at hs
      omega
     obtain⟨q0,q1,q2⟩:=qm9 hk0 hk8
     obtain⟨_,v0,v1⟩:=qfO hk0 hk8
     obtain⟨_,u0,u1⟩:=qTQ (q:=i) (by omega)
     have e0:c1 b j i=vp (kd (b.getD i 0))+vs i:=by unfold c1;rw[if_pos ⟨hs,hk8⟩]
     unfold qG5
     rw[qA]
     simp only
     rw[qU (by omega) (by omega),qqd (by omega),qA]
     rw[show List.getD [0,100,300,350,500,550,850,950,0,600,550,550,550,0,1100,1250] (Int.toNat (kd (b.getD i 0))) 0=vp (kd (b.getD i 0)) from q2]
     rw[w_s (n:=vp (kd (b.getD i 0))+vs i) (by omega) (by omega),w_s (n:=a+(vp (kd (b.getD i 0))+vs i)) (by omega) (by omega)]
     simp only[SB,e0]
     have h9:=ih (i+1) (by omega) (a+(vp (kd (b.getD i 0))+vs i)) (by omega) (by omega) F
     rw[show a+(vp (kd (b.getD i 0))+vs i+SB b j n (i+1))=a+(vp (kd (b.getD i 0))+vs i)+SB b j n (i+1) by omega]
     exact h9
   ·rw[qH (by simpa using hs)]
    exact skip (by unfold c1;rw[if_neg (fun h=>hs h.1)])
theorem qqb {h:List Int} {j:Nat} (hj:j<2) (hr:∀ k,k<8->0<=h.getD (j*8+k) 0 /\ h.getD (j*8+k) 0<=127) (x3:List Int) (x5:Int):∀ (n k:Nat),k+n=8->0<k->∀ (a:Int),0<=a->a<=2000000+200000*k->∀ F,
  qGD (F+n+1) j a k x3 h x5=some (a+SH h j n k):=by
 intro n
 induction n with
 | zero=>
   intro k hk _ a h0 h1 F
   rw[qGD.eq_2]
   unfold qMh
   rw[qGd (by omega)]
   simp only[SH,Int.add_zero]
 | succ n ih=>
   intro k hk hk0 a h0 h1 F
   obtain⟨hv,v0,v1⟩:=qfM (k:=k) (by omega)
   obtain⟨c0,cc⟩:=hr k (by omega)
   obtain⟨m0',m1'⟩:=qWx c0 cc v0 v1
   have hq:IntKind.wrap .i64 (P17.getD k 0+IntKind.wrap .i64 (Int.tdiv (P17.getD k 0) 10))=vh k:=by
    rcases qqP ⟨k,by omega⟩ with h | h
    ·simp only at h;omega
    ·exact h
   unfold P17 at hq
   rw[qGD.eq_2]
   unfold qMh
   unfold qG5
   rw[qGc (by omega),qU (by omega) (by omega),qU (by omega) (by omega),qA]
   simp only
   rw[qU (by omega) (by omega),qA]
   simp only
   rw[qU (by omega) (by omega)]
   simp only[tn,c_8]
   rw[hq,w_s (n:=(k:Int)+1) (by omega) (by omega),show (k:Int)+1=((k+1:Nat):Int) by omega,w_s (n:=h.getD (j*8+k) 0*vh k) (by omega) (by omega),w_s (n:=a+h.getD (j*8+k) 0*vh k) (by omega) (by omega)]
   simp only[SH]
   have h9:=ih (k+1) (by omega) (by omega) (a+h.getD (j*8+k) 0*vh k) (by omega) (by omega) F
   rw[show a+(h.getD (j*8+k) 0*vh k+SH h j n (k+1))=a+h.getD (j*8+k) 0*vh k+SH h j n (k+1) by omega]
   exact h9
theorem qcK {b h:List Int} {s:Int} (hp:PosP b h s) (j:Nat) (hj:j<2):qD9 b h s j=some (tot b h j):=by
 obtain⟨g,hg⟩:=qe 81 (by omega)
 obtain⟨g7,hg7⟩:=qe 7 (by omega)
 obtain⟨e1,e2,e3⟩:=qqa hp.clean j hj h s 81 0 (by omega) 0 (by omega) (by omega) g
 rw[Int.zero_add] at e1 e2 e3
 rw[<- hg] at e1
 have e4:=qqb hj (qPT hp j hj) b s 7 1 (by omega) (by omega) (SB b j 81 0) e2 (by omega) g7
 rw[<- hg7] at e4
 unfold qD9
 rw[show qEy qB (j:Int) 0 0 b h s=_ from e1,qA]
 simp only
 rw[show qGD qB (j:Int) (SB b j 81 0) 1 b h s=_ from e4,qA]
 unfold tot
 have:SH h j 8 0=SH h j 7 1:=by
  show h.getD (j*8+0) 0*vh 0+SH h j 7 (0+1)=_
  rw[qt8,Int.mul_zero,Int.zero_add]
 rw[this]
theorem qno {b h:List Int} {s:Int} (hp:PosP b h s):qKS b h s=some (vOf b h s):=by
 obtain⟨h0,p1,p2,p3,p4,p5,p6,p7⟩:=qtl hp
 have t0:=qcK hp 0 (by omega)
 have t1:=qcK hp 1 (by omega)
 have t0:qD9 b h s 0=some (tot b h 0):=t0
 have t1:qD9 b h s 1=some (tot b h 1):=t1
 unfold qKS
 rw[t0,t1,h0]
 unfold tot
 simp only[show ((0:Nat):Int)=0 from rfl,show ((1:Nat):Int)=1 from rfl]
 by_cases hs:s=1
 ·rw[qD (by simpa using hs),if_pos hs,qA,qA,w_s (by omega) (by omega)]
 ·rw[qH (by simpa using hs),if_neg hs,qA,qA,w_s (by omega) (by omega)]
def qNZ (best:List Int->List Int->Int->Int->Int->Int->Option (Int×Int)) (d ply:Nat):Prop:=
 ∀ (b h:List Int) (s bud:Int),PosP b h s->0<=bud->bud<=1000->∃ x left,best b h s d ply bud=some (x,left) /\ -1<=left /\ left<=bud /\ (0<=left->x=Vt d ply b h s)
theorem qgf {self:List Int->List Int->Int->Int->Int->Int->Option (Int×Int)} {e ply:Nat} (hself:qNZ self e (ply+1)) (hply:e+1+ply<=64) {b h:List Int} {s:Int} (hp:PosP b h s):∀ (k i:Nat),i+k=(lgL b h s).length->∀ (best bud:Int),0<=bud->bud<=1000->-100000<=best->best<=100000->∀ F,
  (∃ l z,l<0 /\ -1<=l /\ qCm self (F+k+1) ((e+1:Nat):Int) ply bud (lgL b h s).length best i b h s (lgL b h s).length (lgL b h s)=some (.inl (l,0,l,z))) \/
  (∃ bud',0<=bud' /\ bud'<=1000 /\ bud'<=bud /\ qCm self (F+k+1) ((e+1:Nat):Int) ply bud (lgL b h s).length best i b h s (lgL b h s).length (lgL b h s)=some (.inr (bud',max best (mxI (((lgL b h s).drop i).map (VA e ply b h s)))))):=by
 have hlen:=qJ0 b h s
 intro k
 induction k with
 | zero=>
   intro i hi best bud h0 h1 hb0 hb1 F
   refine .inr ⟨bud,h0,h1,Int.le_refl _,?_⟩
   rw[qCm.eq_2]
   unfold qMf
   rw[qY (by simp only[Int.ofNat_eq_natCast];omega),List.drop_eq_nil_of_le (by omega)]
   show _=some (Sum.inr (bud,max best (-100000)))
   rw[show max best (-100000)=best by omega]
 | succ k ih=>
   intro i hi best bud h0 h1 hb0 hb1 F
   have hil:i<(lgL b h s).length:=by omega
   have hm:(lgL b h s)[i]∈lgL b h s:=List.getElem_mem hil
   have hp2:=hp.after hm
   have hlg:=qX4 hp hm
   obtain⟨x,left,hx,l0,l1,l2⟩:=hself _ _ _ bud hp2 h0 h1
   have hok:=qJ9 (qFI e (ply+1) (by omega) hp2)
   have hdr:((lgL b h s).drop i).map (VA e ply b h s)=VA e ply b h s (lgL b h s)[i] :: ((lgL b h s).drop (i+1)).map (VA e ply b h s):=by
    rw[List.drop_eq_getElem_cons hil];rfl
   have body:qCm self (F+(k+1)+1) ((e+1:Nat):Int) ply bud (lgL b h s).length best i b h s (lgL b h s).length (lgL b h s) =
     br (decide (left<0)) (some (.inl (left,0,left,best)))
      (br (decide (IntKind.wrap .i64 (0 - x)>best))
       (qCm self (F+k+1) ((e+1:Nat):Int) ply left (lgL b h s).length (IntKind.wrap .i64 (0 - x)) ((i+1:Nat):Int) b h s (lgL b h s).length (lgL b h s))
       (qCm self (F+k+1) ((e+1:Nat):Int) ply left (lgL b h s).length best ((i+1:Nat):Int) b h s (lgL b h s).length (lgL b h s))):=by
    rw[qCm.eq_2]
    unfold qMf
    rw[qZ (by simp only[Int.ofNat_eq_natCast];omega),qU (by omega) (by omega),tn,atL hil]
    simp only[hdM]
    rw[hp.rnext hlg,qA]
    simp only
    rw[w_s (n:=((e+1:Nat):Int) - 1) (by omega) (by omega),w_s (n:=(ply:Int)+1) (by omega) (by omega),show ((e+1:Nat):Int) - 1=(e:Int) by omega,show (ply:Int)+1=((ply+1:Nat):Int) by omega,hx,qA]
    simp only
    rw[w_s (n:=(i:Int)+1) (by omega) (by omega)]
    rfl
   rw[body]
   by_cases hl:left<0
   ·rw[qD (by simpa using hl)]
    exact .inl ⟨left,best,hl,l0,rfl⟩
   ·rw[qH (by simpa using hl)]
    have hxV:=l2 (by omega)
    have hVA:VA e ply b h s (lgL b h s)[i] = -x:=by rw[hxV];rfl
    have hxr:-30000 <= -x /\ -x<=30000:=by rw[<- hVA];unfold okS at hok;unfold VA;omega
    have hw:IntKind.wrap .i64 (0 - x) = -x:=by rw[w_s (by omega) (by omega)];omega
    rw[hw,hdr,hVA]
    by_cases hgt:-x>best
    ·rw[qD (by simpa using hgt)]
     rcases ih (i+1) (by omega) (-x) left (by omega) (by omega) (by omega) (by omega) F with q | ⟨bud',q0,q1,q2,q3⟩
     ·exact .inl q
     ·refine .inr ⟨bud',q0,q1,by omega,?_⟩
      rw[q3]
      show some (Sum.inr (bud',max (-x) (mxI _)))=some (Sum.inr (bud',max best (max (-x) (mxI _))))
      rw[show max best (max (-x) (mxI (((lgL b h s).drop (i+1)).map (VA e ply b h s))))=max (-x) (mxI (((lgL b h s).drop (i+1)).map (VA e ply b h s))) by omega]
    ·rw[qH (by simpa using hgt)]
     rcases ih (i+1) (by omega) best left (by omega) (by omega) hb0 hb1 F with q | ⟨bud',q0,q1,q2,q3⟩
     ·exact .inl q
     ·refine .inr ⟨bud',q0,q1,by omega,?_⟩
      rw[q3]
      show some (Sum.inr (bud',max best (mxI _)))=some (Sum.inr (bud',max best (max (-x) (mxI _))))
      rw[show max best (max (-x) (mxI (((lgL b h s).drop (i+1)).map (VA e ply b h s))))=max best (mxI (((lgL b h s).drop (i+1)).map (VA e ply b h s))) by omega]
theorem qgg:∀ (d ply:Nat),d+ply<=64->∀ F,qNZ (qBo (F+d+1)) d ply:=by
 intro d
 induction d with
 | zero=>
   intro ply hply F b h s bud hp h0 h1
   rw[qBo.eq_2]
   unfold qRk
   rw[w_s (n:=bud - 1) (by omega) (by omega)]
   by_cases hb:bud - 1<0
   ·rw[qD (by simpa using hb)]
    exact⟨_,_,rfl,by omega,by omega,fun h=>by omega⟩
   rw[qH (by simpa using hb),qcD hp.clean h hp.side,qA,<- hp.lists]
   simp only
   rw[qFs]
   by_cases hz:(lgL b h s).length=0
   ·rw[qD (by simpa using hz),w_s (n:=(ply:Int) - 30000) (by omega) (by omega)]
    exact⟨_,_,rfl,by omega,by omega,fun _=>(qCt hz).symm⟩
   ·rw[qH (by simpa using hz),qGc (by omega),qno hp,qA]
    exact⟨_,_,rfl,by omega,by omega,fun _=>(qHX hz).symm⟩
 | succ e ih=>
   intro ply hply F b h s bud hp h0 h1
   have hlen:=qJ0 b h s
   have hself:qNZ (qBo (F+(e+1))) e (ply+1):=ih (ply+1) (by omega) F
   rw[qBo.eq_2]
   unfold qRk
   rw[w_s (n:=bud - 1) (by omega) (by omega)]
   by_cases hb:bud - 1<0
   ·rw[qD (by simpa using hb)]
    exact⟨_,_,rfl,by omega,by omega,fun h=>by omega⟩
   rw[qH (by simpa using hb),qcD hp.clean h hp.side,qA,<- hp.lists]
   simp only
   rw[qFs]
   by_cases hz:(lgL b h s).length=0
   ·rw[qD (by simpa using hz),w_s (n:=(ply:Int) - 30000) (by omega) (by omega)]
    exact⟨_,_,rfl,by omega,by omega,fun _=>(qCt hz).symm⟩
   rw[qH (by simpa using hz),qGd (by omega)]
   obtain⟨g,hg⟩:=qe (lgL b h s).length (by omega)
   have hgo:=qgf hself hply hp (lgL b h s).length 0 (by omega) (-100000) (bud - 1) (by omega) (by omega) (by omega) (by omega) g
   rw[<- hg] at hgo
   rcases hgo with⟨l,z,q0,q1,q2⟩ | ⟨bud',q0,q1,q2,q3⟩
   ·rw[show qCm (qBo (F+(e+1))) qB ((e+1:Nat):Int) ply (bud - 1) (lgL b h s).length (-100000) 0 b h s (lgL b h s).length (lgL b h s)=_ from q2,qA,qFA]
    exact⟨0,l,rfl,q1,by omega,fun h=>by omega⟩
   ·rw[show qCm (qBo (F+(e+1))) qB ((e+1:Nat):Int) ply (bud - 1) (lgL b h s).length (-100000) 0 b h s (lgL b h s).length (lgL b h s)=_ from q3,qA,qAH]
    refine⟨_,_,rfl,by omega,by omega,fun _=>?_⟩
    have hV:Vt (e+1) ply b h s=mxI ((lgL b h s).map (VA e ply b h s)):=by
     unfold Vt
     rw[if_neg hz]
     rfl
    have hok:=qFI (e+1) ply hply hp
    rw[hV] at hok ⊢
    rw[List.drop_zero]
    unfold okS at hok
    omega
end Go.Kk.Pl
namespace Go.Kk.Pl
set_option maxRecDepth 100000
structure LineX (b h:List Int) (s:Int) (dep:Nat) (sc:Int) (lo ln:Nat) (R:List (List Int)):Prop where
 play:qGX b h s ((R.drop lo).take ln)
 len:((R.drop lo).take ln).length=ln
 pos:0<ln
 exact_:0<dep->sc=Vt dep 0 b h s
theorem LineX.startX {b h:List Int} {s:Int} (h0:(lgL b h s).length≠0):LineX b h s 0 0 0 1 (lgL b h s):=by
 cases hL:lgL b h s with
 | nil=>rw[hL] at h0;exact absurd rfl h0
 | cons m r=>
   refine⟨?_,by simp,by omega,fun h=>absurd h (by omega)⟩
   show qGX b h s [m]
   exact⟨by rw[hL];simp,trivial⟩
theorem LineX.stepX {b h:List Int} {s:Int} (h0:(lgL b h s).length≠0) {d:Nat} (hd:0<d) (hd2:d<=64) {sc:Int} {L:List (List Int)} (hg:GoodX d 0 b h s (-60000) 60000 sc L):LineX b h s d sc 0 L.length L:=by
 have e:(L.drop 0).take L.length=L:=by simp
 have hlive:=hg.live h0 hd
 have hoks:=hg.oks
 have hup:=hg.up
 have hdn:=hg.dn
 refine⟨by rw[e];exact hg.play,by rw[e],?_,fun _=>?_⟩
 ·cases L with
  | nil=>exact absurd rfl hlive
  | cons m r=>simp
 ·unfold okS at hoks
  have:=hup (by omega)
  have:=hdn (by omega)
  omega
theorem qtQ {b h:List Int} {s:Int} (hp:PosP b h s) (h0:(lgL b h s).length≠0) (dq bu:Int) (N K:Nat) (hK:K<=64) (hq:min dq 64=(K:Int)) (z0 z1:Int) (z2:Nat) (z3:Int) (z4:Bool) (nn:Int) (z5:Nat) (z6:List (List Int)):
  ∀ (k i:Nat),i+k=K+1->0<i->∀ (nd u:Int) (T:List (List Int)) (sc:Int) (lo ln:Nat) (x:Nat) (st:List (List Int)) (rn:Nat) (R:List (List Int)),TabX N T->LineX b h s (i - 1) sc lo ln R->∀ F,
    ∃ (nd' u':Int) (T':List (List Int)) (dep:Nat) (sc':Int) (lo' ln':Nat) (stop:Bool) (x':Nat) (st':List (List Int)) (rn':Nat) (R':List (List Int)),
      qDW (F+k+1) dq i nd bu N u N T (kof b h s) 0 z0 z1 z2 z3 z4 ((i:Int) - 1) sc lo ln nn false b h s (qI b) (qL b) x st z5 z6 rn R =
       some (nd',bu,N,u',N,T',kof b h s,0,z0,z1,z2,z3,z4,(dep:Int),sc',lo',ln',nn,stop,b,h,s,qI b,qL b,x',st',z5,z6,rn',R') /\ TabX N T' /\ LineX b h s dep sc' lo' ln' R' /\ (stop=false->dep=K \/ dep=i - 1 /\ K<i) /\ (stop=true->dep<K):=by
 intro k
 induction k with
 | zero=>
   intro i hi hi0 nd u T sc lo ln x st rn R hT hL F
   refine⟨nd,u,T,i - 1,sc,lo,ln,false,x,st,rn,R,?_,hT,hL,fun _=>.inr ⟨rfl,by omega⟩,(by intro h;cases h)⟩
   rw[qDW.eq_2]
   unfold qKY
   rw[qYO,hq,qGd (by omega),show (i:Int) - 1=((i - 1:Nat):Int) by omega]
 | succ k ih=>
   intro i hi hi0 nd u T sc lo ln x st rn R hT hL F
   obtain⟨g,hg⟩:=qe i (by omega)
   obtain⟨sc2,ok,nd2,u2,T2,x2,st2,L2,hcall,h1,h2,h3,h4⟩:=qlW i 0 (by omega) g (-60000) 60000 nd bu N u 0 T b h s x st hp hT (Nat.zero_le _) (by omega) (by omega) (by omega) (by omega)
   rw[<- hg] at hcall
   have body:qDW (F+(k+1)+1) dq i nd bu N u N T (kof b h s) 0 z0 z1 z2 z3 z4 ((i:Int) - 1) sc lo ln nn false b h s (qI b) (qL b) x st z5 z6 rn R =
     br (!ok) (some (nd2,bu,N,u2,N,T2,kof b h s,0,z0,z1,z2,z3,z4,(i:Int) - 1,sc,lo,ln,nn,true,b,h,s,qI b,qL b,x2,st2,z5,z6,rn,R))
      (qDW (F+k+1) dq ((i+1:Nat):Int) nd2 bu N u2 N T2 (kof b h s) 0 z0 z1 z2 z3 z4 (((i+1:Nat):Int) - 1) sc2 0 L2.length nn false b h s (qI b) (qL b) x2 st2 z5 z6 L2.length L2):=by
    rw[qDW.eq_2]
    unfold qKY
    rw[qYO,hq,qGc (by omega),w_s (n:=(i:Int)+1) (by omega) (by omega),show (((i+1:Nat):Int) - 1)=(i:Int) by omega,show (i:Int)+1=((i+1:Nat):Int) by omega]
    rcases hcall with hcall | hcall
    ·rw[show qCP qB (i:Int) 0 (-60000) 60000 nd bu N u (kof b h s) 0 N T b h s (qI b) (qL b) x st=_ from hcall,qA,qFA]
     rfl
    ·rw[show qCP qB (i:Int) 0 (-60000) 60000 nd bu N u (kof b h s) 0 N T b h s (qI b) (qL b) x st=_ from hcall,qA,qAH]
     rfl
   rw[body]
   cases ok with
   | false=>
     refine⟨nd2,u2,T2,i - 1,sc,lo,ln,true,x2,st2,rn,R,?_,h3,hL,(by intro h;cases h),fun _=>by omega⟩
     rw[Bool.not_false,b_t,show (i:Int) - 1=((i - 1:Nat):Int) by omega]
   | true=>
     rw[Bool.not_true,b_f]
     have hL2:=LineX.stepX h0 hi0 (by omega) (h4 rfl)
     obtain⟨nd',u',T',dep,sc',lo',ln',stop,x',st',rn',R',q1,q2,q3,q4,q5⟩:=ih (i+1) (by omega) (by omega) nd2 u2 T2 sc2 0 L2.length x2 st2 L2.length L2 h3 hL2 F
     refine⟨nd',u',T',dep,sc',lo',ln',stop,x',st',rn',R',q1,q2,q3,fun h=>?_,q5⟩
     rcases q4 h with q | ⟨q,q'⟩
     ·exact .inl q
     ·exact .inl (by omega)
theorem qtR {b h:List Int} {s:Int} (hp:PosP b h s) (bu x5 x6:Int) {N:Nat} (u:Int) {T:List (List Int)} (hT:TabX N T):
  (qE1 b h s 2 bu x5 x6 N u N T=some (.inl (0,-30000,0,0,false,0,bu,N,u,N,T,0,[])) /\ (lgL b h s).length=0) \/
  ((lgL b h s).length≠0 /\ ∃ (dep:Nat) (sc:Int) (lo ln:Nat) (nd:Int) (stop:Bool) (nd' u':Int) (T':List (List Int)) (rn:Nat) (R:List (List Int)),
   qE1 b h s 2 bu x5 x6 N u N T=some (.inr ((dep:Int),sc,lo,ln,nd,stop,nd',bu,N,u',N,T',rn,R)) /\ TabX N T' /\ LineX b h s dep sc lo ln R /\ (stop=false->dep=2) /\ (stop=true->dep<2)):=by
 unfold qE1
 rw[qWv hp.clean,qA]
 simp only
 rw[hp.all,qA]
 simp only
 rw[qFs]
 by_cases h0:(lgL b h s).length=0
 ·rw[qD (by simpa using h0)]
  exact .inl ⟨rfl,h0⟩
 ·rw[qH (by simpa using h0),qD (qJw (by omega) (by omega)),qD (by simp;omega)]
  refine .inr ⟨h0,?_⟩
  obtain⟨g,hg⟩:=qe 2 (by omega)
  obtain⟨nd',u',T',dep,sc',lo',ln',stop,x',st',rn',R',q1,q2,q3,q4,q5⟩:=qtQ hp h0 2 bu N 2 (by omega) (by decide) 0 0 0 0 false 0 0 [] 2 1 (by omega) (by omega) 0 u T 0 0 1 0 [] (lgL b h s).length (lgL b h s) hT (LineX.startX h0) g
  rw[<- hg] at q1
  rw[show qDW qB 2 1 0 bu N u N T (kof b h s) 0 0 0 0 0 false 0 0 0 1 0 false b h s (qI b) (qL b) 0 [] 0 [] (lgL b h s).length (lgL b h s)=_ from q1,qA]
  refine⟨dep,sc',lo',ln',_,stop,_,_,T',rn',R',rfl,q2,q3,fun hs=>?_,q5⟩
  rcases q4 hs with q | ⟨q,q'⟩
  ·omega
  ·omega
theorem quI (N K:Nat) (hK:K<=4):∀ (k i:Nat),i+k=K->∀ (b h:List Int) (s:Int) (nd bu u:Int) (T:List (List Int)),PosP b h s->TabX N T->∀ F,
  qCT (F+k+1) K i b h s nd bu N u N T=some (.inl true) \/ qCT (F+k+1) K i b h s nd bu N u N T=some (.inr ()):=by
 intro k
 induction k with
 | zero=>
   intro i hi b h s nd bu u T hp hT F
   refine .inr ?_
   rw[qCT.eq_2]
   unfold qNO
   rw[qY (by omega)]
 | succ k ih=>
   intro i hi b h s nd bu u T hp hT F
   rw[qCT.eq_2]
   unfold qNO
   rw[qZ (by omega),qJ6 hp.len,qJh hp.clean,qA]
   simp only
   rw[hp.all,qA]
   simp only
   rcases qtR hp 3000 nd bu u hT with⟨e,h0⟩ | ⟨h0,dep,sc,l,ln,nd1,stop,nd',u',T',rn,R,e,hT',hL,hd1,hd2⟩
   ·rw[e,qA,qFA]
    simp only
    rw[qFs,qD (by simpa using h0),qD (by rfl)]
    exact .inl rfl
   ·rw [e,qA,qAH]
    simp only
    rw[qFs,qH (by simpa using h0)]
    cases stop with
    | true=>
      rw[b_t]
      refine .inl ?_
      have:=hd2 rfl
      rw[show decide ((dep:Int)<2)=true by simp only[decide_eq_true_eq];omega]
    | false=>
      rw[b_f]
      have hdep:=hd1 rfl
      subst hdep
      have hsc:=hL.exact_ (by omega)
      have hpos:=hL.pos
      obtain⟨g,hg⟩:=qe 2 (by omega)
      obtain⟨x,left,hx,l0,l1,l2⟩:=qgg 2 0 (by omega) g b h s 400 hp (by omega) (by omega)
      rw[<- hg] at hx
      rw[show qBo qB b h s 2 0 400=_ from hx,qA]
      have hlt:l<R.length:=by
       have:=hL.len
       rw[List.length_take,List.length_drop] at this;omega
      have hfirst:(R.drop l).take ln=R[l] :: (R.drop (l+1)).take (ln - 1):=by
       rw[List.drop_eq_getElem_cons hlt]
       obtain⟨n',hn'⟩:∃ n',ln=n'+1:=⟨ln - 1,by omega⟩
       subst hn'
       rfl
      have hmem:R[l]∈lgL b h s:=by
       have:=hL.play
       rw[hfirst] at this
       exact this.1
      have hp2:=hp.after hmem
      have hcan:=qYT (hp.full hmem).2
      have hlg:=qX4 hp hmem
      have hck:qCY (mb b s (m0 R[l]) (m1 R[l]) (m2 R[l]) (m3 R[l])) (mh b h s (m1 R[l]) (m2 R[l])) (1 - s)=some 0:=by
       have:=qNh hp2.len hp2.fits (1 - s)
       rw[hp2.zero] at this
       exact this
      have rest:∀ W:Option (Bool⊕Unit),W=qCT (F+k+1) K ((i+1:Nat):Int) (mbM b s R[l]) (mhM b h s R[l]) (1 - s) nd' 3000 N u' N T'->W=some (.inl true) \/ W=some (.inr ()):=by
       intro W hW
       rw[hW]
       exact ih (i+1) (by omega) _ _ _ nd' 3000 u' T' hp2 hT' F
      simp only
      have tail:(br (inB 0 ln) (ob (qEV b h s (m0 R[l]) (m1 R[l]) (m2 R[l]) (m3 R[l])) fun (a77_0,a77_1,a77_2,a77_3)=>
        br (!a77_3) (some (Sum.inl false)) (ob (some (b,h,s,qI b,qL b)) fun (a81_0,a81_1,a81_2,a81_3,a81_4)=>br (inB 0 ln)
         (ob (qD0 (m0 R[l]) (m1 R[l]) (m2 R[l]) (m3 R[l]) a81_0 a81_1 a81_2 a81_3 a81_4) fun (a86_0,_,_,_,_,_)=>br (!a86_0) (some (Sum.inl false))
          (ob (qCY a77_0 a77_1 a77_2) fun a92=>br (a92 != 0) (some (Sum.inl false)) (qCT (F+k+1) K ((i+1:Nat):Int) a77_0 a77_1 a77_2 nd' 3000 N u' N T'))) none)) none:Option (Bool⊕Unit)) =
        qCT (F+k+1) K ((i+1:Nat):Int) (mbM b s R[l]) (mhM b h s R[l]) (1 - s) nd' 3000 N u' N T':=by
       rw[qU (by omega) (by omega),qfj hp.clean h hp.side,if_pos hcan,qA]
       simp only[Bool.not_true,b_f]
       rw[qA]
       simp only
       rw[qU (by omega) (by omega),hp.is,hlg,qA]
       simp only[Bool.not_true,b_f]
       rw[hck,qA,qp rfl]
       rfl
      rw[Nat.add_zero,atL hlt,w_s (n:=(i:Int)+1) (by omega) (by omega)]
      simp only[hdM]
      by_cases hl:left >= 0
      ·rw[qD (by simpa using hl),qH (by rw[l2 hl,hsc];simp)]
       exact rest _ tail
      ·rw[qH (by simpa using hl)]
       exact rest _ tail
theorem qsd:qDb qHL qDB 0=some 0:=by kernel_rfl
theorem qeV {n:Nat} (h0:1<=n) (h1:n<=65536):qGQ n=some (.inr (n,n,List.replicate n qGW)):=by
 unfold qGQ
 rw[qH (by simp;omega),qH (by simp;omega),qD (by simp),qD (by simp),qD (by simp;omega)]
 rfl
theorem qcQ {n:Nat} (h0:1<=n) (h1:n<=65536):qGF n=some (.inr (n,n,List.replicate n qGW)):=by
 unfold qGF
 rw[qeV h0 h1,qA,qAH]
theorem quG {b h:List Int} (s z k:Int) (hl:b.length=81) (hf:qAb h) (hh:h.length=16):qKp b h s z k=some true:=by
 unfold qKp
 rw[show qGF 10=_ from qcQ (n:=10) (by omega) (by omega),qA,qAH]
 simp only
 rw[show qGQ 1=_ from qeV (n:=1) (by omega) (by omega),qA,qAH]
 rw[qsc,qA]
 simp only
 rw[qsd,qA,qH (by rfl),qA]
 simp only
 obtain⟨t,h1,_,h3⟩:=qtS qSl 0 10 0 0 (by omega) 10 0 10 (List.replicate 10 qGW)
 obtain⟨a,c,e,f,g,i,j,l,m,h4,h5⟩:=h3 (by rw[qsb];omega)
 subst h4
 rw[h1,qA,qAH]
 simp only
 rw[qH (by rfl),qH (by rfl),qNh hl hf,qA]
 by_cases hc:qDj b h s=0
 ·have hp:PosP b h s:=⟨hl,hf,hh,hc⟩
  rw[qp hc]
  by_cases z1:z<1
  ·rw[qD (by simpa using z1)]
  rw[qH (by simpa using z1)]
  by_cases z2:z>500
  ·rw[qD (by simpa using z2)]
  rw[qH (by simpa using z2)]
  by_cases z3:k<0
  ·rw[qD (by simpa using z3)]
  rw[qH (by simpa using z3)]
  by_cases z4:k>4
  ·rw[qD (by simpa using z4)]
  rw[qH (by simpa using z4)]
  obtain⟨n,hn⟩:∃ n:Nat,z=n:=⟨z.toNat,by omega⟩
  obtain⟨K,hK⟩:∃ K:Nat,k=K:=⟨k.toNat,by omega⟩
  subst hn hK
  rw[qcQ (by omega) (by omega),qA,qAH]
  simp only
  obtain⟨F,hF⟩:=qe K (by omega)
  have hgo:=quI n K (by omega) K 0 (by omega) b h s 0 0 0 (List.replicate n qGW) hp (qtE (by omega) (by omega)) F
  rw[<- hF] at hgo
  rcases hgo with hgo | hgo
  ·rw[show qCT qB (K:Int) 0 b h s 0 0 n 0 n (List.replicate n qGW)=_ from hgo,qA,qFA]
  ·rw[show qCT qB (K:Int) 0 b h s 0 0 n 0 n (List.replicate n qGW)=_ from hgo,qA,qAH]
 ·rw[qo hc]
end Go.Kk.Pl
