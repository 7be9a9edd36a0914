/-
 One operation of the pure interpreter: its answer is the machine's.
-/
import Derived.Test.YthklalefbhbhmaaGreatDoorKkN
namespace Go.Kk
def qS4 (P:Program):Prop:=∀ e,e∈exts->∀ (s:ByteArray) (n:Int) (w:World),(callFunc e.1 #[.string s,.int .u8 n]).run P w=.ok (.value (.int .i64 (qg0 e.2 s n))) w
structure CtxOK (P:Program) (c:Ctx):Prop where
 tab:∀ t L,c.tab.get t=some L->LayOK P c.tab t L
 orc:qDW P c.orc
 eqs:∀ t L,qC0 t c.eqs=true->c.tab.get t=some L->∃ f ck,f<=10000 /\ qA8 P f t=some ck /\ qBJ L.segTs=some ck /\ P.eqGuardType P.depth t=false
 bytes:∀ t n,byN t c.bytes=some n->∃ i,P.info? t=some i /\ i.bytes=n
 brg:∀ {R:Type} (b:Bool) (x y:Option R),c.brg b x y=br b x y
 ext:qS4 P
section
variable {P:Program} {o:Oper} {ρ:Rg} {h:Hp} {nx:Nat} {c:Ctx} {R:Type} {K:Kt R} {r:R}
def qDU (P:Program) (o:Oper) (ρ:Rg) (h:Hp) (nx:Nat) (K:Kt R) (r:R):Prop:=∃ v up nx',K v up nx'=some r /\ qQ P o ρ h nx v up nx'
theorem qLM {x:Operand} {ty:TypeId} (hrun:∀ (nm:Nm) (w:World) (a:Act),(∀ x∈o.op.operands,qS ⟨nm,h,nx⟩ (ev ρ x) (a.eval x))->(execOp a.eval o).run P w=.ok (.value (a.eval x)) w)
  (hmem:x∈o.op.operands) (hE:qDq c ρ x ty nx K=some r):qDU P o ρ h nx K r:=by
 have hv:qQ P o ρ h nx (ev ρ x) [] nx:=qQ.pure fun nm w a hr _=>⟨a.eval x,hrun nm w a hr,hr x hmem⟩
 have hplain:(match ev ρ x with
   | .s z=>K (.s z) [] nx
   | .agg l=>K (.agg l) [] nx
   | .tup l=>K (.tup l) [] nx)=some r->qDU P o ρ h nx K r:=fun hE=>by
  refine⟨ev ρ x,[],nx,?_,hv⟩
  split at hE<;>(rename_i e;rw[e];exact hE)
 unfold qDq at hE
 split at hE
 ·split at hE<;>try cases hE
  rename_i e _
  unfold qYT at hE
  split at hE<;>try cases hE
  rename_i g hg
  refine⟨_,_,_,hE,?_⟩
  intro nm w a hr hh N Q hN
  obtain⟨g1,g2⟩:=qVD hg
  have hn:qCX [(nx,Obj.sli e false g)] nx (nx+1):=fun q=>by
   by_cases hq:q=nx
   ·subst hq;exact .inr ⟨Nat.le_refl _,by omega,e,g,by simp[List.lookup],g1,g2⟩
   ·exact .inl ⟨by simp[List.lookup,beq_eq_false_iff_ne.2 hq],by omega⟩
  obtain⟨nm',n1,n2,n3,n4⟩:=qPr hh (Nat.le_succ _) hn
  unfold Oper.wp
  rw[hrun nm w a hr]
  refine hN _ nm' w ?_ n2 n3 n4
  obtain⟨m1,m2,m3⟩:=n1 nx (Nat.le_refl _) (Nat.lt_succ_self _)
  refine⟨m1,?_⟩
  have:Hp.get ([(nx,Obj.sli e false g)]++h) nx=.sli e false g:=by rw[qm];simp[List.lookup]
  rw[this]
  show qAB nm' nx g.shp 0 0 true _
  unfold qAB
  rw[show nm' nx=none from m2]
  exact⟨rfl,rfl,rfl⟩
 ·exact hplain hE
theorem qX3 {x:Obj} (h:x.live=true):x.shape≠.dead:=by
 cases x<;>simp[Obj.live] at h<;>simp[Obj.shape]
theorem qpK {x:Obj} {e:Option Seg} (h:qBa x e=true):∃ T ro g g0,x=.sli T ro g /\ e=some g0 /\ g.shp.width=g0.shp.width /\ 0<g.shp.width:=by
 unfold qBa at h
 split at h
 ·exact⟨_,_,_,_,rfl,rfl,rfl,Nat.one_pos⟩
 ·exact⟨_,_,_,_,rfl,rfl,rfl,Nat.one_pos⟩
 ·rename_i ks _ _ ks' _ _
  simp only[Bool.and_eq_true,decide_eq_true_eq] at h
  obtain⟨rfl,h2⟩:=h
  have h2:0<ks.length:=by simpa[Nat.blt_eq] using h2
  exact⟨_,_,_,_,rfl,rfl,rfl,by simpa[Seg.shp,Shp.width] using h2⟩
 ·cases h
theorem qif {op:BinOp} {k:IntKind} {a d:Int} {K:S->Option R} (h:qDC op k a d K=some r):∃ z,K z=some r:=by
 cases op<;>simp only[qDC] at h<;>first
  | exact⟨_,h⟩
  | (rcases qAG h with⟨_,h⟩ | ⟨_,h⟩<;>first | cases h | exact⟨_,h⟩)
theorem qec (hc:CtxOK P c) {op:BinOp} {t yt:TypeId} {x y:Operand} (ho:o.op=.binOp op t x y yt) (hE:qk c o ρ h nx K=some r):qDU P o ρ h nx K r:=by
 simp only[qk,ho] at hE
 have qE9:∀ {k k':IntKind} {a d:Int},ev ρ x=.s (.i k a)->ev ρ y=.s (.i k' d)->(op=.shl \/ op=.shr \/ k'=k)->qDC op k a d (fun z=>K (.s z) [] nx)=some r->qDU P o ρ h nx K r:=by
  intro k k' a d hx hy hk hE
  by_cases hyp:k.wrap a=a /\ (op=.shl \/ op=.shr \/ k.wrap d=d)
  ·obtain⟨z,vr,h1,h2,h3⟩:=qpE (P:=P) hE hyp.1 hyp.2 t x y k' hk
   refine⟨_,_,_,h1,qQ.pure fun nm w a' hr _=>⟨vr,?_,h3 _⟩⟩
   have e1:=hr x (by simp[ho,Op.operands])
   have e2:=hr y (by simp[ho,Op.operands])
   rw[hx] at e1
   rw[hy] at e2
   obtain⟨e1,_⟩:=qBl e1
   obtain⟨e2,_⟩:=qBl e2
   have:=h2 w
   simp only[Sem.run_bind] at this
   simp only[execOp,ho,e1,e2,Sem.run_bind]
   revert this
   cases (eqGuard op t x y (.int k a) (.int k' d)).run P w<;>simp only[Result.andThen]<;>intro this<;>first
    | cases this
    | (rw[this];rfl)
  ·obtain⟨z,hz⟩:=qif hE
   refine⟨_,_,_,hz,qQ.pure fun nm w a' hr _=>absurd ?_ hyp⟩
   have e1:=hr x (by simp[ho,Op.operands])
   have e2:=hr y (by simp[ho,Op.operands])
   rw[hx] at e1
   rw[hy] at e2
   refine⟨(qBl e1).2,?_⟩
   rcases hk with hk | hk | hk
   ·exact .inl hk
   ·exact .inr (.inl hk)
   ·subst hk;exact .inr (.inr (qBl e2).2)
 split at hE
 ·rename_i k a k' d hx hy
  split at hE
  ·exact qE9 hx hy (.inl rfl) hE
  ·exact qE9 hx hy (.inr (.inl rfl)) hE
  ·obtain⟨hk,hE⟩:=qg hE
   simp only[decide_eq_true_eq] at hk
   exact qE9 hx hy (.inr (.inr hk.symm)) hE
 ·rename_i l m hx hy
  split at hE<;>try cases hE
  rename_i L hL
  obtain⟨hb,hE⟩:=qg hE
  simp only[Bool.and_eq_true] at hb
  obtain⟨⟨⟨b1,b2⟩,b3⟩,b4⟩:=hb
  split at hE<;>try cases hE
  rename_i z hz
  obtain⟨q1,q2⟩:=qkr (P:=P) (h:=h) (nx:=nx) ho hx hy (hc.tab t L hL) b2 b3 b4 hz (hc.eqs t L b1 hL)
  rcases qHD hE with⟨hop,hE⟩ | ⟨hop,hE⟩
  ·exact⟨_,_,_,hE,q1 hop⟩
  ·exact⟨_,_,_,hE,q2 hop⟩
 ·rename_i a d _ hx hy
  split at hE<;>try cases hE
  ·rename_i p q hL _
   obtain⟨u,hu,hd⟩:=(hc.tab t _ hL).desc
   simp only at hd
   subst hd
   obtain⟨q1,q2⟩:=qks (P:=P) (h:=h) (nx:=nx) ho hx hy hu
   rcases qHD hE with⟨hop,hE⟩ | ⟨hop,hE⟩
   ·exact⟨_,_,_,hE,q1 hop⟩
   ·exact⟨_,_,_,hE,q2 hop⟩
  ·rename_i hL _
   obtain⟨u,hu,e,hd⟩:=(hc.tab t _ hL).desc
   subst hd
   obtain⟨q1,q2⟩:=qPv (P:=P) (h:=h) (nx:=nx) (ob:=0) (sg:=0) (row:=none) (col:=0) ho hu (.inl ⟨hx,hy,rfl⟩)
   rcases qHD hE with⟨hop,hE⟩ | ⟨hop,hE⟩
   ·exact⟨_,_,_,hE,q1 hop⟩
   ·exact⟨_,_,_,hE,q2 hop⟩
  ·rename_i hL _
   obtain⟨hm,hE⟩:=qg hE
   obtain⟨u,hu,e,hd⟩:=(hc.tab t _ hL).desc
   subst hd
   obtain⟨q1,q2⟩:=qPv (P:=P) (h:=h) (nx:=nx) ho hu (.inr ⟨rfl,hm,.inl ⟨hx,hy⟩⟩)
   rcases qHD hE with⟨hop,hE⟩ | ⟨hop,hE⟩
   ·exact⟨_,_,_,hE,q1 hop⟩
   ·exact⟨_,_,_,hE,q2 hop⟩
  ·rename_i hL _
   obtain⟨hm,hE⟩:=qg hE
   obtain⟨u,hu,e,hd⟩:=(hc.tab t _ hL).desc
   subst hd
   obtain⟨q1,q2⟩:=qPv (P:=P) (h:=h) (nx:=nx) ho hu (.inr ⟨rfl,hm,.inr ⟨hy,hx⟩⟩)
   rcases qHD hE with⟨hop,hE⟩ | ⟨hop,hE⟩
   ·exact⟨_,_,_,hE,q1 hop⟩
   ·exact⟨_,_,_,hE,q2 hop⟩
 ·cases hE
theorem qdl (hc:CtxOK P c) {t:TypeId} {x y:Operand} (ho:o.op=.indexAddr t x y) (hE:qk c o ρ h nx K=some r):qDU P o ρ h nx K r:=by
 simp only[qk,ho] at hE
 split at hE<;>try cases hE
 ·rename_i ob sg row col k j n m e t' hx hy hL
  rcases qAG hE with⟨hj,hE1⟩ | ⟨_,hE1⟩<;>try cases hE1
  replace hE:=hE1
  clear hE1
  split at hE
  ·obtain⟨hb,hE1⟩:=qg hE
   replace hE:=hE1
   clear hE1
   simp only[Bool.and_eq_true,Nat.beq_eq] at hb
   obtain⟨rfl,_,hf⟩:=hb
   have hg:=qk2 (P:=P) (nx:=nx) (hc.tab t _ hL) ho hx hy hj hf
   cases hm:Nat.beq m 1 with
   | true=>
     rw[hm] at hE
     have hm:=Nat.eq_of_beq_eq_true hm
     subst hm
     rw[Nat.mul_one] at hg
     exact⟨_,_,_,hE,hg⟩
   | false=>rw[hm] at hE;exact⟨_,_,_,hE,hg⟩
  ·rename_i q lim
   cases hcel:qD4 ((h.get ob).segs[sg]?) col (n*m) t' with
   | true=>
     rw[hcel] at hE
     exact⟨_,_,_,hE,qk0 (P:=P) (nx:=nx) (hc.tab t _ hL) ho hx hy hj hcel⟩
   | false=>
   rw[hcel] at hE
   obtain⟨hb,hE⟩:=qg hE
   simp only[Bool.and_eq_true,Nat.beq_eq,Nat.ble_eq] at hb
   obtain⟨⟨b1,b2⟩,b3⟩:=hb
   have hg:=qk3 (P:=P) (nx:=nx) (hc.tab t _ hL) ho hx hy hj b1 b2 b3
   cases hm:Nat.beq m 1 with
   | true=>
     rw[hm] at hE
     have hm:=Nat.eq_of_beq_eq_true hm
     subst hm
     rw[Nat.mul_one] at hg
     exact⟨_,_,_,hE,hg⟩
   | false=>rw[hm] at hE;exact⟨_,_,_,hE,hg⟩
 ·rename_i ob lo len full k j e hx hy hL
  obtain⟨hb,hE⟩:=qg hE
  simp only[Bool.and_eq_true] at hb
  obtain⟨b1,b2⟩:=hb
  obtain⟨T,ro,g,g0,s1,s2,s3,s4⟩:=qpK b1
  rcases qAG hE with⟨hj,hE⟩ | ⟨_,hE⟩<;>try cases hE
  have hg:=qk4 (P:=P) (nx:=nx) hc.tab (hc.tab t _ hL) ho hx hy hj s1 s2 s3 s4
  cases full with
  | true=>
    simp only[cond_true,Nat.beq_eq] at b2
    subst b2
    rw[Nat.zero_add] at hg
    exact⟨_,_,_,hE,hg⟩
  | false=>exact⟨_,_,_,hE,hg⟩
 ·rename_i g k j n e k' n' hx hy hL
  split at hE<;>try cases hE
  rename_i k2 l hg
  obtain⟨hb,hE1⟩:=qg hE
  clear hE
  simp only[Bool.and_eq_true,decide_eq_true_eq,Nat.beq_eq] at hb
  obtain⟨rfl,hn⟩:=hb
  rw[hc.brg] at hE1
  rcases qAG hE1 with⟨hj,hE⟩ | ⟨_,hE⟩<;>try cases hE
  exact⟨_,_,_,hE,qk1 (P:=P) (nx:=nx) (hc.tab t _ hL) ho hx hy hj hg hn⟩
theorem qjp (hc:CtxOK P c) {cl:Call} (ho:o.op=.call cl) (hcl:cl.callee=.builtin .len) (hE:qC6 c .len cl.args.toList cl.argTypes.toList ρ h nx K=some r):qDU P o ρ h nx K r:=by
 simp only[qC6] at hE
 split at hE<;>try cases hE
 rename_i x t hx ht
 have hargs:cl.args = #[x]:=by rw[<- hx]
 have htys:cl.argTypes = #[t]:=by rw[<- ht]
 split at hE<;>try cases hE
 case h_2=>
  rename_i ob k e hv hL
  split at hE<;>try cases hE
  rename_i ka va ks vs es hob
  rcases qAG hE with⟨hb,hE⟩ | ⟨_,hE⟩<;>try cases hE
  obtain⟨d,hu,hd⟩:=(hc.tab t _ hL).desc
  simp only at hd
  subst hd
  exact⟨_,_,_,hE,qk6 ho hcl hargs htys hv hu hob (of_decide_eq_true hb)⟩
 rename_i ob lo len full e hv hL
 obtain⟨hs,hE⟩:=qg hE
 refine⟨_,_,_,hE,qQ.pure fun nm w a hr hh=>?_⟩
 have h1:=hr x (by simp[ho,Op.operands,Call.operands,hcl,hargs])
 rw[hv] at h1
 obtain⟨d,hu,hd⟩:=(hc.tab t _ hL).desc
 simp only at hd
 subst hd
 obtain⟨hlt,h2⟩:=h1
 have hob:=hh.obj ob
 cases hq:h.get ob with
 | sli T ro g=>
   rw[show (Env.h ⟨nm,h,nx⟩).get ob=_ from hq] at h2
   have h2:qAB nm ob g.shp lo len full (a.eval x):=h2
   unfold qG at hob
   rw[show (Env.h ⟨nm,h,nx⟩).get ob=_ from hq] at hob
   have key:∃ aa cc,a.eval x=.slice aa len cc /\ len<=maxLen:=by
    unfold qAB at h2
    split at h2
    ·obtain⟨_,rfl,h4⟩:=h2
     exact⟨_,_,h4,Nat.zero_le _⟩
    ·rename_i b off cap hnm
     obtain⟨c',h5,_,h7,_⟩:=h2
     refine⟨_,_,h5,?_⟩
     cases ro with
     | true=>simp only[hnm] at hob;omega
     | false=>
       simp only[hnm] at hob
       obtain⟨_,_,arr,_,_,q3,q4,_⟩:=hob
       omega
   obtain⟨aa,cc,hval,hmax⟩:=key
   refine⟨.int .i64 len,?_,rfl,qCG (by show (-9223372036854775808:Int)<=_;omega) (by show _<=(9223372036854775807:Int);unfold maxLen at hmax;omega)⟩
   simp[execOp,ho,resolve,hcl,hargs,htys,hval,invoke,builtin,Builtin.len_,goInt,run_underlying hu]
 | _=>rw[hq] at hs;cases hs
theorem qYH {cl:Call} {mn:Bool} {z:S} (ho:o.op=.call cl) (hcl:cl.callee=.builtin (bif mn then .min else .max)) (hz:qLB mn (cl.args.toList.map (ev ρ))=some z):qQ P o ρ h nx (.s z) [] nx:=by
 unfold qLB at hz
 split at hz<;>try cases hz
 rename_i k a k' d hl
 obtain⟨hk,hz2⟩:=qIg hz
 clear hz
 subst hk
 subst hz2
 have two:∀ l:List Operand,l.map (ev ρ)=[.s (.i k a),.s (.i k d)]->∃ x y,l=[x,y] /\ ev ρ x=.s (.i k a) /\ ev ρ y=.s (.i k d):=by
  intro l hl
  cases l with
  | nil=>simp at hl
  | cons x l=>cases l with
    | nil=>simp at hl
    | cons y l=>cases l with
      | nil=>simp at hl;exact⟨x,y,rfl,hl.1,hl.2⟩
      | cons z l=>simp at hl
 ·obtain⟨x,y,hargs,hx,hy⟩:=two _ hl
  have hargs':cl.args = #[x,y]:=by rw[<- hargs]
  refine qQ.pure fun nm w ac hr hh=>?_
  have h1:=hr x (by simp[ho,Op.operands,Call.operands,hcl,hargs'])
  rw[hx] at h1
  obtain⟨h1,r1⟩:=qBl h1
  have h2:=hr y (by simp[ho,Op.operands,Call.operands,hcl,hargs'])
  rw[hy] at h2
  obtain⟨h2,r2⟩:=qBl h2
  cases mn with
  | true=>
    refine⟨.int k (if d<a then d else a),by simp[execOp,ho,resolve,hcl,hargs',h1,h2,invoke,builtin,Builtin.min_,Builtin.min2],?_⟩
    by_cases hlt:d<a
    ·simp only[cond_true,hlt,decide_true,if_true];exact⟨rfl,r2⟩
    ·simp only[cond_true,hlt,decide_false,if_false,cond_false];exact⟨rfl,r1⟩
  | false=>
    refine⟨.int k (if d>a then d else a),by simp[execOp,ho,resolve,hcl,hargs',h1,h2,invoke,builtin,Builtin.max_,Builtin.max2],?_⟩
    by_cases hlt:d>a
    ·simp only[cond_false,hlt,decide_true,if_true,cond_true];exact⟨rfl,r2⟩
    ·simp only[cond_false,hlt,decide_false,if_false];exact⟨rfl,r1⟩
theorem qem (hc:CtxOK P c) {cl:Call} {b:Builtin} (ho:o.op=.call cl) (hcl:cl.callee=.builtin b) (hE:qC6 c b cl.args.toList cl.argTypes.toList ρ h nx K=some r):qDU P o ρ h nx K r:=by
 have hE':=hE
 unfold qC6 at hE'
 split at hE'
 ·exact qjp hc ho hcl hE
 ·split at hE'<;>try cases hE'
  rename_i x y t t' ha ht
  obtain⟨hb,hE1⟩:=qg hE'
  have hb:=Nat.eq_of_beq_eq_true hb
  subst hb
  exact qko hc.tab hc.bytes ho hcl ha ht hE1
 ·split at hE'<;>try cases hE'
  rename_i z hz
  exact⟨_,_,_,hE',qYH (mn:=true) ho hcl hz⟩
 ·split at hE'<;>try cases hE'
  rename_i z hz
  exact⟨_,_,_,hE',qYH (mn:=false) ho hcl hz⟩
 ·cases hE'
theorem qUX {e:Env} {a:Act}:∀ {l:List Operand} {qs:List Nat},qDd ρ e.h l=some qs->(∀ x∈l,qS e (ev ρ x) (a.eval x))->qB (qGm e) qs (l.map a.eval)
 | [],qs,h,_=>by simp[qDd] at h;subst h;trivial
 | x :: l,qs,h,hr=>by
   simp only[qDd] at h
   split at h<;>try cases h
   rename_i q l' hx hl
   cases hb:(e.h.get q).isCell with
   | false=>rw[hb] at h;cases h
   | true=>
     rw[hb] at h
     cases h
     refine⟨?_,qUX hl fun y hy=>hr y (by simp[hy])⟩
     have h1:=hr x (by simp)
     rw[hx] at h1
     obtain⟨h1,h2⟩:=h1
     refine⟨h1,?_⟩
     cases hq:e.h.get q<;>rw[hq] at hb<;>simp[Obj.isCell] at hb <;>
     ·rw[hq] at h2
      obtain⟨_,b,off,cap,h3,h4⟩:=h2
      exact⟨b,off,cap,h3,by simpa[qX,qp] using h4⟩
theorem qlD {f:FuncId} {first caps:Array Operand} {qs:List Nat} (ho:o.op=.makeFunc (.func f) first caps) (hf:first.toList=[]) (hq:qDd ρ h caps.toList=some qs):qQ P o ρ h nx (.s (.fn f qs)) [] nx:=
 qQ.pure fun nm w a hr hh=>by
  have hf':first = #[]:=by rw[<- hf]
  have:=qUX (e:=⟨nm,h,nx⟩) (a:=a) hq fun x hx=>hr x (by rw[ho];simp only[Op.operands,Array.mem_append];exact .inr (by simpa using hx))
  refine⟨.func (.func f) #[] (caps.map a.eval),by simp[execOp,ho,Instr.makeFunc,hf'],(caps.map a.eval).toList,rfl,by simpa using this⟩
theorem qlb (hc:CtxOK P c) (hE:qk c o ρ h nx K=some r):qDU P o ρ h nx K r:=by
 have hE':=hE
 unfold qk at hE'
 split at hE'
 ·rename_i x ho
  exact qLM (fun nm w a _=>by simp[execOp,ho]) (by simp[ho,Op.operands]) hE'
 ·rename_i x ho
  exact qLM (fun nm w a _=>by simp[execOp,ho]) (by simp[ho,Op.operands]) hE'
 ·rename_i t x y ho
  split at hE'<;>try cases hE'
  rename_i z ht
  have h1:∀ (nm:Nm) (a:Act),(∀ x∈o.op.operands,qS ⟨nm,h,nx⟩ (ev ρ x) (a.eval x))->a.eval t=.bool z:=by
   intro nm a hr
   have:=hr t (by simp[ho,Op.operands])
   rw[ht] at this
   exact this
  rcases qAG hE' with⟨rfl,hE'⟩ | ⟨rfl,hE'⟩
  ·exact qLM (fun nm w a hr=>by simp[execOp,ho,h1 nm a hr,asBool]) (by simp[ho,Op.operands]) hE'
  ·exact qLM (fun nm w a hr=>by simp[execOp,ho,h1 nm a hr,asBool]) (by simp[ho,Op.operands]) hE'
 ·rename_i t ho
  split at hE'<;>try cases hE'
  rename_i L hL
  split at hE'<;>try cases hE'
  rename_i l hp nx' hz
  exact⟨_,_,_,hE',qYb (hc.tab t L hL) ho hz⟩
 ·rename_i t x ho
  split at hE'<;>try cases hE'
  rename_i l hl
  obtain⟨hg,hE'⟩:=qg hE'
  exact⟨_,_,_,hE',qkp ho hl hg⟩
 ·rename_i t ps ho
  split at hE'<;>try cases hE'
  ·rename_i ts fl hL
   split at hE'<;>try cases hE'
   rename_i l hp nx' hz
   split at hE'<;>try cases hE'
   rename_i l' hs
   exact⟨_,_,_,hE',qPu (hc.tab t _ hL) ho hz hs⟩
  ·rename_i n m e t' hL
   split at hE'<;>try cases hE'
   rename_i l hp nx' hz
   split at hE'<;>try cases hE'
   rename_i l' hs
   exact⟨_,_,_,hE',qPt (hc.tab t _ hL) ho hz hs⟩
 ·rename_i t x ho
  split at hE'<;>try cases hE'
  rename_i ob sg row col hx
  split at hE'<;>try cases hE'
  ·rename_i T l L hob hL
   split at hE'<;>try cases hE'
   rename_i v hv
   exact⟨_,_,_,hE',qYe hc.tab ho hx (.inl hob) hL hv⟩
  ·rename_i T l L hob hL
   split at hE'<;>try cases hE'
   rename_i v hv
   exact⟨_,_,_,hE',qYe hc.tab ho hx (.inr hob) hL hv⟩
  ·rename_i T ro g L hob hL
   split at hE'<;>try cases hE'
   rename_i v hv
   exact⟨_,_,_,hE',qk9 (hc.tab t L hL) ho hx hob hv⟩
  ·rename_i g j hx
   split at hE'<;>try cases hE'
   rename_i k l k' hg hL
   obtain⟨hk,hE1⟩:=qg hE'
   clear hE'
   simp only[decide_eq_true_eq] at hk
   subst hk
   exact⟨_,_,_,hE1,qk8 (hc.tab t _ hL) ho hx hg⟩
 ·rename_i ty x y ho
  split at hE'<;>try cases hE'
  rename_i ob sg row col hx
  obtain⟨hb,hE'⟩:=qg hE'
  simp only[Bool.and_eq_true] at hb
  obtain⟨hg,hsz⟩:=hb
  split at hE'<;>try cases hE'
  ·rename_i T l hob
   split at hE'<;>try cases hE'
   rename_i l' hv
   exact⟨_,_,_,hE',qlK hc.tab ho hx hob hg hsz hv⟩
  ·rename_i T g hob
   split at hE'<;>try cases hE'
   rename_i g' hv
   obtain⟨ht,hE'⟩:=qg hE'
   exact⟨_,_,_,hE',qlL hc.tab ho hx hob hg hsz hv ht⟩
 ·rename_i x ho
  split at hE'<;>try cases hE'
  rename_i ob sg row col hx
  obtain⟨hl,hE'⟩:=qg hE'
  exact⟨_,_,_,hE',qlG ho hx (qX3 hl)⟩
 ·rename_i ho
  exact qec hc ho hE
 ·rename_i ho
  split at hE'<;>try cases hE'
  rename_i z hx
  split at hE'<;>try cases hE'
  rename_i z' hz
  exact⟨_,_,_,hE',qlM ho hx hz⟩
 ·rename_i src dst x ho
  split at hE'<;>try cases hE'
  rename_i k n k' Ls hx hd hs
  refine⟨_,_,_,hE',qkq hc.tab ho hx hd ?_⟩
  have:=(hc.tab src Ls hs).desc
  cases Ls with
  | sc kd=>obtain⟨d,h1,_⟩:=this;exact⟨d,h1⟩
  | st ts fl=>obtain⟨fs,h1,_⟩:=this;exact⟨_,h1⟩
  | ar n m e sg=>exact⟨_,this.1⟩
 ·rename_i t x f ho
  split at hE'<;>try cases hE'
  rename_i ob sg row col ts fl hx hL
  split at hE'<;>try cases hE'
  rename_i fs fc ft hf
  split at hE'
  ·cases hb:(Nat.beq fs 0&&(h.get ob).isMem) with
   | true=>
     rw[hb] at hE'
     simp only[Bool.and_eq_true,Nat.beq_eq] at hb
     exact⟨_,_,_,hE',qkw (hc.tab t _ hL) ho hx hf hb.2 hb.1⟩
   | false=>
     rw[hb] at hE'
     obtain⟨hb,hE1⟩:=qg hE'
     replace hE':=hE1
     clear hE1
     simp only[Bool.and_eq_true,Nat.beq_eq] at hb
     obtain⟨⟨rfl,b2⟩,b3⟩:=hb
     exact⟨_,_,_,hE',qkv (hc.tab t _ hL) ho hx hf (by cases hz:h.get ob<;>rw[hz] at b2<;>simp[Obj.isCell] at b2<;>rfl) b3⟩
  ·obtain⟨hb,hE'⟩:=qg hE'
   rw[qCM] at hE'
   exact⟨_,_,_,hE',qkx (hc.tab t _ hL) ho hx hf (by simpa[Nat.blt_eq] using hb)⟩
 ·rename_i t x f ho
  split at hE'<;>try cases hE'
  rename_i l ts fl hx hL
  split at hE'<;>try cases hE'
  rename_i fs fc ft hf
  split at hE'<;>try cases hE'
  rename_i L hft
  split at hE'<;>try cases hE'
  rename_i v hv
  obtain⟨b1,hv⟩:=qg hv
  exact⟨_,_,_,hE',qku (hc.tab t _ hL) ho hx hf (hc.tab ft L hft) hft hv b1⟩
 ·rename_i ho
  exact qdl hc ho hE
 ·rename_i t x y ho
  split at hE'<;>try cases hE'
  rename_i g k j n m e t' hx hy hL
  split at hE'<;>try cases hE'
  rename_i L he
  rcases qAG hE' with⟨hj,hE'⟩ | ⟨_,hE'⟩<;>try cases hE'
  split at hE'<;>try cases hE'
  rename_i v hv
  obtain⟨b1,hv⟩:=qg hv
  refine⟨_,_,_,hE',qkz (hc.tab t _ hL) ho hx hy hj b1 (hc.tab e L he) he ?_⟩
  cases hm:Nat.beq m 1 with
  | true=>
    rw[hm] at hv
    have hm:=Nat.eq_of_beq_eq_true hm
    subst hm
    rw[Nat.mul_one]
    exact hv
  | false=>rw[hm] at hv;exact hv
 ·rename_i x j ho
  split at hE'<;>try cases hE'
  rename_i l hx
  split at hE'<;>try cases hE'
  rename_i y hj
  exact⟨_,_,_,hE',qkt ho hx hj⟩
 ·rename_i cl ho
  split at hE'<;>try cases hE'
  ·rename_i f hcl
   split at hE'<;>try cases hE'
   rename_i fid caps hf
   obtain⟨hcap,hE'⟩:=qg hE'
   obtain⟨v,up,nx',k1,k2,_⟩:=qYd hc.orc ho hcl hf hE' hcap
   exact⟨v,up,nx',k1,k2⟩
  ·rename_i b hcl
   exact qem hc ho hcl hE'
 ·rename_i t x y ho
  split at hE'<;>try cases hE'
  rename_i n n' e hx hy hL
  split at hE'<;>try cases hE'
  rename_i g by_ hg hbn
  obtain⟨hb,hE1⟩:=qg hE'
  clear hE'
  simp only[Bool.and_eq_true,Nat.blt_eq] at hb
  rcases qAG hE1 with⟨b1,hE2⟩ | ⟨_,hE2⟩<;>try cases hE2
  rcases qAG hE2 with⟨b2,hE3⟩ | ⟨_,hE3⟩<;>try cases hE3
  rcases qAG hE3 with⟨b3,hE4⟩ | ⟨_,hE4⟩<;>try cases hE4
  exact qlE hc.tab hc.bytes ho hx hy hL hg hbn hb.1 hb.2 (of_decide_eq_true b1) (of_decide_eq_true b2) (of_decide_eq_true b3) hE4
 ·rename_i t n ps ho
  split at hE'<;>try cases hE'
  rename_i e hL
  split at hE'<;>try cases hE'
  rename_i g hg
  obtain⟨hb,hE1⟩:=qg hE'
  clear hE'
  simp only[Bool.and_eq_true,Nat.blt_eq] at hb
  split at hE1<;>try cases hE1
  rename_i g' hs
  exact qYc hc.tab ho hL hg hb.1 (Nat.le_of_ble_eq_true hb.2) hs hE1
 ·rename_i t x lo hi mx ho
  split at hE'<;>try cases hE'
  rename_i ob l len full e hx hL
  obtain⟨hb,hE1⟩:=qg hE'
  exact qlJ hc.tab ho hx hL hb hE1
 ·rename_i f first caps ho
  split at hE'<;>try cases hE'
  rename_i qs hf hq
  exact⟨_,_,_,hE',qlD ho hf hq⟩
 ·rename_i t ho
  split at hE'<;>try cases hE'
  exact⟨_,_,_,hE',qYf ho⟩
 ·rename_i t m x y ho
  split at hE'<;>try cases hE'
  rename_i ob Lk a Le b hm hM
  split at hE'<;>try cases hE'
  rename_i ka va ks vs es ka' a' r va' b' v hob hx hy
  obtain⟨hb,hE1⟩:=qg hE'
  simp only[Bool.and_eq_true,beq_iff_eq,decide_eq_true_eq] at hb
  obtain⟨⟨⟨⟨⟨⟨⟨rfl,rfl⟩,rfl⟩,rfl⟩,rfl⟩,rfl⟩,rfl⟩,rfl⟩:=hb
  obtain⟨k,e,hMO⟩:=qYA hc.tab hc.eqs hM
  exact⟨_,_,_,hE1,qlF ho hm hx hy hob hMO⟩
 ·rename_i t m x okk ho
  split at hE'<;>try cases hE'
  rename_i ob Lk a Le b hm hM
  split at hE'<;>try cases hE'
  rename_i ka va ks vs es ka' a' r hob hx
  obtain⟨hb,hE1⟩:=qg hE'
  simp only[Bool.and_eq_true,beq_iff_eq,decide_eq_true_eq] at hb
  obtain⟨⟨⟨⟨⟨rfl,rfl⟩,rfl⟩,rfl⟩,rfl⟩,rfl⟩:=hb
  split at hE1<;>try cases hE1
  rename_i y hw
  obtain⟨k,e,hMO⟩:=qYA hc.tab hc.eqs hM
  exact⟨_,_,_,hE1,qlB ho hm hx hob hMO hw⟩
 ·cases hE'
theorem qfn (hc:CtxOK P c) (hv:qAm o.op=true) (hE:qk c o ρ h nx K=some r):
  ∃ v up nx',K v up nx'=some r /\ qQ P o ρ h nx v up nx' /\ (up=[]->nx'=nx->(∀ q∈qAy ρ h o,(h.get q).live=true)->
    ∀ h2 nx2,(∀ q∈qAy ρ h o,Hp.get h2 q=Hp.get h q)->qQ P o ρ h2 nx2 v [] nx2):=by
 unfold qAm at hv
 split at hv<;>try cases hv
 rename_i cl ho
 split at hv<;>try cases hv
 rename_i f hcl
 simp only[qk,ho,hcl] at hE
 split at hE<;>try cases hE
 rename_i fid caps hf
 obtain⟨hcap,hE⟩:=qg hE
 have hrd:qAy ρ h o=qB9 h 64 [] ((qIo ρ cl caps).flatMap V.refs):=by simp only[qAy,ho,hcl,hf]
 rw[hrd]
 exact qYd hc.orc ho hcl hf hE hcap
theorem qdh {tab:Tab}:∀ {ks:List Kd} {nx nx':Nat} {l:List S},qB1 tab ks nx=some (l,[],nx')->nx'=nx /\ ∀ nx2,qB1 tab ks nx2=some (l,[],nx2)
 | [],nx,nx',l,h=>by
   simp only[qB1,Option.some.injEq,Prod.mk.injEq] at h
   exact⟨h.2.2.symm,fun nx2=>by simp only[qB1,h.1]⟩
 | k :: r,nx,nx',l,h=>by
   cases k with
   | sl e=>
     simp only[qB1] at h
     split at h<;>cases h
   | f=>simp only[qB1] at h;cases h
   | _=>
     simp only[qB1] at h
     split at h<;>try cases h
     rename_i hx hz
     obtain⟨g1,g2⟩:=qdh hz
     refine⟨g1,fun nx2=>?_⟩
     simp only[qB1,g2 nx2]
     simp_all
theorem qMX {tab:Tab}:∀ {ts:List SegT} {nx nx':Nat} {l:List Seg},qAd tab ts nx=some (l,[],nx')->nx'=nx /\ ∀ nx2,qAd tab ts nx2=some (l,[],nx2)
 | [],nx,nx',l,h=>by
   simp only[qAd,Option.some.injEq,Prod.mk.injEq] at h
   exact⟨h.2.2.symm,fun nx2=>by simp only[qAd,h.1]⟩
 | t :: r,nx,nx',l,h=>by
   cases t with
   | one ks=>
     simp only[qAd] at h
     split at h<;>try cases h
     rename_i vs h1 nx1 hz1
     split at h<;>try cases h
     rename_i l2 h2 nx2 hz2
     simp only[Option.some.injEq,Prod.mk.injEq,List.append_eq_nil_iff] at h
     obtain⟨e1,⟨e2,e3⟩,e4⟩:=h
     subst e1 e2 e3 e4
     obtain⟨g1,g2⟩:=qdh hz1
     obtain⟨k1,k2⟩:=qMX hz2
     refine⟨k1.trans g1,fun n=>?_⟩
     simp only[qAd,g2 n,k2 n,List.append_nil]
   | _=>
     simp only[qAd] at h
     split at h<;>try cases h
     rename_i hz
     obtain⟨g1,g2⟩:=qMX hz
     exact⟨g1,fun n=>by simp only[qAd,g2 n]⟩
theorem qfg (hc:CtxOK P c) (hv:qBg o.op=true) (hE:qk c o ρ h nx K=some r):
  ∃ v up nx',K v up nx'=some r /\ qQ P o ρ h nx v up nx' /\ (up=[]->∀ h2 nx2,qQ P o ρ h2 nx2 v [] nx2):=by
 unfold qBg at hv
 split at hv<;>try cases hv
 rename_i t ps ho
 simp only[qk,ho] at hE
 split at hE<;>try cases hE
 ·rename_i ts fl hL
  split at hE<;>try cases hE
  rename_i l hp nx' hz
  split at hE<;>try cases hE
  rename_i l' hs
  refine⟨_,_,_,hE,qPu (hc.tab t _ hL) ho hz hs,fun hup h2 nx2=>?_⟩
  subst hup
  exact qPu (hc.tab t _ hL) ho ((qMX hz).2 nx2) hs
 ·rename_i n m e t' hL
  split at hE<;>try cases hE
  rename_i l hp nx' hz
  split at hE<;>try cases hE
  rename_i l' hs
  refine⟨_,_,_,hE,qPt (hc.tab t _ hL) ho hz hs,fun hup h2 nx2=>?_⟩
  subst hup
  exact qPt (hc.tab t _ hL) ho ((qMX hz).2 nx2) hs
theorem qmE (hc:CtxOK P c) (hE:qC1 c o ρ h nx K=some r):qDU P o ρ h nx K r:=by
 unfold qC1 at hE
 split at hE
 ·rename_i t x ho
  split at hE<;>try cases hE
  rename_i p j i col hx
  split at hE<;>try cases hE
  rename_i T ps L hp hL
  split at hE<;>try cases hE
  rename_i v hv
  exact⟨_,_,_,hE,qlA (hc.tab t L hL) ho hx hp hv⟩
 ·rename_i x ho
  split at hE<;>try cases hE
  rename_i p j i col hx
  obtain⟨hl,hE⟩:=qg hE
  exact⟨_,_,_,hE,qlH ho hx (qX3 hl)⟩
 ·rename_i t x y ho
  split at hE<;>try cases hE
  rename_i p j k n e hx hy hL
  split at hE<;>try cases hE
  rename_i T ps hp
  obtain⟨hb,hE1⟩:=qg hE
  rcases qAG hE1 with⟨hj,hE2⟩ | ⟨_,hE2⟩<;>try cases hE2
  exact⟨_,_,_,hE2,qk5 hc.tab (hc.tab t _ hL) ho hx hy hj hp hb⟩
 ·rename_i cl ho
  split at hE<;>try cases hE
  ·rename_i hcl
   split at hE<;>try cases hE
   rename_i x t ha ht
   split at hE<;>try cases hE
   rename_i p j e hx hL
   split at hE<;>try cases hE
   rename_i T ps hp
   obtain⟨d,hu,hd⟩:=(hc.tab t _ hL).desc
   simp only at hd
   subst hd
   exact⟨_,_,_,hE,qk7 ho hcl (by rw[<- ha]) (by rw[<- ht]) hx hu hp⟩
  ·rename_i hcl
   split at hE<;>try cases hE
   rename_i x y t t' ha ht
   obtain⟨hb,hE1⟩:=qg hE
   have hb:=Nat.eq_of_beq_eq_true hb
   subst hb
   exact qky hc.tab hc.bytes ho hcl ha ht hE1
 ·rename_i t ho
  split at hE<;>try cases hE
  rename_i Lk a e hM
  split at hE<;>try cases hE
  rename_i g hg
  split at hE<;>try cases hE
  rename_i ps hps
  exact⟨_,_,_,hE,qYg ho (qPs hps)⟩
 ·rename_i t m x okk ho
  split at hE<;>try cases hE
  rename_i ob Lk a e hm hM
  split at hE<;>try cases hE
  rename_i ka kks ks p ka' a' r' hob hx
  obtain⟨hb,hE1⟩:=qg hE
  simp only[Bool.and_eq_true,beq_iff_eq,decide_eq_true_eq] at hb
  obtain⟨⟨⟨⟨hok,rfl⟩,rfl⟩,rfl⟩,rfl⟩:=hb
  cases okk with
  | true=>cases hok
  | false=>
    obtain⟨k,e,hMO⟩:=qX9 hc.tab hc.eqs hM
    exact⟨_,_,_,hE1,qlC ho hm hx hob hMO⟩
 ·rename_i t m x y ho
  split at hE<;>try cases hE
  rename_i ob Lk a e hm hM
  split at hE<;>try cases hE
  rename_i ka kks ks p l ka' a' r' ob2 lo2 len hob hx hy
  split at hE<;>try cases hE
  rename_i e' ps e'' g hp hob2
  obtain⟨hb,hE1⟩:=qg hE
  simp only[Bool.and_eq_true,beq_iff_eq,decide_eq_true_eq,Nat.beq_eq] at hb
  obtain⟨⟨⟨⟨⟨rfl,rfl⟩,rfl⟩,rfl⟩,rfl⟩,rfl⟩:=hb
  rcases qAG hE1 with⟨hl,hE2⟩ | ⟨_,hE2⟩<;>try cases hE2
  split at hE2<;>try cases hE2
  rename_i ps' hps
  obtain⟨k,e,hMO⟩:=qX9 hc.tab hc.eqs hM
  exact⟨_,_,_,hE2,qlN ho hm hx hy hob hp hob2 hMO hl hps⟩
 ·cases hE
theorem qij (hv:qAm o.op=true) (h:Hp):qCO c o.op ρ h=false:=by
 unfold qAm at hv
 split at hv<;>try cases hv
 rename_i cl ho
 split at hv<;>try cases hv
 rename_i f hcl
 simp only[qCO,ho,hcl]
theorem qii (hv:qBg o.op=true) (h:Hp):qCO c o.op ρ h=false:=by
 unfold qBg at hv
 split at hv<;>try cases hv
 rename_i t ps ho
 simp only[qCO,ho]
theorem qYk (hc:CtxOK P c) (hE:opE c o ρ h nx K=some r):qDU P o ρ h nx K r:=by
 unfold opE at hE
 cases hb:qCO c o.op ρ h with
 | true=>rw[hb] at hE;exact qmE hc hE
 | false=>rw[hb] at hE;exact qlb hc hE
theorem qfm (hc:CtxOK P c) (hv:qAm o.op=true) (hE:opE c o ρ h nx K=some r):
  ∃ v up nx',K v up nx'=some r /\ qQ P o ρ h nx v up nx' /\ (up=[]->nx'=nx->(∀ q∈qAy ρ h o,(h.get q).live=true)->
    ∀ h2 nx2,(∀ q∈qAy ρ h o,Hp.get h2 q=Hp.get h q)->qQ P o ρ h2 nx2 v [] nx2):=by
 unfold opE at hE
 rw[qij hv] at hE
 exact qfn hc hv hE
theorem qff (hc:CtxOK P c) (hv:qBg o.op=true) (hE:opE c o ρ h nx K=some r):
  ∃ v up nx',K v up nx'=some r /\ qQ P o ρ h nx v up nx' /\ (up=[]->∀ h2 nx2,qQ P o ρ h2 nx2 v [] nx2):=by
 unfold opE at hE
 rw[qii hv] at hE
 exact qfg hc hv hE
end
end Go.Kk
