/-
 One operation of the pure interpreter: its answer is the machine's.
-/
import Derived.Test.YtjckfjagajmekaaGreatDoorKkM
import Derived.Laws.BytesString
import Derived.Lib.Bytealg
namespace Go.Kk
def qRy (P:Program):Prop:=∀ e,e∈exts->∀ (s:ByteArray) (n:Int) (w:World),(callFunc e.1 #[.string s,.int .u8 n]).run P w=.ok (.value (.int .i64 (qEv e.2 s n))) w
theorem qT9 {g k:Nat}:∀ {l:List (Nat×Nat)},qKD g l=some k->(g,k)∈l
 | (f,j) :: r,h=>by
   unfold qKD at h
   cases hb:Nat.beq f g with
   | true=>
     rw[hb] at h
     have:=Nat.eq_of_beq_eq_true hb
     cases h
     subst this
     simp
   | false=>
     rw[hb] at h
     exact List.mem_cons_of_mem _ (qT9 h)
theorem qUv {c:UInt8}:∀ {l:List UInt8} {i:Nat},qIp c l=some i->i<l.length
 | b :: l,i,h=>by
   unfold qIp at h
   cases hb:b==c with
   | true=>rw[hb] at h;cases h;simp
   | false=>
     rw[hb] at h
     cases hq:qIp c l with
     | none=>rw[hq] at h;cases h
     | some j=>
       rw[hq] at h
       cases h
       have:=qUv hq
       simp;omega
theorem qfW {k:Nat} {s:ByteArray} {n:Int} (h:qDA s.size=true):IntKind.wrap .i64 (qEv k s n)=qEv k s n:=by
 rw[qRQ] at h
 unfold qDw at h
 have hs:s.size=s.data.toList.length:=rfl
 have h':((s.data.toList.length:Nat):Int)<=9223372036854775807:=by rw[<- hs];exact h
 have key:-1<=qEv k s n /\ qEv k s n<=(s.data.toList.length:Int):=by
  have hc:=List.count_le_length (a:=UInt8.ofNat n.toNat) (l:=s.data.toList)
  have hi:-1<=qKS s n /\ qKS s n<=(s.data.toList.length:Int):=by
   unfold qKS
   split
   ·rename_i i hi
    have:=qUv hi
    have e:Int.ofNat i=(i:Int):=rfl
    omega
   ·omega
  unfold qEv
  split
  ·unfold qTS
   have e:Int.ofNat (s.data.toList.count (UInt8.ofNat n.toNat))=((s.data.toList.count (UInt8.ofNat n.toNat):Nat):Int):=rfl
   omega
  ·exact hi
 exact qBD (by show (-9223372036854775808:Int)<=_;omega) (by show _<=(9223372036854775807:Int);omega)
structure CtxOK (P:Program) (c:Ctx):Prop where
 tab:∀ t L,c.tab.get t=some L->LayOK P c.tab t L
 orc:qCM P c.orc
 eqs:∀ t L,qEM t c.eqs=true->c.tab.get t=some L->∃ f ck,f<=10000 /\ qBA P f t=some ck /\ qBW L.segTs=some ck /\ P.eqGuardType P.depth t=false
 bytes:∀ t n,byN t c.bytes=some n->∃ i,P.info? t=some i /\ i.bytes=n
 brg:∀ {R:Type} (b:Bool) (x y:Option R),c.brg b x y=br b x y
 ext:qRy P
section
variable {P:Program} {o:Oper} {ρ:Rg} {h:Hp} {nx:Nat} {c:Ctx} {R:Type} {K:Kt R} {r:R}
def qD1 (P:Program) (o:Oper) (ρ:Rg) (h:Hp) (nx:Nat) (K:Kt R) (r:R):Prop:=∃ v up nx',K v up nx'=some r /\ qQ P o ρ h nx v up nx'
theorem qKz {x:Operand} {ty:TypeId} (hrun:∀ (nm:Nm) (w:World) (a:Act),(∀ x∈o.op.operands,qM ⟨nm,h,nx⟩ (ev ρ x) (a.eval x))->(execOp a.eval o).run P w=.ok (.value (a.eval x)) w)
  (hmem:x∈o.op.operands) (hE:qDe c ρ x ty nx K=some r):qD1 P o ρ h nx K r:=by
 have hv:qQ P o ρ h nx (ev ρ x) [] nx:=qQ.pure fun nm w a hr _=>⟨a.eval x,hrun nm w a hr,hr x hmem⟩
 have hplain:(match ev ρ x with
   | .s z=>K (.s z) [] nx
   | .agg l=>K (.agg l) [] nx
   | .tup l=>K (.tup l) [] nx)=some r->qD1 P o ρ h nx K r:=fun hE=>by
  refine⟨ev ρ x,[],nx,?_,hv⟩
  split at hE<;>(rename_i e;rw[e];exact hE)
 unfold qDe at hE
 split at hE
 ·split at hE<;>try cases hE
  rename_i e _
  unfold qWZ at hE
  split at hE<;>try cases hE
  rename_i g hg
  refine⟨_,_,_,hE,?_⟩
  intro nm w a hr hh N Q hN
  obtain⟨g1,g2⟩:=qT4 hg
  have hn:qCL [(nx,Obj.sli e false g)] nx (nx+1):=fun q=>by
   by_cases hq:q=nx
   ·subst hq;exact .inr ⟨Nat.le_refl _,by omega,e,g,by simp[List.lookup],g1,g2⟩
   ·exact .inl ⟨by simp[List.lookup,beq_eq_false_iff_ne.2 hq],by omega⟩
  obtain⟨nm',n1,n2,n3,n4⟩:=qOo hh (Nat.le_succ _) hn
  unfold Oper.wp
  rw[hrun nm w a hr]
  refine hN _ nm' w ?_ n2 n3 n4
  obtain⟨m1,m2,m3⟩:=n1 nx (Nat.le_refl _) (Nat.lt_succ_self _)
  refine⟨m1,?_⟩
  have:Hp.get ([(nx,Obj.sli e false g)]++h) nx=.sli e false g:=by rw[qt];simp[List.lookup]
  rw[this]
  show qAC nm' nx g.shp 0 0 true _
  unfold qAC
  rw[show nm' nx=none from m2]
  exact⟨rfl,rfl,rfl⟩
 ·exact hplain hE
theorem qhp {x:Obj} (h:x.live=true):x.shape≠.dead:=by
 cases x<;>simp[Obj.live] at h<;>simp[Obj.shape]
theorem qmM {x:Obj} {e:Option Seg} (h:qAB x e=true):∃ T ro g g0,x=.sli T ro g /\ e=some g0 /\ g.shp.width=g0.shp.width /\ 0<g.shp.width:=by
 unfold qAB at h
 split at h
 ·exact⟨_,_,_,_,rfl,rfl,rfl,Nat.one_pos⟩
 ·exact⟨_,_,_,_,rfl,rfl,rfl,Nat.one_pos⟩
 ·rename_i ks _ _ ks' _ _
  simp only[Bool.and_eq_true,decide_eq_true_eq] at h
  obtain⟨rfl,h2⟩:=h
  have h2:0<ks.length:=by simpa[Nat.blt_eq] using h2
  exact⟨_,_,_,_,rfl,rfl,rfl,by simpa[Seg.shp,Shp.width] using h2⟩
 ·cases h
theorem qgb {op:BinOp} {k:IntKind} {a d:Int} {K:S->Option R} (h:qC1 op k a d K=some r):∃ z,K z=some r:=by
 cases op<;>simp only[qC1] at h<;>first
  | exact⟨_,h⟩
  | (rcases qAE h with⟨_,h⟩ | ⟨_,h⟩<;>first | cases h | exact⟨_,h⟩)
theorem qdg (hc:CtxOK P c) {op:BinOp} {t yt:TypeId} {x y:Operand} (ho:o.op=.binOp op t x y yt) (hE:qf c o ρ h nx K=some r):qD1 P o ρ h nx K r:=by
 simp only[qf,ho] at hE
 have qBL:∀ {k k':IntKind} {a d:Int},ev ρ x=.s (.i k a)->ev ρ y=.s (.i k' d)->(op=.shl \/ op=.shr \/ k'=k)->qC1 op k a d (fun z=>K (.s z) [] nx)=some r->qD1 P o ρ h nx K r:=by
  intro k k' a d hx hy hk hE
  by_cases hyp:k.wrap a=a /\ (op=.shl \/ op=.shr \/ k.wrap d=d)
  ·obtain⟨z,vr,h1,h2,h3⟩:=qmG (P:=P) hE hyp.1 hyp.2 t x y k' hk
   refine⟨_,_,_,h1,qQ.pure fun nm w a' hr _=>⟨vr,?_,h3 _⟩⟩
   have e1:=hr x (by simp[ho,Op.operands])
   have e2:=hr y (by simp[ho,Op.operands])
   rw[hx] at e1
   rw[hy] at e2
   obtain⟨e1,_⟩:=qBT e1
   obtain⟨e2,_⟩:=qBT e2
   have:=h2 w
   simp only[Sem.run_bind] at this
   simp only[execOp,ho,e1,e2,Sem.run_bind]
   revert this
   cases (eqGuard op t x y (.int k a) (.int k' d)).run P w<;>simp only[Result.andThen]<;>intro this<;>first
    | cases this
    | (rw[this];rfl)
  ·obtain⟨z,hz⟩:=qgb hE
   refine⟨_,_,_,hz,qQ.pure fun nm w a' hr _=>absurd ?_ hyp⟩
   have e1:=hr x (by simp[ho,Op.operands])
   have e2:=hr y (by simp[ho,Op.operands])
   rw[hx] at e1
   rw[hy] at e2
   refine⟨(qBT e1).2,?_⟩
   rcases hk with hk | hk | hk
   ·exact .inl hk
   ·exact .inr (.inl hk)
   ·subst hk;exact .inr (.inr (qBT e2).2)
 split at hE
 ·rename_i k a k' d hx hy
  split at hE
  ·exact qBL hx hy (.inl rfl) hE
  ·exact qBL hx hy (.inr (.inl rfl)) hE
  ·obtain⟨hk,hE⟩:=qU hE
   simp only[decide_eq_true_eq] at hk
   exact qBL hx hy (.inr (.inr hk.symm)) hE
 ·rename_i l m hx hy
  split at hE<;>try cases hE
  rename_i L hL
  obtain⟨hb,hE⟩:=qU hE
  simp only[Bool.and_eq_true] at hb
  obtain⟨⟨⟨b1,b2⟩,b3⟩,b4⟩:=hb
  split at hE<;>try cases hE
  rename_i z hz
  obtain⟨q1,q2⟩:=qin (P:=P) (h:=h) (nx:=nx) ho hx hy (hc.tab t L hL) b2 b3 b4 hz (hc.eqs t L b1 hL)
  rcases qGt hE with⟨hop,hE⟩ | ⟨hop,hE⟩
  ·exact⟨_,_,_,hE,q1 hop⟩
  ·exact⟨_,_,_,hE,q2 hop⟩
 ·rename_i a d _ hx hy
  split at hE<;>try cases hE
  ·rename_i p q hL _
   obtain⟨u,hu,hd⟩:=(hc.tab t _ hL).desc
   simp only at hd
   subst hd
   obtain⟨q1,q2⟩:=qio (P:=P) (h:=h) (nx:=nx) ho hx hy hu
   rcases qGt hE with⟨hop,hE⟩ | ⟨hop,hE⟩
   ·exact⟨_,_,_,hE,q1 hop⟩
   ·exact⟨_,_,_,hE,q2 hop⟩
  ·rename_i hL _
   obtain⟨u,hu,e,hd⟩:=(hc.tab t _ hL).desc
   subst hd
   obtain⟨q1,q2⟩:=qOr (P:=P) (h:=h) (nx:=nx) (ob:=0) (sg:=0) (row:=none) (col:=0) ho hu (.inl ⟨hx,hy,rfl⟩)
   rcases qGt hE with⟨hop,hE⟩ | ⟨hop,hE⟩
   ·exact⟨_,_,_,hE,q1 hop⟩
   ·exact⟨_,_,_,hE,q2 hop⟩
  ·rename_i hL _
   obtain⟨hm,hE⟩:=qU hE
   obtain⟨u,hu,e,hd⟩:=(hc.tab t _ hL).desc
   subst hd
   obtain⟨q1,q2⟩:=qOr (P:=P) (h:=h) (nx:=nx) ho hu (.inr ⟨rfl,hm,.inl ⟨hx,hy⟩⟩)
   rcases qGt hE with⟨hop,hE⟩ | ⟨hop,hE⟩
   ·exact⟨_,_,_,hE,q1 hop⟩
   ·exact⟨_,_,_,hE,q2 hop⟩
  ·rename_i hL _
   obtain⟨hm,hE⟩:=qU hE
   obtain⟨u,hu,e,hd⟩:=(hc.tab t _ hL).desc
   subst hd
   obtain⟨q1,q2⟩:=qOr (P:=P) (h:=h) (nx:=nx) ho hu (.inr ⟨rfl,hm,.inr ⟨hy,hx⟩⟩)
   rcases qGt hE with⟨hop,hE⟩ | ⟨hop,hE⟩
   ·exact⟨_,_,_,hE,q1 hop⟩
   ·exact⟨_,_,_,hE,q2 hop⟩
 ·cases hE
theorem qcl (hc:CtxOK P c) {t:TypeId} {x y:Operand} (ho:o.op=.indexAddr t x y) (hE:qf c o ρ h nx K=some r):qD1 P o ρ h nx K r:=by
 simp only[qf,ho] at hE
 split at hE<;>try cases hE
 ·rename_i ob sg row col k j n m e t' hx hy hL
  rcases qAE hE with⟨hj,hE1⟩ | ⟨_,hE1⟩<;>try cases hE1
  replace hE:=hE1
  clear hE1
  split at hE
  ·obtain⟨hb,hE1⟩:=qU hE
   replace hE:=hE1
   clear hE1
   simp only[Bool.and_eq_true,Nat.beq_eq] at hb
   obtain⟨rfl,_,hf⟩:=hb
   have hg:=qix (P:=P) (nx:=nx) (hc.tab t _ hL) ho hx hy hj hf
   cases hm:Nat.beq m 1 with
   | true=>
     rw[hm] at hE
     have hm:=Nat.eq_of_beq_eq_true hm
     subst hm
     rw[Nat.mul_one] at hg
     exact⟨_,_,_,hE,hg⟩
   | false=>rw[hm] at hE;exact⟨_,_,_,hE,hg⟩
  ·rename_i q lim
   cases hcel:qDo ((h.get ob).segs[sg]?) col (n*m) t' with
   | true=>
     rw[hcel] at hE
     exact⟨_,_,_,hE,qiv (P:=P) (nx:=nx) (hc.tab t _ hL) ho hx hy hj hcel⟩
   | false=>
   rw[hcel] at hE
   obtain⟨hb,hE⟩:=qU hE
   simp only[Bool.and_eq_true,Nat.beq_eq,Nat.ble_eq] at hb
   obtain⟨⟨b1,b2⟩,b3⟩:=hb
   have hg:=qiy (P:=P) (nx:=nx) (hc.tab t _ hL) ho hx hy hj b1 b2 b3
   cases hm:Nat.beq m 1 with
   | true=>
     rw[hm] at hE
     have hm:=Nat.eq_of_beq_eq_true hm
     subst hm
     rw[Nat.mul_one] at hg
     exact⟨_,_,_,hE,hg⟩
   | false=>rw[hm] at hE;exact⟨_,_,_,hE,hg⟩
 ·rename_i ob lo len full k j e hx hy hL
  obtain⟨hb,hE⟩:=qU hE
  simp only[Bool.and_eq_true] at hb
  obtain⟨b1,b2⟩:=hb
  obtain⟨T,ro,g,g0,s1,s2,s3,s4⟩:=qmM b1
  rcases qAE hE with⟨hj,hE⟩ | ⟨_,hE⟩<;>try cases hE
  have hg:=qiz (P:=P) (nx:=nx) hc.tab (hc.tab t _ hL) ho hx hy hj s1 s2 s3 s4
  cases full with
  | true=>
    simp only[cond_true,Nat.beq_eq] at b2
    subst b2
    rw[Nat.zero_add] at hg
    exact⟨_,_,_,hE,hg⟩
  | false=>exact⟨_,_,_,hE,hg⟩
 ·rename_i g k j n e k' n' hx hy hL
  split at hE<;>try cases hE
  rename_i k2 l hg
  obtain⟨hb,hE1⟩:=qU hE
  clear hE
  simp only[Bool.and_eq_true,decide_eq_true_eq,Nat.beq_eq] at hb
  obtain⟨rfl,hn⟩:=hb
  rw[hc.brg] at hE1
  rcases qAE hE1 with⟨hj,hE⟩ | ⟨_,hE⟩<;>try cases hE
  exact⟨_,_,_,hE,qiw (P:=P) (nx:=nx) (hc.tab t _ hL) ho hx hy hj hg hn⟩
theorem qhh (hc:CtxOK P c) {cl:Call} (ho:o.op=.call cl) (hcl:cl.callee=.builtin .len) (hE:qCw c .len cl.args.toList cl.argTypes.toList ρ h nx K=some r):qD1 P o ρ h nx K r:=by
 simp only[qCw] at hE
 split at hE<;>try cases hE
 rename_i x t hx ht
 have hargs:cl.args = #[x]:=by rw[<- hx]
 have htys:cl.argTypes = #[t]:=by rw[<- ht]
 split at hE<;>try cases hE
 case h_2=>
  rename_i ob k e hv hL
  split at hE<;>try cases hE
  rename_i ka va ks vs es hob
  rcases qAE hE with⟨hb,hE⟩ | ⟨_,hE⟩<;>try cases hE
  obtain⟨d,hu,hd⟩:=(hc.tab t _ hL).desc
  simp only at hd
  subst hd
  exact⟨_,_,_,hE,qi0 ho hcl hargs htys hv hu hob (of_decide_eq_true hb)⟩
 rename_i ob lo len full e hv hL
 obtain⟨hs,hE⟩:=qU hE
 refine⟨_,_,_,hE,qQ.pure fun nm w a hr hh=>?_⟩
 have h1:=hr x (by simp[ho,Op.operands,Call.operands,hcl,hargs])
 rw[hv] at h1
 obtain⟨d,hu,hd⟩:=(hc.tab t _ hL).desc
 simp only at hd
 subst hd
 obtain⟨hlt,h2⟩:=h1
 have hob:=hh.obj ob
 cases hq:h.get ob with
 | sli T ro g=>
   rw[show (Env.h ⟨nm,h,nx⟩).get ob=_ from hq] at h2
   have h2:qAC nm ob g.shp lo len full (a.eval x):=h2
   unfold qN at hob
   rw[show (Env.h ⟨nm,h,nx⟩).get ob=_ from hq] at hob
   have key:∃ aa cc,a.eval x=.slice aa len cc /\ len<=maxLen:=by
    unfold qAC at h2
    split at h2
    ·obtain⟨_,rfl,h4⟩:=h2
     exact⟨_,_,h4,Nat.zero_le _⟩
    ·rename_i b off cap hnm
     obtain⟨c',h5,_,h7,_⟩:=h2
     refine⟨_,_,h5,?_⟩
     cases ro with
     | true=>simp only[hnm] at hob;omega
     | false=>
       simp only[hnm] at hob
       obtain⟨_,_,arr,_,_,q3,q4,_⟩:=hob
       omega
   obtain⟨aa,cc,hval,hmax⟩:=key
   refine⟨.int .i64 len,?_,rfl,qBD (by show (-9223372036854775808:Int)<=_;omega) (by show _<=(9223372036854775807:Int);unfold maxLen at hmax;omega)⟩
   simp[execOp,ho,resolve,hcl,hargs,htys,hval,invoke,builtin,Builtin.len_,goInt,run_underlying hu]
 | _=>rw[hq] at hs;cases hs
theorem qWL {cl:Call} {mn:Bool} {z:S} (ho:o.op=.call cl) (hcl:cl.callee=.builtin (bif mn then .min else .max)) (hz:qKn mn (cl.args.toList.map (ev ρ))=some z):qQ P o ρ h nx (.s z) [] nx:=by
 unfold qKn at hz
 split at hz<;>try cases hz
 rename_i k a k' d hl
 obtain⟨hk,hz2⟩:=qMj hz
 clear hz
 subst hk
 subst hz2
 have two:∀ l:List Operand,l.map (ev ρ)=[.s (.i k a),.s (.i k d)]->∃ x y,l=[x,y] /\ ev ρ x=.s (.i k a) /\ ev ρ y=.s (.i k d):=by
  intro l hl
  cases l with
  | nil=>simp at hl
  | cons x l=>cases l with
    | nil=>simp at hl
    | cons y l=>cases l with
      | nil=>simp at hl;exact⟨x,y,rfl,hl.1,hl.2⟩
      | cons z l=>simp at hl
 ·obtain⟨x,y,hargs,hx,hy⟩:=two _ hl
  have hargs':cl.args = #[x,y]:=by rw[<- hargs]
  refine qQ.pure fun nm w ac hr hh=>?_
  have h1:=hr x (by simp[ho,Op.operands,Call.operands,hcl,hargs'])
  rw[hx] at h1
  obtain⟨h1,r1⟩:=qBT h1
  have h2:=hr y (by simp[ho,Op.operands,Call.operands,hcl,hargs'])
  rw[hy] at h2
  obtain⟨h2,r2⟩:=qBT h2
  cases mn with
  | true=>
    refine⟨.int k (if d<a then d else a),by simp[execOp,ho,resolve,hcl,hargs',h1,h2,invoke,builtin,Builtin.min_,Builtin.min2],?_⟩
    by_cases hlt:d<a
    ·simp only[cond_true,hlt,decide_true,if_true];exact⟨rfl,r2⟩
    ·simp only[cond_true,hlt,decide_false,if_false,cond_false];exact⟨rfl,r1⟩
  | false=>
    refine⟨.int k (if d>a then d else a),by simp[execOp,ho,resolve,hcl,hargs',h1,h2,invoke,builtin,Builtin.max_,Builtin.max2],?_⟩
    by_cases hlt:d>a
    ·simp only[cond_false,hlt,decide_true,if_true,cond_true];exact⟨rfl,r2⟩
    ·simp only[cond_false,hlt,decide_false,if_false];exact⟨rfl,r1⟩
theorem qdq (hc:CtxOK P c) {cl:Call} {b:Builtin} (ho:o.op=.call cl) (hcl:cl.callee=.builtin b) (hE:qCw c b cl.args.toList cl.argTypes.toList ρ h nx K=some r):qD1 P o ρ h nx K r:=by
 have hE':=hE
 unfold qCw at hE'
 split at hE'
 ·exact qhh hc ho hcl hE
 ·split at hE'<;>try cases hE'
  rename_i x y t t' ha ht
  obtain⟨hb,hE1⟩:=qU hE'
  have hb:=Nat.eq_of_beq_eq_true hb
  subst hb
  exact qii hc.tab hc.bytes ho hcl ha ht hE1
 ·split at hE'<;>try cases hE'
  rename_i x t ha ht
  exact qik hc.tab ho hcl ha ht hE'
 ·split at hE'<;>try cases hE'
  rename_i x y t t' ha ht
  exact qim hc.tab ho hcl ha ht hE'
 ·split at hE'<;>try cases hE'
  rename_i z hz
  exact⟨_,_,_,hE',qWL (mn:=true) ho hcl hz⟩
 ·split at hE'<;>try cases hE'
  rename_i z hz
  exact⟨_,_,_,hE',qWL (mn:=false) ho hcl hz⟩
 ·cases hE'
theorem qTD {e:Env} {a:Act}:∀ {l:List Operand} {qs:List Nat},qDL ρ e.h l=some qs->(∀ x∈l,qM e (ev ρ x) (a.eval x))->qB (qGa e) qs (l.map a.eval)
 | [],qs,h,_=>by simp[qDL] at h;subst h;trivial
 | x :: l,qs,h,hr=>by
   simp only[qDL] at h
   split at h<;>try cases h
   rename_i q l' hx hl
   cases hb:(e.h.get q).isCell with
   | false=>rw[hb] at h;cases h
   | true=>
     rw[hb] at h
     cases h
     refine⟨?_,qTD hl fun y hy=>hr y (by simp[hy])⟩
     have h1:=hr x (by simp)
     rw[hx] at h1
     obtain⟨h1,h2⟩:=h1
     refine⟨h1,?_⟩
     cases hq:e.h.get q<;>rw[hq] at hb<;>simp[Obj.isCell] at hb <;>
     ·rw[hq] at h2
      obtain⟨_,b,off,cap,h3,h4⟩:=h2
      exact⟨b,off,cap,h3,by simpa[qY,qk] using h4⟩
theorem qi4 {f:FuncId} {first caps:Array Operand} {qs:List Nat} (ho:o.op=.makeFunc (.func f) first caps) (hf:first.toList=[]) (hq:qDL ρ h caps.toList=some qs):qQ P o ρ h nx (.s (.fn f qs)) [] nx:=
 qQ.pure fun nm w a hr hh=>by
  have hf':first = #[]:=by rw[<- hf]
  have:=qTD (e:=⟨nm,h,nx⟩) (a:=a) hq fun x hx=>hr x (by rw[ho];simp only[Op.operands,Array.mem_append];exact .inr (by simpa using hx))
  refine⟨.func (.func f) #[] (caps.map a.eval),by simp[execOp,ho,Instr.makeFunc,hf'],(caps.map a.eval).toList,rfl,by simpa using this⟩
theorem qjS (hc:CtxOK P c) (hE:qf c o ρ h nx K=some r):qD1 P o ρ h nx K r:=by
 have hE':=hE
 unfold qf at hE'
 split at hE'
 ·rename_i x ho
  exact qKz (fun nm w a _=>by simp[execOp,ho]) (by simp[ho,Op.operands]) hE'
 ·rename_i x ho
  exact qKz (fun nm w a _=>by simp[execOp,ho]) (by simp[ho,Op.operands]) hE'
 ·rename_i t x y ho
  split at hE'<;>try cases hE'
  rename_i z ht
  have h1:∀ (nm:Nm) (a:Act),(∀ x∈o.op.operands,qM ⟨nm,h,nx⟩ (ev ρ x) (a.eval x))->a.eval t=.bool z:=by
   intro nm a hr
   have:=hr t (by simp[ho,Op.operands])
   rw[ht] at this
   exact this
  rcases qAE hE' with⟨rfl,hE'⟩ | ⟨rfl,hE'⟩
  ·exact qKz (fun nm w a hr=>by simp[execOp,ho,h1 nm a hr,asBool]) (by simp[ho,Op.operands]) hE'
  ·exact qKz (fun nm w a hr=>by simp[execOp,ho,h1 nm a hr,asBool]) (by simp[ho,Op.operands]) hE'
 ·rename_i t ho
  split at hE'<;>try cases hE'
  rename_i L hL
  split at hE'<;>try cases hE'
  rename_i l hp nx' hz
  exact⟨_,_,_,hE',qWd (hc.tab t L hL) ho hz⟩
 ·rename_i t x ho
  split at hE'<;>try cases hE'
  rename_i l hl
  obtain⟨hg,hE'⟩:=qU hE'
  exact⟨_,_,_,hE',qij ho hl hg⟩
 ·rename_i t ps ho
  split at hE'<;>try cases hE'
  ·rename_i ts fl hL
   split at hE'<;>try cases hE'
   rename_i l hp nx' hz
   split at hE'<;>try cases hE'
   rename_i l' hs
   exact⟨_,_,_,hE',qOq (hc.tab t _ hL) ho hz hs⟩
  ·rename_i n m e t' hL
   split at hE'<;>try cases hE'
   rename_i l hp nx' hz
   split at hE'<;>try cases hE'
   rename_i l' hs
   exact⟨_,_,_,hE',qOp (hc.tab t _ hL) ho hz hs⟩
 ·rename_i t x ho
  split at hE'<;>try cases hE'
  rename_i ob sg row col hx
  split at hE'<;>try cases hE'
  ·rename_i T l L hob hL
   split at hE'<;>try cases hE'
   rename_i v hv
   exact⟨_,_,_,hE',qWg hc.tab ho hx (.inl hob) hL hv⟩
  ·rename_i T l L hob hL
   split at hE'<;>try cases hE'
   rename_i v hv
   exact⟨_,_,_,hE',qWg hc.tab ho hx (.inr hob) hL hv⟩
  ·rename_i T ro g L hob hL
   split at hE'<;>try cases hE'
   rename_i v hv
   exact⟨_,_,_,hE',qi2 (hc.tab t L hL) ho hx hob hv⟩
  ·rename_i g j hx
   split at hE'<;>try cases hE'
   rename_i k l k' hg hL
   obtain⟨hk,hE1⟩:=qU hE'
   clear hE'
   simp only[decide_eq_true_eq] at hk
   subst hk
   exact⟨_,_,_,hE1,qi1 (hc.tab t _ hL) ho hx hg⟩
 ·rename_i ty x y ho
  split at hE'<;>try cases hE'
  rename_i ob sg row col hx
  obtain⟨hb,hE'⟩:=qU hE'
  simp only[Bool.and_eq_true] at hb
  obtain⟨hg,hsz⟩:=hb
  split at hE'<;>try cases hE'
  ·rename_i T l hob
   split at hE'<;>try cases hE'
   rename_i l' hv
   exact⟨_,_,_,hE',qjE hc.tab ho hx hob hg hsz hv⟩
  ·rename_i T g hob
   split at hE'<;>try cases hE'
   rename_i g' hv
   obtain⟨ht,hE'⟩:=qU hE'
   exact⟨_,_,_,hE',qjF hc.tab ho hx hob hg hsz hv ht⟩
 ·rename_i x ho
  split at hE'<;>try cases hE'
  rename_i ob sg row col hx
  obtain⟨hl,hE'⟩:=qU hE'
  exact⟨_,_,_,hE',qjA ho hx (qhp hl)⟩
 ·rename_i ho
  exact qdg hc ho hE
 ·rename_i ho
  split at hE'<;>try cases hE'
  rename_i z hx
  split at hE'<;>try cases hE'
  rename_i z' hz
  exact⟨_,_,_,hE',qjG ho hx hz⟩
 ·rename_i src dst x ho
  split at hE'<;>try cases hE'
  rename_i k n k' Ls hx hd hs
  refine⟨_,_,_,hE',qil hc.tab ho hx hd ?_⟩
  have:=(hc.tab src Ls hs).desc
  cases Ls with
  | sc kd=>obtain⟨d,h1,_⟩:=this;exact⟨d,h1⟩
  | st ts fl=>obtain⟨fs,h1,_⟩:=this;exact⟨_,h1⟩
  | ar n m e sg=>exact⟨_,this.1⟩
 ·rename_i t x f ho
  split at hE'<;>try cases hE'
  rename_i ob sg row col ts fl hx hL
  split at hE'<;>try cases hE'
  rename_i fs fc ft hf
  split at hE'
  ·cases hb:(Nat.beq fs 0&&(h.get ob).isMem) with
   | true=>
     rw[hb] at hE'
     simp only[Bool.and_eq_true,Nat.beq_eq] at hb
     exact⟨_,_,_,hE',qis (hc.tab t _ hL) ho hx hf hb.2 hb.1⟩
   | false=>
     rw[hb] at hE'
     obtain⟨hb,hE1⟩:=qU hE'
     replace hE':=hE1
     clear hE1
     simp only[Bool.and_eq_true,Nat.beq_eq] at hb
     obtain⟨⟨rfl,b2⟩,b3⟩:=hb
     exact⟨_,_,_,hE',qir (hc.tab t _ hL) ho hx hf (by cases hz:h.get ob<;>rw[hz] at b2<;>simp[Obj.isCell] at b2<;>rfl) b3⟩
  ·obtain⟨hb,hE'⟩:=qU hE'
   rw[qCQ] at hE'
   exact⟨_,_,_,hE',qit (hc.tab t _ hL) ho hx hf (by simpa[Nat.blt_eq] using hb)⟩
 ·rename_i t x f ho
  split at hE'<;>try cases hE'
  rename_i l ts fl hx hL
  split at hE'<;>try cases hE'
  rename_i fs fc ft hf
  split at hE'<;>try cases hE'
  rename_i L hft
  split at hE'<;>try cases hE'
  rename_i v hv
  obtain⟨b1,hv⟩:=qU hv
  exact⟨_,_,_,hE',qiq (hc.tab t _ hL) ho hx hf (hc.tab ft L hft) hft hv b1⟩
 ·rename_i ho
  exact qcl hc ho hE
 ·rename_i t x y ho
  split at hE'<;>try cases hE'
  rename_i g k j n m e t' hx hy hL
  split at hE'<;>try cases hE'
  rename_i L he
  rcases qAE hE' with⟨hj,hE'⟩ | ⟨_,hE'⟩<;>try cases hE'
  split at hE'<;>try cases hE'
  rename_i v hv
  obtain⟨b1,hv⟩:=qU hv
  refine⟨_,_,_,hE',qiu (hc.tab t _ hL) ho hx hy hj b1 (hc.tab e L he) he ?_⟩
  cases hm:Nat.beq m 1 with
  | true=>
    rw[hm] at hv
    have hm:=Nat.eq_of_beq_eq_true hm
    subst hm
    rw[Nat.mul_one]
    exact hv
  | false=>rw[hm] at hv;exact hv
 ·rename_i x j ho
  split at hE'<;>try cases hE'
  rename_i l hx
  split at hE'<;>try cases hE'
  rename_i y hj
  exact⟨_,_,_,hE',qip ho hx hj⟩
 ·rename_i cl ho
  split at hE'<;>try cases hE'
  ·rename_i f hcl
   split at hE'<;>try cases hE'
   rename_i fid caps hf
   obtain⟨hcap,hE'⟩:=qU hE'
   obtain⟨v,up,nx',k1,k2,_⟩:=qWf hc.orc ho hcl hf hE' hcap
   exact⟨v,up,nx',k1,k2⟩
  ·rename_i b hcl
   exact qdq hc ho hcl hE'
 ·rename_i t x y ho
  split at hE'<;>try cases hE'
  rename_i n n' e hx hy hL
  split at hE'<;>try cases hE'
  rename_i g by_ hg hbn
  obtain⟨hb,hE1⟩:=qU hE'
  clear hE'
  simp only[Bool.and_eq_true,Nat.blt_eq] at hb
  rcases qAE hE1 with⟨b1,hE2⟩ | ⟨_,hE2⟩<;>try cases hE2
  rcases qAE hE2 with⟨b2,hE3⟩ | ⟨_,hE3⟩<;>try cases hE3
  rcases qAE hE3 with⟨b3,hE4⟩ | ⟨_,hE4⟩<;>try cases hE4
  exact qi6 hc.tab hc.bytes ho hx hy hL hg hbn hb.1 hb.2 (of_decide_eq_true b1) (of_decide_eq_true b2) (of_decide_eq_true b3) hE4
 ·rename_i t n ps ho
  split at hE'<;>try cases hE'
  rename_i e hL
  split at hE'<;>try cases hE'
  rename_i g hg
  obtain⟨hb,hE1⟩:=qU hE'
  clear hE'
  simp only[Bool.and_eq_true,Nat.blt_eq] at hb
  split at hE1<;>try cases hE1
  rename_i g' hs
  exact qWe hc.tab ho hL hg hb.1 (Nat.le_of_ble_eq_true hb.2) hs hE1
 ·rename_i t x lo hi mx ho
  split at hE'<;>try cases hE'
  rename_i ob l len full e hx hL
  obtain⟨hb,hE1⟩:=qU hE'
  exact qjD hc.tab ho hx hL hb hE1
 ·rename_i f first caps ho
  split at hE'<;>try cases hE'
  rename_i qs hf hq
  exact⟨_,_,_,hE',qi4 ho hf hq⟩
 ·rename_i t ho
  split at hE'<;>try cases hE'
  exact⟨_,_,_,hE',qi5 ho⟩
 ·rename_i t m x y ho
  split at hE'<;>try cases hE'
  rename_i ob Lk a Le b hm hM
  split at hE'<;>try cases hE'
  rename_i ka va ks vs es ka' a' r va' b' v hob hx hy
  obtain⟨hb,hE1⟩:=qU hE'
  simp only[Bool.and_eq_true,beq_iff_eq,decide_eq_true_eq] at hb
  obtain⟨⟨⟨⟨⟨⟨⟨rfl,rfl⟩,rfl⟩,rfl⟩,rfl⟩,rfl⟩,rfl⟩,rfl⟩:=hb
  obtain⟨k,e,hMO⟩:=qWE hc.tab hc.eqs hM
  exact⟨_,_,_,hE1,qi7 ho hm hx hy hob hMO⟩
 ·rename_i t m x okk ho
  split at hE'<;>try cases hE'
  rename_i ob Lk a Le b hm hM
  split at hE'<;>try cases hE'
  rename_i ka va ks vs es ka' a' r hob hx
  obtain⟨hb,hE1⟩:=qU hE'
  simp only[Bool.and_eq_true,beq_iff_eq,decide_eq_true_eq] at hb
  obtain⟨⟨⟨⟨⟨rfl,rfl⟩,rfl⟩,rfl⟩,rfl⟩,rfl⟩:=hb
  split at hE1<;>try cases hE1
  rename_i y hw
  obtain⟨k,e,hMO⟩:=qWE hc.tab hc.eqs hM
  exact⟨_,_,_,hE1,qi3 ho hm hx hob hMO hw⟩
 ·rename_i t x ho
  split at hE'<;>try cases hE'
  rename_i s hx hL
  rcases qAE hE' with⟨hb,hE1⟩ | ⟨_,hE1⟩<;>try cases hE1
  obtain⟨d,hu,hd⟩:=(hc.tab t _ hL).desc
  simp only at hd
  subst hd
  exact⟨_,_,_,hE1,qjB ho hx hu (of_decide_eq_true hb)⟩
 ·rename_i x ho
  split at hE'<;>try cases hE'
  rename_i ob hx
  split at hE'<;>try cases hE'
  rename_i s pos hob
  rcases qAE hE' with⟨hb,hE1⟩ | ⟨hb,hE1⟩
  ·exact⟨_,_,_,hE1,qi8 ho hx hob (by simpa[Nat.blt_eq] using hb)⟩
  ·exact⟨_,_,_,hE1,qi9 ho hx hob (by intro hc';rw[<- Nat.blt_eq,hb] at hc';cases hc')⟩
 ·cases hE'
theorem qeQ (hc:CtxOK P c) (hv:qBB o.op=true) (hE:qf c o ρ h nx K=some r):
  ∃ v up nx',K v up nx'=some r /\ qQ P o ρ h nx v up nx' /\ (up=[]->nx'=nx->(∀ q∈qAn ρ h o,(h.get q).live=true)->
    ∀ h2 nx2,(∀ q∈qAn ρ h o,Hp.get h2 q=Hp.get h q)->qQ P o ρ h2 nx2 v [] nx2):=by
 unfold qBB at hv
 split at hv<;>try cases hv
 rename_i cl ho
 split at hv<;>try cases hv
 rename_i f hcl
 simp only[qf,ho,hcl] at hE
 split at hE<;>try cases hE
 rename_i fid caps hf
 obtain⟨hcap,hE⟩:=qU hE
 have hrd:qAn ρ h o=qBZ h 64 [] ((qIW ρ cl caps).flatMap V.refs):=by simp only[qAn,ho,hcl,hf]
 rw[hrd]
 exact qWf hc.orc ho hcl hf hE hcap
theorem qch {tab:Tab}:∀ {ks:List Kd} {nx nx':Nat} {l:List S},qBp tab ks nx=some (l,[],nx')->nx'=nx /\ ∀ nx2,qBp tab ks nx2=some (l,[],nx2)
 | [],nx,nx',l,h=>by
   simp only[qBp,Option.some.injEq,Prod.mk.injEq] at h
   exact⟨h.2.2.symm,fun nx2=>by simp only[qBp,h.1]⟩
 | k :: r,nx,nx',l,h=>by
   cases k with
   | sl e=>
     simp only[qBp] at h
     split at h<;>cases h
   | f=>simp only[qBp] at h;cases h
   | _=>
     simp only[qBp] at h
     split at h<;>try cases h
     rename_i hx hz
     obtain⟨g1,g2⟩:=qch hz
     refine⟨g1,fun nx2=>?_⟩
     simp only[qBp,g2 nx2]
     simp_all
theorem qMJ {tab:Tab}:∀ {ts:List SegT} {nx nx':Nat} {l:List Seg},qAW tab ts nx=some (l,[],nx')->nx'=nx /\ ∀ nx2,qAW tab ts nx2=some (l,[],nx2)
 | [],nx,nx',l,h=>by
   simp only[qAW,Option.some.injEq,Prod.mk.injEq] at h
   exact⟨h.2.2.symm,fun nx2=>by simp only[qAW,h.1]⟩
 | t :: r,nx,nx',l,h=>by
   cases t with
   | one ks=>
     simp only[qAW] at h
     split at h<;>try cases h
     rename_i vs h1 nx1 hz1
     split at h<;>try cases h
     rename_i l2 h2 nx2 hz2
     simp only[Option.some.injEq,Prod.mk.injEq,List.append_eq_nil_iff] at h
     obtain⟨e1,⟨e2,e3⟩,e4⟩:=h
     subst e1 e2 e3 e4
     obtain⟨g1,g2⟩:=qch hz1
     obtain⟨k1,k2⟩:=qMJ hz2
     refine⟨k1.trans g1,fun n=>?_⟩
     simp only[qAW,g2 n,k2 n,List.append_nil]
   | _=>
     simp only[qAW] at h
     split at h<;>try cases h
     rename_i hz
     obtain⟨g1,g2⟩:=qMJ hz
     exact⟨g1,fun n=>by simp only[qAW,g2 n]⟩
theorem qeK (hc:CtxOK P c) (hv:qCh o.op=true) (hE:qf c o ρ h nx K=some r):
  ∃ v up nx',K v up nx'=some r /\ qQ P o ρ h nx v up nx' /\ (up=[]->∀ h2 nx2,qQ P o ρ h2 nx2 v [] nx2):=by
 unfold qCh at hv
 split at hv<;>try cases hv
 rename_i t ps ho
 simp only[qf,ho] at hE
 split at hE<;>try cases hE
 ·rename_i ts fl hL
  split at hE<;>try cases hE
  rename_i l hp nx' hz
  split at hE<;>try cases hE
  rename_i l' hs
  refine⟨_,_,_,hE,qOq (hc.tab t _ hL) ho hz hs,fun hup h2 nx2=>?_⟩
  subst hup
  exact qOq (hc.tab t _ hL) ho ((qMJ hz).2 nx2) hs
 ·rename_i n m e t' hL
  split at hE<;>try cases hE
  rename_i l hp nx' hz
  split at hE<;>try cases hE
  rename_i l' hs
  refine⟨_,_,_,hE,qOp (hc.tab t _ hL) ho hz hs,fun hup h2 nx2=>?_⟩
  subst hup
  exact qOp (hc.tab t _ hL) ho ((qMJ hz).2 nx2) hs
theorem qMq {n d:Nat} {y:Option Operand} {g:Bool} {m:Nat} (h:qIQ ρ n d y=some (g,m)):(y=none /\ g=true /\ m=d) \/ ∃ z k j,y=some z /\ ev ρ z=.s (.i k j) /\ g=qAb j n /\ m=j.toNat:=by
 cases y with
 | none=>
   simp only[qIQ,Option.some.injEq,Prod.mk.injEq] at h
   exact .inl ⟨rfl,h.1.symm,h.2.symm⟩
 | some y=>
   simp only[qIQ] at h
   split at h<;>cases h
   rename_i k j hy
   exact .inr ⟨y,k,j,rfl,hy,rfl,rfl⟩
theorem qRR (hc:CtxOK P c) {z:S} (hv:qCH c o.op ρ h=some (true,z)):qQ P o ρ h nx (.s z) [] nx:=by
 unfold qCH at hv
 split at hv
 ·rename_i op t x y yt ho
  split at hv<;>try cases hv
  rename_i a b hx hy hL
  have hxy:∀ (nm:Nm) (ac:Act),(∀ x∈o.op.operands,qM ⟨nm,h,nx⟩ (ev ρ x) (ac.eval x))->ac.eval x=.string a /\ ac.eval y=.string b:=by
   intro nm ac hr
   have h1:=hr x (by simp[ho,Op.operands])
   have h2:=hr y (by simp[ho,Op.operands])
   rw[hx] at h1
   rw[hy] at h2
   exact⟨h1,h2⟩
  obtain⟨d,hu,hd⟩:=(hc.tab t _ hL).desc
  simp only at hd
  subst hd
  split at hv<;>try cases hv
  ·simp only[Option.some.injEq,Prod.mk.injEq,qRQ] at hv
   obtain⟨hb,rfl⟩:=hv
   refine qQ.pure fun nm w ac hr _=>?_
   obtain⟨e1,e2⟩:=hxy nm ac hr
   refine⟨.string (a++b),?_,rfl⟩
   have hb':¬ (((a.size+b.size:Nat):Int)>IntKind.i64.max):=by
    have:IntKind.i64.max=9223372036854775807:=rfl
    rw[this];unfold qDw at hb
    have e:Int.ofNat (a.size+b.size)=((a.size+b.size:Nat):Int):=rfl
    omega
   simp[execOp,ho,e1,e2,eqGuard,binOp,Op.stringOp]
   have hm:IntKind.i64.max=9223372036854775807:=rfl
   rw[hm] at hb'
   omega
  ·refine qQ.pure fun nm w ac hr _=>?_
   obtain⟨e1,e2⟩:=hxy nm ac hr
   refine⟨.bool (qIA a b),?_,rfl⟩
   simp[execOp,ho,e1,e2,eqGuard,binOp,Op.stringOp,qIA,qMA]
  ·refine qQ.pure fun nm w ac hr _=>?_
   obtain⟨e1,e2⟩:=hxy nm ac hr
   refine⟨.bool (!qIA a b),?_,rfl⟩
   simp[execOp,ho,e1,e2,eqGuard,binOp,Op.stringOp,qIA,qMA]
 ·rename_i t x y ho
  split at hv<;>try cases hv
  rename_i s k j hx hy hL
  simp only[Option.some.injEq,Prod.mk.injEq] at hv
  obtain⟨hb,rfl⟩:=hv
  obtain⟨d,hu,hd⟩:=(hc.tab t _ hL).desc
  simp only at hd
  subst hd
  simp only[inB,Bool.and_eq_true,decide_eq_true_eq] at hb
  refine qQ.pure fun nm w ac hr _=>?_
  have h1:=hr x (by simp[ho,Op.operands])
  have h2:=hr y (by simp[ho,Op.operands])
  rw[hx] at h1
  rw[hy] at h2
  obtain⟨h2,_⟩:=qBT h2
  have h1:ac.eval x=.string s:=h1
  have hlt:j.toNat<s.size:=by omega
  have hby:qEq s j.toNat=((s[j.toNat]'hlt).toNat:Int):=by
   unfold qEq
   have hl:j.toNat<s.data.toList.length:=by simpa using hlt
   rw[List.getD_eq_getElem?_getD,List.getElem?_eq_getElem hl]
   rfl
  refine⟨.int .u8 (qEq s j.toNat),?_,rfl,?_⟩
  ·simp only[execOp,ho,h1,h2,Sem.run_bind,run_index_string w t s k j hu,dif_pos hb,Result.andThen_ok,Sem.run_pure,hby]
  ·rw[hby]
   have:(s[j.toNat]'hlt).toNat<256:=UInt8.toNat_lt _
   exact qBD (by show (0:Int)<=_;omega) (by show _<=(255:Int);omega)
 ·rename_i t x lo hi ho
  split at hv<;>try cases hv
  rename_i s hx hL
  split at hv<;>try cases hv
  rename_i g m hhi
  split at hv<;>try cases hv
  rename_i g' l hlo
  simp only[Option.some.injEq,Prod.mk.injEq,Bool.and_eq_true] at hv
  obtain⟨⟨rfl,rfl⟩,rfl⟩:=hv
  obtain⟨d,hu,hd⟩:=(hc.tab t _ hL).desc
  simp only at hd
  subst hd
  refine qQ.pure fun nm w ac hr _=>?_
  have h1:=hr x (by simp[ho,Op.operands])
  rw[hx] at h1
  have h1:ac.eval x=.string s:=h1
  have hin:∀ {y:Operand} {k:IntKind} {n:Int},y∈o.op.operands->ev ρ y=.s (.i k n)->ac.eval y=.int k n:=by
   intro y k n hm hy
   have:=hr y hm
   rw[hy] at this
   exact this.1
  have hmem:∀ y,some y=lo \/ some y=hi->y∈o.op.operands:=by
   intro y hy
   rw[ho]
   simp only[Op.operands,Array.mem_append]
   rcases hy with rfl | rfl<;>simp
  refine⟨.string (s.extract l m),?_,rfl⟩
  have hbs:(Instr.sliceBounds false s.size s.size (lo.map ac.eval) (hi.map ac.eval) none).run P w=.ok (l,m,s.size) w:=by
   rcases qMq hhi with⟨rfl,_,rfl⟩ | ⟨y,k,j,rfl,hy,hj,rfl⟩
   ·rcases qMq hlo with⟨rfl,_,rfl⟩ | ⟨y',k',j',rfl,hy',hj',rfl⟩
    ·simp[Instr.sliceBounds]
    ·obtain⟨b1,b2⟩:=qKT.1 hj'.symm
     have e2:=hin (hmem y' (.inl rfl)) hy'
     simp[Instr.sliceBounds,e2,run_sliceBound (P:=P) w k' j' s.size _ b1 b2]
   ·obtain⟨a1,a2⟩:=qKT.1 hj.symm
    have e1:=hin (hmem y (.inr rfl)) hy
    rcases qMq hlo with⟨rfl,_,rfl⟩ | ⟨y',k',j',rfl,hy',hj',rfl⟩
    ·simp[Instr.sliceBounds,e1,run_sliceBound (P:=P) w k j s.size _ a1 a2]
    ·obtain⟨b1,b2⟩:=qKT.1 hj'.symm
     have e2:=hin (hmem y' (.inl rfl)) hy'
     simp[Instr.sliceBounds,e1,e2,run_sliceBound (P:=P) w k j s.size _ a1 a2,run_sliceBound (P:=P) w k' j' j.toNat _ b1 b2]
  simp[execOp,ho,h1,Instr.sliceAt,Instr.slice,run_underlying hu,hbs]
 ·rename_i src dst x ho
  split at hv<;>try cases hv
  rename_i ob lo len full e hx hd hs
  split at hv<;>try cases hv
  rename_i T ro n l hob hLe
  obtain⟨d1,hu1,hd1⟩:=(hc.tab dst _ hd).desc
  obtain⟨d2,hu2,hd2⟩:=(hc.tab src _ hs).desc
  obtain⟨d3,hu3,hd3⟩:=(hc.tab e _ hLe).desc
  simp only at hd1 hd2 hd3
  subst hd1 hd2 hd3
  refine qQ.pure fun nm w ac hr hh=>?_
  have h1:=hr x (by simp[ho,Op.operands])
  rw[hx] at h1
  obtain⟨_,_,vs,q1,q2,q3⟩:=qQ6 (e:=⟨nm,h,nx⟩) hh h1 hob rfl
  have q1:qB (qL qAe) (sub (l.map (S.i .u8)) (lo*1) (len*1)) vs:=q1
  have q2:vs.length=len*1:=q2
  rw[Nat.mul_one,Nat.mul_one] at q1
  rw[Nat.mul_one] at q2
  have hsub:sub (l.map (S.i .u8)) lo len=((l.drop lo).take len).map (S.i .u8):=by simp[sub,List.map_drop,List.map_take]
  rw[hsub] at q1
  have hvs:=qKV q1
  refine⟨.string (qFW ((l.drop lo).take len)),?_,rfl⟩
  rcases q3 with⟨q4,rfl,rfl,rfl⟩ | ⟨b,off,cp,q4,_,q5⟩
  ·have e0:((List.drop 0 l).take 0)=[]:=by simp
   simp[execOp,ho,q4,convert,run_underlying hu1,run_underlying hu2,run_underlying hu3,Conv.bytesToString,qFW]
  ·have hld:(loadCells ⟨b,off,none⟩ len).run P w=.ok ((((l.drop lo).take len)).map (Value.int .u8)).toArray w:=by
    rw[<- hvs,<- q2]
    exact run_loadCells_list (P:=P) w ⟨b,off,none⟩ vs (fun j v hv=>by rw[Addr.add_lit];exact q5 j v hv)
   simp only[execOp,ho,q4,convert,Sem.run_bind,run_underlying hu1,run_underlying hu2,run_underlying hu3,Result.andThen_ok,run_bytesToString w ⟨b,off,none⟩ len cp _ hld]
   rfl
 ·rename_i cl ho
  split at hv<;>try cases hv
  ·rename_i x t hcl hargs htys
   split at hv<;>try cases hv
   ·rename_i s hx hL
    simp only[Option.some.injEq,Prod.mk.injEq,decide_eq_true_eq] at hv
    obtain⟨hb,rfl⟩:=hv
    have hargs:cl.args = #[x]:=by rw[<- Array.toList_inj];exact hargs
    have htys:cl.argTypes = #[t]:=by rw[<- Array.toList_inj];exact htys
    obtain⟨d,hu,hd⟩:=(hc.tab t _ hL).desc
    simp only at hd
    subst hd
    refine qQ.pure fun nm w ac hr hh=>?_
    have h1:=hr x (by simp[ho,Op.operands,Call.operands,hcl,hargs])
    rw[hx] at h1
    have h1:ac.eval x=.string s:=h1
    have hb':(s.size:Int)<=9223372036854775807:=hb
    refine⟨.int .i64 s.size,?_,rfl,qBD (by show (-9223372036854775808:Int)<=Int.ofNat s.size;have:(0:Int)<=Int.ofNat s.size:=Int.natCast_nonneg _;omega) (by show _<=(9223372036854775807:Int);exact hb')⟩
    simp[execOp,ho,resolve,hcl,hargs,htys,h1,invoke,builtin,Builtin.len_,goInt,run_underlying hu]
   ·rename_i e hx hL
    have hargs:cl.args = #[x]:=by rw[<- Array.toList_inj];exact hargs
    have htys:cl.argTypes = #[t]:=by rw[<- Array.toList_inj];exact htys
    obtain⟨d,hu,hd⟩:=(hc.tab t _ hL).desc
    simp only at hd
    subst hd
    refine qQ.pure fun nm w ac hr hh=>?_
    have h1:=hr x (by simp[ho,Op.operands,Call.operands,hcl,hargs])
    rw[hx] at h1
    have h1:ac.eval x=.slice none 0 0:=h1
    refine⟨.int .i64 0,?_,rfl,by rfl⟩
    simp[execOp,ho,resolve,hcl,hargs,htys,h1,invoke,builtin,Builtin.len_,goInt,run_underlying hu]
  all_goals (
   rename_i ts g x y hcl hargs
   split at hv<;>try cases hv
   rename_i k s n hk hx hy
   simp only[Option.some.injEq,Prod.mk.injEq] at hv
   have hargs:cl.args = #[x,y]:=by rw[<- Array.toList_inj];exact hargs
   obtain⟨hb,rfl⟩:=hv
   refine qQ.pure fun nm w ac hr hh=>?_
   have h1:=hr x (by simp[ho,Op.operands,Call.operands,hcl,hargs])
   have h2:=hr y (by simp[ho,Op.operands,Call.operands,hcl,hargs])
   have hfv:=hr (.func g) (by simp[ho,Op.operands,Call.operands,hcl])
   rw[hx] at h1
   rw[hy] at h2
   obtain⟨h2,_⟩:=qBT h2
   have h1:ac.eval x=.string s:=h1
   obtain⟨cvs,hfe,hcv⟩:=(show qL ⟨nm,h,nx⟩ (.fn g []) (ac.eval (.func g)) from hfv)
   have hcv:cvs=[]:=by cases cvs with | nil=>rfl | cons _ _=>exact hcv.elim
   subst hcv
   have hcall:=hc.ext (g,k) (qT9 hk) s n w
   refine⟨.int .i64 (qEv k s n),?_,rfl,qfW hb⟩
   simp only[execOp,ho,resolve,hcl,hfe,hargs,Deferred.ofValue,invoke,Sem.run_bind,Sem.run_pure,Result.andThen_ok]
   simp[h1,h2,hcall])
 ·cases hv
theorem qWl (hc:CtxOK P c) (hE:opE c o ρ h nx K=some r):qD1 P o ρ h nx K r:=by
 unfold opE at hE
 split at hE
 ·rename_i g z hv
  rcases qAE hE with⟨rfl,hE1⟩ | ⟨_,hE1⟩<;>try cases hE1
  exact⟨_,_,_,hE1,qRR hc hv⟩
 ·exact qjS hc hE
theorem qeP (hc:CtxOK P c) (hv:qBB o.op=true) (hE:opE c o ρ h nx K=some r):
  ∃ v up nx',K v up nx'=some r /\ qQ P o ρ h nx v up nx' /\ (up=[]->nx'=nx->(∀ q∈qAn ρ h o,(h.get q).live=true)->
    ∀ h2 nx2,(∀ q∈qAn ρ h o,Hp.get h2 q=Hp.get h q)->qQ P o ρ h2 nx2 v [] nx2):=by
 have hsame:∀ h2,qCH c o.op ρ h2=qCH c o.op ρ h:=by
  intro h2
  unfold qBB at hv
  split at hv<;>try cases hv
  rename_i cl ho
  simp only[qCH,ho]
 unfold opE at hE
 split at hE
 ·rename_i g z hz
  rcases qAE hE with⟨rfl,hE1⟩ | ⟨_,hE1⟩<;>try cases hE1
  exact⟨_,_,_,hE1,qRR hc hz,fun _ _ _ h2 nx2 _=>qRR hc (by rw[hsame h2];exact hz)⟩
 ·exact qeQ hc hv hE
theorem qeJ (hc:CtxOK P c) (hv:qCh o.op=true) (hE:opE c o ρ h nx K=some r):
  ∃ v up nx',K v up nx'=some r /\ qQ P o ρ h nx v up nx' /\ (up=[]->∀ h2 nx2,qQ P o ρ h2 nx2 v [] nx2):=by
 have hn:qCH c o.op ρ h=none:=by
  unfold qCh at hv
  split at hv<;>try cases hv
  rename_i t ps ho
  simp only[qCH,ho]
 unfold opE at hE
 rw[hn] at hE
 exact qeK hc hv hE
end
end Go.Kk
