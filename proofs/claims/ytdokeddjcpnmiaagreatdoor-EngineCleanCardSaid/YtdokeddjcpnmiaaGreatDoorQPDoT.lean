/- Of EngineClean: PDoT SaysT3 ShowOp. -/
import Derived.Test.YtdokeddjcpnmiaaGreatDoorQNumsA
import Derived.Test.YtdokeddjcpnmiaaGreatDoorQPHead
set_option maxRecDepth 100000
set_option maxHeartbeats 3200000
namespace Go.Proofs.YtdokeddjcpnmiaaGreatDoor
open Go.RowKit Go.Proofs.Tryz
open Go.Lib(hid)
def LZ(w0:World)(op:Int)(n:Nat)(pre:List Int→PS→Prop)(act:List Int→PS→(List Int×Int)×PS):Prop:=∀(W:World) (B s:Nat) (F:List Nat) (S:PS) (t:Int) (f:FuncId) (first cap:Array Value) (l:List Int) (lv:Value),
 Touch [] w0 W→S.ok→aC W s F S→(∀x∈F,x<B)→eF B s S.m op (.agg #[.int .i64 t,.func (.func f) first cap]) W→t=n∧Enters prog f∧(l.length=n→pre l S→dW W lv l→
  Calls prog f (first++ #[lv]++cap) W fun e w'=>∃ov F',e=.returned (.tuple #[ov,.int .i64 (act l S).1.2])∧bH w' ov (act l S).1.1∧aC w' s F' (act l S).2∧PS.same S (act l S).2∧Touch F W w'∧Sub W F F')
theorem Np(w0:World)(op:Int)(n:Nat)(pre:List Int→PS→Prop)(act:List Int→PS→(List Int×Int)×PS)(qD:LZ w0 op n pre act)(h1:43≤op)(h2:op≤107)(h3:op<61∨70<op)(hn:n≤4)(w:World)(s:Nat)(F:List Nat)(S:PS)(h:aC w s F S)(nV:∀x∈F,w0.heap.size≤x)(Zz:Touch [] w0 w)(bW:S.ok)(hst:S.st.length≤128)(bG:n≤S.st.length→pre (S.st.drop (S.st.length-n)) {S with st:=S.st.take (S.st.length-n)}):
 Calls prog 64 #[.pointer (some ⟨s,0,none⟩),.int .i64 op] w fun e w'=>∃F',e=.returned (.int .i64 (vB n act S).1)∧aC w' s F' (vB n act S).2∧Touch F w w'∧Sub w F F':=by
 obtain⟨FS,ov,mv,hp,rfl⟩:=h;have RZ:=GL w s S.m op h1 h2 h3 (hp.blk.cell 2);have g1:op≥28:=by omega
 have g2:¬op≤42:=by omega
 have HH:=hid (And.intro hp (And.intro qD (And.intro hn hst)));clear hp qD hn hst h1 h2 h3;go_enter func64,ntmps64;go_wp2_with fail;refine RZ.mono ?_;rintro _ w1 ⟨v,rfl,hF,t1⟩;obtain⟨t,f,first,cap,rfl⟩:=hF.form;have bO:=aF.new w1 156 #[.int .i64 t,.nilFunc];have Ah:=gU (P:=prog) (bO.cell 1) (bO.frozen 1) f first cap;have bV:=aF.new w1 156 #[.int .i64 t,.func (.func f) first cap];have tV:=(tR w1).alloc (.cells #[.int .i64 t,.func (.func f) first cap] 156);clear bO RZ g1 g2;go_upto_region 8 with fail;have tW:=t1.trans tV (by simp);have hF2:=eF.from_ (B:=w.heap.size) (fun g ty cs hg hb=>hb.touch tV (by simp)) hF;obtain⟨gv,J2⟩:∃g,w1.heap.size=g:=⟨_,rfl⟩;have lN:w.heap.size≤gv:=by rw[←J2];exact t1.size
 rw[J2]at bV⊢;clear J2 hF tV;generalize (w1.alloc (.cells #[.int .i64 t,.func (.func f) first cap] 156))=W2 at*;have qE:=HH.out.1.quiet tW (by simp);have hlt:=aC.lt (S:=S) ⟨FS,ov,mv,HH.out.1,rfl⟩;have oW:=HH.out.2.1 W2 w.heap.size s _ S t f first cap [] (.slice none 0 0) (Zz.trans tW (by simp)) bW ⟨FS,ov,mv,qE,rfl⟩ hlt hF2;obtain⟨rfl,EL,_⟩:=oW;have MF:=vF W2 S.k FS S.st qE.iO (by have:=HH.out.2.2.2;omega);have s1:=qE.blk.cell 1;have HW:=hid (And.intro tW (And.intro hF2 (And.intro qE (And.intro hlt (And.intro lN bV)))));clear t1 tW hF2 qE hlt lN bV Ah;go_wp2_with fail;refine MF.mono ?_;rintro _ W3 ⟨DB,rfl,rH,t3⟩;clear MF s1;obtain⟨tW,hF2,qE,hlt,lN,bV⟩:=HW.out;have oL:=qE.quiet t3 (by simp);have s1:=oL.blk.cell 1;have uK:=bV.touch t3 (by simp);have v0:=uK.cell 0;obtain⟨J3,J4,rfl⟩:=dD rH;have z3:=t3.size;have z2:=tW.size;by_cases hlen:S.st.length<n
 ·have mE:=nD W3.drew S.k FS S.st (oL.iO.touch (tR W3).drew (by simp)) n hlen (by have:=HH.out.2.2.1;omega);have hd:vB n act S=(-4,S):=by unfold vB;rw[if_pos hlen]
  have dw:aC W3 s (foot s S FS ov mv) S:=⟨FS,ov,mv,oL,rfl⟩;have HF:=hid (And.intro dw (And.intro (tW.trans t3 (by simp)) hd));clear dw oL qE hF2 hlt lN bV uK tW t3 z3 z2 rH hd;go_upto_region 9 with fail;go_region_with (go_at_call 98;refine mE.mono ?_;rintro _ _ ⟨rfl,rfl⟩)
  all_goals go_wp2_with fail
  all_goals go_ret
  all_goals exact⟨_,by rw[HF.out.2.2];rfl,by rw[HF.out.2.2];exact HF.out.1.quiet ((tR W3).drew),(HF.out.2.1.drew).mono (by simp),Sub.refl _ _⟩
 ·have mE:=qp W3.drew S.k FS S.st (oL.iO.touch (tR W3).drew (by simp)) n (by omega) (by have:=HH.out.2.2.2;omega);have hz:¬S.st.length<n:=hlen;have HF:=hid (And.intro oL (And.intro rH (And.intro uK (And.intro (eF.from_ (B:=w.heap.size) (fun g ty cs hg hb=>hb.touch t3 (by simp)) hF2) (And.intro (tW.trans t3 (by simp)) (And.intro z2 (And.intro hlt (And.intro lN hz))))))));clear oL qE hF2 hlt lN bV uK tW t3 z3 z2 rH hz;go_upto_region 9 with fail;go_cut [8,9]from 40 to 49 (fun lv ev wx=>∃a c,lv=.slice a n c∧ev=.int .i64 0∧wx.ownsRow W3.drew.heap.size 33 1 lv n (cells (S.st.drop (S.st.length-n)))∧aG wx S.k FS (S.st.take (S.st.length-n))∧Touch FS W3 wx)
  case first=>
   go_region_with (go_at_call 98;refine mE.mono ?_;rintro _ w4 ⟨lv,rfl,k1,k2,k3⟩;obtain⟨la,lc,rfl⟩:=dD k1)
   all_goals(go_wp2_with fail;go_meet;exact⟨la,lc,rfl,rfl,k1,k2,k3.aO⟩)
  case rest=>
   obtain⟨la,lc,rfl,rfl,k1,k2,k3⟩:=hcut;clear mE v0 s1;obtain⟨oL,rH,uK,MG,tw,z2,hlt,lN,hz⟩:=HF.out;clear HF;have hst:=HH.out.2.2.2;have pG:∀x∈FS,x<w.heap.size:=fun x hx=>hlt x (aI x hx);have R3:=uK.touch k3 (fun hm=>by have:=pG _ hm;omega);have v1:=R3.cell 1;have R4:=oL.stack k2 k3;have uL:=aj rH k3 (fun x hx hm=>by have h1:=dF rH x hx;have h2:=pG _ hm;omega);have N8:=eF.from_ (B:=w.heap.size) (fun g ty cs hg hb=>hb.touch k3 (fun hm=>by have:=pG _ hm;omega)) MG;have yG:(S.st.drop (S.st.length-n)).length=n:=by rw[List.length_drop];omega
   have hcs:dW wc (.slice la n lc) (S.st.drop (S.st.length-n)):=ig (base:=W3.drew.heap.size) (by rw[yG];exact k1);have t4:Touch (foot s S FS ov mv) w wc:=(tw.mono (by simp)).trans k3 (fun g hg=>.inl (aI g hg));have hC:=(HH.out.2.1 wc w.heap.size s _ {S with st:=S.st.take (S.st.length-n)} n f first cap (S.st.drop (S.st.length-n)) (.slice la n lc) (Zz.trans t4 (fun g hg=>.inr (nV g hg))) bW ⟨FS,ov,mv,R4,rfl⟩ hlt N8).2.2 yG (bG (by omega)) hcs;have z4:=t4.size;obtain⟨q,hq⟩:∃q,act (S.st.drop (S.st.length-n)) {S with st:=S.st.take (S.st.length-n)}=q:=⟨_,rfl⟩;have hd:vB n act S=if q.1.2=0 then(if q.2.st.length+q.1.1.length≤128 then(0,{q.2 with st:=q.2.st++q.1.1})else(-3,{q.2 with st:=S.st}))else(q.1.2,{q.2 with st:=S.st}):=by
    unfold vB;rw[if_neg hz];simp only[hq]
   rw[hq]at hC;clear hq hcs yG R4 N8 oL MG uK hz lN;obtain⟨⟨o,e⟩,S5⟩:=q;have mV:∀(args:Array Value) (w:World),(callFunc f args).run prog w=.ok (.enter f args) w:=EL;obtain⟨hp,qD,hn,_⟩:=HH.out;have uM:bH wc (.slice J3 S.st.length J4) S.st:=gu uL;have HF:=hid (And.intro uL (And.intro t4 (And.intro z4 (And.intro pG (And.intro hlt (And.intro hst z2))))));clear rH uL uM t4 z4 pG hlt hst z2 qD hn hp k1 k2 k3 tw R3;have J5:(S.st.take (S.st.length-n)).length≤128:=by have:=HF.out.2.2.2.2.2.1;rw[List.length_take];omega
   by_cases he:e=0
   ·subst he;rw[if_pos rfl]at hd;go_wp2_with fail;refine hC.mono ?_;rintro _ W5 ⟨R5,F5,rfl,xL,J6,nM,t5,aT⟩;obtain⟨pI,ow,mw,fV,rfl⟩:=J6;obtain⟨e1,e2,e3,e4,e5,oW⟩:=nM;clear e1 e2 e3 e4 e5;have oW:S5.st=S.st.take (S.st.length-n):=oW;have s5:=fV.blk.cell 1;have J7:S5.st.length≤128:=by rw[oW];exact J5
    clear hC v1 mV;by_cases hr:S5.st.length+o.length≤128
    ·rw[if_pos hr]at hd;have oZ:=jc W5 S5.k pI S5.st fV.iO R5 o xL hr;have HG:=hid (And.intro fV (And.intro t5 aT));clear fV t5 aT xL oW J7 hr;go_wp2_with fail;refine oZ.mono ?_;rintro _ W6 ⟨GN,rfl,nC,t6,R6⟩;clear oZ;obtain⟨fV,t5,aT⟩:=HG.out;have iI:=fV.stack nC t6;have s6:=iI.blk.cell 1;have dw:aC W6 s (foot s {S5 with st:=S5.st++o} GN ow mw) {S5 with st:=S5.st++o}:=⟨GN,ow,mw,iI,rfl⟩;have hT:Touch (foot s S FS ov mv) w W6:=(HF.out.2.1.trans t5 (fun g hg=>.inl hg)).trans t6 (fun g hg=>by
      rcases aT g (aI g hg)with h|h
      ·exact .inl h
      ·have:=HF.out.2.2.1;exact .inr (by omega))
     have R7:Sub w (foot s S FS ov mv) (foot s {S5 with st:=S5.st++o} GN ow mw):=Sub.trans (aT.lower HF.out.2.2.1) (dV R6) (by have:=hT.size;have:=t6.size;have:=HF.out.2.2.1;have:=t5.size;omega);have HZ:=hid (And.intro dw (And.intro hT (And.intro R7 hd)));clear dw hT R7 hd iI nC t6 R6 fV t5 aT;go_wp2_with fail;go_ret;exact⟨_,by rw[HZ.out.2.2.2];rfl,by rw[HZ.out.2.2.2];exact HZ.out.1,HZ.out.2.1,HZ.out.2.2.1⟩
    ·rw[if_neg hr]at hd;have uM:=HF.out.1;obtain⟨Z8,Z9,rfl⟩:=xL.form;have oZ:=rA W5 S5.k pI S5.st fV.iO J7 Z8 o.length Z9 (by omega);have Aq:=lK W5 S5.k pI S5.st fV.iO;have HG:=hid (And.intro fV (And.intro t5 aT));clear fV t5 aT xL oW J7 hr uM;go_wp2_with fail;refine oZ.mono ?_;rintro _ _ ⟨rfl,rfl⟩;clear oZ;go_wp2_with fail;refine Aq.mono ?_;rintro _ W6 ⟨rfl,nC,t6⟩;clear Aq;obtain⟨fV,t5,aT⟩:=HG.out;have iI:=fV.stack nC t6;have s6:=iI.blk.cell 1;have t45:=HF.out.2.1.trans t5 (fun g hg=>.inl hg);have z6:=t6.size;have z5:=t5.size;have iT:bH W6 (.slice J3 S.st.length J4) S.st:=gu (aj (aj HF.out.1 t5 (fun x hx hm=>by have h1:=dF HF.out.1 x hx;have h2:=HF.out.2.2.2.2.1 _ hm;have:=HF.out.2.2.2.2.2.2;omega)) t6 (fun x hx hm=>by
      have h1:=dF HF.out.1 x hx;have h3:=fG HF.out.1 hx;have:=HF.out.2.2.2.2.2.2;rcases aT x (aI x hm)with h|h
      ·have h2:=HF.out.2.2.2.2.1 _ h;omega
      ·omega))
     have Ar:=jc W6 S5.k pI [] nC _ S.st iT (by have:=HF.out.2.2.2.2.2.1;simpa using this);have J8:=hid (And.intro iI (And.intro t45 (And.intro t6 (And.intro z6 (And.intro z5 aT)))));clear iI t45 t6 z6 z5 aT fV t5 iT nC;go_wp2_with fail;refine Ar.mono ?_;rintro _ W7 ⟨uN,rfl,zq,t7,Au⟩;clear Ar;obtain⟨iI,t45,t6,z6,z5,aT⟩:=J8.out;have uO:=iI.stack zq t7;rw[List.nil_append]at uO;have dw:aC W7 s (foot s {S5 with st:=S.st} uN ow mw) {S5 with st:=S.st}:=⟨uN,ow,mw,uO,rfl⟩;have hk:∀g∈pI,g∈foot s S FS ov mv∨w.heap.size≤g:=fun g hg=>by
      rcases aT g (aI g hg)with h|h
      ·exact .inl h
      ·have:=HF.out.2.2.1;exact .inr (by omega)
     have hT:Touch (foot s S FS ov mv) w W7:=(t45.trans t6 hk).trans t7 hk;have Av:Sub w (foot s S FS ov mv) (foot s {S5 with st:=S.st} uN ow mw):=Sub.trans (aT.lower HF.out.2.2.1) (dV Au) (by have:=HF.out.2.2.1;omega);have HZ:=hid (And.intro dw (And.intro hT (And.intro Av hd)));clear dw hT Av hd iI zq t7 Au uO t6 t45 aT z6 z5;go_wp2_with fail;go_ret;exact⟨_,by rw[HZ.out.2.2.2];rfl,by rw[HZ.out.2.2.2];exact HZ.out.1,HZ.out.2.1,HZ.out.2.2.1⟩
   ·rw[if_neg he]at hd;have pC:(e==0)=false:=by simp[he]
    go_wp2_with fail;refine hC.mono ?_;rintro _ W5 ⟨R5,F5,rfl,xL,J6,nM,t5,aT⟩;obtain⟨pI,ow,mw,fV,rfl⟩:=J6;clear nM;have s5:=fV.blk.cell 1;clear hC v1 mV;have Aq:=lK W5 S5.k pI S5.st fV.iO;have HG:=hid (And.intro fV (And.intro t5 aT));clear fV t5 aT xL;go_wp2_with fail;refine Aq.mono ?_;rintro _ W6 ⟨rfl,nC,t6⟩;clear Aq;obtain⟨fV,t5,aT⟩:=HG.out;have iI:=fV.stack nC t6;have s6:=iI.blk.cell 1;have t45:=HF.out.2.1.trans t5 (fun g hg=>.inl hg);have z6:=t6.size;have z5:=t5.size;have iT:bH W6 (.slice J3 S.st.length J4) S.st:=gu (aj (aj HF.out.1 t5 (fun x hx hm=>by have h1:=dF HF.out.1 x hx;have h2:=HF.out.2.2.2.2.1 _ hm;have:=HF.out.2.2.2.2.2.2;omega)) t6 (fun x hx hm=>by
     have h1:=dF HF.out.1 x hx;have h3:=fG HF.out.1 hx;have:=HF.out.2.2.2.2.2.2;rcases aT x (aI x hm)with h|h
     ·have h2:=HF.out.2.2.2.2.1 _ h;omega
     ·omega))
    have Ar:=jc W6 S5.k pI [] nC _ S.st iT (by have:=HF.out.2.2.2.2.2.1;simpa using this);have J8:=hid (And.intro iI (And.intro t45 (And.intro t6 (And.intro z6 (And.intro z5 aT)))));clear iI t45 t6 z6 z5 aT fV t5 iT nC;go_wp2_with fail;refine Ar.mono ?_;rintro _ W7 ⟨uN,rfl,zq,t7,Au⟩;clear Ar;obtain⟨iI,t45,t6,z6,z5,aT⟩:=J8.out;have uO:=iI.stack zq t7;rw[List.nil_append]at uO;have dw:aC W7 s (foot s {S5 with st:=S.st} uN ow mw) {S5 with st:=S.st}:=⟨uN,ow,mw,uO,rfl⟩;have hk:∀g∈pI,g∈foot s S FS ov mv∨w.heap.size≤g:=fun g hg=>by
     rcases aT g (aI g hg)with h|h
     ·exact .inl h
     ·have:=HF.out.2.2.1;exact .inr (by omega)
    have hT:Touch (foot s S FS ov mv) w W7:=(t45.trans t6 hk).trans t7 hk;have Av:Sub w (foot s S FS ov mv) (foot s {S5 with st:=S.st} uN ow mw):=Sub.trans (aT.lower HF.out.2.2.1) (dV Au) (by have:=HF.out.2.2.1;omega);have HZ:=hid (And.intro dw (And.intro hT (And.intro Av hd)));clear dw hT Av hd iI zq t7 Au uO t6 t45 aT z6 z5;go_wp2_with fail;go_ret;exact⟨_,by rw[HZ.out.2.2.2];rfl,by rw[HZ.out.2.2.2];exact HZ.out.1,HZ.out.2.1,HZ.out.2.2.1⟩
namespace Rl
theorem VP(m m' a b:Nat)(hm:m%2=1)(hab:a<b)(h:m*2^a=m'*2^b):False:=by
 obtain⟨c,rfl⟩:∃c,b=a+(c+1):=⟨b-a-1,by omega⟩;rw[Nat.pow_add,Nat.mul_left_comm,Nat.mul_comm m]at h;have h2:=Nat.eq_of_mul_eq_mul_left (Nat.two_pow_pos a) h;rw[Nat.pow_succ,←Nat.mul_assoc]at h2;omega
theorem QG(m m' a b:Nat)(hm:m%2=1)(hm':m'%2=1)(h:m*2^a=m'*2^b):m=m'∧a=b:=by
 rcases Nat.lt_trichotomy a b with h1|h1|h1
 ·exact(VP m m' a b hm h1 h).elim
 ·subst h1;exact⟨Nat.eq_of_mul_eq_mul_right (Nat.two_pow_pos a) h,rfl⟩
 ·exact(VP m' m b a hm' h1 h.symm).elim
theorem QH(x:Nat)(s s':ByteArray)(h:mI x s)(h':mI x s'):s=s':=by
 have hz:∀m t:Nat,Fl.rg x=0→m%2=1→Fl.Nv (Fl.rg x)=m*2^t→False:=fun m t h0 hm hv=>by
  rw[h0,show Fl.Nv 0=0 by decide]at hv;have:=Nat.mul_pos (show 0<m by omega) (Nat.two_pow_pos t);omega
 unfold mI uo at h h';rcases h with⟨a1,rfl⟩|⟨a1,rfl⟩|⟨a1,rfl⟩|⟨a1,m,t,a2,a3,_,_,rfl⟩<;>rcases h' with⟨b1,rfl⟩|⟨b1,rfl⟩|⟨b1,rfl⟩|⟨b1,m',t',b2,b3,_,_,rfl⟩
 all_goals first
  |rfl
  |(exfalso;omega)
  |exact(hz _ _ a1 b2 b3).elim
  |exact(hz _ _ b1 a2 a3).elim
  |skip
 obtain⟨rfl,rfl⟩:=QG m m' t t' a2 b2 (by rw[←a3,←b3]);rfl
theorem QI(x:Nat):(Dq x).size≤1:=by
 unfold Dq;split<;>decide
theorem QJ(x:Nat)(s:ByteArray)(h:mI x s):s.size≤100:=by
 have h0:=QI x;unfold mI at h;rcases h with⟨_,rfl⟩|⟨_,rfl⟩|⟨_,rfl⟩|⟨_,m,t,_,_,hm,ht,rfl⟩
 ·decide
 ·rw[ByteArray.size_append];show(Dq x).size+3≤100;omega
 ·rw[ByteArray.size_append,ByteArray.size_append,ByteArray.size_append];show(Dq x).size+1+1+1≤100;omega
 ·have h1:=wL m (by omega);have h2:=yu ((t:Int)-1074) (by omega) (by omega);rw[ByteArray.size_append,ByteArray.size_append,ByteArray.size_append];show(Dq x).size+_+1+_≤100;omega
theorem zh.touch{w w':World}(h:zh w)(ht:Touch [] w w'):zh w':=by
 intro j hj;have hc:=h j hj;have hlt:4<w.heap.size:=by
  rcases Nat.lt_or_ge 4 w.heap.size with h'|h'
  ·exact h'
  ·rw[World.cell?]at hc;simp[Array.getElem?_eq_none h']at hc
 rw[ht.cell (p:=⟨4,j,none⟩) hlt (by simp)];exact hc
open Classical in
noncomputable def Ey(a:Int):ByteArray:=if h:∃s,mI (bitsOf a) s then h.choose else .empty
theorem YL(a:Int)(w:World)(hT:zh w)(hP:BU w):Calls prog 226 #[.int .i64 a] w fun e w'=>e=.returned (.string (Ey a))∧(Ey a).size≤100∧Touch [] w w':=by
 refine(Vg a w hT hP).mono ?_;rintro _ w' ⟨s,hs,rfl,t⟩;have h:∃s,mI (bitsOf a) s:=⟨s,hs⟩;have e:Ey a=s:=by
  unfold Ey;rw[dif_pos h];exact QH _ _ _ h.choose_spec hs
 exact⟨by rw[e],by rw[e];exact QJ _ _ hs,t⟩
end Rl
structure zF(w:World):Prop where
 tz:Rl.zh w
 pow:Rl.BU w
theorem zF.touch{w w':World}(h:zF w)(t:Touch [] w w'):zF w':=⟨h.tz.touch t,Rl.Ep h.pow t⟩
theorem QK(w0:World)(hT:zF w0):LZ w0 94 1 (fun _ _=>True) (fun l S=>(([],0),{S with out:=iy S.out (Rl.Ey (l.getD 0 0)++⟨#[32]⟩)})):=by
 intro W B s F S t f first cap l lv ht bW hS hF eO;obtain⟨b,C,hC,hb,hA,hB⟩:=dQ eO rfl rfl;obtain⟨g,hg0,hg,hA⟩:=(hA:fH C 1 b (.func (.func 225) #[] #[]) _ W);obtain⟨g2,_,hg2,rfl,rfl,rfl,rfl⟩:=aW hA (Nat.zero_le _);refine⟨rfl,enters_of func281 (by kernel_rfl) rfl,fun hl bG hc=>aR.post (bU hg2 (enters_of func220 (by kernel_rfl) rfl) (Bw hS bW hB hg (enters_of func225 (by kernel_rfl) rfl) ?_))⟩;obtain⟨ad,c,x,rfl,rfl,hx⟩:=hc.one hl;simp only[List.getD_cons_zero];have x0:=ah ((tR W).drew) hx;have hD:=hT.touch (ht.trans ((tR W).drew) (by simp));have hR:=Rl.YL x W.drew hD.tz hD.pow;obtain⟨T,hTx⟩:∃T,Rl.Ey x=T:=⟨_,rfl⟩;rw[hTx]at hR⊢;clear hS hB hA hg eO hc hx hF hg2 hg0 hD hTx ht hT;show Calls prog 225 #[.slice (some ⟨ad,0,none⟩) 1 c] W.drew _;go_enter func225,ntmps225;go_wp2_with fail;refine hR.mono ?_;rintro _ w1 ⟨rfl,hsz,t1⟩;have T1:=hid t1;clear hR t1;go_wp2_with fail;go_ret;exact⟨rfl,T1.out⟩
def yA(n:Nat):ByteArray:=⟨#[60]⟩++⟨(Lib.itoa (n:Int)).toArray⟩++⟨#[62]⟩++⟨#[32]⟩
def mQ(B:Nat)(out:List Int)(l:List Int):List Int:=l.foldl (fun o x=>iy o (QD B (kG (fq x)))) out
def ZA(_:List Int)(S:PS):(List Int×Int)×PS:=(([],if 2≤S.base∧S.base≤36 then 0 else -40),{S with out:=if 2≤S.base∧S.base≤36 then mQ S.lZ (iy S.out (yA S.st.length)) S.st else S.out})
theorem YM(o:List Int)(t:ByteArray)(h:o.length≤4000):(iy o t).length≤4000:=by
 unfold iy;simp;omega
theorem L6(B:Nat)(out l:List Int)(i:Nat)(h:i<l.length):mQ B out (l.take (i+1))=iy (mQ B out (l.take i)) (QD B (kG (fq (l.getD i 0)))):=by
 unfold mQ;rw[List.take_add_one,List.foldl_append];simp[List.getD,h]
theorem Jp(B:Nat)(out l:List Int)(h:out.length≤4000):(mQ B out l).length≤4000:=by
 unfold mQ;induction l generalizing out with
 |nil=>exact h
 |cons x l ih=>exact ih _ (YM _ _ h)
theorem YN{w w':World}{base n:Nat}{e:TypeId}{v:Value}{xs:List Value}(h:w.ownsRow base e 1 v n xs)(o:On (rowOf v) w w'):w'.ownsRow base e 1 v n xs:=by
 refine⟨h.1,?_⟩;rcases h.2 with h|⟨g,cap,cur,rfl,h2,h3,h4⟩
 ·exact .inl h
 ·exact .inr ⟨g,cap,cur,rfl,h2,(o g (by simp[rowOf])).trans h3,h4⟩
theorem L8(n:Nat)(h:n≤128):(⟨(Lib.itoa (n:Int)).toArray⟩:ByteArray).size≤21:=Rl.yu n (by omega) (by omega)
theorem QL(w0:World)(hT:zF w0):LZ w0 99 0 (fun _ S=>S.st.length≤128∧∀x∈S.st,au x) ZA:=by
 intro W B s F S t f first cap l lv ht bW hS hF eO;obtain⟨b,C,hC,hb,hA,hB⟩:=dQ eO rfl rfl;obtain⟨g,_,hg,rfl,rfl,rfl,rfl⟩:=aW (hA:aQ C 0 281 132 (.func (.func 237) #[.pointer (some ⟨s,0,none⟩)] #[]) _ W) (Nat.zero_le _);refine⟨rfl,enters_of func281 (by kernel_rfl) rfl,fun hl bG hc=>aR.post (bU hg (enters_of func237 (by kernel_rfl) rfl) ?_)⟩;obtain⟨hlen,hcell⟩:=bG;show Calls prog 237 #[.pointer (some ⟨s,0,none⟩),lv] W fun e w'=>e=.returned (.int .i64 (if 2≤S.base∧S.base≤36 then 0 else -40))∧Done W s F S {S with out:=if 2≤S.base∧S.base≤36 then mQ S.lZ (iy S.out (yA S.st.length)) S.st else S.out} w';by_cases hbase:2≤S.base∧S.base≤36
 ·rw[if_pos hbase,if_pos hbase];have zS:=zO hS bW.2.2.1 hbase;have lR:=hT.touch ht;obtain⟨BB,hBB⟩:∃z,S.base=z:=⟨_,rfl⟩;have HS:=hid (And.intro hS (And.intro bW (And.intro hbase (And.intro lR (And.intro hlen hcell)))));rw[hBB]at zS;clear hS hB hA hg eO hc hF hl hb hC hbase lR ht hT bW hlen hcell;go_enter func237,ntmps237;go_wp2_with fail;refine zS.mono ?_;rintro _ w1 ⟨rfl,t1⟩;have hS1:=HS.out.1.quiet t1;have s1:w1.cell? ⟨s,1,none⟩=some (.pointer (some ⟨S.k,0,none⟩)):=by
   obtain⟨FS,ov,mv,hp,_⟩:=hS1;exact hp.blk.cell 1
  have MF:=tM hS1 HS.out.2.2.2.2.1;have H1:=hid t1;clear zS t1 hS1;go_wp2_with fail;refine MF.mono ?_;rintro _ w2 ⟨v,rfl,hv,t2⟩;obtain⟨ra,rc,rfl⟩:=dD hv;have hTI:=HS.out.2.2.2.1.touch (H1.out.trans t2 (by simp));obtain⟨n,hn⟩:∃n,S.st.length=n:=⟨_,rfl⟩;have MJ:n≤128:=by rw[←hn];exact HS.out.2.2.2.2.1
  rw[hn]at hv⊢;have hI:Calls prog 287 #[.int .i64 (n:Int)] w2 fun e w'=>e=.returned (.string ⟨(Lib.itoa (n:Int)).toArray⟩)∧Touch [] w2 w':=
   (Tryz.strconv_Itoa (n:Int) (by omega) (by omega) w2 hTI.pow).mono fun e w' ⟨he,k,os,hw⟩=>⟨he,by rw[hw];exact Rl.vk w2 k os⟩
  have N0:=L8 n MJ;have j8:yA n=⟨#[60]⟩++⟨(Lib.itoa (n:Int)).toArray⟩++⟨#[62]⟩++⟨#[32]⟩:=rfl;obtain⟨IT,hIT⟩:∃z:ByteArray,⟨(Lib.itoa (n:Int)).toArray⟩=z:=⟨_,rfl⟩;rw[hIT]at hI N0 j8;have H2:=hid (And.intro hv (And.intro (H1.out.trans t2 (by simp)) (And.intro t2 (And.intro hn (And.intro j8 MJ)))));clear MF s1 t2 hv hTI hIT hn j8 MJ;have hnn:¬((n:Int)<0):=by omega
  go_wp2_with fail;refine hI.mono ?_;rintro _ w3 ⟨rfl,t3⟩;have Ce:=wz (HS.out.1.quiet (H2.out.2.1.trans t3 (by simp))) HS.out.2.1.1 (⟨#[60]⟩++IT++⟨#[62]⟩++⟨#[32]⟩);have H3:=hid t3;clear hI t3;go_wp2_with fail;refine Ce.mono ?_;rintro _ w4 ⟨F4,rfl,k1,k2,k3⟩;have hK0:∀x∈rowOf (.slice ra n rc),x∉F4∧x<w4.heap.size:=fun x hx=>by
   have h1:=dF H2.out.1 x hx;have h2:=fG H2.out.1 hx;have h3:=H3.out.size;have h4:=k2.size;have h5:=H1.out.size;refine⟨fun hm=> ?_,by omega⟩;rcases k3 x hm with h|h
   ·have:=HS.out.1.lt x h;omega
   ·omega
  have hk4:Kept W s F (rowOf (.slice ra n rc)) w4 {S with out:=mQ S.lZ (iy S.out (yA n)) (S.st.take 0)}:=by
   rw[List.take_zero];show Kept W s F _ w4 {S with out:=iy S.out (yA n)};rw[H2.out.2.2.2.2.1];exact⟨F4,k1,((H2.out.2.1.trans H3.out (by simp)).mono (by simp)).trans k2 (fun g hg=>.inl hg),k3.lower (by have:=H2.out.2.1.size;have:=H3.out.size;omega),hK0⟩
  have hr4:w4.ownsRow w1.heap.size 33 1 (.slice ra n rc) n (cells S.st):=aj (aj H2.out.1 H3.out (by simp)) k2 (fun x hx hm=>by
   have h1:=dF H2.out.1 x hx;have h2:=HS.out.1.lt x hm;have h5:=H1.out.size;omega)
  have H4:=hid (And.intro hk4 hr4);clear Ce k1 k2 k3 hK0 hk4 hr4;go_wp2_with fail;go_loopw [33] (fun iv wr=>∃i:Nat,iv=.int .i64 (i:Int)∧i≤n∧Kept W s F (rowOf (.slice ra n rc)) wr {S with out:=mQ S.lZ (iy S.out (yA n)) (S.st.take i)}∧wr.ownsRow w1.heap.size 33 1 (.slice ra n rc) n (cells S.st)) (fun iv _=>n-(intOf iv).toNat)
  case atStart=>exact⟨0,rfl,Nat.zero_le _,H4.out⟩
  case round=>
   clear H4;obtain⟨i,rfl,hi,hk,hr⟩:=hrel;have hn:=H2.out.2.2.2.1;by_cases qY:i<n
   ·have hg:dW wr (.slice ra n rc) S.st:=ig (base:=w1.heap.size) (by rw[hn];exact hr);obtain⟨gg,cc,egg,hcell⟩:=hg.get (by omega);have hci:=hcell i (by omega);injection egg with eg1 eg2 eg3;clear eg2 eg3;subst eg1;obtain⟨x,hx⟩:∃x,S.st.getD i 0=x:=⟨_,rfl⟩;rw[hx]at hci;have Dt:au x:=by
     rw[←hx];refine HS.out.2.2.2.2.2 _ ?_;rw[List.getD,List.getElem?_eq_getElem (by omega)];exact List.getElem_mem (by omega)
    have hO:=fun w=>iA x w;have hU:PS.ok {S with out:=mQ S.lZ (iy S.out (yA n)) (S.st.take i)}:=⟨Jp _ _ _ (wo HS.out.2.1.1 _),HS.out.2.1.2⟩;have e:gX (fq x) {S with out:=mQ S.lZ (iy S.out (yA n)) (S.st.take i)}=(0,{S with out:=mQ S.lZ (iy S.out (yA n)) (S.st.take (i+1))}):=by
     have h1:gX (fq x) {S with out:=mQ S.lZ (iy S.out (yA n)) (S.st.take i)}=(0,{S with out:=iy (mQ S.lZ (iy S.out (yA n)) (S.st.take i)) (QD S.lZ (kG (fq x)))}):=if_pos HS.out.2.2.1;rw[h1,L6 _ _ _ _ (by omega),hx]
    have hN:=fun w (h:Kept W s F (rowOf (.slice (some ⟨gg,0,none⟩) n rc)) w {S with out:=mQ S.lZ (iy S.out (yA n)) (S.st.take i)})=>h.step (fun F' hS=>qR hS hU (fq x) (wQ x Dt).1 (wQ x Dt).2);rw[e]at hN;obtain⟨⟨lo,pN⟩,hp⟩:∃p,fq x=p:=⟨_,rfl⟩;rw[hp]at hO hN;unfold aN at hO hN;have hw:IntKind.i64.wrap ((i:Int)+1)=((i+1:Nat):Int):=by rw[IntKind.wrap_i64];have:=H2.out.2.2.2.2.2;omega
    have adA:(i:Int)<n:=by omega
    have h0i:(0:Int)≤i:=by omega
    have HR:=hid (And.intro hk (And.intro hr qY));clear hk hr hg hcell hx Dt hU e hp qY hi hn;go_wp2_with fail;refine(hO _).mono ?_;rintro _ w5 ⟨rfl,t5⟩;have BV:=HR.out.1.quiet t5;have hr5:=aj HR.out.2.1 t5 (by simp);have hN:=hN w5 BV;have H5:=hid hr5;clear hO t5 BV hr5;go_wp2_with fail;refine hN.mono ?_;rintro _ w6 ⟨rfl,nC,on6⟩;have H6:=hid (And.intro nC (YN H5.out on6));clear hN nC on6;go_wp2_with fail;refine⟨⟨i+1,rfl,by have:=HR.out.2.2;omega,H6.out⟩,?_⟩;have:=HR.out.2.2;simp only[intOf];omega
   ·obtain rfl:i=n:=by omega
    have HD:Hid (Done W s F S {S with out:=mQ S.lZ (iy S.out (yA i)) S.st} wr):=by
     have h:=hk.done (S:=S) ⟨rfl,rfl,rfl,rfl,rfl,rfl⟩;rwa[List.take_of_length_le (by omega)]at h
    clear hk hr hn hi qY;go_wp2_with fail;go_ret;exact⟨rfl,by rw[H2.out.2.2.2.1];exact HD.out⟩
 ·rw[if_neg hbase,if_neg hbase];have zS:=Bu hS bW.2.2.1 hbase;have HS:=hid hS;clear hS hB hA hg eO hc hF hl hb hC hbase ht hT bW hlen hcell;go_enter func237,ntmps237;go_wp2_with fail;refine zS.mono ?_;rintro _ w1 ⟨rfl,t1⟩;have HD:=hid (Done.self HS.out t1);clear zS t1;go_wp2_with fail;go_ret;exact⟨rfl,HD.out⟩
end Go.Proofs.YtdokeddjcpnmiaaGreatDoor
