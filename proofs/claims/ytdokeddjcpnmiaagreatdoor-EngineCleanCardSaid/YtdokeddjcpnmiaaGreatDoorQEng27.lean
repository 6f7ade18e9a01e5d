/- Of EngineClean: Eng26 Eng27 Eng28 FLoc2 EngLoc. -/
import Derived.Test.YtdokeddjcpnmiaaGreatDoorQEng22
set_option maxRecDepth 100000
set_option maxHeartbeats 3200000
namespace Go.Proofs.YtdokeddjcpnmiaaGreatDoor
open Go.RowKit Go.Proofs.Tryz
open Go.Lib(hid)
namespace En
theorem Da{w:World}{g:Nat}{p:Lay}{F:List Nat}{m:M}(h:ak w g p F m)(hf:dH m)(hn:m.nx=0)(h6:(aU m.fr).k≠6)(h7:(aU m.fr).k≠7)(hd:m.df=0):Calls prog 27 #[.pointer (some ⟨g,0,none⟩)] w fun R w'=>R=.returned (jK m.returns.1)∧Keep w g p F m.returns.2 w':=by
 obtain⟨z,hz⟩:∃z,w.heap.size=z:=⟨_,rfl⟩;have HS:=hid (Start.box0 w h);have bq:=h.touch HS.out.1.t (by simp);rw[hz]at HS;have c6:=bq.c6;rw[hn]at c6;have c3:=bq.c3;have lS:=pO bq hf.fr;obtain⟨f,ef⟩:∃f,aU m.fr=f:=⟨_,rfl⟩;rw[ef]at lS h6 h7;obtain⟨ok,bW⟩:∃ok,decide (m.fr≠[])=ok:=⟨_,rfl⟩;rw[bW]at lS;have k6:(f.k==6)=false:=by simpa using h6
 have k7:(f.k==7)=false:=by simpa using h7
 clear bW ef h6 h7;have HA:=hid (fun(W:World) F1 (hW:ak W g p F1 m)=>G8 hW hf);obtain⟨⟨⟨sa,sb,sc⟩,m'⟩,hq⟩:∃q,m.returns=q:=⟨_,rfl⟩;rw[hq]at HA⊢;have rr:=hid hd;clear hq bq h hf hn hd;go_enter func27,ntmps27;go_upto_region 1 with fail;clear hz;generalize w.alloc (.cells #[.int .i64 0,.int .i64 0,.int .i64 0] 48)=W0 at*;go_wp2_with fail;refine lS.mono ?_;rintro _ w1 ⟨ta,tn,tc,rfl,k1⟩;have tY:=(tR w1).alloc (.cells #[.int .i64 f.k,.int .i64 f.a,.int .i64 f.b,.int .i64 f.x,.int .i64 f.y,.slice ta tn tc] 45);have bY:=aF.new w1 45 #[.int .i64 f.k,.int .i64 f.a,.int .i64 f.b,.int .i64 f.x,.int .i64 f.y,.slice ta tn tc];obtain⟨y,hy⟩:∃y,w1.heap.size=y:=⟨_,rfl⟩;rw[hy]at bY;obtain⟨F1,h1,n1⟩:=k1.open;have l9:y∉F1:=fun hx=>by have:=h1.lt y hx;omega
 have h2:=h1.touch tY (by simp);have HN:=hid (fun(m2:M) (W2:World) (k:Keep (w1.alloc (.cells #[.int .i64 f.k,.int .i64 f.a,.int .i64 f.b,.int .i64 f.x,.int .i64 f.y,.slice ta tn tc] 45)) g p F1 m2 W2)=>n1.out _ _ (k.pre tY));clear lS k1 h1 n1 tY c3 c6;go_upto_region 8 with fail;clear hy;generalize w1.alloc (.cells #[.int .i64 f.k,.int .i64 f.a,.int .i64 f.b,.int .i64 f.x,.int .i64 f.y,.slice ta tn tc] 45)=w2 at*;have y0:=bY.cell 0;have y1:=bY.cell 1;have y2:=bY.cell 2;have y3:=bY.cell 3;have c4:=h2.c4;rw[rr.out]at c4;have hA:=HA.out _ _ h2;clear h2;go_wp2_with fail;refine hA.mono ?_;rintro _ w3 ⟨rfl,k3⟩;have k3:=HN.out _ _ k3;have hb:=HS.out.1.blk k3;obtain⟨⟨e0,e1,e2⟩,g0,g1,g2⟩:=aH hb;obtain⟨r0,r1,r2⟩:=aA hb (.int .i64 sa) (.int .i64 sb) (.int .i64 sc);have HK:=hid (HS.out.1.end_ k3 (.int .i64 sa) (.int .i64 sb) (.int .i64 sc));clear k3 hb hA bY y0 y1 y2 y3 c4;go_wp2_with fail;refine bodyPost_ret (by simp[results,results27,go_sem,r0,r1,r2];try rfl) rfl ?_;exact⟨rfl,HK.out⟩
theorem Fa{w:World}{g:Nat}{p:Lay}{F:List Nat}{m:M}(h:ak w g p F m)(hf:dH m)(hn:m.nx=0)(h6:(aU m.fr).k≠6)(h7:(aU m.fr).k≠7)(hd:m.df≠0)(hat:m.at_ m.df m.on=none):Calls prog 27 #[.pointer (some ⟨g,0,none⟩)] w fun R w'=>R=.returned (jK (m.throw (-25)).1)∧Keep w g p F (m.throw (-25)).2 w':=by
 obtain⟨z,hz⟩:∃z,w.heap.size=z:=⟨_,rfl⟩;have HS:=hid (Start.box0 w h);have bq:=h.touch HS.out.1.t (by simp);rw[hz]at HS;have c6:=bq.c6;rw[hn]at c6;have c3:=bq.c3;have lS:=pO bq hf.fr;obtain⟨f,ef⟩:∃f,aU m.fr=f:=⟨_,rfl⟩;rw[ef]at lS h6 h7;obtain⟨ok,bW⟩:∃ok,decide (m.fr≠[])=ok:=⟨_,rfl⟩;rw[bW]at lS;have k6:(f.k==6)=false:=by simpa using h6
 have k7:(f.k==7)=false:=by simpa using h7
 clear bW ef h6 h7;have rq:=hid (fun(W:World) F1 (hW:ak W g p F1 m)=>rj hW hf m.df m.on hat);have rB:(m.df==0)=false:=by simpa using hd
 have rr:=hid rB;obtain⟨df,SV⟩:∃df,m.df=df:=⟨_,rfl⟩;have HT:=hid (fun(W:World) F1 (hW:ak W g p F1 m)=>gD hW hf (-25));obtain⟨⟨⟨sa,sb,sc⟩,m'⟩,hq⟩:∃q,m.throw (-25)=q:=⟨_,rfl⟩;rw[hq]at HT⊢;clear hq bq h hf hn hd hat SV rB;go_enter func27,ntmps27;go_upto_region 1 with fail;clear hz;generalize w.alloc (.cells #[.int .i64 0,.int .i64 0,.int .i64 0] 48)=W0 at*;go_wp2_with fail;refine lS.mono ?_;rintro _ w1 ⟨ta,tn,tc,rfl,k1⟩;have tY:=(tR w1).alloc (.cells #[.int .i64 f.k,.int .i64 f.a,.int .i64 f.b,.int .i64 f.x,.int .i64 f.y,.slice ta tn tc] 45);have bY:=aF.new w1 45 #[.int .i64 f.k,.int .i64 f.a,.int .i64 f.b,.int .i64 f.x,.int .i64 f.y,.slice ta tn tc];obtain⟨y,hy⟩:∃y,w1.heap.size=y:=⟨_,rfl⟩;rw[hy]at bY;obtain⟨F1,h1,n1⟩:=k1.open;have l9:y∉F1:=fun hx=>by have:=h1.lt y hx;omega
 have h2:=h1.touch tY (by simp);have HN:=hid (fun(m2:M) (W2:World) (k:Keep (w1.alloc (.cells #[.int .i64 f.k,.int .i64 f.a,.int .i64 f.b,.int .i64 f.x,.int .i64 f.y,.slice ta tn tc] 45)) g p F1 m2 W2)=>n1.out _ _ (k.pre tY));clear lS k1 h1 n1 tY c3 c6;go_upto_region 8 with fail;clear hy;generalize w1.alloc (.cells #[.int .i64 f.k,.int .i64 f.a,.int .i64 f.b,.int .i64 f.x,.int .i64 f.y,.slice ta tn tc] 45)=w2 at*;have y0:=bY.cell 0;have y1:=bY.cell 1;have y2:=bY.cell 2;have y3:=bY.cell 3;have c4:=h2.c4;have c5:=h2.c5;have rI:=rr.out;have S7:=hid h2;have rK:=hid (fun W (t:Touch [] w2 W)=>rq.out W F1 (h2.touch t (by simp)));clear h2;go_upto_region 12 with fail;clear rI y0 y1 y2 y3;have A4:=fun ob=>ah ((tR w2).alloc ob) c4;have A5:=fun ob=>ah ((tR w2).alloc ob) c5;go_cut [6,7]from 56 to 70 (fun xv G3 wc=>∃y,xv=.pointer (some ⟨y,0,none⟩)∧G3=.bool false∧w2.heap.size≤y∧aF wc y 56 #[.int .u8 0,.int .i64 0,.int .i64 0]∧Touch [] w2 wc)
 case first=>
  go_region_law (first
   |(go_simp;go_at_call 47;refine Calls.mono (rK.out _ (by first|with_reducible exact(tR w2).drew|with_reducible exact((tR w2).alloc _).drew)) ?_;rintro _ w5 ⟨rfl,t5⟩;(try(have Kv:=((aF.new w2 56 #[.int .u8 0,.int .i64 0,.int .i64 0]).drew.touch t5 (by simp));have x0:=Kv.cell 0;have x1:=Kv.cell 1;have x2:=Kv.cell 2;have f0:=Kv.frozen 0;have f1:=Kv.frozen 1;have f2:=Kv.frozen 2));have T5:=hid t5;clear t5))
  all_goals go_wp2_with fail
  all_goals go_meet
  all_goals first
   |exact⟨_,rfl,rfl,Nat.le_refl _,Kv.three _ _ _,(((((tR w2).alloc _).drew.trans T5.out (by simp)).setCell (.inr (Nat.le_refl _)) _).setCell (.inr (Nat.le_refl _)) _).setCell (.inr (Nat.le_refl _)) _⟩
   |exact⟨_,rfl,rfl,T5.out.aO.size,aF.new w5 _ _,T5.out.aO.alloc _⟩
 case rest=>
  obtain⟨y',rfl,rfl,hy',bX,tX⟩:=hcut;have h3:=S7.out.touch tX (by simp);clear A4 A5 c4 c5 S7 rK bY;have hT:=HT.out _ _ h3;clear h3 bX;go_wp2_with fail;refine hT.mono ?_;rintro _ w4 ⟨rfl,k4⟩;have k4:=HN.out _ _ (k4.pre tX);have hb:=HS.out.1.blk k4;obtain⟨⟨e0,e1,e2⟩,g0,g1,g2⟩:=aH hb;obtain⟨r0,r1,r2⟩:=aA hb (.int .i64 sa) (.int .i64 sb) (.int .i64 sc);have HK:=hid (HS.out.1.end_ k4 (.int .i64 sa) (.int .i64 sb) (.int .i64 sc));clear k4 hb hT;go_wp2_with fail;refine bodyPost_ret (by simp[results,results27,go_sem,r0,r1,r2];try rfl) rfl ?_;exact⟨rfl,HK.out⟩
theorem SY{w:World}{g:Nat}{p:Lay}{F:List Nat}{m:M}(h:ak w g p F m)(lQ:m.fr.length≤128):Calls prog 21 #[.pointer (some ⟨p.f,0,none⟩)] w fun e w'=>∃a n c,e=.returned (.tuple #[.agg #[.int .i64 (aU m.fr).k,.int .i64 (aU m.fr).a,.int .i64 (aU m.fr).b,.int .i64 (aU m.fr).x,.int .i64 (aU m.fr).y,.slice a n c],.bool (decide (m.fr≠[]))])∧Touch [] w w':=by
 refine(ER h lQ).mono ?_;rintro _ w1 ⟨⟨a,n,c,rfl⟩,t⟩;exact⟨a,n,c,rfl,t⟩
theorem ak.bt{w:World}{g:Nat}{p:Lay}{F:List Nat}{m:M}(h:ak w g p F m)(n:Int):ak (w.setCell ⟨g,5,none⟩ (.int .i64 n)) g p F {m with on:=n}∧Touch F w (w.setCell ⟨g,5,none⟩ (.int .i64 n)):=by
 have hm:=h.EP;obtain⟨cv,ev,wv,Ff,FS,FI,h,rfl⟩:=h;obtain⟨a1,a2,a3,a4,a5,a6,a7⟩:=h.off;have t:Touch [g] w (w.setCell ⟨g,5,none⟩ (.int .i64 n)):=(Touch.refl [g] w).setCell (by simp) _;exact⟨⟨cv,ev,wv,Ff,FS,FI,⟨h.blk.bJ 5 _,aj h.code t (fun x hx=>(a2 x hx).1),aj h.ends t (fun x hx=>(a3 x hx).1),aj h.words t (fun x hx=>(a4 x hx).1),h.fr.touch t (fun x hx=>(a5 x hx).1),gJ h.st t (fun x hx=>(a6 x hx).1),h.inp.touch t (fun x hx=>(a7 x hx).1),h.apart⟩,rfl⟩,t.mono (fun x hx=>.inl (by simp at hx;rw[hx];exact hm))⟩
theorem Hl{w:World}{g:Nat}{p:Lay}{F:List Nat}{m:M}(h:ak w g p F m)(hf:dH m)(hn:m.nx=0)(h6:(aU m.fr).k≠6)(h7:(aU m.fr).k≠7)(hd:m.df≠0){op a v:Int}(hat:m.at_ m.df m.on=some (op,a,v))(q:St×M)(hX:∀W,ak W g p F {m with on:=m.on+1}→Touch F w W→Calls prog 49 #[.pointer (some ⟨g,0,none⟩),.agg #[.int .u8 op,.int .i64 a,.int .i64 v]] W fun R w'=>R=.returned (jK q.1)∧Keep W g p F q.2 w'):Calls prog 27 #[.pointer (some ⟨g,0,none⟩)] w fun R w'=>R=.returned (jK q.1)∧Keep w g p F q.2 w':=by
 obtain⟨z,hz⟩:∃z,w.heap.size=z:=⟨_,rfl⟩;have HS:=hid (Start.box0 w h);have bq:=h.touch HS.out.1.t (by simp);rw[hz]at HS;have c6:=bq.c6;rw[hn]at c6;have c3:=bq.c3;have lS:=SY bq hf.fr;obtain⟨f,ef⟩:∃f,aU m.fr=f:=⟨_,rfl⟩;rw[ef]at lS h6 h7;obtain⟨ok,bW⟩:∃ok,decide (m.fr≠[])=ok:=⟨_,rfl⟩;rw[bW]at lS;have k6:(f.k==6)=false:=by simpa using h6
 have k7:(f.k==7)=false:=by simpa using h7
 clear bW ef h6 h7;have rq:=hid (fun(W:World) (t:Touch [] _ W)=>(MN (bq.touch t (by simp)) hf hat).2.2);have hob:=(MN bq hf hat).1;have rB:(m.df==0)=false:=by simpa using hd
 have rr:=hid rB;have AH:=hid bq;obtain⟨⟨sa,sb,sc⟩,m'⟩:=q;dsimp only at hX⊢
 have HX:=hid hX;have S8:=hid h.lt;have Tb:=bq.c4;have Tl:=bq.c5;have Tr:=fun(W:World) (t:Touch [] _ W)=>(bq.touch t (by simp)).z 5;have hs5:=fun(W:World) (t:Touch [] _ W)=>(bq.touch t (by simp)).bt (m.on+1);have Ts:=hid (And.intro Tr hs5);clear hX bq h hf hn hd hat rB Tr hs5;go_enter func27,ntmps27;go_upto_region 1 with fail;clear hz;generalize w.alloc (.cells #[.int .i64 0,.int .i64 0,.int .i64 0] 48)=W0 at*;go_wp2_with fail;refine lS.mono ?_;rintro _ w1 ⟨ta,tn,tc,rfl,t1⟩;have tY:=t1.alloc (.cells #[.int .i64 f.k,.int .i64 f.a,.int .i64 f.b,.int .i64 f.x,.int .i64 f.y,.slice ta tn tc] 45);have bY:=aF.new w1 45 #[.int .i64 f.k,.int .i64 f.a,.int .i64 f.b,.int .i64 f.x,.int .i64 f.y,.slice ta tn tc];obtain⟨y,hy⟩:∃y,w1.heap.size=y:=⟨_,rfl⟩;rw[hy]at bY;have c4:=ah tY Tb;have c5:=ah tY Tl;have Y8:=hid tY;clear lS t1 tY c3 Tb Tl c6;go_upto_region 8 with fail;clear hy;generalize w1.alloc (.cells #[.int .i64 f.k,.int .i64 f.a,.int .i64 f.b,.int .i64 f.x,.int .i64 f.y,.slice ta tn tc] 45)=w2 at*;have y0:=bY.cell 0;have rI:=rr.out;have rK:=hid (fun W (t:Touch [] w2 W)=>rq.out W (Y8.out.trans t (by simp)));go_upto_region 12 with fail;clear rI y0;have A4:=fun ob=>ah ((tR w2).alloc ob) c4;have A5:=fun ob=>ah ((tR w2).alloc ob) c5;go_cut [6,7]from 56 to 70 (fun xv G3 wc=>∃y,xv=.pointer (some ⟨y,0,none⟩)∧G3=.bool true∧w2.heap.size≤y∧aF wc y 56 #[.int .u8 op,.int .i64 a,.int .i64 v]∧Touch [] w2 wc)
 case first=>
  go_region_law (first
   |(go_simp;go_at_call 47;refine Calls.mono (rK.out _ (by first|with_reducible exact(tR w2).drew|with_reducible exact((tR w2).alloc _).drew)) ?_;rintro _ w5 ⟨rfl,t5⟩;(try(have Kv:=((aF.new w2 56 #[.int .u8 0,.int .i64 0,.int .i64 0]).drew.touch t5 (by simp));have x0:=Kv.cell 0;have x1:=Kv.cell 1;have x2:=Kv.cell 2;have f0:=Kv.frozen 0;have f1:=Kv.frozen 1;have f2:=Kv.frozen 2));have T5:=hid t5;clear t5))
  all_goals go_wp2_with fail
  all_goals go_meet
  all_goals first
   |exact⟨_,rfl,rfl,Nat.le_refl _,Kv.three _ _ _,(((((tR w2).alloc _).drew.trans T5.out (by simp)).setCell (.inr (Nat.le_refl _)) _).setCell (.inr (Nat.le_refl _)) _).setCell (.inr (Nat.le_refl _)) _⟩
   |exact⟨_,rfl,rfl,T5.out.aO.size,aF.new w5 _ _,T5.out.aO.alloc _⟩
 case rest=>
  obtain⟨y',rfl,rfl,hy',bX,tX⟩:=hcut;have c5:=ah tX c5;clear A4 A5 c4 rK bY;have tc:=Y8.out.trans tX (by simp);have f5:=Ts.out.1 wc tc;have k5:=Ts.out.2 wc tc;have l9:y'∉F:=fun hx=>by have h1:=S8.out y' hx;have h2:=Y8.out.size;have h3:=HS.out.1.t.size;omega
  have AK:=bX.far (p:=⟨g,5,none⟩) (fun e=>by
   have h1:=S8.out g AH.out.EP;have h2:=Y8.out.size;have h3:=HS.out.1.t.size;have e:y'=g:=e;omega) (.int .i64 (m.on+1))
  have HTC:=hid tc;clear tX tc bX;go_upto_region 16 with fail;generalize wc.setCell ⟨g,5,none⟩ (.int .i64 (m.on+1))=w6 at*;obtain⟨h6,t6⟩:=k5;have TW:=hid (show Touch F W0 w6 from(HTC.out.mono (by simp)).trans t6 (fun x hx=>.inl hx));have hT:=HX.out w6 h6 ((HS.out.1.t.mono (by simp)).trans TW.out (fun x hx=>.inl hx));have j0:=AK.cell 0;have j1:=AK.cell 1;have j2:=AK.cell 2;clear h6 t6 c5 f5 l9 AK;go_wp2_with fail;refine hT.mono ?_;rintro _ w7 ⟨rfl,k7⟩;have k7:=Keep.trans TW.out (Sub.refl _ _) k7;have hb:=HS.out.1.blk k7;obtain⟨⟨e0,e1,e2⟩,g0,g1,g2⟩:=aH hb;obtain⟨r0,r1,r2⟩:=aA hb (.int .i64 sa) (.int .i64 sb) (.int .i64 sc);have HK:=hid (HS.out.1.end_ k7 (.int .i64 sa) (.int .i64 sb) (.int .i64 sc));clear k7 hb hT;go_wp2_with fail;refine bodyPost_ret (by simp[results,results27,go_sem,r0,r1,r2];try rfl) rfl ?_;exact⟨rfl,HK.out⟩
def S9(m:M)(n:Int):Prop:=(m.nx≠0∧∃v,m.word m.nx=some (1,n,v))∨(m.nx=0∧∃a v u,m.at_ m.df m.on=some (2,a,v)∧m.word a=some (1,n,u))
def vT(m:M):Prop:=∀x n v,m.word x=some (2,n,v)→1≤n∧n≤9
def Ta(D:Int→PS→Int×PS)(g:Nat)(p:Lay)(F:List Nat)(m:M):Prop:=∀op a v,m.at_ m.df m.on=some (op,a,v)→(op=12∨op=13∨op=14)→∀W,ak W g p F {m with on:=m.on+1}→
 Calls prog 87 #[.pointer (some ⟨g,0,none⟩),.agg #[.int .u8 op,.int .i64 a,.int .i64 v]] W fun R w'=>R=.returned (jK (({m with on:=m.on+1}:M).does D op a v).1)∧Keep W g p F (({m with on:=m.on+1}:M).does D op a v).2 w'
theorem Ho{w:World}{g:Nat}{p:Lay}{F:List Nat}{m:M}(h:ak w g p F m)(hf:dH m){wB:World}(nV:∀x∈F,wB.heap.size≤x)(tB:Touch [] wB w){D:Int→PS→Int×PS}(SQ:pK PS.ok D)
 (hD:∀n,S9 m n→Oz wB D p.s m.S n) (E9:vT m) (hL:Ta D g p F m):
 Calls prog 27 #[.pointer (some ⟨g,0,none⟩)] w fun R w'=>R=.returned (jK (m.step D).1)∧Keep w g p F (m.step D).2 w':=by
 by_cases hn:m.nx=0
 ·by_cases Wj:(aU m.fr).k=6∨(aU m.fr).k=7
  ·rw[show m.step D=((3,(aU m.fr).k,0),m) by unfold M.step;rw[if_neg (by rw[hn];simp),if_pos Wj]];exact C9 h hf hn Wj
  ·have h6:(aU m.fr).k≠6:=fun e=>Wj (.inl e);have h7:(aU m.fr).k≠7:=fun e=>Wj (.inr e);by_cases hd:m.df=0
   ·rw[show m.step D=m.returns by unfold M.step;rw[if_neg (by rw[hn];simp),if_neg Wj,if_pos hd]];exact Da h hf hn h6 h7 hd
   ·cases ha:m.at_ m.df m.on with
    |none=>
     rw[show m.step D=m.throw (-25) by unfold M.step;rw[if_neg (by rw[hn];simp),if_neg Wj,if_neg hd,ha]];exact Fa h hf hn h6 h7 hd ha
    |some u=>
     obtain⟨op,a,v⟩:=u;rw[show m.step D=({m with on:=m.on+1}:M).does D op a v by unfold M.step;rw[if_neg (by rw[hn];simp),if_neg Wj,if_neg hd,ha]];refine Hl h hf hn h6 h7 hd ha _ (fun W hW tW=> ?_);exact SX hW (hf.at_ _ _ _) op a v nV (tB.trans tW (fun x hx=>.inr (nV x hx))) SQ (fun n u ho hu=>hD n (.inr ⟨hn,a,v,u,by rw[ha,ho],hu⟩)) (fun n u hu=>E9 a n u hu) (fun ho W hW=>hL op a v ha ho W hW)
 ·rw[show m.step D={m with nx:=0}.execute D m.nx by unfold M.step;rw[if_pos hn]];refine C8 h hn _ (fun W F1 hW hk hs=> ?_);have tW:Touch F w W:=by obtain⟨_,_,t,_⟩:=hk;exact t
  have hz:wB.heap.size≤w.heap.size:=tB.size;exact yS hW (hf.at_ _ _ 0) m.nx (fun x hx=>(hs x hx).elim (nV x) (fun h=>Nat.le_trans hz h)) (tB.trans tW (fun x hx=>.inr (nV x hx))) SQ (fun n v hw=>hD n (.inl ⟨hn,v,hw⟩)) (fun n v hw=>E9 m.nx n v hw)
def bu(g:Nat)(p:Lay)(wB:World)(m:M)(T:St→M→Prop):Prop:=∀w F,ak w g p F m→(∀x∈F,wB.heap.size≤x)→Touch [] wB w→
 Calls prog 27 #[.pointer (some ⟨g,0,none⟩)] w fun e w'=>∃s m',e=.returned (jK s)∧Keep w g p F m' w'∧T s m'
def Kw(W0:World)(g:Nat)(p:Lay)(F:List Nat)(Q:Nat→M→Prop)(n k:Nat)(wr:World):Prop:=∃m',Keep W0 g p F m' wr∧Q (n-k) m'
def Tc(w:World)(g:Nat)(p:Lay)(F:List Nat)(R:St→M→Prop)(e:Ending)(w':World):Prop:=∃s m',e=.returned (jK s)∧Keep w g p F m' w'∧R s m'
theorem Xl{w wB:World}{g:Nat}{p:Lay}{F:List Nat}{m:M}(Q:Nat→M→Prop)(R:St→M→Prop)
 (hq:∀n m,Q (n+1) m→bu g p wB m (fun s m'=>(s.1=1∧Q n m')∨(s.1≠1∧R s m'))) (h0:∀m,Q 0 m→R ran m)
 (h:ak w g p F m) (nV:∀x∈F,wB.heap.size≤x) (tB:Touch [] wB w) (n:Nat) (hn:n≤1000000) (hQ:Q n m):
 Calls prog 20 #[.pointer (some ⟨g,0,none⟩),.int .i64 n] w (Tc w g p F R):=by
 obtain⟨z,hz⟩:∃z,w.heap.size=z:=⟨_,rfl⟩;have HS:=hid (Start.new w h);have bq:=h.touch HS.out.t (by simp);rw[hz]at HS;have V7:Kw (w.alloc (.cells #[.int .i64 0,.int .i64 0,.int .i64 0] 48)) g p F Q n 0 (w.alloc (.cells #[.int .i64 0,.int .i64 0,.int .i64 0] 48)):=⟨m,Keep.refl bq,hQ⟩;have HQ:=hid hq;have H0:=hid h0;have HF:=hid (And.intro nV (tB.trans HS.out.t (by simp)));clear hq h0 bq h nV tB hQ;go_enter func20,ntmps20;go_upto_region 1 with fail;clear hz;generalize w.alloc (.cells #[.int .i64 0,.int .i64 0,.int .i64 0] 48)=W0 at*;go_wp2_with fail;go_loopw [7] (fun i wr=>∃k:Nat,k≤n∧i=.int .i64 k∧Kw W0 g p F Q n k wr) (fun i _=>n-(intOf i).toNat)
 case atStart=>exact⟨0,Nat.zero_le _,rfl,V7⟩
 case round=>
  obtain⟨k,hk,rfl,hr⟩:=hrel;rcases Nat.lt_or_ge k n with hlt|ql
  ·obtain⟨mk,Hq,b9⟩:=hr;rw[show n-k=(n-(k+1))+1 by omega]at b9;obtain⟨Fk,rL,tk,sk⟩:=Hq;have hS:=HQ.out _ _ b9 wr Fk rL (fun x hx=>(sk x hx).elim (HF.out.1 x) (fun hh=>Nat.le_trans HF.out.2.size hh)) (HF.out.2.trans tk (fun x hx=>.inr (HF.out.1 x hx)));have HN:=hid (fun(m2:M) (W2:World) (k2:Keep wr g p Fk m2 W2)=>Keep.trans tk sk k2);clear b9 rL tk sk V7;go_wp2_with fail;refine hS.mono ?_;rintro _ w1 ⟨⟨sa,sb,sc⟩,m1,rfl,k1,hT⟩;have k1:=HN.out _ _ k1;have bY:=aF.new w1 48 #[.int .i64 sa,.int .i64 sb,.int .i64 sc];have k2:=k1.quiet ((tR w1).alloc (.cells #[.int .i64 sa,.int .i64 sb,.int .i64 sc] 48));obtain⟨y,hy⟩:∃y,w1.heap.size=y:=⟨_,rfl⟩;rw[hy]at bY;have HT:=hid hT;clear hS k1 hT;go_upto_region 4 with fail;clear hy;generalize w1.alloc (.cells #[.int .i64 sa,.int .i64 sb,.int .i64 sc] 48)=w2 at*;have y0:=bY.cell 0;have y1:=bY.cell 1;have y2:=bY.cell 2;by_cases h1:sa=1
   ·have Xm:Q (n-(k+1)) m1:=by
     rcases HT.out with h|h
     ·exact h.2
     ·exact absurd h1 h.1
    subst h1;have HR:Hid (Kw W0 g p F Q n (k+1) w2):=hid ⟨m1,k2,Xm⟩;clear k2 Xm;go_wp2_with fail;go_roundw
    case rel=>exact⟨k+1,by omega,by go_num,HR.out⟩
    case measure=>simp[intOf];omega
   ·have cg:(sa==1)=false:=by simpa using h1
    have hr1:R (sa,sb,sc) m1:=by
     rcases HT.out with h|h
     ·exact absurd h.1 h1
     ·exact h.2
    have hb:=HS.out.blk k2;obtain⟨⟨e0,e1,e2⟩,g0,g1,g2⟩:=aH hb;obtain⟨r0,r1,r2⟩:=aA hb (.int .i64 sa) (.int .i64 sb) (.int .i64 sc);have HK:=hid (HS.out.end_ k2 (.int .i64 sa) (.int .i64 sb) (.int .i64 sc));have G4:=hid hr1;clear k2 hb h1 hr1;go_wp2_with fail;refine bodyPost_ret (by simp[results,results20,go_sem,r0,r1,r2];try rfl) rfl ?_;exact⟨(sa,sb,sc),m1,rfl,HK.out,G4.out⟩
  ·obtain rfl:k=n:=by omega
   obtain⟨mk,Hq,b9⟩:=hr;rw[Nat.sub_self]at b9;have hr1:=H0.out _ b9;have hb:=HS.out.blk Hq;obtain⟨⟨e0,e1,e2⟩,g0,g1,g2⟩:=aH hb;obtain⟨r0,r1,r2⟩:=aA hb (.int .i64 1) (.int .i64 0) (.int .i64 0);have HK:=hid (HS.out.end_ Hq (.int .i64 1) (.int .i64 0) (.int .i64 0));have G4:=hid hr1;clear Hq hb b9 hr1 V7;go_wp2_with fail;refine bodyPost_ret (by simp[results,results20,go_sem,r0,r1,r2];try rfl) rfl ?_;exact⟨ran,mk,rfl,HK.out,G4.out⟩
end En
section
open Go.RowKit Go.Shelf
namespace En
def J1:Value→Option Addr
 | .slice a _ _=>a
 |_=>none
def Zh:Value→Nat
 | .slice _ n _=>n
 |_=>0
def XX:Value→Nat
 | .slice _ _ c=>c
 |_=>0
def BW:Value→Nat
 | .slice (some a) _ _=>a.block
 |_=>0
def mG(L:List Fr)(i:Int):Option Nat:=match locals L.reverse with
 |none=>none
 |some j=>if 0≤i∧i<(L.getD j .none).l.length then some j else none
theorem Bc{ks ks':Nat→Int}:∀{n:Nat},(∀j,j<n→ks j=ks' j)→pW ks n=pW ks' n
 |0,_=>rfl
 |n+1,h=>by
  unfold pW;rw[h n (by omega),Bc fun j hj=>h j (by omega)]
theorem Fj{ks:Nat→Int}:∀{n j:Nat},pW ks n=some j→j<n∧(ks j=4∨ks j=1)
 |0,j,h=>by cases h
 |n+1,j,h=>by
  unfold pW at h;by_cases e:ks n=4∨ks n=1
  ·rw[if_pos e]at h;injection h with h;subst h;exact⟨by omega,e⟩
  ·rw[if_neg e]at h;have:=Fj h;exact⟨by omega,this.2⟩
theorem yT{Q R:List Fr}{j:Nat}(h:j<Q.length):(Q++R).getD j .none=Q.getD j .none:=by
 rw[List.getD_eq_getElem?_getD,List.getD_eq_getElem?_getD,List.getElem?_append_left h]
theorem uR:∀(n:Nat) (L:List Fr),L.length=n→locals L.reverse=(match pW (fun j=>(L.getD j .none).k) L.length with|none=>none|some j=>if(L.getD j .none).k=4 then some j else none)
 |0,L,h=>by rw[List.eq_nil_of_length_eq_zero h];rfl
 |n+1,L,h=>by
  have hne:L≠[]:=by rintro rfl;simp at h
  obtain⟨Q,f,rfl⟩:∃Q f,L=Q++[f]:=⟨L.dropLast,L.getLast hne,(List.dropLast_concat_getLast hne).symm⟩;have hQ:Q.length=n:=by simpa using h
  have e1:(Q++[f]).length=Q.length+1:=by simp
  have e2:(Q++[f]).getD Q.length .none=f:=by simp[List.getD_eq_getElem?_getD]
  rw[List.reverse_append,e1];show locals (f::Q.reverse)=_;unfold locals pW;rw[e2,List.length_reverse];by_cases h4:f.k=4
  ·rw[if_pos h4,if_pos (.inl h4)];dsimp only
   rw[e2,if_pos h4]
  ·by_cases h1:f.k=1
   ·rw[if_neg h4,if_pos h1,if_pos (.inr h1)];dsimp only
    rw[e2,if_neg h4]
   ·rw[if_neg h4,if_neg h1,if_neg (fun e=>e.elim h4 h1),uR n Q hQ,Bc (ks:=fun j=>((Q++[f]).getD j .none).k) (ks':=fun j=>(Q.getD j .none).k) fun j hj=>by rw[yT hj]];cases hk:pW (fun j=>(Q.getD j .none).k) Q.length with
    |none=>rfl
    |some j=>
     dsimp only
     rw[yT (Fj hk).1]
theorem MZ{w:World}{b:Nat}{v:Value}{Q:List Fq}(h:kN w b v Q)(hQ:Q.length≤1000)(i:Int):∃R,(Calls prog 143 #[.pointer (some ⟨b,0,none⟩),.int .i64 i] w fun e w'=>e=.returned (.pointer R)∧Touch [] w w')∧
 ((R=none∧mG (Q.map (·.f)) i=none)∨∃j,∃hj:j<Q.length,∃g c,mG (Q.map (·.f)) i=some j∧R=some ⟨g,i.toNat,none⟩∧0≤i∧i<(Q[j].f.l.length:Int)∧Q[j].v=.slice (some ⟨g,0,none⟩) Q[j].f.l.length c):=by
 obtain⟨L,hL⟩:∃L,Q.map (·.f)=L:=⟨_,rfl⟩;have hlen:L.length=Q.length:=by rw[←hL,List.length_map]
 have qF:∀j (hj:j<Q.length),L.getD j .none=Q[j].f:=fun j hj=>by rw[←hL,List.getD_eq_getElem?_getD,List.getElem?_map,List.getElem?_eq_getElem hj];rfl
 obtain⟨V,hV⟩:∃V:Nat→Value,∀j (hj:j<Q.length),V j=Q[j].v:=⟨fun j=>(Q[j]?.map (·.v)).getD (.slice none 0 0),fun j hj=>by show(Q[j]?.map (·.v)).getD (.slice none 0 0)=_;rw[List.getElem?_eq_getElem hj];rfl⟩;have uz:∀j (hj:j<Q.length),Q[j].v=.slice (J1 (V j)) (Zh (V j)) (XX (V j))∧Zh (V j)=Q[j].f.l.length∧(Zh (V j)≠0→J1 (V j)=some ⟨BW (V j),0,none⟩):=fun j hj=>by
  have bW:=h.ok Q[j] (List.getElem_mem hj);rw[hV j hj];rcases Go.Joins.ownsRow_forms bW.2.2 with⟨e,h0⟩|⟨g,cap,e⟩
  ·rw[e,h0];exact⟨rfl,rfl,fun h=>absurd rfl h⟩
  ·rw[e];exact⟨rfl,rfl,fun _=>rfl⟩
 have key:∀(g cap:Nat) (a:Option Addr),v=.slice a Q.length cap→(Q.length≠0→a=some ⟨g,0,none⟩)→g<w.heap.size→(Q.length≠0→w.ownsRow 0 45 6 (.slice (some ⟨g,0,none⟩) Q.length cap) Q.length (Q.flatMap dO))→∀R,R=(match pW (fun j=>(L.getD j .none).k) Q.length with|none=>none|some j=>xX (fun j=>(L.getD j .none).k) (fun j=>Zh (V j)) (fun j=>BW (V j)) i j)→Calls prog 143 #[.pointer (some ⟨b,0,none⟩),.int .i64 i] w fun e w'=>e=.returned (.pointer R)∧Touch [] w w':=fun g cap a hv ha hg hr R hR=>by
  refine O9 w b g Q.length cap a (fun j=>(L.getD j .none).k) (fun j=>J1 (V j)) (fun j=>Zh (V j)) (fun j=>XX (V j)) (fun j=>BW (V j)) h.blk.lt (by rw[h.blk.cell 0,hv];rfl) ha hg hQ (fun j hj=> ?_) (fun j hj=> ?_) (fun j hj=>(uz j hj).2.2) i R hR
  ·rw[qF j hj];exact(oz (hr (by omega)) (List.getElem?_eq_getElem hj)).1
  ·rw[←(uz j hj).1];exact(oz (hr (by omega)) (List.getElem?_eq_getElem hj)).2.2.2.2.2
 obtain⟨R,KF⟩:∃R,R=(match pW (fun j=>(L.getD j .none).k) Q.length with|none=>none|some j=>xX (fun j=>(L.getD j .none).k) (fun j=>Zh (V j)) (fun j=>BW (V j)) i j):=⟨_,rfl⟩;refine⟨R,?_,?_⟩
 ·rcases Go.Joins.ownsRow_forms h.row with⟨e,h0⟩|⟨g,cap,e⟩
  ·exact key b 0 none (by rw[e,h0]) (fun h=>absurd h0 h) h.blk.lt (fun h=>absurd h0 h) R KF
  ·have hr:=h.row;rw[e]at hr;exact key g cap _ e (fun _=>rfl) (fG hr (by simp[rowOf])) (fun _=>hr) R KF
 ·rw[hL];unfold mG;rw[uR _ L rfl,hlen,KF];clear KF;cases hk:pW (fun j=>(L.getD j .none).k) Q.length with
  |none=>exact .inl ⟨rfl,rfl⟩
  |some j=>
   have hj:=(Fj hk).1;obtain⟨f1,f2,f3⟩:=uz j hj;dsimp only
   unfold xX;by_cases h4:(L.getD j .none).k=4
   ·rw[if_pos h4];dsimp only
    have B4:(L.getD j .none).l.length=Zh (V j):=by rw[qF j hj,f2]
    rw[B4];by_cases hi:0≤i∧i<Zh (V j)
    ·rw[if_pos hi,if_pos ⟨h4,hi.1,hi.2⟩];have h3:=f3 (by omega);rw[h3]at f1;exact .inr ⟨j,hj,_,_,rfl,rfl,hi.1,by rw[←f2];exact hi.2,by rw[←f2];exact f1⟩
    ·rw[if_neg hi,if_neg (fun e=>hi e.2)];exact .inl ⟨rfl,rfl⟩
   ·rw[if_neg h4,if_neg (fun e=>h4 e.1)];exact .inl ⟨rfl,rfl⟩
def jr(L:List Fr)(i:Int):Int×Int:=match mG L i with
 |none=>(0,-6)
 |some j=>((L.getD j .none).l.getD i.toNat 0,0)
theorem KT(w:World)(b:Nat)(F:List Nat)(L:List Fr)(h:aP w b F L)(hL:L.length≤1000)(i:Int):
 Calls prog 115 #[.pointer (some ⟨b,0,none⟩),.int .i64 i] w fun e w'=>e=.returned (.tuple #[.int .i64 (jr L i).1,.int .i64 (jr L i).2])∧Touch [] w w':=by
 obtain⟨v,Q,hR,rfl,hF,hl⟩:=h;rw[List.length_map]at hL;obtain⟨R,hC,nY⟩:=MZ hR hL i;unfold jr;rcases nY with⟨rfl,hn⟩|⟨j,hj,g,c,hn,rfl,h0,h1,hv⟩
 ·rw[hn];clear hR hF hl hn;go_enter func115,ntmps115;go_wp2_with fail;refine hC.mono ?_;rintro _ w1 ⟨rfl,t⟩;clear hC;go_wp2_with fail;go_ret2;exact⟨rfl,t⟩
 ·rw[hn];dsimp only
  obtain⟨k,rfl⟩:∃k:Nat,i=k:=⟨i.toNat,by omega⟩;rw[show((k:Int)).toNat=k by omega]at hC⊢;have hrow:=(hR.ok Q[j] (List.getElem_mem hj)).2.2;rw[hv]at hrow;have hx:(Q.map (·.f)).getD j .none=Q[j].f:=by rw[List.getD_eq_getElem?_getD,List.getElem?_map,List.getElem?_eq_getElem hj];rfl
  rw[hx];have hcell:=fun W (t:Touch [] w W)=>(aj hrow t (by simp)).cells (g:=g) rfl k _ (eH _ k (by omega));obtain⟨u,hu⟩:∃u,Q[j].f.l.getD k 0=u:=⟨_,rfl⟩;rw[hu]at hcell⊢;have HC:=hid hcell;clear hR hF hl hn hrow hv hx hu h1 hcell;go_enter func115,ntmps115;go_wp2_with fail;refine hC.mono ?_;rintro _ w1 ⟨rfl,t⟩;have k0:=HC.out w1 t;rw[gG,Nat.zero_add]at k0;clear hC;go_wp2_with fail;go_ret2;exact⟨rfl,t⟩
def Bd(L:List Fr)(i x:Int):Int×List Fr:=match mG L i with
 |none=>(-6,L)
 |some j=>(0,L.set j {L.getD j .none with l:=(L.getD j .none).l.set i.toNat x})
theorem TI{w:World}{g cap:Nat}{l:List Int}(h:w.ownsRow 0 33 1 (.slice (some ⟨g,0,none⟩) l.length cap) l.length (cells l))(i:Nat)(x:Int):
 (w.setCell ⟨g,i,none⟩ (.int .i64 x)).ownsRow 0 33 1 (.slice (some ⟨g,0,none⟩) l.length cap) l.length (cells (l.set i x)):=by
 obtain⟨h1,h2⟩:=h;rcases h2 with⟨h0,_⟩|⟨g',cap',cur,hv,hg,hh,Mf,oJ,hsz,qU⟩
 ·cases h0
 ·cases hv;have hb:aF w g 33 cur:=hh;refine⟨by rw[dz,List.length_set,Nat.mul_one],.inr ⟨g,cap,cur.setIfInBounds i (.int .i64 x),rfl,hg,hb.bJ i _,Mf,oJ,by rw[Array.size_setIfInBounds];exact hsz,?_⟩⟩;rw[Array.toList_setIfInBounds,List.take_set,qU];simp[cells,List.map_set]
theorem KU{Q:List Fq}(h:(eP Q).Nodup){j j':Nat}(hj:j<Q.length)(hj':j'<Q.length)(hne:j≠j'):∀x∈rowOf Q[j].v,x∉rowOf Q[j'].v:=by
 unfold eP List.Nodup at h;rw[List.pairwise_flatMap]at h;have h2:=List.pairwise_iff_getElem.1 h.2;intro x hx NV;rcases Nat.lt_or_gt_of_ne hne with e|e
 ·exact h2 j j' hj hj' e x hx x NV rfl
 ·exact h2 j' j hj' hj e x NV x hx rfl
theorem vY{α β:Type}{f:α→β}{Q:List α}{j:Nat}(hj:j<Q.length){q:α}(h:f q=f Q[j]):(Q.set j q).map f=Q.map f:=by
 rw[List.map_set,h];refine List.ext_getElem (by simp) fun n h1 h2=> ?_;rw[List.getElem_set];split
 ·rename_i e;subst e;simp
 ·rfl
theorem KW{w:World}{b:Nat}{v:Value}{Q:List Fq}{F:List Nat}(hR:kN w b v Q)(hF:∀x,x∈b::(rowOf v++eP Q)→x∈F)(hl:∀x∈F,x<w.heap.size){j:Nat}(hj:j<Q.length){g c:Nat}(hv:Q[j].v=.slice (some ⟨g,0,none⟩) Q[j].f.l.length c)(i:Nat)(x:Int)(h4:Q[j].f.k=4):
 aP (w.setCell ⟨g,i,none⟩ (.int .i64 x)) b F ((Q.map (·.f)).set j {Q[j].f with l:=Q[j].f.l.set i x})∧g∈F:=by
 have hgr:g∈rowOf Q[j].v:=by rw[hv];simp[rowOf]
 have pD:g∈eP Q:=jP.2 ⟨Q[j],List.getElem_mem hj,hgr⟩;have pM:g∈F:=hF g (by simp[pD]);have hbg:b≠g:=fun e=>hR.Mx (e▸pD);have t:Touch [g] w (w.setCell ⟨g,i,none⟩ (.int .i64 x)):=(Touch.refl [g] w).setCell (by simp) _;obtain⟨q',hq'⟩:∃q':Fq,q'=⟨{Q[j].f with l:=Q[j].f.l.set i x},Q[j].v⟩:=⟨_,rfl⟩;have hc:dO q'=dO Q[j]:=by rw[hq'];rfl
 have hvv:q'.v=Q[j].v:=by rw[hq']
 have Bf:(Q.set j q').flatMap dO=Q.flatMap dO:=by
  rw[List.flatMap_def,List.flatMap_def,vY hj hc]
 have M0:eP (Q.set j q')=eP Q:=by
  unfold eP;rw[List.flatMap_def,List.flatMap_def,vY (f:=fun q:Fq=>rowOf q.v) hj (by rw[hvv])]
 have bW:=hR.ok Q[j] (List.getElem_mem hj);refine⟨⟨v,Q.set j q',⟨hR.blk.far hbg _,?_,?_,?_⟩,?_,?_,fun y hy=>Nat.lt_of_lt_of_le (hl y hy) t.size⟩,pM⟩
 ·rw[Bf,List.length_set];exact aj hR.row t (fun y hy pL=>by
   rw[List.mem_singleton.1 pL]at hy;exact hR.zJ g hy pD)
 ·intro q hq;obtain⟨n,hn,rfl⟩:=List.mem_iff_getElem.1 hq;rw[List.length_set]at hn;rw[List.getElem_set];by_cases e:j=n
  ·rw[if_pos e,hq'];refine⟨fun h=>absurd h4 h,?_,?_⟩
   ·show(Q[j].f.l.set i x).length≤1000;rw[List.length_set];exact bW.2.1
   ·have h3:=bW.2.2;rw[hv]at h3;have h5:=TI h3 i x;show World.ownsRow _ 0 _ 1 Q[j].v (Q[j].f.l.set i x).length _;rw[hv,List.length_set];exact h5
  ·rw[if_neg e];exact(hR.ok Q[n] (List.getElem_mem hn)).touch t (fun y hy pL=>by
    rw[List.mem_singleton.1 pL]at hy;exact KU (List.nodup_append.1 (List.nodup_cons.1 hR.nd).2).2.1 hj hn e g hgr hy)
 ·rw[M0];exact hR.nd
 ·rw[List.map_set,hq']
 ·rw[M0];exact hF
theorem TJ{L:List Fr}{i:Int}{j:Nat}(h:mG L i=some j):(L.getD j .none).k=4:=by
 unfold mG at h;rw[uR _ L rfl]at h;cases hk:pW (fun j=>(L.getD j .none).k) L.length with
 |none=>rw[hk]at h;cases h
 |some m=>
  rw[hk]at h;dsimp only at h
  by_cases h4:(L.getD m .none).k=4
  ·rw[if_pos h4]at h;dsimp only at h
   split at h
   ·injection h with h;rw[←h];exact h4
   ·cases h
  ·rw[if_neg h4]at h;cases h
theorem Db(w:World)(b:Nat)(F:List Nat)(L:List Fr)(h:aP w b F L)(hL:L.length≤1000)(i x:Int):
 Calls prog 117 #[.pointer (some ⟨b,0,none⟩),.int .i64 i,.int .i64 x] w fun e w'=>e=.returned (.int .i64 (Bd L i x).1)∧aP w' b F (Bd L i x).2∧Touch F w w':=by
 have nV:=h;obtain⟨v,Q,hR,rfl,hF,hl⟩:=h;rw[List.length_map]at hL;obtain⟨R,hC,nY⟩:=MZ hR hL i;unfold Bd;rcases nY with⟨rfl,hn⟩|⟨j,hj,g,c,hn,rfl,h0,h1,hv⟩
 ·rw[hn];have H0:=hid nV;clear hR hF hl hn nV;go_enter func117,ntmps117;go_wp2_with fail;refine hC.mono ?_;rintro _ w1 ⟨rfl,t⟩;clear hC;go_wp2_with fail;go_ret;exact⟨rfl,H0.out.touch t (by simp),t.mono (by simp)⟩
 ·rw[hn];dsimp only
  obtain⟨k,rfl⟩:∃k:Nat,i=k:=⟨i.toNat,by omega⟩;rw[show((k:Int)).toNat=k by omega]at hC⊢;have hx:(Q.map (·.f)).getD j .none=Q[j].f:=by rw[List.getD_eq_getElem?_getD,List.getElem?_map,List.getElem?_eq_getElem hj];rfl
  have h4:=TJ hn;rw[hx]at h4⊢;have hrow:=(hR.ok Q[j] (List.getElem_mem hj)).2.2;rw[hv]at hrow;have HE:=hid (fun W (t:Touch [] w W)=>KW (hR.touch t (by simp)) hF (fun y hy=>Nat.lt_of_lt_of_le (hl y hy) t.size) hj hv k x h4);have HC:=hid (fun W (t:Touch [] w W)=>And.intro ((aj hrow t (by simp)).cells (g:=g) rfl k _ (eH _ k (by omega))) (show W.frozen? ⟨g,k,none⟩=false by
   rcases(aj hrow t (by simp)).2 with⟨h0,_⟩|⟨g',cap',cur,hv',_,hh,_⟩
   ·cases h0
   ·cases hv';have hb:aF W g 33 cur:=hh;exact hb.frozen k))
  clear hR hF hl hn hrow hv hx h1 h4 nV;go_enter func117,ntmps117;go_wp2_with fail;refine hC.mono ?_;rintro _ w1 ⟨rfl,t⟩;obtain⟨k0,z0⟩:=HC.out w1 t;rw[gG,Nat.zero_add]at k0;have HT:=hid t;clear hC t;go_wp2_with fail;go_ret;obtain⟨e1,e2⟩:=HE.out w1 HT.out;exact⟨rfl,e1,(HT.out.mono (by simp)).setCell (.inl e2) _⟩
end En
end
namespace En
section
variable {w:World} {g:Nat} {p:Lay} {F:List Nat} {m:M}
theorem Ii(h:ak w g p F m)(f:Fr)(v:Value)(hk:f.k=4)(hl:f.l.length≤1000)(W:World)(t:Touch [] w W)(hr:pE W v f.l):
 Calls prog 18 #[.pointer (some ⟨p.f,0,none⟩),.agg #[.int .i64 f.k,.int .i64 f.a,.int .i64 f.b,.int .i64 f.x,.int .i64 f.y,v]] W fun e w'=>e=.returned (.int .i64 (m.aK f).1)∧Keep w g p F (m.aK f).2 w':=by
 obtain⟨cv,ev,wv,Ff,FS,FI,h,rfl⟩:=h;exact GZ h f v hk hl W t hr
theorem Pb(h:ak w g p F m)(lQ:m.fr.length≤128)(i:Int):Calls prog 115 #[.pointer (some ⟨p.f,0,none⟩),.int .i64 i] w fun e w'=>e=.returned (.tuple #[.int .i64 (jr m.fr i).1,.int .i64 (jr m.fr i).2])∧Touch [] w w':=by
 obtain⟨cv,ev,wv,Ff,FS,FI,h,rfl⟩:=h;exact KT w p.f Ff m.fr h.fr (by omega) i
theorem Fp(h:ak w g p F m)(lQ:m.fr.length≤128)(i x:Int):Calls prog 117 #[.pointer (some ⟨p.f,0,none⟩),.int .i64 i,.int .i64 x] w fun e w'=>e=.returned (.int .i64 (Bd m.fr i x).1)∧Keep w g p F {m with fr:=(Bd m.fr i x).2} w':=by
 obtain⟨cv,ev,wv,Ff,FS,FI,h,rfl⟩:=h;refine(Db w p.f Ff m.fr h.fr (by omega) i x).mono ?_;rintro _ w1 ⟨rfl,h1,t1⟩;exact⟨rfl,h.mW h1 t1 (Sub.refl _ _)⟩
def uG(m:M)(a x:Int):Int×M:=((Bd m.fr a x).1,{m with fr:=(Bd m.fr a x).2})
theorem TK(m:M)(a x:Int):(match locals m.fr.reverse with
 |none=>((-6:Int),m)
 |some i=>if 0≤a∧a<(m.fr.getD i .none).l.length then(0,{m with fr:=m.fr.set i {m.fr.getD i .none with l:=(m.fr.getD i .none).l.set a.toNat x}})else(-6,m))=uG m a x:=by
 unfold uG Bd mG;cases locals m.fr.reverse with
 |none=>rfl
 |some i=>
  dsimp only
  by_cases h:0≤a∧a<((m.fr.getD i .none).l.length:Int)
  ·rw[if_pos h,if_pos h]
  ·rw[if_neg h,if_neg h]
theorem Pf(m:M)(a:Int):(match locals m.fr.reverse with
 |none=>m.throw (-6)
 |some i=>if 0≤a∧a<(m.fr.getD i .none).l.length then M.done (m.push ((m.fr.getD i .none).l.getD a.toNat 0))else m.throw (-6))=(if(jr m.fr a).2=0 then M.done (m.push (jr m.fr a).1)else M.done ((jr m.fr a).2,m)):=by
 have e6:M.done ((-6:Int),m)=m.throw (-6):=if_neg (show¬((-6:Int)=0) by decide);have hl:(match locals m.fr.reverse with
  |none=>m.throw (-6)
  |some i=>if 0≤a∧a<((m.fr.getD i .none).l.length:Int)then M.done (m.push ((m.fr.getD i .none).l.getD a.toNat 0))else m.throw (-6))=(match mG m.fr a with|none=>m.throw (-6)|some i=>M.done (m.push ((m.fr.getD i .none).l.getD a.toNat 0))):=by
  unfold mG;cases locals m.fr.reverse with
  |none=>rfl
  |some i=>
   dsimp only
   by_cases h:0≤a∧a<((m.fr.getD i .none).l.length:Int)
   ·rw[if_pos h,if_pos h]
   ·rw[if_neg h,if_neg h]
 rw[hl];unfold jr;cases mG m.fr a with
 |none=>
  show m.throw (-6)=if(-6:Int)=0 then _ else M.done ((-6:Int),m)
  rw[if_neg (by decide),e6]
 |some i=>rfl
theorem Ij{b:Nat}(hb:Cap w F b g)(n:Nat)(hn:n≤1000):xR w g p F m n 114 #[] #[.pointer (some ⟨b,0,none⟩)] (fun l m=>m.aK ⟨4,0,0,0,0,l⟩):=by
 intro W lv t hE hc hl;obtain⟨la,lc,rfl⟩:∃a c,lv=.slice a (m.top n).length c:=pE.form hc;have b0:=hb.at_ t;have c3:=hE.c3;show Calls prog 114 #[.slice la (m.top n).length lc,.pointer (some ⟨b,0,none⟩)] W fun e w'=>e=.returned (.int .i64 ((m.taken n).aK ⟨4,0,0,0,0,m.top n⟩).1)∧Keep W g p F ((m.taken n).aK ⟨4,0,0,0,0,m.top n⟩).2 w';obtain⟨m1,jC⟩:∃m1,m.taken n=m1:=⟨_,rfl⟩;rw[jC]at hE⊢;obtain⟨l,B4⟩:∃l,m.top n=l:=⟨_,rfl⟩;rw[B4]at hc hl⊢;have hP:=Ii hE ⟨4,0,0,0,0,l⟩ (.slice la l.length lc) rfl (by show l.length≤1000;omega) W (tR W) hc;dsimp only at hP
 obtain⟨ln,qm⟩:∃ln,l.length=ln:=⟨_,rfl⟩;rw[qm]at hP⊢;obtain⟨⟨re,m2⟩,hr⟩:∃q,m1.aK ⟨4,0,0,0,0,l⟩=q:=⟨_,rfl⟩;rw[hr]at hP⊢;clear jC hc hl t hb hE B4 qm hr;go_enter func114,ntmps114;go_wp2_with fail;refine hP.mono ?_;rintro _ w2 ⟨rfl,k2⟩;have HK:=hid k2;clear k2 hP;go_wp2_with fail;go_ret;exact⟨rfl,HK.out⟩
theorem TL{b:Nat}(hb:Cap w F b g){bx:Nat}{op a v:Int}(hx:G7 w F bx op a v)(lQ:m.fr.length≤128):xR w g p F m 1 116 #[] #[.pointer (some ⟨b,0,none⟩),.pointer (some ⟨bx,0,none⟩)] (fun l m=>uG m a (l.getD 0 0)):=by
 intro W lv t hE hc hl;obtain⟨gg,c,rfl,hcell⟩:=hc.get (by rw[hl];decide);rw[hl]at hcell⊢;have i0:=hcell 0 (by decide);have b0:=hb.at_ t;obtain⟨q0,q1,q2⟩:=hx.at_ t;have c3:=hE.c3;show Calls prog 116 #[.slice (some ⟨gg,0,none⟩) 1 c,.pointer (some ⟨b,0,none⟩),.pointer (some ⟨bx,0,none⟩)] W fun e w'=>e=.returned (.int .i64 (uG (m.taken 1) a ((m.top 1).getD 0 0)).1)∧Keep W g p F (uG (m.taken 1) a ((m.top 1).getD 0 0)).2 w';obtain⟨m1,jC⟩:∃m1,m.taken 1=m1:=⟨_,rfl⟩;rw[jC]at hE⊢;obtain⟨x0,hx0⟩:∃x,(m.top 1).getD 0 0=x:=⟨_,rfl⟩;rw[hx0]at i0;try rw[hx0]
 have HM:=hid jC;clear jC hx0 hcell hc hl t hb hx;have hP:=Fp (hE.touch (tR W).drew (by simp)) (by rw[←HM.out];exact lQ) a x0;unfold uG;obtain⟨⟨re,L2⟩,hr⟩:∃q,Bd m1.fr a x0=q:=⟨_,rfl⟩;rw[hr]at hP⊢;dsimp only at hP⊢
 clear hE hr;go_enter func116,ntmps116;go_wp2_with fail;go_still_tail 9,(by kernel_rfl)
 change wpList _ _ _ _ _ W.drew
 go_wp2_with fail;refine hP.mono ?_;rintro _ w2 ⟨rfl,k2⟩;have HK:=hid (k2.pre (tR W).drew);clear k2 hP;go_wp2_with fail;go_ret;exact⟨rfl,HK.out⟩
end
theorem TM(L:List Fr)(a x:Int):(Bd L a x).2.length=L.length:=by
 unfold Bd;cases mG L a with
 |none=>rfl
 |some j=>exact List.length_set
theorem xZ{w:World}{g:Nat}{p:Lay}{F:List Nat}{m:M}(h:ak w g p F m)(hf:dH m)(n:Nat)(hn:n≤1000)(v:Int):Calls prog 87 #[.pointer (some ⟨g,0,none⟩),.agg #[.int .u8 12,.int .i64 n,.int .i64 v]] w fun R w'=>R=.returned (jK (m.aM n (fun l m=>m.aK ⟨4,0,0,0,0,l⟩)).1)∧Keep w g p F (m.aM n (fun l m=>m.aK ⟨4,0,0,0,0,l⟩)).2 w':=by
 obtain⟨do_,iP⟩:∃do_:List Int→M→Int×M,do_=(fun l m=>m.aK ⟨4,0,0,0,0,l⟩):=⟨_,rfl⟩;rw[←iP];obtain⟨z,hz⟩:∃z,w.heap.size=z:=⟨_,rfl⟩;have HS:=hid (Start.uh w h 12 n v);have bq:=h.touch HS.out.1.t (by simp);rw[hz]at HS;have b0:=HS.out.2.1.at_ (Touch.refl F _);obtain⟨q0,q1,q2⟩:=HS.out.2.2.at_ (Touch.refl F _);have hT:=iD bq hf n (by omega) 114 #[] #[.pointer (some ⟨z,0,none⟩)] do_ (enters_of func114 (by kernel_rfl) rfl) (by rw[iP];exact Ij HS.out.2.1 n hn) (fun ql=>by rw[iP];exact(eG hf n).aK _) (fun ql hr=>by
  rw[iP];show((m.taken n).aK _).2.S.st.length+n≤128;rw[vR,xQ ql];have:=hf.st;omega)
 obtain⟨⟨⟨sa,sb,sc⟩,m'⟩,hq⟩:∃q,m.aM n do_=q:=⟨_,rfl⟩;rw[hq]at hT⊢;dsimp only at hT⊢
 clear hq;clear iP bq h hf;go_enter func87,ntmps87;go_upto_region 1 with fail;clear hz;generalize ((w.alloc (.cells #[.pointer (some ⟨g,0,none⟩)] 27)).alloc (.cells #[.int .u8 12,.int .i64 n,.int .i64 v] 56)).alloc (.cells #[.int .i64 0,.int .i64 0,.int .i64 0] 48)=W0 at*;go_wp2_with fail;refine hT.mono ?_;rintro _ w1 ⟨rfl,k1⟩;have hb:=HS.out.1.blk k1;obtain⟨⟨e0,e1,e2⟩,g0,g1,g2⟩:=aH hb;obtain⟨r0,r1,r2⟩:=aA hb (.int .i64 sa) (.int .i64 sb) (.int .i64 sc);have HK:=hid (HS.out.1.end_ k1 (.int .i64 sa) (.int .i64 sb) (.int .i64 sc));clear k1 hb hT b0 q0 q1 q2;go_wp2_with fail;refine bodyPost_ret (by simp[results,results87,go_sem,r0,r1,r2];try rfl) rfl ?_;exact⟨rfl,HK.out⟩
theorem Fu{w:World}{g:Nat}{p:Lay}{F:List Nat}{m:M}(h:ak w g p F m)(hf:dH m)(a v:Int):Calls prog 87 #[.pointer (some ⟨g,0,none⟩),.agg #[.int .u8 14,.int .i64 a,.int .i64 v]] w fun R w'=>R=.returned (jK (m.aM 1 (fun l m=>uG m a (l.getD 0 0))).1)∧Keep w g p F (m.aM 1 (fun l m=>uG m a (l.getD 0 0))).2 w':=by
 obtain⟨do_,iP⟩:∃do_:List Int→M→Int×M,do_=(fun l m=>uG m a (l.getD 0 0)):=⟨_,rfl⟩;rw[←iP];obtain⟨z,hz⟩:∃z,w.heap.size=z:=⟨_,rfl⟩;have HS:=hid (Start.uh w h 14 a v);have bq:=h.touch HS.out.1.t (by simp);rw[hz]at HS;have b0:=HS.out.2.1.at_ (Touch.refl F _);obtain⟨q0,q1,q2⟩:=HS.out.2.2.at_ (Touch.refl F _);have hT:=iD bq hf 1 (by decide) 116 #[] #[.pointer (some ⟨z,0,none⟩),.pointer (some ⟨z+1,0,none⟩)] do_ (enters_of func116 (by kernel_rfl) rfl) (by rw[iP];exact TL HS.out.2.1 HS.out.2.2 hf.fr) (fun hn=>by rw[iP];exact(eG hf 1).mW (by rw[TM];exact hf.fr)) (fun hn hr=>by
  rw[iP];show((m.taken 1).S.st.length)+1≤128;rw[xQ hn];have:=hf.st;omega)
 rw[show((1:Nat):Int)=1 from rfl]at hT;obtain⟨⟨⟨sa,sb,sc⟩,m'⟩,hq⟩:∃q,m.aM 1 do_=q:=⟨_,rfl⟩;rw[hq]at hT⊢;dsimp only at hT⊢
 clear hq;clear iP bq h hf;go_enter func87,ntmps87;go_upto_region 1 with fail;clear hz;generalize ((w.alloc (.cells #[.pointer (some ⟨g,0,none⟩)] 27)).alloc (.cells #[.int .u8 14,.int .i64 a,.int .i64 v] 56)).alloc (.cells #[.int .i64 0,.int .i64 0,.int .i64 0] 48)=W0 at*;go_wp2_with fail;refine hT.mono ?_;rintro _ w1 ⟨rfl,k1⟩;have hb:=HS.out.1.blk k1;obtain⟨⟨e0,e1,e2⟩,g0,g1,g2⟩:=aH hb;obtain⟨r0,r1,r2⟩:=aA hb (.int .i64 sa) (.int .i64 sb) (.int .i64 sc);have HK:=hid (HS.out.1.end_ k1 (.int .i64 sa) (.int .i64 sb) (.int .i64 sc));clear k1 hb hT b0 q0 q1 q2;go_wp2_with fail;refine bodyPost_ret (by simp[results,results87,go_sem,r0,r1,r2];try rfl) rfl ?_;exact⟨rfl,HK.out⟩
theorem zx{w:World}{g:Nat}{p:Lay}{F:List Nat}{m:M}(h:ak w g p F m)(hf:dH m)(a v:Int)(q:St×M)(dT:q=(if(jr m.fr a).2=0 then M.done (m.push (jr m.fr a).1)else M.done ((jr m.fr a).2,m))):Calls prog 87 #[.pointer (some ⟨g,0,none⟩),.agg #[.int .u8 13,.int .i64 a,.int .i64 v]] w fun R w'=>R=.returned (jK q.1)∧Keep w g p F q.2 w':=by
 obtain⟨z,hz⟩:∃z,w.heap.size=z:=⟨_,rfl⟩;have HS:=hid (Start.uh w h 13 a v);have bq:=h.touch HS.out.1.t (by simp);rw[hz]at HS;have b0:=HS.out.2.1.at_ (Touch.refl F _);obtain⟨q0,q1,q2⟩:=HS.out.2.2.at_ (Touch.refl F _);have c3:=bq.c3;have HL:=hid (fun(W:World) (t:Touch [] _ W)=>Pb (bq.touch t (by simp)) hf.fr a);obtain⟨⟨x,e⟩,A6⟩:∃q,jr m.fr a=q:=⟨_,rfl⟩;rw[A6]at HL dT;dsimp only at HL dT
 clear A6;have AH:=hid bq;obtain⟨⟨sa,sb,sc⟩,m'⟩:=q;dsimp only
 have HSB:=hid (fun(W:World) (t:Touch [] _ W)=>And.intro (HS.out.2.1.at_ (t.mono (by simp))) (HS.out.2.2.at_ (t.mono (by simp))));go_enter func87,ntmps87;go_upto_region 1 with fail;clear hz bq h;generalize ((w.alloc (.cells #[.pointer (some ⟨g,0,none⟩)] 27)).alloc (.cells #[.int .u8 13,.int .i64 a,.int .i64 v] 56)).alloc (.cells #[.int .i64 0,.int .i64 0,.int .i64 0] 48)=W0 at*;have Kd:=hid hf;have HQ:=hid dT;clear hf dT;go_upto_region 11 with fail;go_cut [6,7]from 38 to 47 (fun xv ev wc=>xv=.int .i64 x∧ev=.int .i64 e∧Touch [] W0 wc)
 case first=>
  go_region_law (first
   |(go_simp;go_at_call 115;refine Calls.mono (HL.out _ (tR W0).drew) ?_;rintro _ w5 ⟨rfl,t5⟩;have T5:=hid ((tR W0).drew.trans t5 (by simp));clear t5))
  all_goals go_wp2_with fail
  all_goals go_meet
  all_goals exact⟨rfl,rfl,T5.out⟩
 case rest=>
  obtain⟨rfl,rfl,tX⟩:=hcut;obtain⟨b0,x0,x1,x2⟩:=HSB.out wc tX;have Zd:=AH.out.touch tX (by simp);have kX:Keep W0 g p F m wc:=(Keep.refl AH.out).quiet tX;obtain⟨F1,h1,n1⟩:=kX.open;by_cases he:e=0
  ·subst he;have hq:=HQ.out;rw[if_pos rfl]at hq;obtain⟨⟨pe,pm⟩,hp⟩:∃q,m.push x=q:=⟨_,rfl⟩;have fU:dH pm:=by have:=Kd.out.push x;rw[hp]at this;exact this
   have hP:=jy h1 Kd.out.st x;rw[hp]at hq hP;have HD:=hid (fun(W:World) F2 (hW:ak W g p F2 pm)=>dK hW fU pe);rw[←hq]at HD;clear hp fU Zd kX h1 hq q0 q1 q2 c3;go_wp2_with fail;refine hP.mono ?_;rintro _ w2 ⟨rfl,k2⟩;have k2:=n1.out _ _ k2;have b2:w2.cell? ⟨z,0,none⟩=some (.pointer (some ⟨g,0,none⟩)):=by obtain⟨_,_,t3,_⟩:=k2;exact HS.out.2.1.at_ t3
   obtain⟨F2,h2,n2⟩:=k2.open;have hD:=HD.out _ _ h2;clear hP k2 h2 n1;go_wp2_with fail;refine hD.mono ?_;rintro _ w3 ⟨rfl,k3⟩;have k3:=n2.out _ _ k3;have hb:=HS.out.1.blk k3;obtain⟨⟨e0,e1,e2⟩,g0,g1,g2⟩:=aH hb;obtain⟨r0,r1,r2⟩:=aA hb (.int .i64 sa) (.int .i64 sb) (.int .i64 sc);have HK:=hid (HS.out.1.end_ k3 (.int .i64 sa) (.int .i64 sb) (.int .i64 sc));clear k3 hb hD b2;go_wp2_with fail;refine bodyPost_ret (by simp[results,results87,go_sem,r0,r1,r2];try rfl) rfl ?_;exact⟨rfl,HK.out⟩
  ·have pC:(e==0)=false:=by simpa using he
   have hq:=HQ.out;rw[if_neg he]at hq;have hD:=dK h1 Kd.out e;rw[←hq]at hD;clear Zd kX h1 hq q0 q1 q2 c3 he;go_wp2_with fail;refine hD.mono ?_;rintro _ w3 ⟨rfl,k3⟩;have k3:=n1.out _ _ k3;have hb:=HS.out.1.blk k3;obtain⟨⟨e0,e1,e2⟩,g0,g1,g2⟩:=aH hb;obtain⟨r0,r1,r2⟩:=aA hb (.int .i64 sa) (.int .i64 sb) (.int .i64 sc);have HK:=hid (HS.out.1.end_ k3 (.int .i64 sa) (.int .i64 sb) (.int .i64 sc));clear k3 hb hD b0 x0 x1 x2;go_wp2_with fail;refine bodyPost_ret (by simp[results,results87,go_sem,r0,r1,r2];try rfl) rfl ?_;exact⟨rfl,HK.out⟩
theorem XJ{D:Int→PS→Int×PS}(m:M)(a v:Int):m.does D 12 a v=m.aM a (fun l m=>m.aK ⟨4,0,0,0,0,l⟩):=by
 unfold M.does;rw[if_neg (show¬(12:Int)=1 by decide),if_neg (show¬(12:Int)=2 by decide),if_neg (show¬(12:Int)=3 by decide),if_neg (show¬(12:Int)=4 by decide),if_neg (show¬(12:Int)=5 by decide),if_neg (show¬(12:Int)=6 by decide),if_neg (show¬(12:Int)=7 by decide),if_neg (show¬(12:Int)=8 by decide),if_neg (show¬(12:Int)=9 by decide),if_neg (show¬(12:Int)=10 by decide),if_neg (show¬(12:Int)=11 by decide),if_pos rfl]
theorem XK{D:Int→PS→Int×PS}(m:M)(a v:Int):m.does D 13 a v=(if(jr m.fr a).2=0 then M.done (m.push (jr m.fr a).1)else M.done ((jr m.fr a).2,m)):=by
 unfold M.does;rw[if_neg (show¬(13:Int)=1 by decide),if_neg (show¬(13:Int)=2 by decide),if_neg (show¬(13:Int)=3 by decide),if_neg (show¬(13:Int)=4 by decide),if_neg (show¬(13:Int)=5 by decide),if_neg (show¬(13:Int)=6 by decide),if_neg (show¬(13:Int)=7 by decide),if_neg (show¬(13:Int)=8 by decide),if_neg (show¬(13:Int)=9 by decide),if_neg (show¬(13:Int)=10 by decide),if_neg (show¬(13:Int)=11 by decide),if_neg (show¬(13:Int)=12 by decide),if_pos rfl];exact Pf m a
theorem XL{D:Int→PS→Int×PS}(m:M)(a v:Int):m.does D 14 a v=m.aM 1 (fun l m=>uG m a (l.getD 0 0)):=by
 unfold M.does;rw[if_neg (show¬(14:Int)=1 by decide),if_neg (show¬(14:Int)=2 by decide),if_neg (show¬(14:Int)=3 by decide),if_neg (show¬(14:Int)=4 by decide),if_neg (show¬(14:Int)=5 by decide),if_neg (show¬(14:Int)=6 by decide),if_neg (show¬(14:Int)=7 by decide),if_neg (show¬(14:Int)=8 by decide),if_neg (show¬(14:Int)=9 by decide),if_neg (show¬(14:Int)=10 by decide),if_neg (show¬(14:Int)=11 by decide),if_neg (show¬(14:Int)=12 by decide),if_neg (show¬(14:Int)=13 by decide),if_pos rfl];congr 1;funext l m'
 exact TK m' a (l.getD 0 0)
theorem Pg{g:Nat}{p:Lay}{F:List Nat}{m:M}{D:Int→PS→Int×PS}(hf:dH m)(hb:∀a v,m.at_ m.df m.on=some (12,a,v)→0≤a∧a≤1000):Ta D g p F m:=by
 intro op a v hat ho W hW;have FZ:dH {m with on:=m.on+1}:=hf.at_ m.df (m.on+1) m.nx;rcases ho with rfl|rfl|rfl
 ·obtain⟨h1,h2⟩:=hb a v hat;obtain⟨n,rfl⟩:∃n:Nat,a=n:=⟨a.toNat,by omega⟩;rw[XJ];exact xZ hW FZ n (by omega) v
 ·exact zx hW FZ a v _ (XK _ a v)
 ·rw[XL];exact Fu hW FZ a v
end En
end Go.Proofs.YtdokeddjcpnmiaaGreatDoor
