/- Of EngineClean: Eng6 Eng7 Eng8 Eng9. -/
import Derived.Test.YtdokeddjcpnmiaaGreatDoorQEng1
set_option maxRecDepth 100000
set_option maxHeartbeats 3200000
namespace Go.Proofs.YtdokeddjcpnmiaaGreatDoor
open Go.RowKit Go.Proofs.Tryz
open Go.Lib(hid)
namespace En
theorem gD{w:World}{g:Nat}{p:Lay}{F:List Nat}{m:M}(h:ak w g p F m)(hf:dH m)(e:Int):Calls prog 48 #[.pointer (some ⟨g,0,none⟩),.int .i64 e] w fun R w'=>R=.returned (jK (m.throw e).1)∧Keep w g p F (m.throw e).2 w':=by
 cases hc:dP m.fr with
 |none=>exact AA h hf hc e
 |some y=>exact AB h hf (f:=y.1) (r:=y.2) hc e
theorem dK{w:World}{g:Nat}{p:Lay}{F:List Nat}{m:M}(h:ak w g p F m)(hf:dH m)(e:Int):Calls prog 63 #[.pointer (some ⟨g,0,none⟩),.int .i64 e] w fun R w'=>R=.returned (jK (M.done (e,m)).1)∧Keep w g p F (M.done (e,m)).2 w':=by
 have Cu:=Start.new w h;have bq:=h.touch Cu.t (by simp);obtain⟨z,hz⟩:∃z,w.heap.size=z:=⟨_,rfl⟩;rw[hz]at Cu;by_cases he:e=0
 ·subst he;have k0:=Keep.refl bq;have hb:=Cu.blk k0;obtain⟨⟨e0,e1,e2⟩,g0,g1,g2⟩:=aH hb;obtain⟨r0,r1,r2⟩:=aA hb (.int .i64 1) (.int .i64 0) (.int .i64 0);have HS:=hid (Cu.end_ k0 (.int .i64 1) (.int .i64 0) (.int .i64 0));clear Cu bq h k0 hb;go_enter func63,ntmps63;go_upto_region 1 with fail;clear hz;generalize w.alloc (.cells #[.int .i64 0,.int .i64 0,.int .i64 0] 48)=W0 at*;go_wp2_with fail;refine bodyPost_ret (by simp[results,results63,go_sem,r0,r1,r2];try rfl) rfl ?_;exact⟨rfl,HS.out⟩
 ·have e1:M.done (e,m)=m.throw e:=if_neg he;rw[e1];have hT:=gD bq hf e;obtain⟨⟨⟨sa,sb,sc⟩,m'⟩,hq⟩:∃q,m.throw e=q:=⟨_,rfl⟩;rw[hq]at hT⊢;dsimp only at hT⊢
  have HS:=hid Cu;clear Cu bq h hq e1;have pC:(e==0)=false:=by simpa using he
  go_enter func63,ntmps63;go_upto_region 1 with fail;clear hz;generalize w.alloc (.cells #[.int .i64 0,.int .i64 0,.int .i64 0] 48)=W0 at*;go_wp2_with fail;refine hT.mono ?_;rintro _ w1 ⟨rfl,k1⟩;have hb:=HS.out.blk k1;obtain⟨⟨e0,e1,e2⟩,g0,g1,g2⟩:=aH hb;obtain⟨r0,r1,r2⟩:=aA hb (.int .i64 sa) (.int .i64 sb) (.int .i64 sc);have HK:=hid (HS.out.end_ k1 (.int .i64 sa) (.int .i64 sb) (.int .i64 sc));clear hT k1 hb;go_wp2_with fail;refine bodyPost_ret (by simp[results,results63,go_sem,r0,r1,r2];try rfl) rfl ?_;exact⟨rfl,HK.out⟩
section
variable {w w':World} {g:Nat} {p:Lay} {F:List Nat} {m:M}
theorem AJ(h:ak w g p F m)(n:Nat)(hn:n≤m.S.st.length)(hs:m.S.st.length≤128):Calls prog 98 #[.pointer (some ⟨m.S.k,0,none⟩),.int .i64 n] w fun e w'=>
 ∃v,e=.returned (.tuple #[v,.int .i64 0])∧w'.ownsRow w.heap.size 33 1 v n (cells (m.S.st.drop (m.S.st.length-n)))∧ak w' g p F {m with S:={m.S with st:=m.S.st.take (m.S.st.length-n)}}∧Touch F w w':=by
 obtain⟨cv,ev,wv,Ff,FS,FI,h,rfl⟩:=h;obtain⟨FK,ov,mv,hp,e⟩:=h.st;refine(qp w _ _ _ hp.iO n hn (by omega)).mono ?_;rintro _ w1 ⟨v,rfl,ho,hs,t⟩;have hst:aC w1 p.s FS {m.S with st:=m.S.st.take (m.S.st.length-n)}:=⟨FK,ov,mv,hp.stack hs t,e⟩;have tS:Touch FS w w1:=t.mono (fun x hx=>.inl (by rw[e];exact aI x hx));obtain⟨a,b,_⟩:=h.pS hst tS (Sub.refl _ _);exact⟨v,rfl,ho,a,b⟩
theorem Xb(h:ak w g p F m){cv:Value}{l:List Int}(hc:dW w cv l)(hs:m.S.st.length≤128)(hl:m.S.st.length+l.length≤128):Calls prog 16 #[.pointer (some ⟨m.S.k,0,none⟩),cv] w fun e w'=>
 e=.returned (.int .i64 0)∧Keep w g p F {m with S:={m.S with st:=m.S.st++l}} w':=by
 obtain⟨dv,ev,wv,Ff,FS,FI,h,rfl⟩:=h;obtain⟨FK,ov,mv,hp,e⟩:=h.st;rcases hc with⟨rfl,rfl⟩|⟨gg,c,rfl,hcell⟩
 ·refine(Gq w _ _ _ hp.iO hs).mono ?_;rintro _ w1 ⟨rfl,hk,t⟩;rw[List.append_nil];exact⟨rfl,h.iO hp e hk t (Sub.refl _ _)⟩
 ·refine(Rn w _ _ _ hp.iO gg 0 c l hl (fun j u hj=>by rw[Nat.zero_add];exact hcell j u hj)).mono ?_;rintro _ w1 ⟨F',rfl,hk,t,s⟩;exact⟨rfl,h.iO hp e hk t s⟩
theorem AL(h:ak w g p F m)(n:Nat)(hn:m.S.st.length<n)(hs:n≤1000000):Calls prog 98 #[.pointer (some ⟨m.S.k,0,none⟩),.int .i64 n] w fun e w'=>e=.returned (.tuple #[.slice none 0 0,.int .i64 (-4)])∧w=w':=by
 obtain⟨cv,ev,wv,Ff,FS,FI,h,rfl⟩:=h;obtain⟨FK,ov,mv,hp,e⟩:=h.st;exact nD w _ _ _ hp.iO n hn hs
end
def M.top(m:M)(n:Nat):List Int:=m.S.st.drop (m.S.st.length-n)
def M.taken(m:M)(n:Nat):M:={m with S:={m.S with st:=m.S.st.take (m.S.st.length-n)}}
theorem Xc{m:M}{n:Nat}(h:n≤m.S.st.length):(m.top n).length=n:=by unfold M.top;rw[List.length_drop];omega
theorem xQ{m:M}{n:Nat}(h:n≤m.S.st.length):(m.taken n).S.st.length=m.S.st.length-n:=by show(m.S.st.take _).length=_;rw[List.length_take];omega
theorem eG{m:M}(h:dH m)(n:Nat):dH (m.taken n):=h.iO (by have:=h.st;rw[List.length_take];omega)
theorem Ko{m:M}{n:Nat}(h:m.S.st.length<n)(do_:List Int→M→Int×M):m.aM n do_=m.throw (-4):=by
 unfold M.aM;rw[if_neg (by omega),if_pos (by omega)]
theorem MK{m:M}{n:Nat}(h:n≤m.S.st.length)(do_:List Int→M→Int×M):m.aM n do_=if(do_ (m.top n) (m.taken n)).1=0 then(ran,(do_ (m.top n) (m.taken n)).2)else
 (if(do_ (m.top n) (m.taken n)).2.S.st.length+(m.top n).length≤128 then{(do_ (m.top n) (m.taken n)).2 with S:={(do_ (m.top n) (m.taken n)).2.S with st:=(do_ (m.top n) (m.taken n)).2.S.st++m.top n}}else(do_ (m.top n) (m.taken n)).2).throw (do_ (m.top n) (m.taken n)).1:=by
 unfold M.aM;rw[if_neg (by omega),if_neg (by omega)];rfl
def xR(w:World)(g:Nat)(p:Lay)(F:List Nat)(m:M)(n:Nat)(aw:FuncId)(first caps:Array Value)(do_:List Int→M→Int×M):Prop:=
 ∀W lv,Touch F w W→ak W g p F (m.taken n)→dW W lv (m.top n)→(m.top n).length=n→
  Calls prog aw (first++ #[lv]++caps) W fun e w'=>e=.returned (.int .i64 (do_ (m.top n) (m.taken n)).1)∧Keep W g p F (do_ (m.top n) (m.taken n)).2 w'
theorem iD{w:World}{g:Nat}{p:Lay}{F:List Nat}{m:M}(h:ak w g p F m)(hf:dH m)(n:Nat)(hn:n≤1000000)(aw:FuncId)(first caps:Array Value)(do_:List Int→M→Int×M)
 (EL:Enters prog aw) (iP:xR w g p F m n aw first caps do_) (dw:n≤m.S.st.length→dH (do_ (m.top n) (m.taken n)).2) (hput:n≤m.S.st.length→(do_ (m.top n) (m.taken n)).1≠0→(do_ (m.top n) (m.taken n)).2.S.st.length+n≤128):
 Calls prog 67 #[.pointer (some ⟨g,0,none⟩),.int .i64 n,.func (.func aw) first caps] w fun R w'=>R=.returned (jK (m.aM n do_).1)∧Keep w g p F (m.aM n do_).2 w':=by
 have Cu:=Start.new w h;have bq:=h.touch Cu.t (by simp);obtain⟨z,hz⟩:∃z,w.heap.size=z:=⟨_,rfl⟩;rw[hz]at Cu;have c7:=bq.c7;have ug:=bq.iU;rcases Nat.lt_or_ge m.S.st.length n with hlt|ql
 ·rw[Ko hlt];have mE:=AL bq n hlt hn;have hT:=gD bq hf (-4);obtain⟨⟨⟨sa,sb,sc⟩,m'⟩,hq⟩:∃q,m.throw (-4)=q:=⟨_,rfl⟩;rw[hq]at hT⊢;dsimp only at hT⊢
  have HS:=hid Cu;clear Cu bq h hq hf EL iP dw hput hlt;go_enter func67,ntmps67;go_upto_region 1 with fail;clear hz;generalize w.alloc (.cells #[.int .i64 0,.int .i64 0,.int .i64 0] 48)=W0 at*;go_wp2_with fail;refine ug.mono ?_;rintro _ _ ⟨rfl,rfl⟩;clear ug c7;go_wp2_with fail;refine mE.mono ?_;rintro _ _ ⟨rfl,rfl⟩;clear mE;go_wp2_with fail;refine hT.mono ?_;rintro _ w1 ⟨rfl,k1⟩;have hb:=HS.out.blk k1;obtain⟨⟨e0,e1,e2⟩,g0,g1,g2⟩:=aH hb;obtain⟨r0,r1,r2⟩:=aA hb (.int .i64 sa) (.int .i64 sb) (.int .i64 sc);have HK:=hid (HS.out.end_ k1 (.int .i64 sa) (.int .i64 sb) (.int .i64 sc));clear hT k1 hb;go_wp2_with fail;refine bodyPost_ret (by simp[results,results67,go_sem,r0,r1,r2];try rfl) rfl ?_;exact⟨rfl,HK.out⟩
 ·have dw:=dw ql;have hput:=hput ql;have mE:=AJ bq n ql hf.st;have hW:=MK ql do_;have hlen:=Xc ql;obtain⟨r,hr⟩:∃r,do_ (m.top n) (m.taken n)=r:=⟨_,rfl⟩;rw[hr]at hW dw hput;obtain⟨re,m2⟩:=r;dsimp only at hW dw hput
  obtain⟨q,hq⟩:∃q,M.done (re,(if re=0 then m2 else{m2 with S:={m2.S with st:=m2.S.st++m.top n}}))=q:=⟨_,rfl⟩;have SU:m.aM n do_=q:=by
   rw[hW,←hq];unfold M.done;by_cases h0:re=0
   ·rw[if_pos h0,if_pos h0,if_pos h0]
   ·rw[if_neg h0,if_neg h0,if_neg h0,if_pos (by rw[hlen];exact hput h0)]
  rw[SU];obtain⟨⟨sa,sb,sc⟩,m'⟩:=q;have HA:=hid (And.intro Cu (And.intro iP (And.intro dw (And.intro hput (And.intro hq (And.intro hr (And.intro hlen hf)))))));have mV:∀(args:Array Value) (w:World),(callFunc aw args).run prog w=.ok (.enter aw args) w:=EL;clear Cu bq h iP dw hput hq hr hlen hf hW SU EL ql;go_enter func67,ntmps67;go_upto_region 1 with fail;have hw0:w.heap.size≤(w.alloc (.cells #[.int .i64 0,.int .i64 0,.int .i64 0] 48)).heap.size:=by simp
  clear hz;generalize w.alloc (.cells #[.int .i64 0,.int .i64 0,.int .i64 0] 48)=W0 at*;go_wp2_with fail;refine ug.mono ?_;rintro _ _ ⟨rfl,rfl⟩;clear ug c7;go_wp2_with fail;refine mE.mono ?_;rintro _ w1 ⟨lv,rfl,hown,oC,t1⟩;obtain⟨la,lc,rfl⟩:=dD hown;obtain⟨Cu,iP,dw,hput,hq,hr,hlen,hf⟩:=HA.out;have hcs:dW w1 (.slice la n lc) (m.top n):=ig (base:=W0.heap.size) (by rw[hlen];exact hown);have tA:Touch F w w1:=(Cu.t.mono (by simp)).trans t1 (fun x hx=>.inl hx);have hC:=iP w1 (.slice la n lc) tA oC hcs hlen;rw[hr]at hC;dsimp only at hC
  have k1:Keep W0 g p F (m.taken n) w1:=⟨F,oC,t1,Sub.refl _ _⟩;have HB:=hid (And.intro hown (And.intro t1 (And.intro oC k1)));clear mE hown oC hcs tA iP hr dw hput hq hf Cu k1 t1 hlen;by_cases h0:re=0
  ·subst h0;go_wp2_with fail;refine hC.mono ?_;rintro _ w2 ⟨rfl,k2⟩;obtain⟨F2,h2,n2⟩:=k2.open;have hD:=dK h2 HA.out.2.2.1 0;have hq:=HA.out.2.2.2.2.1;rw[if_pos (by trivial)]at hq;rw[hq]at hD;dsimp only at hD
   have HN:=hid (fun m3 W3 (k:Keep w2 g p F2 m3 W3)=>Keep.trans HB.out.2.1 (Sub.refl _ _) (n2.out m3 W3 k));clear hC mV k2 h2 n2 hq;go_wp2_with fail;refine hD.mono ?_;rintro _ w3 ⟨rfl,k3⟩;have k3:=HN.out _ _ k3;have hb:=HA.out.1.blk k3;obtain⟨⟨e0,e1,e2⟩,g0,g1,g2⟩:=aH hb;obtain⟨r0,r1,r2⟩:=aA hb (.int .i64 sa) (.int .i64 sb) (.int .i64 sc);have HK:=hid (HA.out.1.end_ k3 (.int .i64 sa) (.int .i64 sb) (.int .i64 sc));clear hD k3 hb;go_wp2_with fail;refine bodyPost_ret (by simp[results,results67,go_sem,r0,r1,r2];try rfl) rfl ?_;exact⟨rfl,HK.out⟩
  ·have V9:(re==0)=false:=by simpa using h0
   have abw:(re != 0)=true:=by simpa using h0
   have HZ:=hid h0;clear h0;go_wp2_with fail;refine hC.mono ?_;rintro _ w2 ⟨rfl,k2⟩;obtain⟨F2,h2,n2⟩:=k2.open;have c7:=h2.c7;have ug:=h2.iU;have hrow:w2.ownsRow W0.heap.size 33 1 (.slice la n lc) n (cells (m.top n)):=by
    obtain⟨_,_,t2,_⟩:=k2;exact aj HB.out.1 t2 (fun x hx hxF=>by have h3:=dF HB.out.1 x hx;have h4:=HA.out.1.F x hxF;omega)
   have hcs:dW w2 (.slice la n lc) (m.top n):=ig (base:=W0.heap.size) (by rw[HA.out.2.2.2.2.2.2.1];exact hrow);have oZ:=Xb h2 hcs HA.out.2.2.1.st (by rw[HA.out.2.2.2.2.2.2.1];exact HA.out.2.2.2.1 HZ.out);have HN:=hid (fun m3 W3 (k:Keep w2 g p F2 m3 W3)=>Keep.trans HB.out.2.1 (Sub.refl _ _) (n2.out m3 W3 k));clear hC mV k2 h2 n2 hrow hcs;go_wp2_with fail;refine ug.mono ?_;rintro _ _ ⟨rfl,rfl⟩;clear ug c7;go_wp2_with fail;refine oZ.mono ?_;rintro _ w3 ⟨rfl,k3⟩;have k3:=HN.out _ _ k3;obtain⟨F3,h3,n3⟩:=k3.open;have hf3:dH {m2 with S:={m2.S with st:=m2.S.st++m.top n}}:=HA.out.2.2.1.iO (by rw[List.length_append,HA.out.2.2.2.2.2.2.1];exact HA.out.2.2.2.1 HZ.out);have hD:=dK h3 hf3 re;have hq:=HA.out.2.2.2.2.1;rw[if_neg HZ.out]at hq;rw[hq]at hD;dsimp only at hD
   clear oZ hq hf3 h3 HN k3;go_wp2_with fail;refine hD.mono ?_;rintro _ w4 ⟨rfl,k4⟩;have k4:=n3.out _ _ k4;have hb:=HA.out.1.blk k4;obtain⟨⟨e0,e1,e2⟩,g0,g1,g2⟩:=aH hb;obtain⟨r0,r1,r2⟩:=aA hb (.int .i64 sa) (.int .i64 sb) (.int .i64 sc);have HK:=hid (HA.out.1.end_ k4 (.int .i64 sa) (.int .i64 sb) (.int .i64 sc));clear hD k4 hb;go_wp2_with fail;refine bodyPost_ret (by simp[results,results67,go_sem,r0,r1,r2];try rfl) rfl ?_;exact⟨rfl,HK.out⟩
def vQ(L:List Fr)(nU:Int):Bool×Int×List Fr:=
 if L=[]∨(aU L).k≠3 then(false,-26,L)else
  if nX (wrap64 ((aU L).x-(aU L).y)) nU then(true,0,L.dropLast)else(false,0,L.dropLast++[{aU L with x:=wrap64 ((aU L).x+nU)}])
section
variable {w w':World} {g:Nat} {p:Lay} {F:List Nat} {m:M}
theorem jL(h:ak w g p F m)(f:Fr)(hf:f.l=[])(W:World)(t:Touch [] w W):
 Calls prog 18 #[.pointer (some ⟨p.f,0,none⟩),.agg (uJ f)] W fun e w'=>e=.returned (.int .i64 (m.aK f).1)∧Keep w g p F (m.aK f).2 w':=by
 obtain⟨cv,ev,wv,Ff,FS,FI,h,rfl⟩:=h;exact Az h f hf W t
theorem zM{L:List Fr}(h0:L≠[]):∃Q f,L=Q++[f]:=⟨L.dropLast,L.getLast h0,(List.dropLast_concat_getLast h0).symm⟩
theorem SE(h:ak w g p F m)(lQ:m.fr.length≤128)(nU:Int):Calls prog 111 #[.pointer (some ⟨p.f,0,none⟩),.int .i64 nU] w fun e w'=>
 e=.returned (.tuple #[.bool (vQ m.fr nU).1,.int .i64 (vQ m.fr nU).2.1])∧Keep w g p F {m with fr:=(vQ m.fr nU).2.2} w':=by
 have hE:=h;obtain⟨cv,ev,wv,Ff,FS,FI,h,rfl⟩:=h;by_cases hk:m.fr=[]∨(aU m.fr).k≠3
 ·have e1:vQ m.fr nU=(false,-26,m.fr):=if_pos hk;rw[e1];refine(Sv w p.f Ff m.fr h.fr (by omega) nU hk).mono ?_;rintro _ w1 ⟨rfl,t⟩;exact⟨rfl,(Keep.refl hE).quiet t⟩
 ·obtain⟨Q,f,hQ⟩:=zM (fun e=>hk (.inl e));have hlen:Q.length<1000:=by have:=congrArg List.length hQ;simp at this;omega
  have hf3:f.k=3:=by
   by_cases h3:f.k=3
   ·exact h3
   ·exact absurd (.inr (by rw[hQ,je];exact h3)) hk
  have e1:vQ m.fr nU=if nX (wrap64 (f.x-f.y)) nU then(true,0,Q)else(false,0,Q++[{f with x:=wrap64 (f.x+nU)}]):=by
   unfold vQ;rw[if_neg hk,hQ,je,List.dropLast_concat]
  have hS:=Oc w p.f Ff Q f (hQ▸h.fr) hlen hf3 nU _ _ _ rfl rfl rfl (nX (wrap64 (f.x-f.y)) nU) rfl (if nX (wrap64 (f.x-f.y)) nU=true then Q else Q++[{f with x:=wrap64 (f.x+nU)}]) rfl;refine hS.mono ?_;rintro _ w1 ⟨rfl,h1,t1⟩;rw[e1];by_cases hb:nX (wrap64 (f.x-f.y)) nU=true
  ·rw[if_pos hb]at h1⊢;rw[hb];exact⟨rfl,h.mW h1 t1 (Sub.refl _ _)⟩
  ·rw[if_neg hb]at h1⊢;rw[show nX (wrap64 (f.x-f.y)) nU=false by simpa using hb];exact⟨rfl,h.mW h1 t1 (Sub.refl _ _)⟩
theorem ES(h:ak w g p F m)(lQ:m.fr.length≤128)(f:Fr)(Q:List Fr)(hQ:m.fr=Q++[f])(k:Int)(hk:f.k=k)(hk4:k≠4):Calls prog 72 #[.pointer (some ⟨p.f,0,none⟩),.int .i64 k] w fun e w'=>
 e=.returned (.tuple #[.agg (uJ f),.int .i64 0])∧Keep w g p F {m with fr:=Q} w':=by
 obtain⟨cv,ev,wv,Ff,FS,FI,h,rfl⟩:=h;subst hk;refine(GX w p.f Ff Q f (hQ▸h.fr) (by have:=congrArg List.length hQ;simp at this;omega) hk4).mono ?_;rintro _ w1 ⟨rfl,h1,t1⟩;exact⟨rfl,h.mW h1 t1 (Sub.refl _ _)⟩
theorem Xd(h:ak w g p F m)(lQ:m.fr.length≤128)(f:Fr)(Q:List Fr)(hQ:m.fr=Q++[f])(k:Int)(hk:f.k=k):Calls prog 72 #[.pointer (some ⟨p.f,0,none⟩),.int .i64 k] w fun e w'=>
 (∃a n c,e=.returned (.tuple #[.agg #[.int .i64 f.k,.int .i64 f.a,.int .i64 f.b,.int .i64 f.x,.int .i64 f.y,.slice a n c],.int .i64 0]))∧Keep w g p F {m with fr:=Q} w':=by
 obtain⟨cv,ev,wv,Ff,FS,FI,h,rfl⟩:=h;subst hk;refine(GV w p.f Ff Q f (hQ▸h.fr) (by have:=congrArg List.length hQ;simp at this;omega)).mono ?_;rintro _ w1 ⟨⟨v,rfl,⟨a,n,c,rfl⟩,_⟩,h1,t1⟩;exact⟨⟨a,n,c,rfl⟩,h.mW h1 t1 (Sub.refl _ _)⟩
theorem ax(h:ak w g p F m)(lQ:m.fr.length≤128)(k:Int)(hk:m.fr=[]∨(aU m.fr).k≠k):Calls prog 72 #[.pointer (some ⟨p.f,0,none⟩),.int .i64 k] w fun e w'=>
 e=.returned (.tuple #[.agg (uJ Fr.none),.int .i64 (-6)])∧Keep w g p F m w':=by
 have hE:=h;obtain⟨cv,ev,wv,Ff,FS,FI,h,rfl⟩:=h;refine(MI w p.f Ff m.fr h.fr (by omega) k hk).mono ?_;rintro _ w1 ⟨rfl,t1⟩;exact⟨rfl,(Keep.refl hE).quiet t1⟩
theorem G6(h:ak w g p F m)(lQ:m.fr.length≤128)(nU tgt:Int):Calls prog 84 #[.pointer (some ⟨g,0,none⟩),.int .i64 nU,.int .i64 tgt] w fun e w'=>e=.returned (.int .i64 (m.loop nU tgt).1)∧Keep w g p F (m.loop nU tgt).2 w':=by
 have hS:=SE h lQ nU;have c3:=h.c3;by_cases hk:m.fr=[]∨(aU m.fr).k≠3
 ·have e1:vQ m.fr nU=(false,-26,m.fr):=if_pos hk;have e2:m.loop nU tgt=(-26,m):=if_pos hk;rw[e1]at hS;rw[e2];dsimp only at hS⊢
  clear e1 e2 hk h lQ;go_enter func84,ntmps84;go_wp2_with fail;refine hS.mono ?_;rintro _ w1 ⟨rfl,k1⟩;have HK:=hid k1;clear hS k1;go_wp2_with fail;go_ret;exact⟨rfl,HK.out⟩
 ·obtain⟨b,hb⟩:∃b,nX (wrap64 ((aU m.fr).x-(aU m.fr).y)) nU=b:=⟨_,rfl⟩;obtain⟨L,hL⟩:∃L,(if b=true then m.fr.dropLast else m.fr.dropLast++[{aU m.fr with x:=wrap64 ((aU m.fr).x+nU)}])=L:=⟨_,rfl⟩;have e1:vQ m.fr nU=(b,0,L):=by
   unfold vQ;rw[if_neg hk,hb,←hL];cases b<;>rfl
  have e2:m.loop nU tgt=({m with fr:=L}:M).jump (!b) tgt:=by
   unfold M.loop;rw[if_neg hk];dsimp only
   rw[hb,←hL];cases b<;>rfl
  rw[e1]at hS;rw[e2];dsimp only at hS
  have HJ:=hid (fun(W:World) F' (hW:ak W g p F' {m with fr:=L})=>nN hW (!b) tgt);clear e1 e2 hk h lQ hL hb;go_enter func84,ntmps84;go_wp2_with fail;refine hS.mono ?_;rintro _ w1 ⟨rfl,k1⟩;obtain⟨F1,h1,n1⟩:=k1.open;have hJ:=HJ.out _ _ h1;clear hS k1 h1 c3;go_wp2_with fail;refine hJ.mono ?_;rintro _ w2 ⟨rfl,k2⟩;have HK:=hid (n1.out _ _ k2);clear hJ k2;go_wp2_with fail;go_ret;exact⟨rfl,HK.out⟩
end
structure Cap(w:World)(F:List Nat)(b g:Nat):Prop where
 blk:aF w b 27 #[.pointer (some ⟨g,0,none⟩)]
 off:b∉F
structure G7(w:World)(F:List Nat)(b:Nat)(op a v:Int):Prop where
 blk:aF w b 56 #[.int .u8 op,.int .i64 a,.int .i64 v]
 off:b∉F
theorem Cap.at_{w W:World}{F:List Nat}{b g:Nat}(h:Cap w F b g)(t:Touch F w W):W.cell? ⟨b,0,none⟩=some (.pointer (some ⟨g,0,none⟩)):=(h.blk.touch t h.off).cell 0
theorem G7.at_{w W:World}{F:List Nat}{b:Nat}{op a v:Int}(h:G7 w F b op a v)(t:Touch F w W):W.cell? ⟨b,0,none⟩=some (.int .u8 op)∧W.cell? ⟨b,1,none⟩=some (.int .i64 a)∧W.cell? ⟨b,2,none⟩=some (.int .i64 v):=⟨(h.blk.touch t h.off).cell 0,(h.blk.touch t h.off).cell 1,(h.blk.touch t h.off).cell 2⟩
section
variable {w:World} {g:Nat} {p:Lay} {F:List Nat} {m:M}
theorem SF{b:Nat}(hb:Cap w F b g):xR w g p F m 1 136 #[] #[.pointer (some ⟨b,0,none⟩)] (fun l m=>m.aK ⟨2,0,0,l.getD 0 0,0,[]⟩):=by
 intro W lv t hE hc hl;obtain⟨gg,c,rfl,hcell⟩:=hc.get (by rw[hl];decide);rw[hl]at hcell⊢;have i0:=hcell 0 (by decide);have b0:=hb.at_ t;have c3:=hE.c3;show Calls prog 136 #[.slice (some ⟨gg,0,none⟩) 1 c,.pointer (some ⟨b,0,none⟩)] W fun e w'=>e=.returned (.int .i64 ((m.taken 1).aK ⟨2,0,0,(m.top 1).getD 0 0,0,[]⟩).1)∧Keep W g p F ((m.taken 1).aK ⟨2,0,0,(m.top 1).getD 0 0,0,[]⟩).2 w';obtain⟨m1,jC⟩:∃m1,m.taken 1=m1:=⟨_,rfl⟩;rw[jC]at hE⊢;obtain⟨x0,hx0⟩:∃x,(m.top 1).getD 0 0=x:=⟨_,rfl⟩;rw[hx0]at i0;try rw[hx0]
 have HM:=hid jC;clear jC hx0 hcell hc hl t hb;have hP:=jL (hE.touch (tR W).drew (by simp)) ⟨2,0,0,x0,0,[]⟩ rfl W.drew (tR _);unfold uJ at hP;dsimp only at hP
 clear hE;go_enter func136,ntmps136;go_wp2_with fail;go_still_tail 8,(by kernel_rfl)
 change wpList _ _ _ _ _ W.drew
 go_wp2_with fail;refine hP.mono ?_;rintro _ w2 ⟨rfl,k2⟩;have HK:=hid (k2.pre (tR W).drew);clear k2 hP;go_wp2_with fail;go_ret;exact⟨rfl,HK.out⟩
theorem Oj{b:Nat}(hb:Cap w F b g)(hw:m.words.length≤1000000):xR w g p F m 1 138 #[] #[.pointer (some ⟨b,0,none⟩)] (fun l m=>m.named (l.getD 0 0)):=by
 intro W lv t hE hc hl;obtain⟨gg,c,rfl,hcell⟩:=hc.get (by rw[hl];decide);rw[hl]at hcell⊢;have i0:=hcell 0 (by decide);have b0:=hb.at_ t;have c3:=hE.c3;show Calls prog 138 #[.slice (some ⟨gg,0,none⟩) 1 c,.pointer (some ⟨b,0,none⟩)] W fun e w'=>e=.returned (.int .i64 ((m.taken 1).named ((m.top 1).getD 0 0)).1)∧Keep W g p F ((m.taken 1).named ((m.top 1).getD 0 0)).2 w';obtain⟨m1,jC⟩:∃m1,m.taken 1=m1:=⟨_,rfl⟩;rw[jC]at hE⊢;obtain⟨x0,hx0⟩:∃x,(m.top 1).getD 0 0=x:=⟨_,rfl⟩;rw[hx0]at i0;try rw[hx0]
 have HM:=hid jC;clear jC hx0 hcell hc hl t hb;have hP:=DK (hE.touch (tR W).drew (by simp)) (by rw[←HM.out];exact hw) x0;clear hE;go_enter func138,ntmps138;go_wp2_with fail;go_still_tail 4,(by kernel_rfl)
 change wpList _ _ _ _ _ W.drew
 go_wp2_with fail;refine hP.mono ?_;rintro _ w2 ⟨rfl,k2⟩;have HK:=hid (k2.pre (tR W).drew);clear k2 hP;go_wp2_with fail;go_ret;exact⟨rfl,HK.out⟩
theorem Ol{b:Nat}(hb:Cap w F b g){bx:Nat}{op a v:Int}(hx:G7 w F bx op a v):xR w g p F m 1 81 #[] #[.pointer (some ⟨b,0,none⟩),.pointer (some ⟨bx,0,none⟩)] (fun l m=>m.jump (l.getD 0 0==0) a):=by
 intro W lv t hE hc hl;obtain⟨gg,c,rfl,hcell⟩:=hc.get (by rw[hl];decide);rw[hl]at hcell⊢;have i0:=hcell 0 (by decide);have b0:=hb.at_ t;obtain⟨q0,q1,q2⟩:=hx.at_ t;have c3:=hE.c3;show Calls prog 81 #[.slice (some ⟨gg,0,none⟩) 1 c,.pointer (some ⟨b,0,none⟩),.pointer (some ⟨bx,0,none⟩)] W fun e w'=>e=.returned (.int .i64 ((m.taken 1).jump ((m.top 1).getD 0 0==0) a).1)∧Keep W g p F ((m.taken 1).jump ((m.top 1).getD 0 0==0) a).2 w';obtain⟨m1,jC⟩:∃m1,m.taken 1=m1:=⟨_,rfl⟩;rw[jC]at hE⊢;obtain⟨x0,hx0⟩:∃x,(m.top 1).getD 0 0=x:=⟨_,rfl⟩;rw[hx0]at i0;try rw[hx0]
 have HM:=hid jC;clear jC hx0 hcell hc hl t hb hx;by_cases h0:x0=0
 ·subst h0;have hP:=nN (hE.touch (tR W).drew (by simp)) true a;rw[show((0:Int)==0)=true from rfl];clear hE;go_enter func81,ntmps81;go_wp2_with fail;go_still_tail 7,(by kernel_rfl)
  change wpList _ _ _ _ _ W.drew
  go_wp2_with fail;refine hP.mono ?_;rintro _ w2 ⟨rfl,k2⟩;have HK:=hid (k2.pre (tR W).drew);clear k2 hP;go_wp2_with fail;go_ret;exact⟨rfl,HK.out⟩
 ·have h1:(x0==0)=false:=by simpa using h0
  have hP:=nN (hE.touch (tR W).drew (by simp)) false a;rw[h1];clear hE h0;go_enter func81,ntmps81;go_wp2_with fail;go_still_tail 7,(by kernel_rfl)
  change wpList _ _ _ _ _ W.drew
  go_wp2_with fail;refine hP.mono ?_;rintro _ w2 ⟨rfl,k2⟩;have HK:=hid (k2.pre (tR W).drew);clear k2 hP;go_wp2_with fail;go_ret;exact⟨rfl,HK.out⟩
theorem yR:xR w g p F m 2 82 #[.pointer (some ⟨g,0,none⟩)] #[] (fun l m=>m.begins l):=by
 intro W lv t hE hc hl;obtain⟨gg,c,rfl,hcell⟩:=hc.get (by rw[hl];decide);rw[hl]at hcell⊢;have i0:=hcell 0 (by decide);have i1:=hcell 1 (by decide);have c3:=hE.c3;show Calls prog 82 #[.pointer (some ⟨g,0,none⟩),.slice (some ⟨gg,0,none⟩) 2 c] W fun e w'=>e=.returned (.int .i64 ((m.taken 2).aK ⟨3,0,0,(m.top 2).getD 1 0,(m.top 2).getD 0 0,[]⟩).1)∧Keep W g p F ((m.taken 2).aK ⟨3,0,0,(m.top 2).getD 1 0,(m.top 2).getD 0 0,[]⟩).2 w';obtain⟨m1,jC⟩:∃m1,m.taken 2=m1:=⟨_,rfl⟩;rw[jC]at hE⊢;obtain⟨x0,hx0⟩:∃x,(m.top 2).getD 0 0=x:=⟨_,rfl⟩;rw[hx0]at i0;try rw[hx0]
 obtain⟨x1,hx1⟩:∃x,(m.top 2).getD 1 0=x:=⟨_,rfl⟩;rw[hx1]at i1;try rw[hx1]
 have HM:=hid jC;clear jC hx0 hx1 hcell hc hl t;have hP:=jL (hE.touch (tR W).drew (by simp)) ⟨3,0,0,x1,x0,[]⟩ rfl W.drew (tR _);unfold uJ at hP;dsimp only at hP
 clear hE;go_enter func82,ntmps82;go_wp2_with fail;go_still_tail 11,(by kernel_rfl)
 change wpList _ _ _ _ _ W.drew
 go_wp2_with fail;refine hP.mono ?_;rintro _ w2 ⟨rfl,k2⟩;have HK:=hid (k2.pre (tR W).drew);clear k2 hP;go_wp2_with fail;go_ret;exact⟨rfl,HK.out⟩
theorem Om{b:Nat}(hb:Cap w F b g){bx:Nat}{op a v:Int}(hx:G7 w F bx op a v)(lQ:m.fr.length≤128):xR w g p F m 1 85 #[] #[.pointer (some ⟨b,0,none⟩),.pointer (some ⟨bx,0,none⟩)] (fun l m=>m.loop (l.getD 0 0) a):=by
 intro W lv t hE hc hl;obtain⟨gg,c,rfl,hcell⟩:=hc.get (by rw[hl];decide);rw[hl]at hcell⊢;have i0:=hcell 0 (by decide);have b0:=hb.at_ t;obtain⟨q0,q1,q2⟩:=hx.at_ t;have c3:=hE.c3;show Calls prog 85 #[.slice (some ⟨gg,0,none⟩) 1 c,.pointer (some ⟨b,0,none⟩),.pointer (some ⟨bx,0,none⟩)] W fun e w'=>e=.returned (.int .i64 ((m.taken 1).loop ((m.top 1).getD 0 0) a).1)∧Keep W g p F ((m.taken 1).loop ((m.top 1).getD 0 0) a).2 w';obtain⟨m1,jC⟩:∃m1,m.taken 1=m1:=⟨_,rfl⟩;rw[jC]at hE⊢;obtain⟨x0,hx0⟩:∃x,(m.top 1).getD 0 0=x:=⟨_,rfl⟩;rw[hx0]at i0;try rw[hx0]
 have HM:=hid jC;clear jC hx0 hcell hc hl t hb hx;have hP:=G6 (hE.touch (tR W).drew (by simp)) (by rw[←HM.out];exact lQ) x0 a;clear hE;go_enter func85,ntmps85;go_wp2_with fail;go_still_tail 6,(by kernel_rfl)
 change wpList _ _ _ _ _ W.drew
 go_wp2_with fail;refine hP.mono ?_;rintro _ w2 ⟨rfl,k2⟩;have HK:=hid (k2.pre (tR W).drew);clear k2 hP;go_wp2_with fail;go_ret;exact⟨rfl,HK.out⟩
theorem Oo:xR w g p F m 1 113 #[] #[] (fun _ m=>(0,m)):=by
 intro W lv t hE hc hl;obtain⟨gg,c,rfl,hcell⟩:=hc.get (by rw[hl];decide);rw[hl]at hcell⊢;have i0:=hcell 0 (by decide);have c3:=hE.c3;show Calls prog 113 #[.slice (some ⟨gg,0,none⟩) 1 c] W fun e w'=>e=.returned (.int .i64 (((0:Int),m.taken 1)).1)∧Keep W g p F (((0:Int),m.taken 1)).2 w';obtain⟨m1,jC⟩:∃m1,m.taken 1=m1:=⟨_,rfl⟩;rw[jC]at hE⊢;obtain⟨x0,hx0⟩:∃x,(m.top 1).getD 0 0=x:=⟨_,rfl⟩;rw[hx0]at i0;try rw[hx0]
 have HM:=hid jC;clear jC hx0 hcell hc hl t;have HK:=hid (Keep.refl hE);clear hE;go_enter func113,ntmps113;go_wp2_with fail;go_ret;exact⟨rfl,HK.out⟩
theorem SG{b:Nat}(hb:Cap w F b g){bx:Nat}{op a v:Int}(hx:G7 w F bx op a v):xR w g p F m 2 83 #[] #[.pointer (some ⟨b,0,none⟩),.pointer (some ⟨bx,0,none⟩)] (fun l m=>if l.getD 0 0=l.getD 1 0 then m.jump true a else m.begins l):=by
 intro W lv t hE hc hl;obtain⟨gg,c,rfl,hcell⟩:=hc.get (by rw[hl];decide);rw[hl]at hcell⊢;have i0:=hcell 0 (by decide);have i1:=hcell 1 (by decide);rw[hl]at hc;have HB:=hid (yR (m:=m) (g:=g) (p:=p) W.drew _ t.drew (hE.touch (tR W).drew (by simp)) (show dW W.drew _ _ from hc) hl);rw[show(#[.pointer (some ⟨g,0,none⟩)]++ #[.slice (some ⟨gg,0,none⟩) 2 c]++ #[]:Array Value)= #[.pointer (some ⟨g,0,none⟩),.slice (some ⟨gg,0,none⟩) 2 c]from rfl]at HB;have b0:=hb.at_ t;obtain⟨q0,q1,q2⟩:=hx.at_ t;have c3:=hE.c3;show Calls prog 83 #[.slice (some ⟨gg,0,none⟩) 2 c,.pointer (some ⟨b,0,none⟩),.pointer (some ⟨bx,0,none⟩)] W fun e w'=>e=.returned (.int .i64 (if(m.top 2).getD 0 0=(m.top 2).getD 1 0 then(m.taken 2).jump true a else(m.taken 2).aK ⟨3,0,0,(m.top 2).getD 1 0,(m.top 2).getD 0 0,[]⟩).1)∧Keep W g p F (if(m.top 2).getD 0 0=(m.top 2).getD 1 0 then(m.taken 2).jump true a else(m.taken 2).aK ⟨3,0,0,(m.top 2).getD 1 0,(m.top 2).getD 0 0,[]⟩).2 w';obtain⟨m1,jC⟩:∃m1,m.taken 2=m1:=⟨_,rfl⟩;rw[jC]at hE⊢;obtain⟨x0,hx0⟩:∃x,(m.top 2).getD 0 0=x:=⟨_,rfl⟩;rw[hx0]at i0;try rw[hx0]
 obtain⟨x1,hx1⟩:∃x,(m.top 2).getD 1 0=x:=⟨_,rfl⟩;rw[hx1]at i1;try rw[hx1]
 have HX:=hid (And.intro hx1 hx0);have HM:=hid jC;clear jC hx0 hx1 hcell hc hl t hb hx;by_cases h0:x0=x1
 ·subst h0;rw[if_pos rfl];have hP:=nN (hE.touch (tR W).drew (by simp)) true a;clear hE HB;go_enter func83,ntmps83;go_wp2_with fail;go_still (by kernel_rfl)
  go_wp2_with fail;refine hP.mono ?_;rintro _ w2 ⟨rfl,k2⟩;have HK:=hid (k2.pre (tR W).drew);clear k2 hP;go_wp2_with fail;go_ret;exact⟨rfl,HK.out⟩
 ·rw[if_neg h0];have h1:(x0==x1)=false:=by simpa using h0
  have hP:=HB.out;rw[HM.out]at hP;dsimp only at hP
  obtain⟨R,hR⟩:∃R,(m1.aK ⟨3,0,0,x1,x0,[]⟩)=R:=⟨_,rfl⟩;have qi:m1.begins (m.top 2)=R:=by rw[←hR];unfold M.begins;rw[HX.out.1,HX.out.2]
  rw[qi]at hP;rw[hR];clear hE HB h0 hR qi HX;go_enter func83,ntmps83;go_wp2_with fail;go_still (by kernel_rfl)
  go_wp2_with fail;refine hP.mono ?_;rintro _ w2 ⟨rfl,k2⟩;have HK:=hid (k2.pre (tR W).drew);clear k2 hP;go_wp2_with fail;go_ret;exact⟨rfl,HK.out⟩
theorem Xe{b:Nat}(hb:Cap w F b g){bx:Nat}{op a v:Int}(hx:G7 w F bx op a v)(hst:(m.taken 2).S.st.length≤128):xR w g p F m 2 86 #[] #[.pointer (some ⟨b,0,none⟩),.pointer (some ⟨bx,0,none⟩)] (fun l m=>if l.getD 0 0=l.getD 1 0 then(0,m)else(m.push (l.getD 0 0)).2.jump true a):=by
 intro W lv t hE hc hl;obtain⟨gg,c,rfl,hcell⟩:=hc.get (by rw[hl];decide);rw[hl]at hcell⊢;have i0:=hcell 0 (by decide);have i1:=hcell 1 (by decide);have hq:True∧∀(W2:World),Keep W g p F (((m.taken 2).push ((m.top 2).getD 0 0)).2) W2→W2.cell? ⟨b,0,none⟩=some (.pointer (some ⟨g,0,none⟩))∧W2.cell? ⟨bx,1,none⟩=some (.int .i64 a):=⟨trivial,fun W2 k=>by
  obtain⟨_,_,t2,_⟩:=k;exact⟨hb.at_ (t.trans t2 (fun x hx=>.inl hx)),(hx.at_ (t.trans t2 (fun x hx=>.inl hx))).2.1⟩⟩
 have b0:=hb.at_ t;obtain⟨q0,q1,q2⟩:=hx.at_ t;have c3:=hE.c3;show Calls prog 86 #[.slice (some ⟨gg,0,none⟩) 2 c,.pointer (some ⟨b,0,none⟩),.pointer (some ⟨bx,0,none⟩)] W fun e w'=>e=.returned (.int .i64 (if(m.top 2).getD 0 0=(m.top 2).getD 1 0 then(0,m.taken 2)else((m.taken 2).push ((m.top 2).getD 0 0)).2.jump true a).1)∧Keep W g p F (if(m.top 2).getD 0 0=(m.top 2).getD 1 0 then(0,m.taken 2)else((m.taken 2).push ((m.top 2).getD 0 0)).2.jump true a).2 w';obtain⟨m1,jC⟩:∃m1,m.taken 2=m1:=⟨_,rfl⟩;rw[jC]at hE hq⊢;obtain⟨x0,hx0⟩:∃x,(m.top 2).getD 0 0=x:=⟨_,rfl⟩;rw[hx0]at i0;try rw[hx0]
 rw[hx0]at hq;obtain⟨x1,hx1⟩:∃x,(m.top 2).getD 1 0=x:=⟨_,rfl⟩;rw[hx1]at i1;try rw[hx1]
 have HM:=hid jC;clear jC hx0 hx1 hcell hc hl t hb hx;by_cases h0:x0=x1
 ·subst h0;rw[if_pos rfl];have HK:=hid ((Keep.refl hE).quiet (tR W).drew);clear hE;go_enter func86,ntmps86;go_wp2_with fail;go_still (by kernel_rfl)
  go_wp2_with fail;go_ret;exact⟨rfl,HK.out⟩
 ·rw[if_neg h0];have h1:(x0==x1)=false:=by simpa using h0
  have hP:=jy (hE.touch ((tR W).drew.drew) (by simp)) (by rw[←HM.out];exact hst) x0;have HJ:=hid (fun(W:World) F' (hW:ak W g p F' (m1.push x0).2)=>nN hW true a);have HQ:=hid hq;clear hE h0 hq;go_enter func86,ntmps86;go_wp2_with fail;go_still (by kernel_rfl)
  have t1:=(tR W).drew;have B0:W.drew.cell? ⟨b,0,none⟩=some (.pointer (some ⟨g,0,none⟩)):=b0;have I0:W.drew.cell? ⟨gg,0,none⟩=some (.int .i64 x0):=i0;clear b0 i0 i1 q0 q1 q2 c3;change Exit.then _ _ Exit.normal _ W.drew
  generalize W.drew=W1 at*;go_upto_region 3 with fail;go_still_tail 4,(by kernel_rfl)
  change wpList _ _ _ _ _ W1.drew
  go_wp2_with fail;refine hP.mono ?_;rintro _ w2 ⟨rfl,k2⟩;have k2:=k2.pre t1.drew;obtain⟨q1,q2⟩:=HQ.out.2 w2 k2;obtain⟨F2,h2,n2⟩:=k2.open;have hJ:=HJ.out _ _ h2;clear hP k2 h2 HJ B0 I0;go_wp2_with fail;refine hJ.mono ?_;rintro _ w3 ⟨rfl,k3⟩;have HK:=hid (n2.out _ _ k3);clear k3 hJ;go_wp2_with fail;go_ret;exact⟨rfl,HK.out⟩
end
end En
end Go.Proofs.YtdokeddjcpnmiaaGreatDoor
