/- Of EngineClean: Eng1 Eng2 Eng3 Eng4 Eng5. -/
import Derived.Test.YtdokeddjcpnmiaaGreatDoorQFIdx
import Derived.StillTailTactics
set_option maxRecDepth 100000
set_option maxHeartbeats 3200000
namespace Go.Proofs.YtdokeddjcpnmiaaGreatDoor
open Go.RowKit Go.Proofs.Tryz
open Go.Lib(hid)
namespace En
theorem kZ{w:World}{g:Nat}{p:Lay}{F:List Nat}{m:M}(h:ak w g p F m)(d o:Int):Calls prog 73 #[.pointer (some ⟨g,0,none⟩),.int .i64 d,.int .i64 o] w fun e w'=>e=.returned (.tuple #[])∧Keep w g p F (m.place d o) w':=by
 obtain⟨cv,ev,wv,Ff,FS,FI,h,rfl⟩:=h;have c4:=h.blk.cell 4;have f4:=h.blk.frozen 4;have c5:=h.blk.cell 5;have f5:=h.blk.frozen 5;have HH:=hid h;clear h;go_enter func73,ntmps73;go_wp2_with fail;go_end0
 exact⟨rfl,HH.out.own d o m.nx ((HH.out.blk.bJ 4 _).bJ 5 _) (((Touch.refl [g] w).setCell (by simp) _).setCell (by simp) _)⟩
theorem SA(L:List (Int×Int×Int))(m i:Nat)(f:Int×Int×Int)(h:L[m]? =some f)(hi:i<3):(L.flatMap gI)[m*3+i]? =(gI f)[i]? :=by
 induction L generalizing m with
 |nil=>simp at h
 |cons x r ih=>
  rw[List.flatMap_cons];cases m with
  |zero=>
   simp at h;subst h;rw[Nat.zero_mul,Nat.zero_add,List.getElem?_append_left (by show i<3;exact hi)]
  |succ m=>
   rw[List.getElem?_append_right (by show 3≤(m+1)*3+i;omega)];rw[show(m+1)*3+i-(gI x).length=m*3+i by show(m+1)*3+i-3=_;omega];exact ih m (by simpa using h)
theorem Og{w:World}{g cap n:Nat}{L:List (Int×Int×Int)}(hr:w.ownsRow 0 35 3 (.slice (some ⟨g,0,none⟩) n cap) n (L.flatMap gI)){m:Nat}{f:Int×Int×Int}(h:L[m]? =some f):
 w.cell? ⟨g,m*3,none⟩=some (.int .i64 f.1)∧w.cell? ⟨g,m*3+1,none⟩=some (.int .i64 f.2.1)∧w.cell? ⟨g,m*3+2,none⟩=some (.int .i64 f.2.2):=by
 have hc:=hr.cells (g:=g) rfl;have key:∀i u,i<3→(gI f)[i]? =some u→w.cell? ⟨g,m*3+i,none⟩=some u:=fun i u hi hu=>by
  have:=hc (m*3+i) u (by rw[SA L m i f h hi,hu]);rw[gG,Nat.zero_add]at this;exact this
 exact⟨key 0 _ (by decide) rfl,key 1 _ (by decide) rfl,key 2 _ (by decide) rfl⟩
def iJ(w:World)(F:List Nat)(m:M)(xt:Int)(a:Option Addr):Prop:=match m.word xt with
 |none=>a=none
 |some u=>∃b i,a=some ⟨b,i*3,none⟩∧b∈F∧i=(xt-1).toNat∧w.cell? ⟨b,i*3,none⟩=some (.int .i64 u.1)∧w.cell? ⟨b,i*3+1,none⟩=some (.int .i64 u.2.1)∧w.cell? ⟨b,i*3+2,none⟩=some (.int .i64 u.2.2)
theorem iC{w:World}{g:Nat}{p:Lay}{F:List Nat}{m:M}(h:ak w g p F m)(hl:m.words.length≤1000000)(xt:Int):Calls prog 43 #[.pointer (some ⟨g,0,none⟩),.int .i64 xt] w fun e w'=>∃a,e=.returned (.pointer a)∧w=w'∧iJ w F m xt a:=by
 obtain⟨cv,ev,wv,Ff,FS,FI,h,rfl⟩:=h;have c2:=h.blk.cell 2;have hw:=h.words;by_cases h1:xt<1
 ·clear h hw c2;go_enter func43,ntmps43;go_wp2_with fail;go_ret;refine⟨_,rfl,rfl,?_⟩;unfold iJ M.word;rw[if_pos h1]
 ·obtain⟨n,hn⟩:∃n,m.words.length=n:=⟨_,rfl⟩;rw[hn]at hw hl;by_cases h2:xt>(n:Int)
  ·have hnone:m.word xt=none:=by
    unfold M.word;rw[if_neg h1,List.getElem?_eq_none (by omega)]
   rcases Go.Joins.ownsRow_forms hw with⟨rfl,h0⟩|⟨b,cap,rfl⟩
   all_goals
    clear h hw hn;try subst h0
    go_enter func43,ntmps43;go_wp2_with fail;go_ret;refine⟨_,rfl,rfl,?_⟩;unfold iJ;rw[hnone]
  ·rcases Go.Joins.ownsRow_forms hw with⟨rfl,h0⟩|⟨b,cap,rfl⟩
   ·omega
   ·obtain⟨i,rfl⟩:∃i:Nat,xt=i+1:=⟨(xt-1).toNat,by omega⟩;have hi:i<n:=by omega
    have hsome:m.word ((i:Int)+1)=some (m.words[i]'(by omega)):=by
     unfold M.word;rw[if_neg h1,show((i:Int)+1-1).toNat=i by omega,List.getElem?_eq_getElem]
    obtain⟨k0,k1,k2⟩:=Og hw (List.getElem?_eq_getElem (by omega):m.words[i]? =some (m.words[i]'(by omega)));obtain⟨u,hu⟩:∃u,m.words[i]'(by omega)=u:=⟨_,rfl⟩;rw[hu]at k0 k1 k2 hsome;have e1:IntKind.i64.wrap (i:Int)=i:=by rw[IntKind.wrap_i64];omega
    have e2:(i:Int)<(n:Int):=by omega
    have e3:¬(i:Int)+1>(n:Int):=by omega
    have HM:=hid (fA (x:=b) (g:=g) (cv:=cv) (ev:=ev) (wv:=.slice (some ⟨b,0,none⟩) n cap) (Ff:=Ff) (FS:=FS) (FI:=FI));clear h hw hn hu;go_enter func43,ntmps43;go_wp2_with fail;go_ret;refine⟨_,rfl,rfl,?_⟩;unfold iJ;rw[hsome];exact⟨b,i,rfl,HM.out.2 (by simp[rowOf]),by omega,k0,k1,k2⟩
theorem jy{w:World}{g:Nat}{p:Lay}{F:List Nat}{m:M}(h:ak w g p F m)(hst:m.S.st.length≤128)(x:Int):Calls prog 66 #[.pointer (some ⟨g,0,none⟩),.int .i64 x] w fun e w'=>e=.returned (.int .i64 (m.push x).1)∧Keep w g p F (m.push x).2 w':=by
 obtain⟨cv,ev,wv,Ff,FS,FI,h,rfl⟩:=h;have c7:=h.blk.cell 7;obtain⟨FK,ov,mv,hp,e⟩:=h.st;have hK:=rM w p.s m.S.k (hp.blk.cell 1);have HH:=hid (And.intro h (And.intro hp e));rcases Nat.lt_or_ge m.S.st.length 128 with hlt|ql
 ·have hP:=vG w _ _ _ hp.iO hlt x;clear h hp;go_enter func66,ntmps66;go_wp2_with fail;refine hK.mono ?_;rintro _ _ ⟨rfl,rfl⟩;clear hK;go_wp2_with fail;refine hP.mono ?_;rintro _ w1 ⟨F',rfl,hs,t1,aT⟩;go_wp2_with fail;go_ret;have e1:iL m.S x=(0,{m.S with st:=m.S.st++[x]}):=if_pos hlt;unfold M.push;rw[e1];exact⟨rfl,HH.out.1.iO HH.out.2.1 HH.out.2.2 hs t1 aT⟩
 ·have hP:=wY w _ _ _ hp.iO (by omega) x;clear h hp;go_enter func66,ntmps66;go_wp2_with fail;refine hK.mono ?_;rintro _ _ ⟨rfl,rfl⟩;clear hK;go_wp2_with fail;refine hP.mono ?_;rintro _ w1 ⟨rfl,t1⟩;go_wp2_with fail;go_ret;have e1:iL m.S x=(-3,m.S):=if_neg (by omega);unfold M.push;rw[e1];exact⟨rfl,(Keep.refl ⟨_,_,_,_,_,_,HH.out.1,rfl⟩).quiet t1⟩
theorem nN{w:World}{g:Nat}{p:Lay}{F:List Nat}{m:M}(h:ak w g p F m)(kO:Bool)(tgt:Int):Calls prog 80 #[.pointer (some ⟨g,0,none⟩),.bool kO,.int .i64 tgt] w fun e w'=>e=.returned (.int .i64 (m.jump kO tgt).1)∧Keep w g p F (m.jump kO tgt).2 w':=by
 obtain⟨cv,ev,wv,Ff,FS,FI,h,rfl⟩:=h;have c5:=h.blk.cell 5;have f5:=h.blk.frozen 5;have HH:=hid h;clear h;cases kO
 ·go_enter func80,ntmps80;go_wp2_with fail;go_ret;exact⟨rfl,Keep.refl ⟨_,_,_,_,_,_,HH.out,rfl⟩⟩
 ·go_enter func80,ntmps80;go_wp2_with fail;go_ret;exact⟨rfl,HH.out.own m.df tgt m.nx (HH.out.blk.bJ 5 _) ((Touch.refl [g] w).setCell (by simp) _)⟩
theorem DK{w:World}{g:Nat}{p:Lay}{F:List Nat}{m:M}(h:ak w g p F m)(hl:m.words.length≤1000000)(x:Int):Calls prog 139 #[.pointer (some ⟨g,0,none⟩),.int .i64 x] w fun e w'=>e=.returned (.int .i64 (m.named x).1)∧Keep w g p F (m.named x).2 w':=by
 have hF:=iC h hl x;have hE:=h;obtain⟨cv,ev,wv,Ff,FS,FI,h,rfl⟩:=h;have c6:=h.blk.cell 6;have f6:=h.blk.frozen 6;have HH:=hid (And.intro h hE);clear h hE;cases hw:m.word x with
 |none=>
  unfold M.named;rw[hw];unfold iJ at hF;rw[hw]at hF;go_enter func139,ntmps139;go_wp2_with fail;refine hF.mono ?_;rintro _ _ ⟨_,rfl,rfl,rfl⟩;clear hF;go_wp2_with fail;go_ret;exact⟨rfl,Keep.refl HH.out.2⟩
 |some u=>
  unfold M.named;rw[hw];unfold iJ at hF;rw[hw]at hF;go_enter func139,ntmps139;go_wp2_with fail;refine hF.mono ?_;rintro _ _ ⟨_,rfl,rfl,b,i,rfl,_⟩;clear hF;go_wp2_with fail;go_ret;exact⟨rfl,HH.out.1.own m.df m.on x (HH.out.1.blk.bJ 6 _) ((Touch.refl [g] w).setCell (by simp) _)⟩
theorem GZ{w:World}{g:Nat}{p:Lay}{cv ev wv:Value}{Ff FS FI:List Nat}{m:M}(h:vC w g p cv ev wv Ff FS FI m)(f:Fr)(v:Value)(hk:f.k=4)(hl:f.l.length≤1000)(W:World)(t:Touch [] w W)(hr:pE W v f.l):
 Calls prog 18 #[.pointer (some ⟨p.f,0,none⟩),.agg #[.int .i64 f.k,.int .i64 f.a,.int .i64 f.b,.int .i64 f.x,.int .i64 f.y,v]] W fun e w'=>e=.returned (.int .i64 (m.aK f).1)∧Keep w g p (fO g cv ev wv Ff FS FI) (m.aK f).2 w':=by
 have lQ:=h.fr.touch t (by simp);rcases Nat.lt_or_ge m.fr.length 128 with hlt|ql
 ·refine(N9 W p.f Ff m.fr lQ hlt f v hk hl hr).mono ?_;rintro e w' ⟨rfl,F',h2,t2,s2⟩;have e1:m.aK f=(0,{m with fr:=m.fr++[f]}):=if_pos hlt;rw[e1];exact⟨rfl,h.mW h2 ((t.mono (by simp)).trans t2 (fun x hx=>.inl hx)) (fun x hx=>(s2 x hx).imp id (Nat.le_trans t.size))⟩
 ·refine(yN W p.f Ff m.fr lQ ql f v (by obtain⟨a,c,e⟩:=hr.form;exact⟨_,_,_,e⟩)).mono ?_;rintro e w' ⟨rfl,t2⟩;have e1:m.aK f=(-5,m):=if_neg (by omega);rw[e1];exact⟨rfl,((Keep.refl (w:=w) ⟨cv,ev,wv,Ff,FS,FI,h,rfl⟩).quiet t).quiet t2⟩
theorem Az{w:World}{g:Nat}{p:Lay}{cv ev wv:Value}{Ff FS FI:List Nat}{m:M}(h:vC w g p cv ev wv Ff FS FI m)(f:Fr)(hf:f.l=[])(W:World)(t:Touch [] w W):
 Calls prog 18 #[.pointer (some ⟨p.f,0,none⟩),.agg (uJ f)] W fun e w'=>e=.returned (.int .i64 (m.aK f).1)∧Keep w g p (fO g cv ev wv Ff FS FI) (m.aK f).2 w':=by
 obtain⟨F1,hE,t1,s1⟩:=(Keep.refl (w:=w) ⟨cv,ev,wv,Ff,FS,FI,h,rfl⟩:Keep w g p _ m w).quiet t;have lQ:=h.fr.touch t (by simp);rcases Nat.lt_or_ge m.fr.length 128 with hlt|ql
 ·refine(Sb W p.f Ff m.fr lQ hlt f hf).mono ?_;rintro e w' ⟨rfl,F',h2,t2,s2⟩;have e1:m.aK f=(0,{m with fr:=m.fr++[f]}):=if_pos hlt;rw[e1];exact⟨rfl,h.mW h2 ((t.mono (by simp)).trans t2 (fun x hx=>.inl hx)) (fun x hx=>(s2 x hx).imp id (Nat.le_trans t.size))⟩
 ·refine(Ka W p.f Ff m.fr lQ ql f).mono ?_;rintro e w' ⟨rfl,t2⟩;have e1:m.aK f=(-5,m):=if_neg (by omega);rw[e1];exact⟨rfl,((Keep.refl (w:=w) ⟨cv,ev,wv,Ff,FS,FI,h,rfl⟩).quiet t).quiet t2⟩
theorem G5{w:World}{g:Nat}{p:Lay}{F:List Nat}{m:M}(h:ak w g p F m)(n:Int):Calls prog 65 #[.pointer (some ⟨g,0,none⟩),.int .i64 n] w fun e w'=>e=.returned (.int .i64 (m.call n).1)∧Keep w g p F (m.call n).2 w':=by
 have hE:=h;obtain⟨cv,ev,wv,Ff,FS,FI,h,rfl⟩:=h;have c1:=h.blk.cell 1;have c3:=h.blk.cell 3;have c4:=h.blk.cell 4;have c5:=h.blk.cell 5;obtain⟨ea,ec,Gh⟩:=bn h.ends;rw[Gh]at c1;clear Gh;obtain⟨len,hlen⟩:∃len,m.ends.length=len:=⟨_,rfl⟩;rw[hlen]at c1;have hP:=fun W t=>Az h ⟨1,m.df,m.on,0,0,[]⟩ rfl W t;have HE:=hid hE;unfold M.call;rw[hlen];clear h hE;by_cases h1:n<1
 ·rw[if_pos (.inl h1)];go_enter func65,ntmps65;go_wp2_with fail;go_ret;exact⟨rfl,Keep.refl HE.out⟩
 by_cases h2:n>(len:Int)
 ·rw[if_pos (.inr h2)];go_enter func65,ntmps65;go_wp2_with fail;go_ret;exact⟨rfl,Keep.refl HE.out⟩
 rw[if_neg (by omega)];unfold uJ at hP;obtain⟨r,hr⟩:∃r,m.aK ⟨1,m.df,m.on,0,0,[]⟩=r:=⟨_,rfl⟩;rw[hr]at hP⊢;dsimp only at hP⊢
 obtain⟨r1,r2⟩:=r;dsimp only at hP⊢
 have HC:=hid (fun(W:World) F1 (hW:ak W g p F1 r2)=>kZ hW n 0);clear hr;by_cases h0:r1=0
 ·rw[if_pos h0];subst h0;go_enter func65,ntmps65;go_wp2_with fail;go_region_law (first|(go_simp;go_at_call 18;refine(hP _ ((tR w).drew)).mono ?_;rintro _ w5 ⟨rfl,hk⟩;have HK:=hid hk;clear hk))
  all_goals obtain⟨F1,k1,k2,k3⟩:=HK.out
  all_goals have hC:=HC.out _ _ k1
  all_goals clear c1 c3 c4 c5
  all_goals go_wp2_with fail
  all_goals refine hC.mono ?_
  all_goals rintro _ w6 ⟨rfl,nC⟩
  all_goals go_wp2_with fail
  all_goals go_ret
  all_goals exact⟨rfl,Keep.trans k2 k3 nC⟩
 ·rw[if_neg h0];have V9:(r1==0)=false:=by simpa using h0
  go_enter func65,ntmps65;go_wp2_with fail;go_region_law (first|(go_simp;go_at_call 18;refine(hP _ ((tR w).drew)).mono ?_;rintro _ w5 ⟨rfl,hk⟩;have HK:=hid hk;clear hk))
  all_goals go_wp2_with fail
  all_goals go_ret
  all_goals exact⟨rfl,HK.out⟩
theorem DL{w:World}{g:Nat}{p:Lay}{F:List Nat}{m:M}(h:ak w g p F m)(lQ:m.fr.length≤128):Calls prog 112 #[.pointer (some ⟨g,0,none⟩)] w fun e w'=>e=.returned (.int .i64 (m.leave).1)∧Keep w g p F (m.leave).2 w':=by
 have hE:=h;obtain⟨cv,ev,wv,Ff,FS,FI,h,rfl⟩:=h;have c3:=h.blk.cell 3;by_cases hk:m.fr≠[]∧(aU m.fr).k=3
 ·obtain⟨Q,f,hQ⟩:∃Q f,m.fr=Q++[f]:=⟨m.fr.dropLast,m.fr.getLast hk.1,(List.dropLast_concat_getLast hk.1).symm⟩;have lx:f.k=3:=by rw[←je Q f,←hQ];exact hk.2
  have hP:=GX w p.f Ff Q f (hQ▸h.fr) (by have:=congrArg List.length hQ;simp at this;omega) (by rw[lx];decide);rw[lx]at hP;have e1:m.leave=(0,{m with fr:=Q}):=by
   unfold M.leave M.pop;rw[if_pos hk,hQ,pz]
  rw[e1];have HH:=hid h;clear h hE;unfold uJ at hP;go_enter func112,ntmps112;go_wp2_with fail;refine hP.mono ?_;rintro _ w1 ⟨rfl,h1,t1⟩;have HT:=hid (HH.out.mW h1 t1 (Sub.refl _ _));clear hP h1 t1;go_wp2_with fail;go_ret;exact⟨rfl,HT.out.quiet ((tR _).alloc _)⟩
 ·have hP:=MI w p.f Ff m.fr h.fr (by omega) 3 (by by_cases h0:m.fr=[];exact .inl h0;exact .inr fun h3=>hk ⟨h0,h3⟩);have e1:m.leave=(-26,m):=by
   unfold M.leave M.pop;rw[if_neg hk]
  rw[e1];have HH:=hid hE;clear h hE;unfold uJ Fr.none at hP;go_enter func112,ntmps112;go_wp2_with fail;refine hP.mono ?_;rintro _ w1 ⟨rfl,t1⟩;have HT:=hid ((Keep.refl HH.out).quiet t1);clear hP t1;go_wp2_with fail;go_ret;exact⟨rfl,HT.out.quiet ((tR _).alloc _)⟩
section
variable {w w':World} {g:Nat} {p:Lay} {F:List Nat} {m:M}
theorem Keep.blk{z:Nat}{t:TypeId}{cs:Array Value}(k:Keep w g p F m w')(h:aF w z t cs)(hz:z∉F):aF w' z t cs:=by
 obtain⟨F',_,t2,_⟩:=k;exact h.touch t2 hz
theorem Keep.finish{W0 W W':World}{G:List Nat}(t0:Touch [] w W0)(k:Keep W0 g p F m W)(hG:∀z∈G,w.heap.size≤z∧z<W0.heap.size)(hF:∀f∈F,f<w.heap.size)(t:Touch G W W'):Keep w g p F m W':=by
 obtain⟨F',h,t2,s⟩:=k;refine⟨F',h.touch t (fun x hx hg=> ?_),((t0.mono (by simp)).trans t2 (fun x hx=>.inl hx)).trans t (fun x hx=>.inr (hG x hx).1),fun x hx=>(s x hx).imp id (Nat.le_trans t0.size)⟩;obtain⟨h1,h2⟩:=hG x hg;rcases s x hx with e|e
 ·have:=hF x e;omega
 ·omega
theorem ak.view(h:ak w g p F m):(∃cv ev wv,aF w g 85 (ko p cv ev wv m)∧(∃a c,cv=.slice a m.code.length c)∧(∃a c,ev=.slice a m.ends.length c)∧∃a c,wv=.slice a m.words.length c)∧w.cell? ⟨p.s,1,none⟩=some (.pointer (some ⟨m.S.k,0,none⟩)):=by
 obtain⟨cv,ev,wv,Ff,FS,FI,h,rfl⟩:=h;obtain⟨FK,ov,mv,hp,e⟩:=h.st;refine⟨⟨cv,ev,wv,h.blk,bn h.code,bn h.ends,?_⟩,hp.blk.cell 1⟩;rcases Go.Joins.ownsRow_forms h.words with⟨h1,h0⟩|⟨g,cap,h1⟩
 ·exact⟨none,0,by rw[h1,h0]⟩
 ·exact⟨_,_,h1⟩
theorem Keep.open{W0:World}(k:Keep W0 g p F m w):∃F',ak w g p F' m∧Hid (∀m2 W2,Keep w g p F' m2 W2→Keep W0 g p F m2 W2):=by
 obtain⟨F',h,t,s⟩:=k;exact⟨F',h,hid fun m2 W2 k2=>Keep.trans t s k2⟩
theorem ak.c3(h:ak w g p F m):w.cell? ⟨g,3,none⟩=some (.pointer (some ⟨p.f,0,none⟩)):=by obtain⟨⟨_,_,_,b,_⟩,_⟩:=h.view;exact b.cell 3
theorem ak.c4(h:ak w g p F m):w.cell? ⟨g,4,none⟩=some (.int .i64 m.df):=by obtain⟨⟨_,_,_,b,_⟩,_⟩:=h.view;exact b.cell 4
theorem ak.c5(h:ak w g p F m):w.cell? ⟨g,5,none⟩=some (.int .i64 m.on):=by obtain⟨⟨_,_,_,b,_⟩,_⟩:=h.view;exact b.cell 5
theorem ak.c6(h:ak w g p F m):w.cell? ⟨g,6,none⟩=some (.int .i64 m.nx):=by obtain⟨⟨_,_,_,b,_⟩,_⟩:=h.view;exact b.cell 6
theorem ak.c7(h:ak w g p F m):w.cell? ⟨g,7,none⟩=some (.pointer (some ⟨p.s,0,none⟩)):=by obtain⟨⟨_,_,_,b,_⟩,_⟩:=h.view;exact b.cell 7
theorem ak.c8(h:ak w g p F m):w.cell? ⟨g,8,none⟩=some (.pointer (some ⟨p.i,0,none⟩)):=by obtain⟨⟨_,_,_,b,_⟩,_⟩:=h.view;exact b.cell 8
theorem ak.z(h:ak w g p F m)(i:Nat):w.frozen? ⟨g,i,none⟩=false:=by obtain⟨⟨_,_,_,b,_⟩,_⟩:=h.view;exact b.frozen i
theorem ak.EP(h:ak w g p F m):g∈F:=by obtain⟨_,_,_,_,_,_,hh,rfl⟩:=h;exact fA.2 (.inl rfl)
theorem ak.iU(h:ak w g p F m):Calls prog 15 #[.pointer (some ⟨p.s,0,none⟩)] w fun e w'=>e=.returned (.pointer (some ⟨m.S.k,0,none⟩))∧w=w':=rM w p.s m.S.k h.view.2
theorem ak.sO(h:ak w g p F m)(n:Int):Keep w g p F {m with nx:=n} (w.setCell ⟨g,6,none⟩ (.int .i64 n)):=by
 obtain⟨cv,ev,wv,Ff,FS,FI,h,rfl⟩:=h;exact h.own m.df m.on n (h.blk.bJ 6 _) ((Touch.refl [g] w).setCell (by simp) _)
theorem Oh(h:ak w g p F m)(lQ:m.fr.length≤128)(i:Int):Calls prog 77 #[.pointer (some ⟨p.f,0,none⟩),.int .i64 i] w fun e w'=>e=.returned (.tuple #[])∧Keep w g p F {m with fr:=m.fr.take i.toNat} w':=by
 obtain⟨cv,ev,wv,Ff,FS,FI,h,rfl⟩:=h;refine(vN w p.f Ff m.fr h.fr (by omega) i).mono ?_;rintro e w' ⟨rfl,h1,t1⟩;exact⟨rfl,h.mW h1 t1 (Sub.refl _ _)⟩
theorem DN(h:ak w g p F m)(lQ:m.fr.length≤128)(R:Fr)(ok:Bool)(L':List Fr)(hR:(ok=true∧dP m.fr=some (R,L'))∨(ok=false∧dP m.fr=none∧R=Fr.none∧L'=m.fr)):Calls prog 75 #[.pointer (some ⟨p.f,0,none⟩)] w fun e w'=>e=.returned (.tuple #[.agg (uJ R),.bool ok])∧Keep w g p F {m with fr:=L'} w':=by
 obtain⟨cv,ev,wv,Ff,FS,FI,h,rfl⟩:=h;refine(Ki w p.f Ff m.fr h.fr (by omega) R ok L' hR).mono ?_;rintro e w' ⟨rfl,h1,t1⟩;exact⟨rfl,h.mW h1 t1 (Sub.refl _ _)⟩
theorem DR(h:ak w g p F m)(i:Int):Calls prog 76 #[.pointer (some ⟨m.S.k,0,none⟩),.int .i64 i] w fun e w'=>e=.returned (.tuple #[])∧Keep w g p F {m with S:={m.S with st:=nG i m.S.st}} w':=by
 obtain⟨cv,ev,wv,Ff,FS,FI,h,rfl⟩:=h;obtain⟨FK,ov,mv,hp,e⟩:=h.st;obtain⟨n,hn⟩:∃n:Nat,min (max i 0) 128=(n:Int):=⟨(min (max i 0) 128).toNat,by omega⟩;refine(Kk w _ _ _ hp.iO i n hn).mono ?_;rintro _ w' ⟨rfl,F',h1,t1,s1⟩;have e2:rJ n m.S.st=nG i m.S.st:=by
  unfold rJ nG;rw[hn];rfl
 rw[e2]at h1;exact⟨rfl,h.iO hp e h1 t1 s1⟩
theorem Km(h:ak w g p F m)(hst:m.S.st.length≤128)(x:Int):Calls prog 33 #[.pointer (some ⟨m.S.k,0,none⟩),.int .i64 x] w fun e w'=>e=.returned (.int .i64 (m.push x).1)∧Keep w g p F (m.push x).2 w':=by
 have hE:=h;obtain⟨cv,ev,wv,Ff,FS,FI,h,rfl⟩:=h;obtain⟨FK,ov,mv,hp,e⟩:=h.st;rcases Nat.lt_or_ge m.S.st.length 128 with hlt|ql
 ·refine(vG w _ _ _ hp.iO hlt x).mono ?_;rintro _ w1 ⟨F',rfl,hs,t1,aT⟩;have e1:iL m.S x=(0,{m.S with st:=m.S.st++[x]}):=if_pos hlt;unfold M.push;rw[e1];exact⟨rfl,h.iO hp e hs t1 aT⟩
 ·refine(wY w _ _ _ hp.iO (by omega) x).mono ?_;rintro _ w1 ⟨rfl,t1⟩;have e1:iL m.S x=(-3,m.S):=if_neg (by omega);unfold M.push;rw[e1];exact⟨rfl,(Keep.refl hE).quiet t1⟩
theorem yP(h:ak w g p F m):Calls prog 23 #[.pointer (some ⟨m.S.k,0,none⟩)] w fun e w'=>e=.returned (.int .i64 m.S.st.length)∧w=w':=by
 obtain⟨cv,ev,wv,Ff,FS,FI,h,rfl⟩:=h;obtain⟨FK,ov,mv,hp,e⟩:=h.st;exact wW w _ _ _ hp.iO
theorem Oi(h:ak w g p F m)(hd:m.I.outer.length≤8)(i:Int):Calls prog 78 #[.pointer (some ⟨p.i,0,none⟩),.int .i64 i] w fun e w'=>e=.returned (.tuple #[])∧Keep w g p F {m with I:=m.I.dI i.toNat} w':=by
 obtain⟨cv,ev,wv,Ff,FS,FI,h,rfl⟩:=h;refine(WL w p.i FI m.I h.inp i hd).mono ?_;rintro _ w' ⟨rfl,F',h1,t1,s1⟩;exact⟨rfl,h.pT h1 t1 s1⟩
theorem yQ(h:ak w g p F m):Calls prog 36 #[.pointer (some ⟨p.i,0,none⟩)] w fun e w'=>e=.returned (.int .i64 m.I.outer.length)∧w=w':=by
 obtain⟨cv,ev,wv,Ff,FS,FI,h,rfl⟩:=h;exact qw w p.i FI m.I h.inp
theorem SB(h:ak w g p F m):Calls prog 35 #[.pointer (some ⟨p.i,0,none⟩)] w fun e w'=>e=.returned (.int .i64 m.I.cur.on)∧w=w':=by
 obtain⟨cv,ev,wv,Ff,FS,FI,h,rfl⟩:=h;exact ZR w p.i FI m.I h.inp
theorem Kn(h:ak w g p F m)(hm:m.I.cur.text.size≤1000)(i:Int):Calls prog 79 #[.pointer (some ⟨p.i,0,none⟩),.int .i64 i] w fun e w'=>e=.returned (.tuple #[])∧Keep w g p F {m with I:={m.I with cur:={m.I.cur with on:=(max (min i m.I.cur.text.size) 0).toNat}}} w':=by
 obtain⟨cv,ev,wv,Ff,FS,FI,h,rfl⟩:=h;refine(Rz w p.i FI m.I h.inp i hm).mono ?_;rintro _ w' ⟨rfl,F',h1,t1,s1⟩;have e1:gT m.I.cur.text i=(max (min i m.I.cur.text.size) 0).toNat:=by unfold gT;omega
 rw[e1]at h1;exact⟨rfl,h.pT h1 t1 s1⟩
theorem ER(h:ak w g p F m)(lQ:m.fr.length≤128):Calls prog 21 #[.pointer (some ⟨p.f,0,none⟩)] w fun e w'=>(∃a n c,e=.returned (.tuple #[.agg #[.int .i64 (aU m.fr).k,.int .i64 (aU m.fr).a,.int .i64 (aU m.fr).b,.int .i64 (aU m.fr).x,.int .i64 (aU m.fr).y,.slice a n c],.bool (decide (m.fr≠[]))]))∧Touch [] w w':=by
 obtain⟨cv,ev,wv,Ff,FS,FI,h,rfl⟩:=h;by_cases h0:m.fr=[]
 ·have hf:=h.fr;rw[h0]at hf;refine(Sc w p.f Ff hf).mono ?_;rintro _ w' ⟨rfl,t⟩;rw[h0];exact⟨⟨none,0,0,rfl⟩,t⟩
 ·obtain⟨Q,f,hQ⟩:∃Q f,m.fr=Q++[f]:=⟨m.fr.dropLast,m.fr.getLast h0,(List.dropLast_concat_getLast h0).symm⟩;refine(Sg w p.f Ff Q f (hQ▸h.fr) (by have:=congrArg List.length hQ;simp at this;omega)).mono ?_;rintro _ w' ⟨⟨v,rfl,hv⟩,t⟩;rw[hQ,je];obtain⟨a,c,e⟩:=hv.form;dsimp only at e
  exact⟨⟨a,f.l.length,c,by simp[e]⟩,t⟩
end
theorem AA{w:World}{g:Nat}{p:Lay}{F:List Nat}{m:M}(h:ak w g p F m)(hf:dH m)(hc:dP m.fr=none)(e:Int):Calls prog 48 #[.pointer (some ⟨g,0,none⟩),.int .i64 e] w fun r w'=>r=.returned (jK (m.throw e).1)∧Keep w g p F (m.throw e).2 w':=by
 rw[nI hc];have iN:=h.lt;have tz:=(tR w).alloc (.cells #[.int .i64 0,.int .i64 0,.int .i64 0] 48);have bz:=aF.new w 48 #[.int .i64 0,.int .i64 0,.int .i64 0];have bq:=h.touch tz (by simp);obtain⟨z,hz⟩:∃z,w.heap.size=z:=⟨_,rfl⟩;rw[hz]at bz;have Q0:z∉F:=fun hx=>by have:=iN z hx;omega
 have hp:=kZ bq 0 0;have hzl:=bz.lt;have HF:=hid hf;clear hf;go_enter func48,ntmps48;go_upto_region 3 with fail;generalize w.alloc (.cells #[.int .i64 0,.int .i64 0,.int .i64 0] 48)=W0 at*;go_wp2_with fail;refine hp.mono ?_;rintro _ w1 ⟨rfl,k1⟩;clear hp;obtain⟨F1,h1,n1⟩:=k1.open;have c6:=h1.c6;have f6:=h1.z 6;have k2:=n1.out _ _ (h1.sO 0);clear h1 n1 k1;go_upto_region 5 with fail;generalize w1.setCell ⟨g,6,none⟩ (.int .i64 0)=w2 at*;clear c6 f6;obtain⟨F2,h2,n2⟩:=k2.open;have c3:=h2.c3;have hC:=DN h2 HF.out.fr Fr.none false _ (.inr ⟨rfl,hc,rfl,rfl⟩);unfold uJ Fr.none at hC;clear h2 k2;go_wp2_with fail;refine hC.mono ?_;rintro _ w3 ⟨rfl,k3⟩;clear hC c3;have K4:=(n2.out _ _ k3).quiet ((tR w3).alloc (.cells #[.int .i64 0,.int .i64 0,.int .i64 0,.int .i64 0,.int .i64 0,.slice none 0 0] 45));obtain⟨F4,h4,n4⟩:=K4.open;have c7:=h4.c7;have hS:=h4.iU;have hC:=DR h4 0;clear h4 n2 k3 K4;go_upto_region 7 with fail;generalize w3.alloc (.cells #[.int .i64 0,.int .i64 0,.int .i64 0,.int .i64 0,.int .i64 0,.slice none 0 0] 45)=w4 at*;go_wp2_with fail;refine hS.mono ?_;rintro _ _ ⟨rfl,rfl⟩;clear hS;go_wp2_with fail;refine hC.mono ?_;rintro _ w5 ⟨rfl,k5⟩;clear hC c7;obtain⟨F5,h5,n5⟩:=(n4.out _ _ k5).open;have c3:=h5.c3;have hC:=Oh h5 HF.out.fr 0;clear h5 n4 k5;go_wp2_with fail;refine hC.mono ?_;rintro _ w6 ⟨rfl,k6⟩;clear hC c3;have k6:=n5.out _ _ k6;have d6:=k6.blk bz Q0;have e0:=d6.cell 0;have e1:=d6.cell 1;have e2:=d6.cell 2;have g0:=d6.frozen 0;have g1:=d6.frozen 1;have g2:=d6.frozen 2;have HK:=hid k6;clear k6;go_wp2_with fail;have bS:=((d6.bJ 0 (.int .i64 4)).bJ 1 (.int .i64 0)).bJ 2 (.int .i64 e);have r0:=bS.cell 0;have r1:=bS.cell 1;have r2:=bS.cell 2;refine bodyPost_ret (by simp[results,results48,go_sem,r0,r1,r2];try rfl) rfl ?_;exact⟨rfl,HK.out.finish tz (G:=[z]) (fun y hy=>by simp at hy;subst hy;omega) iN ((((Touch.refl [z] w6).setCell (by simp) _).setCell (by simp) _).setCell (by simp) _)⟩
structure Start(w W0:World)(F:List Nat)(z:Nat):Prop where
 t:Touch [] w W0
 b:aF W0 z 48 #[.int .i64 0,.int .i64 0,.int .i64 0]
 lo:w.heap.size≤z
 F:∀f∈F,f<w.heap.size
theorem Start.new(w:World){g:Nat}{p:Lay}{F:List Nat}{m:M}(h:ak w g p F m):Start w (w.alloc (.cells #[.int .i64 0,.int .i64 0,.int .i64 0] 48)) F w.heap.size:=
 ⟨(tR w).alloc _,aF.new w _ _,Nat.le_refl _,h.lt⟩
section
variable {w W0 W W1 W2 W3:World} {F:List Nat} {z g:Nat} {p:Lay} {m:M}
theorem Start.aq(s:Start w W0 F z):z∉F:=fun hx=>by have:=s.F z hx;have:=s.lo;omega
theorem Start.blk(s:Start w W0 F z)(k:Keep W0 g p F m W):aF W z 48 #[.int .i64 0,.int .i64 0,.int .i64 0]:=k.blk s.b s.aq
theorem Start.end_(s:Start w W0 F z)(k:Keep W0 g p F m W)(a b c:Value):Keep w g p F m (((W.setCell ⟨z,0,none⟩ a).setCell ⟨z,1,none⟩ b).setCell ⟨z,2,none⟩ c):=
 k.finish s.t (G:=[z]) (fun y hy=>by simp at hy;subst hy;exact⟨s.lo,s.b.lt⟩) s.F ((((Touch.refl [z] W).setCell (by simp) _).setCell (by simp) _).setCell (by simp) _)
end
theorem aA{W:World}{z:Nat}(h:aF W z 48 #[.int .i64 0,.int .i64 0,.int .i64 0])(a b c:Value):
 (((W.setCell ⟨z,0,none⟩ a).setCell ⟨z,1,none⟩ b).setCell ⟨z,2,none⟩ c).cell? ⟨z,0,none⟩=some a∧(((W.setCell ⟨z,0,none⟩ a).setCell ⟨z,1,none⟩ b).setCell ⟨z,2,none⟩ c).cell? ⟨z,1,none⟩=some b∧(((W.setCell ⟨z,0,none⟩ a).setCell ⟨z,1,none⟩ b).setCell ⟨z,2,none⟩ c).cell? ⟨z,2,none⟩=some c:=by
 have bS:=((h.bJ 0 a).bJ 1 b).bJ 2 c;exact⟨bS.cell 0,bS.cell 1,bS.cell 2⟩
theorem aH{W:World}{z:Nat}(h:aF W z 48 #[.int .i64 0,.int .i64 0,.int .i64 0]):
 (W.cell? ⟨z,0,none⟩=some (.int .i64 0)∧W.cell? ⟨z,1,none⟩=some (.int .i64 0)∧W.cell? ⟨z,2,none⟩=some (.int .i64 0))∧W.frozen? ⟨z,0,none⟩=false∧W.frozen? ⟨z,1,none⟩=false∧W.frozen? ⟨z,2,none⟩=false:=
 ⟨⟨h.cell 0,h.cell 1,h.cell 2⟩,h.frozen 0,h.frozen 1,h.frozen 2⟩
theorem iq{P:Program}{f:FuncId}{args:Array Value}{w:World}{v:Value}(h:Calls P f args w fun e w'=>e=.returned v∧w=w'):Calls P f args w fun e w''=>e=.returned v∧w''=w:=
 h.mono fun _ _ ⟨he,hw⟩=>⟨he,hw.symm⟩
theorem AB{w:World}{g:Nat}{p:Lay}{F:List Nat}{m:M}(h:ak w g p F m)(hf:dH m){f:Fr}{r:List Fr}(hc:dP m.fr=some (f,r))(e:Int):Calls prog 48 #[.pointer (some ⟨g,0,none⟩),.int .i64 e] w fun R w'=>R=.returned (jK (m.throw e).1)∧Keep w g p F (m.throw e).2 w':=by
 rw[nH hc];have Cu:=Start.new w h;have bq:=h.touch Cu.t (by simp);obtain⟨z,hz⟩:∃z,w.heap.size=z:=⟨_,rfl⟩;rw[hz]at Cu;have hp:=kZ bq 0 0;have HS:=hid Cu;have HF:=hid hf;clear hf Cu;go_enter func48,ntmps48;go_upto_region 3 with fail;clear hz;generalize w.alloc (.cells #[.int .i64 0,.int .i64 0,.int .i64 0] 48)=W0 at*;go_wp2_with fail;refine hp.mono ?_;rintro _ w1 ⟨rfl,k1⟩;clear hp;obtain⟨F1,h1,n1⟩:=k1.open;have c6:=h1.c6;have f6:=h1.z 6;have k2:=n1.out _ _ (h1.sO 0);clear h1 n1 k1;go_upto_region 5 with fail;generalize w1.setCell ⟨g,6,none⟩ (.int .i64 0)=w2 at*;clear c6 f6;obtain⟨F2,h2,n2⟩:=k2.open;have c3:=h2.c3;have hC:=DN h2 HF.out.fr f true r (.inl ⟨rfl,hc⟩);unfold uJ at hC;clear h2 k2;go_wp2_with fail;refine hC.mono ?_;rintro _ w3 ⟨rfl,k3⟩;clear hC c3;have K3:=n2.out _ _ k3;have hz3:W0.heap.size≤w3.heap.size:=by obtain⟨_,_,t,_⟩:=K3;exact t.size
 have pZ:=aF.new w3 45 #[.int .i64 f.k,.int .i64 f.a,.int .i64 f.b,.int .i64 f.x,.int .i64 f.y,.slice none 0 0];obtain⟨y,hy⟩:∃y,w3.heap.size=y:=⟨_,rfl⟩;rw[hy]at pZ hz3;obtain⟨F3,h3,n3⟩:=K3.open;have p6:y∉F3:=fun hx=>by have:=h3.lt y hx;omega
 obtain⟨m1,jC⟩:∃m1:M,m1={m with df:=0,on:=0,nx:=0,fr:=r}:=⟨_,rfl⟩;have ly:ak (w3.alloc (.cells #[.int .i64 f.k,.int .i64 f.a,.int .i64 f.b,.int .i64 f.x,.int .i64 f.y,.slice none 0 0] 45)) g p F3 m1:=by
  rw[jC];exact h3.touch ((tR w3).alloc (.cells #[.int .i64 f.k,.int .i64 f.a,.int .i64 f.b,.int .i64 f.x,.int .i64 f.y,.slice none 0 0] 45)) (by simp)
 have n4:Hid (∀m2 W2,Keep (w3.alloc (.cells #[.int .i64 f.k,.int .i64 f.a,.int .i64 f.b,.int .i64 f.x,.int .i64 f.y,.slice none 0 0] 45)) g p F3 m2 W2→Keep W0 g p F m2 W2):=hid fun m2 W2 k=>n3.out _ _ (k.pre ((tR w3).alloc _));have c7:=ly.c7;have hx1:=pZ.cell 1;have Sx:=pZ.lt;clear h3 n2 k3 K3 n3;go_upto_region 10 with fail;generalize w3.alloc (.cells #[.int .i64 f.k,.int .i64 f.a,.int .i64 f.b,.int .i64 f.x,.int .i64 f.y,.slice none 0 0] 45)=w4 at*;have HY:=hid (And.intro pZ (And.intro p6 (And.intro jC n4)));have ug:=(ly.touch (tR w4).drew (by simp)).iU;have SD:=DR (ly.touch (tR w4).drew (by simp)) f.a;clear ly pZ p6 jC n4 hy hz3;go_still_tail 7,(by kernel_rfl)
 still_call (iq ug)
 repeat still_step
 refine wpStill_nil ?_;change wpList _ _ _ _ _ w4.drew
 go_wp2_with fail;refine SD.mono ?_;rintro _ w5 ⟨rfl,k5⟩;have k5:=k5.pre (tR w4).drew;clear ug SD c7 hx1;obtain⟨m2,vP⟩:∃m2:M,m2={m1 with S:={m1.S with st:=nG f.a m1.S.st}}:=⟨_,rfl⟩;rw[←vP]at k5;have hl2:m2.S.st.length≤128:=by rw[vP];exact xP _ _
 obtain⟨F5,h5,n5⟩:=k5.open;have c7:=h5.c7;have ug:=h5.iU;have oZ:=Km h5 hl2 e;have zz:=hid vP;clear vP h5 k5;go_wp2_with fail;refine ug.mono ?_;rintro _ _ ⟨rfl,rfl⟩;clear ug;go_wp2_with fail;refine oZ.mono ?_;rintro _ w6 ⟨rfl,k6⟩;have k6:=n5.out _ _ k6;clear oZ n5 c7;obtain⟨m3,zE⟩:∃m3:M,m3=(m2.push e).2:=⟨_,rfl⟩;rw[←zE]at k6;have hd3:m3.I.outer.length≤8:=by rw[zE,show(m2.push e).2.I=m2.I from rfl,zz.out,HY.out.2.2.1];exact HF.out.ins
 have FA:=hid zE;clear zE;have SJ:=k6.blk HY.out.1 HY.out.2.1;obtain⟨F6,h6,n6⟩:=k6.open;have c8:=h6.c8;have hx2:=SJ.cell 2;have lA:=Oi (h6.touch (tR w6).drew (by simp)) hd3 f.b;clear h6 k6 SJ;go_upto_region 12 with fail;go_still_tail 6,(by kernel_rfl)
 change wpList _ _ _ _ _ w6.drew
 go_wp2_with fail;refine lA.mono ?_;rintro _ w7 ⟨rfl,k7⟩;have k7:=n6.out _ _ (k7.pre (tR w6).drew);clear lA n6 c8 hx2;obtain⟨m4,Ax⟩:∃m4:M,m4={m3 with I:=m3.I.dI f.b.toNat}:=⟨_,rfl⟩;rw[←Ax]at k7;have lB:m4.I.cur.text.size≤1000:=by rw[Ax];show(m3.I.dI f.b.toNat).cur.text.size≤1000;rw[FA.out,show(m2.push e).2.I=m2.I from rfl,zz.out,HY.out.2.2.1];exact(rO HF.out.text _).1
 have SM:=hid Ax;clear Ax;have FO:=k7.blk HY.out.1 HY.out.2.1;obtain⟨F7,h7,n7⟩:=k7.open;have c8:=h7.c8;have hx2:=FO.cell 2;have SC:=yQ (h7.touch (tR w7).drew (by simp));obtain⟨d,hd⟩:∃d,m4.I.outer.length=d:=⟨_,rfl⟩;rw[hd]at SC;have H7:=hid (And.intro h7 (And.intro FO hd));clear h7 k7 FO hd;go_upto_region 13 with fail;go_still_tail 7,(by kernel_rfl)
 still_call (iq SC)
 repeat still_step
 refine wpStill_nil ?_;change wpList _ _ _ _ _ w7.drew
 clear SC hx2 c8;have t8:=(tR w7).drew;have p7:=H7.out.1.touch t8 (by simp);have F0:=H7.out.2.1.touch t8 (by simp);have HM:=hid (show m4.I=m.I.dI f.b.toNat by rw[SM.out];show m3.I.dI _=_;rw[FA.out,show(m2.push e).2.I=m2.I from rfl,zz.out,HY.out.2.2.1]);have dw:∀J:lD,({m4 with I:=J}:M)={m with df:=0,on:=0,nx:=0,fr:=r,S:=(iL {m.S with st:=nG f.a m.S.st} e).2,I:=J}:=by
  intro J;rw[SM.out,FA.out,zz.out,HY.out.2.2.1];rfl
 have HJ:=hid dw;have SP:=hid (fun(m5:M) (W:World) (k:Keep w7.drew g p F7 m5 W)=>HY.out.2.2.2.out m5 W (n7.out m5 W (k.pre t8)));have AE:=H7.out.2.2;clear dw n7 t8;generalize w7.drew=w8 at*;by_cases hb:(d:Int)=f.b
 ·have hb1:((d:Int)==f.b)=true:=by simpa using hb
  have c8:=p7.c8;have hx3:=F0.cell 3;have SR:=Kn (p7.touch (tR w8).drew (by simp)) lB f.x;have HB:=hid (show m4.I.outer.length=f.b by rw[AE];exact hb);clear p7 F0 hb AE;go_wp2_with fail;go_upto_region 14 with fail;go_still_tail 6,(by kernel_rfl)
  change wpList _ _ _ _ _ w8.drew
  go_wp2_with fail;refine SR.mono ?_;rintro _ w9 ⟨rfl,k9⟩;have k9:=SP.out _ _ (k9.pre (tR w8).drew);rw[HJ.out]at k9;have hb:=HS.out.blk k9;obtain⟨⟨e0,e1,e2⟩,g0,g1,g2⟩:=aH hb;obtain⟨r0,r1,r2⟩:=aA hb (.int .i64 1) (.int .i64 0) (.int .i64 0);have HE:=hid (HS.out.end_ k9 (.int .i64 1) (.int .i64 0) (.int .i64 0));clear SR k9 hb c8 hx3 hb1;go_wp2_with fail;refine bodyPost_ret (by simp[results,results48,go_sem,r0,r1,r2];try rfl) rfl ?_;rw[back_eq,←HM.out,if_pos HB.out];exact⟨rfl,HE.out⟩
 ·have hb1:((d:Int)==f.b)=false:=by simpa using hb
  have HB:=hid (show¬(m4.I.outer.length=f.b) by rw[AE];exact hb);have k9:=SP.out _ _ (Keep.refl p7);have e9:m4={m with df:=0,on:=0,nx:=0,fr:=r,S:=(iL {m.S with st:=nG f.a m.S.st} e).2,I:=m4.I}:=HJ.out m4.I;rw[e9]at k9;have hb:=HS.out.blk k9;obtain⟨⟨e0,e1,e2⟩,g0,g1,g2⟩:=aH hb;obtain⟨r0,r1,r2⟩:=aA hb (.int .i64 1) (.int .i64 0) (.int .i64 0);have HE:=hid (HS.out.end_ k9 (.int .i64 1) (.int .i64 0) (.int .i64 0));clear k9 hb p7 F0 AE e9;go_wp2_with fail;refine bodyPost_ret (by simp[results,results48,go_sem,r0,r1,r2];try rfl) rfl ?_;rw[back_eq,←HM.out,if_neg HB.out];exact⟨rfl,HE.out⟩
end En
end Go.Proofs.YtdokeddjcpnmiaaGreatDoor
