/- Of EngineClean: EnAt FCat FIdx EnAt2 FLoc. -/
import Derived.Test.YtdokeddjcpnmiaaGreatDoorQEnRest
import Derived.Test.YtdokeddjcpnmiaaGreatDoorQFStep
set_option maxRecDepth 100000
set_option maxHeartbeats 3200000
namespace Go.Proofs.YtdokeddjcpnmiaaGreatDoor
open Go.RowKit Go.Proofs.Tryz
open Go.Lib(hid)
namespace En
def gI(x:Int×Int×Int):List Value:=[.int .i64 x.1,.int .i64 x.2.1,.int .i64 x.2.2]
theorem GQ(x:Int×Int×Int):∀u∈gI x,u.oneCell'=true:=by
 intro u hu;simp[gI]at hu;rcases hu with rfl|rfl|rfl<;>rfl
def gY:List (List Nat)→Prop
 |[]=>True
 |A::r=>(∀x∈A,∀B∈r,x∉B)∧gY r
theorem gY.head{A A':List Nat}{r:List (List Nat)}{n:Nat}(h:gY (A::r))(hs:∀x∈A',x∈A∨n≤x)(hl:∀B∈r,∀x∈B,x<n):gY (A'::r):=by
 refine⟨fun x hx B hB Gd=> ?_,h.2⟩;rcases hs x hx with g|g
 ·exact h.1 x g B hB Gd
 ·have:=hl B hB x Gd;omega
theorem gY.turn{n:Nat}{A':List Nat}:∀{r:List (List Nat)} {A:List Nat} {q:List (List Nat)},gY (r++A::q)→(∀x∈A',x∈A∨n≤x)→(∀B∈r++q,∀x∈B,x<n)→gY (r++A'::q)
 |[],A,q,h,hs,hl=>gY.head h hs hl
 |C::r,A,q,h,hs,hl=>by
  refine⟨fun x hx B hB Gd=> ?_,gY.turn h.2 hs (fun B hB=>hl B (List.mem_cons_of_mem _ hB))⟩;rcases List.mem_append.1 hB with g|g
  ·exact h.1 x hx B (List.mem_append_left _ g) Gd
  ·rcases List.mem_cons.1 g with rfl|g
   ·rcases hs x Gd with k|k
    ·exact h.1 x hx A (List.mem_append_right _ (by simp)) k
    ·have:=hl C (by simp) x hx;omega
   ·exact h.1 x hx B (List.mem_append_right _ (List.mem_cons_of_mem _ g)) Gd
theorem gY.mid{A:List Nat}:∀{r q:List (List Nat)},gY (r++A::q)→∀B∈r++q,∀x∈B,x∉A
 |[],q,h,B,hB,x,hx=>fun hxA=>h.1 x hxA B hB hx
 |C::r,q,h,B,hB,x,hx=>by
  rcases List.mem_cons.1 hB with rfl|hB
  ·exact h.1 x hx A (List.mem_append_right _ (by simp))
  ·exact gY.mid h.2 B hB x hx
structure Lay where
 s:Nat
 i:Nat
 f:Nat
structure vC(w:World)(g:Nat)(p:Lay)(cv ev wv:Value)(Ff FS FI:List Nat)(m:M):Prop where
 blk:aF w g 85 #[cv,ev,wv,.pointer (some ⟨p.f,0,none⟩),.int .i64 m.df,.int .i64 m.on,.int .i64 m.nx,.pointer (some ⟨p.s,0,none⟩),.pointer (some ⟨p.i,0,none⟩)]
 code:w.ownsRow 0 33 1 cv m.code.length (cells m.code)
 ends:w.ownsRow 0 3 1 ev m.ends.length (cells m.ends)
 words:w.ownsRow 0 35 3 wv m.words.length (m.words.flatMap gI)
 fr:aP w p.f Ff m.fr
 st:aC w p.s FS m.S
 inp:pq w p.i FI m.I
 apart:gY [[g],rowOf cv,rowOf ev,rowOf wv,Ff,FS,FI]
def fO(g:Nat)(cv ev wv:Value)(Ff FS FI:List Nat):List Nat:=[g]++(rowOf cv++(rowOf ev++(rowOf wv++(Ff++(FS++FI)))))
def ak(w:World)(g:Nat)(p:Lay)(F:List Nat)(m:M):Prop:=∃cv ev wv Ff FS FI,vC w g p cv ev wv Ff FS FI m∧F=fO g cv ev wv Ff FS FI
def Keep(w:World)(g:Nat)(p:Lay)(F:List Nat)(m:M)(w':World):Prop:=∃F',ak w' g p F' m∧Touch F w w'∧Sub w F F'
section
variable {w w':World} {g:Nat} {p:Lay} {cv ev wv:Value} {Ff FS FI F:List Nat} {m m':M}
theorem vC.lt(h:vC w g p cv ev wv Ff FS FI m):∀B∈[[g],rowOf cv,rowOf ev,rowOf wv,Ff,FS,FI],∀x∈B,x<w.heap.size:=by
 intro B hB x hx;simp only[List.mem_cons,List.not_mem_nil,or_false]at hB;rcases hB with rfl|rfl|rfl|rfl|rfl|rfl|rfl
 ·simp at hx;subst hx;exact h.blk.lt
 ·exact fG h.code hx
 ·exact fG h.ends hx
 ·exact fG h.words hx
 ·exact h.fr.lt x hx
 ·exact h.st.lt x hx
 ·exact h.inp.lt x hx
theorem ak.lt(h:ak w g p F m):∀x∈F,x<w.heap.size:=by
 obtain⟨cv,ev,wv,Ff,FS,FI,h,rfl⟩:=h;intro x hx;have k:=h.lt;simp only[fO,List.mem_append]at hx;rcases hx with hx|hx|hx|hx|hx|hx|hx
 ·exact k _ (by simp) x hx
 ·exact k (rowOf cv) (by simp) x hx
 ·exact k (rowOf ev) (by simp) x hx
 ·exact k (rowOf wv) (by simp) x hx
 ·exact k Ff (by simp) x hx
 ·exact k FS (by simp) x hx
 ·exact k FI (by simp) x hx
theorem ak.touch{G:List Nat}(h:ak w g p F m)(t:Touch G w w')(hn:∀x∈F,x∉G):ak w' g p F m:=by
 obtain⟨cv,ev,wv,Ff,FS,FI,h,rfl⟩:=h;have hm:∀B∈[[g],rowOf cv,rowOf ev,rowOf wv,Ff,FS,FI],∀x∈B,x∉G:=fun B hB x hx=>hn x (by
  simp only[List.mem_cons,List.not_mem_nil,or_false]at hB;simp only[fO,List.mem_append];rcases hB with rfl|rfl|rfl|rfl|rfl|rfl|rfl<;>simp_all)
 refine⟨cv,ev,wv,Ff,FS,FI,⟨h.blk.touch t (hm [g] (by simp) g (by simp)),aj h.code t (hm _ (by simp)),aj h.ends t (hm _ (by simp)),aj h.words t (hm _ (by simp)),h.fr.touch t (hm _ (by simp)),?_,h.inp.touch t (hm _ (by simp)),h.apart⟩,rfl⟩;obtain⟨FK,ov,mv,hp,e⟩:=h.st;exact⟨FK,ov,mv,hp.quiet t (by rw[←e];exact hm _ (by simp)),e⟩
theorem Keep.refl(h:ak w g p F m):Keep w g p F m w:=⟨F,h,Touch.refl _ _,Sub.refl _ _⟩
theorem Keep.trans{w2:World}{F1:List Nat}{m2:M}(t:Touch F w w')(s:Sub w F F1)(k:Keep w' g p F1 m2 w2):Keep w g p F m2 w2:=by
 obtain⟨F2,h,t2,s2⟩:=k;exact⟨F2,h,t.trans t2 s,fun x hx=>(s2 x hx).elim (fun g=>s x g) (fun g=>.inr (Nat.le_trans t.size g))⟩
end
end En
section
open Go.RowKit Go.Shelf
namespace En
attribute [local go_sem] Oper.semAt_some
theorem Od{β:Type}{B b:Nat}{F:List Nat}{L:β→List Fr}(hF:∀f∈F,f<B):OwnFrom B (fun(x:β) W=>aP W b F (L x)):=by
 intro s W W' row hs hg hr;cases row with
 |none=>exact hs.touch ((tR W).grown hg (by simp)) (by simp)
 |some r=>exact hs.touch ((Touch.refl [r] W).grown hg (by simp)) (fun f hf lQ=>by have h1:=hF f hf;have h2:=(hr r rfl).1;simp at lQ;omega)
theorem Sw{β:Type}{B:Nat}{F:List Nat}{w:World}(hB:w.heap.size≤B):OwnFrom B (fun(_:β) W=>Touch F w W):=by
 intro s W W' row hs hg hr;exact hs.grown hg (fun k e=>.inr (Nat.le_trans hB (hr k e).1))
theorem _root_.Go.Proofs.YtdokeddjcpnmiaaGreatDoor.Touch.Kh{F:List Nat}{W W':World}(h:Touch F W W')(B:Nat)(hF:∀f∈F,f<B):KeepsFrom B W W':=
 ⟨h.size,fun k o hB hk _=>(h.block k (Array.getElem?_eq_some_iff.1 hk).1 (fun hf=>by have:=hF k hf;omega)).trans hk⟩
theorem Sy{L:List Fr}{x:Nat}(hx:x<L.length)(h5:(L.getD x .none).k=5)(hr:∀j,x<j→j<L.length→(L.getD j .none).k≠5):dP L=some (L.getD x .none,L.take x):=by
 have e:L=L.take x++L.getD x .none::L.drop (x+1):=by
  conv=>lhs;rw[←List.take_append_drop x L]
  congr 1;rw[List.getD_eq_getElem?_getD,List.getElem?_eq_getElem hx];exact List.drop_eq_getElem_cons hx
 rw[e];have e2:(L.take x++L.getD x .none::L.drop (x+1)).take x=L.take x:=by rw[←e]
 have e3:(L.take x++L.getD x .none::L.drop (x+1)).getD x .none=L.getD x .none:=by rw[←e]
 rw[e2,e3];refine Gm h5 ?_;intro y hy;obtain⟨i,hi,rfl⟩:=List.mem_iff_getElem.1 hy;rw[List.length_drop]at hi;have h1:=hr (x+1+i) (by omega) (by omega);rw[List.getElem_drop];rwa[List.getD_eq_getElem?_getD,List.getElem?_eq_getElem (by omega)]at h1
theorem Ki(w:World)(b:Nat)(F:List Nat)(L:List Fr)(h:aP w b F L)(hL:L.length≤1000)(R:Fr)(ok:Bool)(L':List Fr)(hR:(ok=true∧dP L=some (R,L'))∨(ok=false∧dP L=none∧R=Fr.none∧L'=L)):
 Calls prog 75 #[.pointer (some ⟨b,0,none⟩)] w fun e w'=>e=.returned (.tuple #[.agg (uJ R),.bool ok])∧aP w' b F L'∧Touch F w w':=by
 suffices h:CallsIn Fence.wide 10 prog 75 #[.pointer (some ⟨b,0,none⟩)] w fun e w'=>e=.returned (.tuple #[.agg (uJ R),.bool ok])∧aP w' b F L'∧Touch F w w' from callsIn_wide.1 h
 have iN:∀f∈F,f<w.heap.size:=h.lt;obtain⟨g,cap,a,hc,ha,hg,hb,hk,uD⟩:=h.parts;obtain⟨n,hn⟩:∃n,L.length=n:=⟨_,rfl⟩;rw[hn]at hL hc ha hk uD;obtain⟨ks,zr⟩:∃ks:Nat→Int,(fun i=>(L.getD i .none).k)=ks:=⟨_,rfl⟩;have ap:∀i,(L.getD i .none).k=ks i:=fun i=>congrFun zr i;simp only[ap]at hk;have HR:=hid hR;have HF:=hid h;have HN:=hid hn;have HK:=hid ap;clear hR h hn zr ap;unfold uJ;refine callsIn_of_wp_marks func75 rfl trivial ?_ rfl;simp only[ntmps75,List.size_toArray,List.length_cons,List.length_nil,Nat.reduceAdd,Nat.reduceSub,Array.replicate_succ,Array.replicate_zero,List.push_toArray,List.append_toArray,List.nil_append,List.cons_append];gi_wp2_with fail
 refine⟨trivial,(zK 9 b _).mono ?_⟩;rintro _ _ ⟨rfl,rfl⟩;obtain⟨WA,Gf⟩:∃WA,((w.alloc (.cells #[.pointer (some ⟨b,0,none⟩)] 41)).alloc (.cells #[.int .i64 0,.int .i64 0,.int .i64 0,.int .i64 0,.int .i64 0,.slice none 0 0] 45)).alloc (.cells #[.bool false] 4)=WA:=⟨_,rfl⟩;have bP:aF WA w.heap.size 41 #[.pointer (some ⟨b,0,none⟩)]:=by rw[←Gf];exact((aF.new w _ _).alloc _).alloc _
 have bX:aF WA (w.heap.size+1) 45 #[.int .i64 0,.int .i64 0,.int .i64 0,.int .i64 0,.int .i64 0,.slice none 0 0]:=by rw[←Gf];exact(aF.dG _ (by simp) _ _).alloc _
 have bE:aF WA (w.heap.size+2) 4 #[.bool false]:=by rw[←Gf];exact aF.dG _ (by simp) _ _
 have tw:Touch [] w WA:=by rw[←Gf];exact(((tR w).alloc _).alloc _).alloc _
 have Kg:WA.heap.size=w.heap.size+3:=by rw[←Gf];simp
 rw[Gf,Kg];clear Gf;have bP:=bP.alloc (.cells #[.pointer (some ⟨b,0,none⟩)] 41);have bX:=bX.alloc (.cells #[.pointer (some ⟨b,0,none⟩)] 41);have bE:=bE.alloc (.cells #[.pointer (some ⟨b,0,none⟩)] 41);have bB:aF (WA.alloc (.cells #[.pointer (some ⟨b,0,none⟩)] 41)) (w.heap.size+3) 41 #[.pointer (some ⟨b,0,none⟩)]:=aF.dG _ Kg _ _;have tw:=tw.alloc (.cells #[.pointer (some ⟨b,0,none⟩)] 41);have hs0:(WA.alloc (.cells #[.pointer (some ⟨b,0,none⟩)] 41)).heap.size=w.heap.size+4:=by simp[Kg]
 generalize WA.alloc (.cells #[.pointer (some ⟨b,0,none⟩)] 41)=W0 at*;clear Kg;have ru:Below w.heap.size w W0:=tw.below (Nat.le_refl _) (by simp);have hc0:=(ru.cell (p:=⟨b,0,none⟩) hb).trans hc;gi_wp2_with fail
 refine wpIn_rangeFunc_ownG (F:=Fence.wide) rfl (by omega) (gf:=141) (lb:= #[.pointer (some ⟨w.heap.size+3,0,none⟩)]) rfl trivial (enters_of func141 (by kernel_rfl) rfl)
  (qH 9 (by omega) (w.heap.size+3) W0.heap.size b g n cap a (by omega) (by omega) ha W0 (by omega) (Nat.le_refl _) (bB.cell 0) hc0) belowK_t (belowK_b (Nat.le_refl _)) (Below.refl _ _) (fun _=>rfl)
  (fun pre W=>((∀x∈pre,ks x.1≠5)∧aF W w.heap.size 41 #[.pointer (some ⟨b,0,none⟩)]∧aF W (w.heap.size+1) 45 #[.int .i64 0,.int .i64 0,.int .i64 0,.int .i64 0,.int .i64 0,.slice none 0 0]∧aF W (w.heap.size+2) 4 #[.bool false])∧Below w.heap.size w W)
  (fun c pre W=>(∃GY x,pre=GY++[x]∧(∀x∈GY,ks x.1≠5)∧c=.ret∧ks x.1=5∧aF W (w.heap.size+1) 45 (uJ (L.getD x.1 .none))∧aF W (w.heap.size+2) 4 #[.bool true])∧aP W b F (match pre.getLast? with|some x=>L.take x.1|none=>[])∧Touch F w W)
  (OwnFrom.and (Own.from (fun s A B row hs hg hr=>⟨hs.1,hs.2.1.pJ hg hr,hs.2.2.1.pJ hg hr,hs.2.2.2.pJ hg hr⟩) _) (ownFrom_below (Nat.le_refl _) (by omega)))
  (fun c=>OwnFrom.and (Own.from (fun s A B row hs hg hr=>by
    obtain⟨GY,x,e1,e0,e2,e3,e4,e5⟩:=hs;exact⟨GY,x,e1,e0,e2,e3,e4.pJ hg hr,e5.pJ hg hr⟩) _) (OwnFrom.and (Od (fun f hf=>by have:=iN f hf;omega)) (Sw (by omega))))
  ⟨⟨by simp,bP,bX,bE⟩,ru⟩
  (fun x=>{tmps:= #[.pointer (some ⟨b,0,none⟩),.pointer (some ⟨w.heap.size,0,none⟩),.pointer (some ⟨w.heap.size+1,0,none⟩),.pointer (some ⟨w.heap.size+2,0,none⟩),.int .i64 (x.1:Int),.pointer (some ⟨g,x.1*6,none⟩),undef,.pointer (some ⟨b,0,none⟩),.func (.func 141) #[] #[.pointer (some ⟨w.heap.size+3,0,none⟩)],.int .i64 (x.1:Int),.pointer (some ⟨g,x.1*6,none⟩),undef,undef,undef,undef,undef,undef,undef,undef,undef,undef,undef,undef,undef,undef],defers:=[]}) ?assign ?body ?done ?stop
 case assign=>
  intro l x W K hK;gi_wp2
  exact hK
 case body=>
  rintro l pre x W ⟨⟨bG,cP,cX,cE⟩,hB⟩ hx;have hx1:x.1<n:=by have:=x.2;omega
  have p0:=cP.cell 0;have kx:=(hB.cell (p:=⟨g,x.1*6,none⟩) hg).trans (hk x.1 hx1);by_cases lr:ks x.1=5
  ·have NV:(ks x.1==5)=true:=by simpa using lr
   have hA:=HF.out.touch (Touch.dh hB []) (by simp);obtain⟨RQ,E3,WX,_,_,_⟩:=uD (by omega);have hlq:RQ.length=n:=by rw[←HN.out,WX,List.length_map]
   have E4:x.1<RQ.length:=by omega
   have hrow:=E3.row;rw[hlq]at hrow;obtain⟨v0,v1,v2,v3,v4,v5⟩:=oz (aj hrow (Touch.dh hB []) (by simp)) (List.getElem?_eq_getElem E4);have WY:(RQ[x.1]).f=L.getD x.1 .none:=by rw[WX,List.getD_eq_getElem?_getD,List.getElem?_map,List.getElem?_eq_getElem E4];rfl
   have RT:=((E3.ok _ (List.getElem_mem E4)).1 (by rw[WY,HK.out,lr];decide)).2;rw[WY]at v0 v1 v2 v3 v4;rw[RT]at v5;clear hrow E3 WX WY RT;obtain⟨f,hf⟩:∃f,L.getD x.1 .none=f:=⟨_,rfl⟩;rw[hf]at v0 v1 v2 v3 v4;have lx:f.k=5:=by rw[←hf,HK.out];exact lr
   have fK:=fun W=>Y2 (n:=7) l (MB f.k f.a f.b f.x f.y W);rw[lx]at fK;gi_wp2_with fail
   refine⟨trivial,(fK _).mono ?_⟩;rintro _ w3 ⟨rfl,t3⟩;have cP3:=(cP.touch t3 (by simp)).alloc (.cells #[.int .i64 5,.int .i64 f.a,.int .i64 f.b,.int .i64 f.x,.int .i64 f.y,.slice none 0 0] 45);have cX3:=(cX.touch t3 (by simp)).alloc (.cells #[.int .i64 5,.int .i64 f.a,.int .i64 f.b,.int .i64 f.x,.int .i64 f.y,.slice none 0 0] 45);have cE3:=(cE.touch t3 (by simp)).alloc (.cells #[.int .i64 5,.int .i64 f.a,.int .i64 f.b,.int .i64 f.x,.int .i64 f.y,.slice none 0 0] 45);have t4:=t3.alloc (.cells #[.int .i64 5,.int .i64 f.a,.int .i64 f.b,.int .i64 f.x,.int .i64 f.y,.slice none 0 0] 45);have ly:=hA.touch t4 (by simp);obtain⟨y,hy⟩:∃y,w3.heap.size=y:=⟨_,rfl⟩;have hyW:W.heap.size≤y:=by rw[←hy];exact t3.size
   have hEl:=cE.lt;have cY:=aF.dG (n:=y) w3 hy 45 #[.int .i64 5,.int .i64 f.a,.int .i64 f.b,.int .i64 f.x,.int .i64 f.y,.slice none 0 0];have q0:=cP3.cell 0;have hC:=Y2 (n:=7) l (vN _ b F _ ly (by rw[HN.out];omega) (x.1:Int));rw[show((x.1:Int)).toNat=x.1 by omega]at hC;clear p0 kx v0 v1 v2 v3 v4 v5 fK;gi_wp2_with fail
   refine⟨trivial,hC.mono ?_⟩;rintro _ w5 ⟨rfl,h5,t5⟩;have EO:∀k,w.heap.size≤k→k∉F:=fun k hk hkF=>by have:=iN k hkF;omega
   have Oe:=cX3.touch t5 (EO _ (by omega));have E6:=cE3.touch t5 (EO _ (by omega));have lz:=cY.touch t5 (EO _ (by have:=hB.size;omega));have k0:=lz.cell 0;have k1:=lz.cell 1;have k2:=lz.cell 2;have k3:=lz.cell 3;have k4:=lz.cell 4;have k5:=lz.cell 5;have f0:=Oe.frozen 0;have f1:=Oe.frozen 1;have f2:=Oe.frozen 2;have f3:=Oe.frozen 3;have f4:=Oe.frozen 4;have f5:=Oe.frozen 5;have j0:=Oe.cell 0;have j1:=Oe.cell 1;have j2:=Oe.cell 2;have j3:=Oe.cell 3;have j4:=Oe.cell 4;have j5:=Oe.cell 5;have e0:=E6.frozen 0;have e1:=E6.cell 0;gi_wp2_with fail
   have b6:=nZ Oe (.int .i64 5) (.int .i64 f.a) (.int .i64 f.b) (.int .i64 f.x) (.int .i64 f.y) (.slice none 0 0);have t6:=(gB (Touch.refl [w.heap.size+1,w.heap.size+2] w5) (b:=w.heap.size+1) (.inl (by simp)) (.int .i64 5) (.int .i64 f.a) (.int .i64 f.b) (.int .i64 f.x) (.int .i64 f.y) (.slice none 0 0)).setCell (p:=⟨w.heap.size+2,0,none⟩) (.inl (by simp)) (.bool true);have tt:Touch F w w5:=((Touch.dh hB F).trans t4 (by simp)).trans t5 (fun k hk=>.inl hk);refine⟨?_,⟨pre,x,rfl,bG,rfl,lr,?_,?_⟩,?_,?_⟩
   ·exact((t4.Sl _).trans (t5.Kh _ (fun k hk=>by have:=iN k hk;omega))).trans (t6.Kh _ (fun k hk=>by simp at hk;omega))
   ·rw[hf];have:=b6.far (p:=⟨w.heap.size+2,0,none⟩) (by simp) (.bool true);unfold uJ;rw[lx];exact this
   ·exact(((((((E6.far (by simp) _).far (by simp) _).far (by simp) _).far (by simp) _).far (by simp) _).far (by simp) _).bJ 0 _)
   ·simp only[List.getLast?_append,List.getLast?_singleton];exact h5.touch t6 (fun k hk=>by have:=iN k hk;simp;omega)
   ·exact(gB tt (.inr (by simp)) _ _ _ _ _ _).setCell (.inr (by simp)) _
  ·have NV:(ks x.1==5)=false:=by simpa using lr
   gi_wp2_with fail
   exact⟨KeepsFrom.refl _ _,Below.refl _ _,⟨⟨fun y hy=>(List.mem_append.1 hy).elim (bG y) (fun e=>by simp at e;subst e;exact lr),cP,cX,cE⟩,hB⟩⟩
 case done=>
  rintro D ys W hD rfl ⟨⟨hne,cP,cX,cE⟩,hB⟩ hK;have hnone:dP L=none:=yF fun y hy=>by
   obtain⟨i,hi,rfl⟩:=List.mem_iff_getElem.1 hy;rw[HN.out]at hi;have h1:=hne (nth n (n-1-i)) (by unfold jR;exact List.mem_map.2 ⟨n-1-i,by simp;omega,rfl⟩);have h2:(nth n (n-1-i)).1=i:=by show n-1-(n-1-i)=i;omega
   rw[h2,←HK.out,List.getD_eq_getElem?_getD,List.getElem?_eq_getElem (by rw[HN.out];exact hi)]at h1;exact h1
  rcases HR.out with⟨_,h9⟩|⟨rfl,_,rfl,rfl⟩
  ·rw[hnone]at h9;cases h9
  have f0:=cX.frozen 0;have f1:=cX.frozen 1;have f2:=cX.frozen 2;have f3:=cX.frozen 3;have f4:=cX.frozen 4;have f5:=cX.frozen 5;have j0:=cX.cell 0;have j1:=cX.cell 1;have j2:=cX.cell 2;have j3:=cX.cell 3;have j4:=cX.cell 4;have j5:=cX.cell 5;have e0:=cE.frozen 0;have e1:=cE.cell 0;have WW:=cX.lt;have E7:=cE.lt;gi_wp2_with fail
  have b6:=(nZ cX (.int .i64 0) (.int .i64 0) (.int .i64 0) (.int .i64 0) (.int .i64 0) (.slice none 0 0)).far (p:=⟨w.heap.size+2,0,none⟩) (by simp) (.bool false);have b7:=((((((cE.far (p:=⟨w.heap.size+1,0,none⟩) (by simp) (.int .i64 0)).far (p:=⟨w.heap.size+1,1,none⟩) (by simp) (.int .i64 0)).far (p:=⟨w.heap.size+1,2,none⟩) (by simp) (.int .i64 0)).far (p:=⟨w.heap.size+1,3,none⟩) (by simp) (.int .i64 0)).far (p:=⟨w.heap.size+1,4,none⟩) (by simp) (.int .i64 0)).far (p:=⟨w.heap.size+1,5,none⟩) (by simp) (.slice none 0 0)).bJ 0 (.bool false);have t6:=(gB (Touch.refl [w.heap.size+1,w.heap.size+2] W) (b:=w.heap.size+1) (.inl (by simp)) (.int .i64 0) (.int .i64 0) (.int .i64 0) (.int .i64 0) (.int .i64 0) (.slice none 0 0)).setCell (p:=⟨w.heap.size+2,0,none⟩) (.inl (by simp)) (.bool false);have hK':=(t6.Kh W0.heap.size (fun k hk=>by simp at hk;omega)).2 D _ hD hK rfl;refine⟨by simp,.inl ⟨_,_,rfl,run_takeDeferred hK',?_⟩⟩;have vO:=b6.grown (grownBy_putObj' _ D (.deferred none)) (by simp;omega);have WZ:=b7.grown (grownBy_putObj' _ D (.deferred none)) (by simp;omega);have q0:=vO.cell 0;have q1:=vO.cell 1;have q2:=vO.cell 2;have q3:=vO.cell 3;have q4:=vO.cell 4;have q5:=vO.cell 5;have q6:=WZ.cell 0;have tf:=(((Touch.dh hB F).trans t6 (fun k hk=>.inr (by simp at hk;omega))).grown (grownBy_putObj' _ D (.deferred none)) (fun k e=>.inr (by cases e;omega)));have tn:=(((Touch.dh hB []).trans t6 (fun k hk=>.inr (by simp at hk;omega))).grown (grownBy_putObj' _ D (.deferred none)) (fun k e=>.inr (by cases e;omega)));refine⟨.tuple #[.agg #[.int .i64 0,.int .i64 0,.int .i64 0,.int .i64 0,.int .i64 0,.slice none 0 0],.bool false],?_,rfl,HF.out.touch tn (by simp),tf⟩;simp[results,Tryz.f75,go_sem,q0,q1,q2,q3,q4,q5,q6]
 case stop=>
  rintro D c pre W hD ⟨k,hk,rfl⟩ ⟨⟨GY,x,e1,e0,rfl,e3,cX,cE⟩,hA,hT⟩ hK;obtain⟨k',rfl⟩:∃k',k=k'+1:=by
   cases k with
   |zero=>simp[jR]at e1
   |succ k'=>exact⟨k',rfl⟩
  rw[kY]at e1 hA;simp only[List.getLast?_append,List.getLast?_singleton]at hA;obtain⟨rfl,e5⟩:=List.append_inj' e1 rfl;obtain rfl:nth n k'=x:=by simpa using e5
  have e9:(nth n k').1=n-1-k':=rfl;obtain⟨j,hj⟩:∃j,n-1-k'=j:=⟨_,rfl⟩;rw[e9,hj]at e3 cX;have hA':aP W b F (L.take j):=by rw[←hj];exact hA
  have Sz:=Sy (L:=L) (x:=j) (by rw[HN.out];omega) (by rw[HK.out];exact e3) (fun i hi pN=>by
   rw[HK.out];rw[HN.out]at pN;have h1:=e0 (nth n (n-1-i)) (by unfold jR;exact List.mem_map.2 ⟨n-1-i,by simp;omega,rfl⟩);have h2:(nth n (n-1-i)).1=i:=by show n-1-(n-1-i)=i;omega
   rw[h2]at h1;exact h1)
  rcases HR.out with⟨rfl,h9⟩|⟨rfl,h9,rfl,rfl⟩
  ·rw[Sz]at h9;injection h9 with h9;injection h9 with h9 h10;subst h9 h10;gi_wp2_with fail
   refine⟨by simp,.inl ⟨_,_,rfl,run_takeDeferred hK,?_⟩⟩;have WW:=cX.lt;have E7:=cE.lt;have vO:=cX.grown (grownBy_putObj' _ D (.deferred none)) (by simp;omega);have WZ:=cE.grown (grownBy_putObj' _ D (.deferred none)) (by simp;omega);have q0:=vO.cell 0;have q1:=vO.cell 1;have q2:=vO.cell 2;have q3:=vO.cell 3;have q4:=vO.cell 4;have q5:=vO.cell 5;have q6:=WZ.cell 0;refine⟨.tuple #[.agg (uJ (L.getD j .none)),.bool true],?_,rfl,?_,hT.grown (grownBy_putObj' _ D (.deferred none)) (fun k e=>.inr (by cases e;omega))⟩
   ·simp[results,Tryz.f75,go_sem,q0,q1,q2,q3,q4,q5,q6]
   ·exact hA'.touch ((Touch.refl [D] W).grown (grownBy_putObj' _ D (.deferred none)) (fun k e=>by cases e;exact .inl (by simp))) (fun k hk=>by have:=iN k hk;simp;omega)
  ·rw[Sz]at h9;cases h9
end En
end
section
open Go.RowKit Go.Shelf
namespace En
attribute [local go_sem] Oper.semAt_some
theorem W9(w:World)(b g n cap:Nat)(a:Option Addr)(ks xs:Nat→Int)(hb:b<w.heap.size)(hc:w.cell? ⟨b,0,none⟩=some (.slice a n cap))(ha:n≠0→a=some ⟨g,0,none⟩)(hg:g<w.heap.size)(hn:n≤1000)
 (hk:∀i,i<n→w.cell? ⟨g,i*6,none⟩=some (.int .i64 (ks i))) (pP:∀i,i<n→w.cell? ⟨g,i*6+3,none⟩=some (.int .i64 (xs i))) (outer:Nat) (ho:outer<1000) (R:Int×Int)
 (hR:R=if outer<n∧∀i,i≤outer→ks (n-1-i)=3 then(xs (n-1-outer),0)else(0,-26)):
 Calls prog 244 #[.pointer (some ⟨b,0,none⟩),.int .i64 outer] w fun e w'=>e=.returned (.tuple #[.int .i64 R.1,.int .i64 R.2])∧Touch [] w w':=by
 suffices h:CallsIn Fence.wide 10 prog 244 #[.pointer (some ⟨b,0,none⟩),.int .i64 outer] w fun e w'=>e=.returned (.tuple #[.int .i64 R.1,.int .i64 R.2])∧Below w.heap.size w w' from
  (callsIn_wide.1 h).mono fun _ _ h=>⟨h.1,Touch.dh h.2 _⟩
 obtain⟨R1,R2⟩:=R;have HR:=hid hR;clear hR;refine callsIn_of_wp_marks func244 rfl trivial ?_ rfl;simp only[ntmps244,List.size_toArray,List.length_cons,List.length_nil,Nat.reduceAdd,Nat.reduceSub,Array.replicate_succ,Array.replicate_zero,List.push_toArray,List.append_toArray,List.nil_append,List.cons_append];gi_wp2_with fail
 refine⟨trivial,(zK 9 b _).mono ?_⟩;rintro _ _ ⟨rfl,rfl⟩;obtain⟨WA,Gf⟩:∃WA,(((w.alloc (.cells #[.pointer (some ⟨b,0,none⟩)] 41)).alloc (.cells #[.int .i64 outer] 3)).alloc (.cells #[.int .i64 0] 33)).alloc (.cells #[.int .i64 0] 29)=WA:=⟨_,rfl⟩;have bP:aF WA w.heap.size 41 #[.pointer (some ⟨b,0,none⟩)]:=by rw[←Gf];exact(((aF.new w _ _).alloc _).alloc _).alloc _
 have bO:aF WA (w.heap.size+1) 3 #[.int .i64 outer]:=by rw[←Gf];exact((aF.dG _ (by simp) _ _).alloc _).alloc _
 have bX:aF WA (w.heap.size+2) 33 #[.int .i64 0]:=by rw[←Gf];exact(aF.dG _ (by simp) _ _).alloc _
 have bE:aF WA (w.heap.size+3) 29 #[.int .i64 0]:=by rw[←Gf];exact aF.dG _ (by simp) _ _
 have tw:Touch [] w WA:=by rw[←Gf];exact((((tR w).alloc _).alloc _).alloc _).alloc _
 have Kg:WA.heap.size=w.heap.size+4:=by rw[←Gf];simp
 rw[Gf,Kg];clear Gf;have bP:=bP.alloc (.cells #[.pointer (some ⟨b,0,none⟩)] 41);have bO:=bO.alloc (.cells #[.pointer (some ⟨b,0,none⟩)] 41);have bX:=bX.alloc (.cells #[.pointer (some ⟨b,0,none⟩)] 41);have bE:=bE.alloc (.cells #[.pointer (some ⟨b,0,none⟩)] 41);have bB:aF (WA.alloc (.cells #[.pointer (some ⟨b,0,none⟩)] 41)) (w.heap.size+4) 41 #[.pointer (some ⟨b,0,none⟩)]:=aF.dG _ Kg _ _;have tw:=tw.alloc (.cells #[.pointer (some ⟨b,0,none⟩)] 41);have hs0:(WA.alloc (.cells #[.pointer (some ⟨b,0,none⟩)] 41)).heap.size=w.heap.size+5:=by simp[Kg]
 generalize WA.alloc (.cells #[.pointer (some ⟨b,0,none⟩)] 41)=W0 at*;clear Kg;have ru:Below w.heap.size w W0:=tw.below (Nat.le_refl _) (by simp);have hc0:=(ru.cell (p:=⟨b,0,none⟩) hb).trans hc;gi_wp2_with fail
 refine wpIn_rangeFunc_ownG (F:=Fence.wide) rfl (by omega) (gf:=141) (lb:= #[.pointer (some ⟨w.heap.size+4,0,none⟩)]) rfl trivial (enters_of func141 (by kernel_rfl) rfl)
  (qH 9 (by omega) (w.heap.size+4) W0.heap.size b g n cap a (by omega) (by omega) ha W0 (by omega) (Nat.le_refl _) (bB.cell 0) hc0) belowK_t (belowK_b (Nat.le_refl _)) (Below.refl _ _) (fun _=>rfl)
  (fun pre W=>((∀x∈pre,ks x.1=3∧n-1-x.1≠outer)∧aF W w.heap.size 41 #[.pointer (some ⟨b,0,none⟩)]∧aF W (w.heap.size+1) 3 #[.int .i64 outer]∧aF W (w.heap.size+2) 33 #[.int .i64 0]∧aF W (w.heap.size+3) 29 #[.int .i64 0])∧Below w.heap.size w W)
  (fun c pre W=>(∃GY x,pre=GY++[x]∧(∀x∈GY,ks x.1=3∧n-1-x.1≠outer)∧((c=.ret∧ks x.1=3∧n-1-x.1=outer∧aF W (w.heap.size+2) 33 #[.int .i64 (xs x.1)]∧aF W (w.heap.size+3) 29 #[.int .i64 0])∨(c=.exit 0∧ks x.1≠3∧aF W (w.heap.size+2) 33 #[.int .i64 0]∧aF W (w.heap.size+3) 29 #[.int .i64 0])))∧Below w.heap.size w W)
  (OwnFrom.and (Own.from (fun s A B row hs hg hr=>⟨hs.1,hs.2.1.pJ hg hr,hs.2.2.1.pJ hg hr,hs.2.2.2.1.pJ hg hr,hs.2.2.2.2.pJ hg hr⟩) _) (ownFrom_below (Nat.le_refl _) (by omega)))
  (fun c=>OwnFrom.and (Own.from (fun s A B row hs hg hr=>by
    obtain⟨GY,x,e1,e0,e2⟩:=hs;exact⟨GY,x,e1,e0,e2.imp (fun h=>⟨h.1,h.2.1,h.2.2.1,h.2.2.2.1.pJ hg hr,h.2.2.2.2.pJ hg hr⟩) (fun h=>⟨h.1,h.2.1,h.2.2.1.pJ hg hr,h.2.2.2.pJ hg hr⟩)⟩) _) (ownFrom_below (Nat.le_refl _) (by omega)))
  ⟨⟨by simp,bP,bO,bX,bE⟩,ru⟩
  (fun x=>{tmps:= #[.pointer (some ⟨b,0,none⟩),.int .i64 outer,.pointer (some ⟨w.heap.size,0,none⟩),.pointer (some ⟨w.heap.size+1,0,none⟩),.pointer (some ⟨w.heap.size+2,0,none⟩),.pointer (some ⟨w.heap.size+3,0,none⟩),.int .i64 (x.1:Int),.pointer (some ⟨g,x.1*6,none⟩),.pointer (some ⟨b,0,none⟩),.bool false,.pointer (some ⟨b,0,none⟩),.func (.func 141) #[] #[.pointer (some ⟨w.heap.size+4,0,none⟩)],.int .i64 (x.1:Int),.pointer (some ⟨g,x.1*6,none⟩),undef,undef,undef,undef,undef,undef,undef,undef,undef,undef,undef,undef,undef,undef,undef,undef,undef,undef,undef],defers:=[]}) ?assign ?body ?done ?stop
 case assign=>
  intro l x W K hK;gi_wp2
  exact hK
 case body=>
  rintro l pre x W ⟨⟨bG,cP,cO,cX,cE⟩,hB⟩ hx;have hx1:x.1<n:=by have:=x.2;omega
  have p0:=cP.cell 0;have o0:=cO.cell 0;have x0:=cX.cell 0;have xf:=cX.frozen 0;have z0:=cE.cell 0;have zf:=cE.frozen 0;have cb:=(hB.cell (p:=⟨b,0,none⟩) hb).trans hc;have kx:=(hB.cell (p:=⟨g,x.1*6,none⟩) hg).trans (hk x.1 hx1);have vx:=(hB.cell (p:=⟨g,x.1*6+3,none⟩) hg).trans (pP x.1 hx1);have lj:=hB.size;have hgg:g≠w.heap.size+2:=by omega
  have e1:IntKind.i64.wrap ((n:Int)-1)=n-1:=by rw[IntKind.wrap_i64];omega
  have e2:IntKind.i64.wrap ((n:Int)-1-x.1)=((n-1-x.1:Nat):Int):=by rw[IntKind.wrap_i64];omega
  by_cases hx3:ks x.1=3
  ·have NV:(ks x.1 != 3)=false:=by simpa using hx3
   obtain⟨q,hq⟩:∃q,(((n-1-x.1:Nat):Int)==(outer:Int))=q:=⟨_,rfl⟩;gi_wp2_with fail
   gi_region_with (fail)
   all_goals cases q
   all_goals gi_wp2_with fail
   all_goals first
    |(have Fc:n-1-x.1≠outer:=by rw[beq_eq_false_iff_ne]at hq;omega
      have sN:=dJ W0.heap.size W;have yO:Below w.heap.size w W.drew:=((Touch.dh hB []).drew).below (Nat.le_refl _) (by simp);exact⟨sN,(Below.refl _ W).drew,⟨⟨fun y hy=>(List.mem_append.1 hy).elim (bG y) (fun e=>by simp at e;subst e;exact⟨hx3,Fc⟩),cP,cO,cX,cE⟩,yO⟩⟩)
    |(have Fc:n-1-x.1=outer:=by rw[beq_iff_eq]at hq;omega
      have sN:KeepsFrom W0.heap.size W ((W.setCell ⟨w.heap.size+2,0,none⟩ (.int .i64 (xs x.1))).setCell ⟨w.heap.size+3,0,none⟩ (.int .i64 0)):=((KeepsOthers.setCell _ _ _).trans (KeepsOthers.setCell _ _ _)).from _
      have sN:=sN.trans (dJ _ _);have yO:Below w.heap.size w ((W.setCell ⟨w.heap.size+2,0,none⟩ (.int .i64 (xs x.1))).setCell ⟨w.heap.size+3,0,none⟩ (.int .i64 0)).drew:=((((Touch.dh hB []).setCell (.inr (by simp)) _).setCell (.inr (by simp)) _).drew).below (Nat.le_refl _) (by simp);exact⟨sN,⟨pre,x,rfl,bG,.inl ⟨rfl,hx3,Fc,(cX.bJ 0 _).far (by simp) _,(cE.far (by simp) _).bJ 0 _⟩⟩,yO⟩)
  ·have NV:(ks x.1 != 3)=true:=by simpa using hx3
   gi_wp2_with fail
   exact⟨KeepsFrom.refl _ _,⟨pre,x,rfl,bG,.inr ⟨rfl,hx3,cX,cE⟩⟩,hB⟩
 case done=>
  rintro D ys W hD rfl ⟨⟨hne,cP,cO,cX,cE⟩,hB⟩ hK;have hres:¬(outer<n∧∀i,i≤outer→ks (n-1-i)=3):=by
   rintro⟨h1,_⟩;have h2:=hne (nth n outer) (by unfold jR;exact List.mem_map.2 ⟨outer,by simp[h1],rfl⟩);have h3:(nth n outer).1=n-1-outer:=rfl;rw[h3]at h2;omega
  have h9:=HR.out;rw[if_neg hres]at h9;injection h9 with h9 h10;subst h9 h10;have x0:=cX.frozen 0;have x1:=cX.cell 0;have z0:=cE.frozen 0;have z1:=cE.cell 0;have WW:=cX.lt;gi_wp2_with fail
  have bz:=(cX.bJ 0 (.int .i64 0)).far (p:=⟨w.heap.size+3,0,none⟩) (by simp) (.int .i64 (-26));have Fi:=(cE.far (p:=⟨w.heap.size+2,0,none⟩) (by simp) (.int .i64 0)).bJ 0 (.int .i64 (-26));have hK':=((KeepsOthers.setCell W ⟨w.heap.size+2,0,none⟩ (.int .i64 0)).trans (KeepsOthers.setCell _ ⟨w.heap.size+3,0,none⟩ (.int .i64 (-26)))).same D _ hK rfl;refine⟨by simp,.inl ⟨_,_,rfl,run_takeDeferred hK',?_⟩⟩;have vO:=bz.grown (grownBy_putObj' _ D (.deferred none)) (by simp;omega);have WZ:=Fi.grown (grownBy_putObj' _ D (.deferred none)) (by simp;omega);have q0:=vO.cell 0;have q1:=WZ.cell 0;refine⟨.tuple #[.int .i64 0,.int .i64 (-26)],?_,rfl,?_⟩
  ·simp[results,Tryz.f244,go_sem,q0,q1]
  ·have u1:Touch [] w W:=Touch.dh hB [];exact(((u1.setCell (.inr (by show w.heap.size≤w.heap.size+1+1;omega)) _).setCell (.inr (by show w.heap.size≤w.heap.size+1+1+1;omega)) _).below (Nat.le_refl _) (by simp)).trans (belowK_b (w:=w) (Nat.le_refl _) _ D _ _ (by omega) hK' rfl rfl)
 case stop=>
  rintro D c pre W hD ⟨k,hk,rfl⟩ ⟨⟨GY,x,e1,e0,e2⟩,hB⟩ hK;obtain⟨k',rfl⟩:∃k',k=k'+1:=by
   cases k with
   |zero=>simp[jR]at e1
   |succ k'=>exact⟨k',rfl⟩
  rw[kY]at e1;obtain⟨rfl,e5⟩:=List.append_inj' e1 rfl;obtain rfl:nth n k'=x:=by simpa using e5
  have e3:(nth n k').1=n-1-k':=rfl;rw[e3]at e2;have Xa:∀i,i<k'→ks (n-1-i)=3∧n-1-(n-1-i)≠outer:=fun i hi=>e0 (nth n i) (by unfold jR;exact List.mem_map.2 ⟨i,by simp[hi],rfl⟩);rcases e2 with⟨rfl,e3,e4,cX,cE⟩|⟨rfl,e3,cX,cE⟩
  ·have hko:k'=outer:=by omega
   have h9:=HR.out;rw[if_pos ⟨by omega,fun i hi=>by
    rcases Nat.lt_or_ge i k' with h|h
    ·exact(Xa i h).1
    ·rw[show i=k' by omega];exact e3⟩]at h9
   injection h9 with h9 h10;subst h9 h10;subst hko;gi_wp2_with fail
   refine⟨by simp,.inl ⟨_,_,rfl,run_takeDeferred hK,?_⟩⟩;have WW:=cX.lt;have E7:=cE.lt;have vO:=cX.grown (grownBy_putObj' _ D (.deferred none)) (by simp;omega);have WZ:=cE.grown (grownBy_putObj' _ D (.deferred none)) (by simp;omega);have q0:=vO.cell 0;have q1:=WZ.cell 0;refine⟨.tuple #[.int .i64 (xs (n-1-k')),.int .i64 0],?_,rfl,?_⟩
   ·simp[results,Tryz.f244,go_sem,q0,q1]
   ·exact hB.trans (belowK_b (w:=w) (Nat.le_refl _) W D _ _ (by omega) hK rfl rfl)
  ·have hres:¬(outer<n∧∀i,i≤outer→ks (n-1-i)=3):=by
    rintro⟨h1,h2⟩;rcases Nat.lt_or_ge outer k' with h|h
    ·exact(Xa outer h).2 (by omega)
    ·exact e3 (h2 k' h)
   have h9:=HR.out;rw[if_neg hres]at h9;injection h9 with h9 h10;subst h9 h10;have x0:=cX.frozen 0;have x1:=cX.cell 0;have z0:=cE.frozen 0;have z1:=cE.cell 0;have WW:=cX.lt;have E7:=cE.lt;gi_wp2_with fail
   have bz:=(cX.bJ 0 (.int .i64 0)).far (p:=⟨w.heap.size+3,0,none⟩) (by simp) (.int .i64 (-26));have Fi:=(cE.far (p:=⟨w.heap.size+2,0,none⟩) (by simp) (.int .i64 0)).bJ 0 (.int .i64 (-26));have hK':=((KeepsOthers.setCell W ⟨w.heap.size+2,0,none⟩ (.int .i64 0)).trans (KeepsOthers.setCell _ ⟨w.heap.size+3,0,none⟩ (.int .i64 (-26)))).same D _ hK rfl;refine⟨by simp,.inl ⟨_,_,rfl,run_takeDeferred hK',?_⟩⟩;have vO:=bz.grown (grownBy_putObj' _ D (.deferred none)) (by simp;omega);have WZ:=Fi.grown (grownBy_putObj' _ D (.deferred none)) (by simp;omega);have q0:=vO.cell 0;have q1:=WZ.cell 0;refine⟨.tuple #[.int .i64 0,.int .i64 (-26)],?_,rfl,?_⟩
   ·simp[results,Tryz.f244,go_sem,q0,q1]
   ·have u1:Touch [] w W:=Touch.dh hB [];exact(((u1.setCell (.inr (by show w.heap.size≤w.heap.size+1+1;omega)) _).setCell (.inr (by show w.heap.size≤w.heap.size+1+1+1;omega)) _).below (Nat.le_refl _) (by simp)).trans (belowK_b (w:=w) (Nat.le_refl _) _ D _ _ (by omega) hK' rfl rfl)
end En
end
namespace En
def ko(p:Lay)(cv ev wv:Value)(m:M):Array Value:= #[cv,ev,wv,.pointer (some ⟨p.f,0,none⟩),.int .i64 m.df,.int .i64 m.on,.int .i64 m.nx,.pointer (some ⟨p.s,0,none⟩),.pointer (some ⟨p.i,0,none⟩)]
section
variable {w w':World} {g:Nat} {p:Lay} {cv ev wv:Value} {Ff FS FI F:List Nat} {m m':M}
theorem fA{x:Nat}:x∈fO g cv ev wv Ff FS FI↔x=g∨x∈rowOf cv∨x∈rowOf ev∨x∈rowOf wv∨x∈Ff∨x∈FS∨x∈FI:=by simp[fO]
theorem vC.off(h:vC w g p cv ev wv Ff FS FI m):(∀x∈[g],x∉Ff∧x∉FS∧x∉FI)∧(∀x∈rowOf cv,x∉[g]∧x∉Ff∧x∉FS∧x∉FI)∧(∀x∈rowOf ev,x∉[g]∧x∉Ff∧x∉FS∧x∉FI)∧(∀x∈rowOf wv,x∉[g]∧x∉Ff∧x∉FS∧x∉FI)∧(∀x∈Ff,x∉[g]∧x∉FS∧x∉FI)∧(∀x∈FS,x∉[g]∧x∉Ff∧x∉FI)∧∀x∈FI,x∉[g]∧x∉Ff∧x∉FS:=by
 have hg:=fun B hB x hx=>gY.mid (r:=[]) h.apart B hB x hx;have hf:=fun B hB x hx=>gY.mid (r:=[[g],rowOf cv,rowOf ev,rowOf wv]) h.apart B hB x hx;have hs:=fun B hB x hx=>gY.mid (r:=[[g],rowOf cv,rowOf ev,rowOf wv,Ff]) h.apart B hB x hx;have hi:=fun B hB x hx=>gY.mid (r:=[[g],rowOf cv,rowOf ev,rowOf wv,Ff,FS]) h.apart B hB x hx;exact⟨fun x hx=>⟨hf [g] (by simp) x hx,hs [g] (by simp) x hx,hi [g] (by simp) x hx⟩,
  fun x hx=>⟨hg (rowOf cv) (by simp) x hx,hf (rowOf cv) (by simp) x hx,hs (rowOf cv) (by simp) x hx,hi (rowOf cv) (by simp) x hx⟩,
  fun x hx=>⟨hg (rowOf ev) (by simp) x hx,hf (rowOf ev) (by simp) x hx,hs (rowOf ev) (by simp) x hx,hi (rowOf ev) (by simp) x hx⟩,
  fun x hx=>⟨hg (rowOf wv) (by simp) x hx,hf (rowOf wv) (by simp) x hx,hs (rowOf wv) (by simp) x hx,hi (rowOf wv) (by simp) x hx⟩,
  fun x hx=>⟨hg Ff (by simp) x hx,hs Ff (by simp) x hx,hi Ff (by simp) x hx⟩,
  fun x hx=>⟨hg FS (by simp) x hx,hf FS (by simp) x hx,hi FS (by simp) x hx⟩,
  fun x hx=>⟨hg FI (by simp) x hx,hf FI (by simp) x hx,hs FI (by simp) x hx⟩⟩
theorem gJ{S:PS}{s:Nat}{FS G:List Nat}(h:aC w s FS S)(t:Touch G w w')(hn:∀x∈FS,x∉G):aC w' s FS S:=by
 obtain⟨FK,ov,mv,hp,e⟩:=h;exact⟨FK,ov,mv,hp.quiet t (by rw[←e];exact hn),e⟩
theorem vC.mW(h:vC w g p cv ev wv Ff FS FI m){zt:List Nat}{L:List Fr}(hf:aP w' p.f zt L)(t:Touch Ff w w')(s:Sub w Ff zt):Keep w g p (fO g cv ev wv Ff FS FI) {m with fr:=L} w':=by
 obtain⟨a1,a2,a3,a4,a5,a6,a7⟩:=h.off;refine⟨fO g cv ev wv zt FS FI,⟨cv,ev,wv,zt,FS,FI,⟨h.blk.touch t (a1 g (by simp)).1,aj h.code t (fun x hx=>(a2 x hx).2.1),aj h.ends t (fun x hx=>(a3 x hx).2.1),aj h.words t (fun x hx=>(a4 x hx).2.1),hf,gJ h.st t (fun x hx=>(a6 x hx).2.1),h.inp.touch t (fun x hx=>(a7 x hx).2.1),?_⟩,rfl⟩,t.mono (fun x hx=>.inl (fA.2 (by simp[hx]))),?_⟩
 ·exact gY.turn (r:=[[g],rowOf cv,rowOf ev,rowOf wv]) h.apart (fun x hx=>s x hx) (fun B hB x hx=>h.lt B (by simp at hB;rcases hB with e|e|e|e|e|e<;>simp[e]) x hx)
 ·intro x hx;rw[fA]at hx⊢;rcases hx with e|e|e|e|e|e|e
  ·simp[e]
  ·simp[e]
  ·simp[e]
  ·simp[e]
  ·rcases s x e with k|k
   ·simp[k]
   ·exact .inr k
  ·simp[e]
  ·simp[e]
theorem vC.pS(h:vC w g p cv ev wv Ff FS FI m){yH:List Nat}{S:PS}(hs:aC w' p.s yH S)(t:Touch FS w w')(s:Sub w FS yH):ak w' g p (fO g cv ev wv Ff yH FI) {m with S:=S}∧Touch (fO g cv ev wv Ff FS FI) w w'∧Sub w (fO g cv ev wv Ff FS FI) (fO g cv ev wv Ff yH FI):=by
 obtain⟨a1,a2,a3,a4,a5,a6,a7⟩:=h.off;refine⟨⟨cv,ev,wv,Ff,yH,FI,⟨h.blk.touch t (a1 g (by simp)).2.1,aj h.code t (fun x hx=>(a2 x hx).2.2.1),aj h.ends t (fun x hx=>(a3 x hx).2.2.1),aj h.words t (fun x hx=>(a4 x hx).2.2.1),h.fr.touch t (fun x hx=>(a5 x hx).2.1),hs,h.inp.touch t (fun x hx=>(a7 x hx).2.2),?_⟩,rfl⟩,t.mono (fun x hx=>.inl (fA.2 (by simp[hx]))),?_⟩
 ·exact gY.turn (r:=[[g],rowOf cv,rowOf ev,rowOf wv,Ff]) h.apart (fun x hx=>s x hx) (fun B hB x hx=>h.lt B (by simp at hB;rcases hB with e|e|e|e|e|e<;>simp[e]) x hx)
 ·intro x hx;rw[fA]at hx⊢;rcases hx with e|e|e|e|e|e|e
  ·simp[e]
  ·simp[e]
  ·simp[e]
  ·simp[e]
  ·simp[e]
  ·rcases s x e with k|k
   ·simp[k]
   ·exact .inr k
  ·simp[e]
theorem vC.Ss(h:vC w g p cv ev wv Ff FS FI m){yH:List Nat}{S:PS}(hs:aC w' p.s yH S)(t:Touch FS w w')(s:Sub w FS yH):Keep w g p (fO g cv ev wv Ff FS FI) {m with S:=S} w':=⟨_,h.pS hs t s⟩
theorem vC.pT(h:vC w g p cv ev wv Ff FS FI m){zv:List Nat}{I:lD}(hs:pq w' p.i zv I)(t:Touch FI w w')(s:Sub w FI zv):Keep w g p (fO g cv ev wv Ff FS FI) {m with I:=I} w':=by
 obtain⟨a1,a2,a3,a4,a5,a6,a7⟩:=h.off;refine⟨fO g cv ev wv Ff FS zv,⟨cv,ev,wv,Ff,FS,zv,⟨h.blk.touch t (a1 g (by simp)).2.2,aj h.code t (fun x hx=>(a2 x hx).2.2.2),aj h.ends t (fun x hx=>(a3 x hx).2.2.2),aj h.words t (fun x hx=>(a4 x hx).2.2.2),h.fr.touch t (fun x hx=>(a5 x hx).2.2),gJ h.st t (fun x hx=>(a6 x hx).2.2),hs,?_⟩,rfl⟩,t.mono (fun x hx=>.inl (fA.2 (by simp[hx]))),?_⟩
 ·exact gY.turn (r:=[[g],rowOf cv,rowOf ev,rowOf wv,Ff,FS]) h.apart (fun x hx=>s x hx) (fun B hB x hx=>h.lt B (by simp at hB;rcases hB with e|e|e|e|e|e<;>simp[e]) x hx)
 ·intro x hx;rw[fA]at hx⊢;rcases hx with e|e|e|e|e|e|e
  ·simp[e]
  ·simp[e]
  ·simp[e]
  ·simp[e]
  ·simp[e]
  ·simp[e]
  ·rcases s x e with k|k
   ·simp[k]
   ·exact .inr k
theorem vC.own(h:vC w g p cv ev wv Ff FS FI m)(d o n:Int)(hb:aF w' g 85 (ko p cv ev wv {m with df:=d,on:=o,nx:=n}))(t:Touch [g] w w'):Keep w g p (fO g cv ev wv Ff FS FI) {m with df:=d,on:=o,nx:=n} w':=by
 obtain⟨a1,a2,a3,a4,a5,a6,a7⟩:=h.off;exact⟨fO g cv ev wv Ff FS FI,⟨cv,ev,wv,Ff,FS,FI,⟨hb,aj h.code t (fun x hx=>(a2 x hx).1),aj h.ends t (fun x hx=>(a3 x hx).1),aj h.words t (fun x hx=>(a4 x hx).1),h.fr.touch t (fun x hx=>(a5 x hx).1),gJ h.st t (fun x hx=>(a6 x hx).1),h.inp.touch t (fun x hx=>(a7 x hx).1),h.apart⟩,rfl⟩,t.mono (fun x hx=>.inl (fA.2 (by simp at hx;simp[hx]))),Sub.refl _ _⟩
theorem vC.iO(h:vC w g p cv ev wv Ff FS FI m){FK Fo:List Nat}{ov mv:Value}{L:List Int}(hp:iB w p.s FK ov mv m.S)(e:FS=foot p.s m.S FK ov mv)(hs:aG w' m.S.k Fo L)(t:Touch FK w w')(s:Sub w FK Fo):Keep w g p (fO g cv ev wv Ff FS FI) {m with S:={m.S with st:=L}} w':=by
 subst e;exact h.Ss (S:={m.S with st:=L}) ⟨Fo,ov,mv,hp.stack hs t,rfl⟩ (t.mono (fun x hx=>.inl (aI x hx))) (dV s)
theorem Keep.then{w2:World}{m2:M}(k:Keep w g p F m w')(k2:∀F',ak w' g p F' m→Keep w' g p F' m2 w2):Keep w g p F m2 w2:=by
 obtain⟨F',h,t,s⟩:=k;exact Keep.trans t s (k2 F' h)
theorem Keep.quiet{w2:World}(k:Keep w g p F m w')(t2:Touch [] w' w2):Keep w g p F m w2:=k.then fun F' h=>⟨F',h.touch t2 (by simp),t2.mono (by simp),Sub.refl _ _⟩
theorem Keep.pre{w0:World}(t:Touch [] w0 w)(k:Keep w g p F m' w'):Keep w0 g p F m' w':=Keep.trans (t.mono (by simp)) (Sub.refl _ _) k
end
abbrev jK(s:St):Value:=.agg #[.int .i64 s.1,.int .i64 s.2.1,.int .i64 s.2.2]
theorem rM(w:World)(s k:Nat)(c:w.cell? ⟨s,1,none⟩=some (.pointer (some ⟨k,0,none⟩))):Calls prog 15 #[.pointer (some ⟨s,0,none⟩)] w fun e w'=>e=.returned (.pointer (some ⟨k,0,none⟩))∧w=w':=by
 go_enter func15,ntmps15;go_wp2_with fail;go_ret;exact⟨rfl,rfl⟩
end En
section
open Go.RowKit Go.Shelf
namespace En
attribute [local go_sem] Oper.semAt_some
def pW(ks:Nat→Int):Nat→Option Nat
 |0=>none
 |n+1=>if ks n=4∨ks n=1 then some n else pW ks n
theorem DV{ks:Nat→Int}:∀{n:Nat},(∀j,j<n→¬(ks j=4∨ks j=1))→pW ks n=none
 |0,_=>rfl
 |n+1,h=>by
  unfold pW;rw[if_neg (h n (by omega))];exact DV fun j hj=>h j (by omega)
theorem MX{ks:Nat→Int}:∀{n m:Nat},m<n→(ks m=4∨ks m=1)→(∀j,m<j→j<n→¬(ks j=4∨ks j=1))→pW ks n=some m
 |0,m,h,_,_=>absurd h (Nat.not_lt_zero _)
 |n+1,m,h,h1,h2=>by
  unfold pW;by_cases e:m=n
  ·rw[if_pos (e▸h1),e]
  ·rw[if_neg (h2 n (by omega) (by omega))];exact MX (by omega) h1 fun j hj yy=>h2 j hj (by omega)
def xX(ks:Nat→Int)(ns gs:Nat→Nat)(i:Int)(j:Nat):Option Addr:=if ks j=4∧0≤i∧i<ns j then some ⟨gs j,i.toNat,none⟩else none
theorem O9(w:World)(b g n cap:Nat)(a:Option Addr)(ks:Nat→Int)(vs:Nat→Option Addr)(ns cs gs:Nat→Nat)(hb:b<w.heap.size)(hc:w.cell? ⟨b,0,none⟩=some (.slice a n cap))(ha:n≠0→a=some ⟨g,0,none⟩)(hg:g<w.heap.size)(hn:n≤1000)
 (hk:∀j,j<n→w.cell? ⟨g,j*6,none⟩=some (.int .i64 (ks j))) (hv:∀j,j<n→w.cell? ⟨g,j*6+5,none⟩=some (.slice (vs j) (ns j) (cs j))) (hvs:∀j,j<n→ns j≠0→vs j=some ⟨gs j,0,none⟩) (i:Int) (R:Option Addr) (hR:R=(match pW ks n with|none=>none|some j=>xX ks ns gs i j)):
 Calls prog 143 #[.pointer (some ⟨b,0,none⟩),.int .i64 i] w fun e w'=>e=.returned (.pointer R)∧Touch [] w w':=by
 suffices h:CallsIn Fence.wide 10 prog 143 #[.pointer (some ⟨b,0,none⟩),.int .i64 i] w fun e w'=>e=.returned (.pointer R)∧Below w.heap.size w w' from
  (callsIn_wide.1 h).mono fun _ _ h=>⟨h.1,Touch.dh h.2 _⟩
 have HR:=hid hR;clear hR;refine callsIn_of_wp_marks func143 rfl trivial ?_ rfl;simp only[ntmps143,List.size_toArray,List.length_cons,List.length_nil,Nat.reduceAdd,Nat.reduceSub,Array.replicate_succ,Array.replicate_zero,List.push_toArray,List.append_toArray,List.nil_append,List.cons_append];gi_wp2_with fail
 refine⟨trivial,(zK 9 b _).mono ?_⟩;rintro _ _ ⟨rfl,rfl⟩;have bK:aF (((w.alloc (.cells #[.int .i64 i] 3)).alloc (.cells #[.pointer none] 189)).alloc (.cells #[.pointer (some ⟨b,0,none⟩)] 41)) w.heap.size 3 #[.int .i64 i]:=((aF.new w _ _).alloc _).alloc _;have bP:aF (((w.alloc (.cells #[.int .i64 i] 3)).alloc (.cells #[.pointer none] 189)).alloc (.cells #[.pointer (some ⟨b,0,none⟩)] 41)) (w.heap.size+1) 189 #[.pointer none]:=(aF.dG _ (by simp) _ _).alloc _;have bB:aF (((w.alloc (.cells #[.int .i64 i] 3)).alloc (.cells #[.pointer none] 189)).alloc (.cells #[.pointer (some ⟨b,0,none⟩)] 41)) (w.heap.size+2) 41 #[.pointer (some ⟨b,0,none⟩)]:=aF.dG _ (by simp) _ _;have tw:=(((tR w).alloc (.cells #[.int .i64 i] 3)).alloc (.cells #[.pointer none] 189)).alloc (.cells #[.pointer (some ⟨b,0,none⟩)] 41);have Kg:((w.alloc (.cells #[.int .i64 i] 3)).alloc (.cells #[.pointer none] 189)).heap.size=w.heap.size+2:=by simp
 have hs0:(((w.alloc (.cells #[.int .i64 i] 3)).alloc (.cells #[.pointer none] 189)).alloc (.cells #[.pointer (some ⟨b,0,none⟩)] 41)).heap.size=w.heap.size+3:=by simp
 rw[Kg];generalize hW0:((w.alloc (.cells #[.int .i64 i] 3)).alloc (.cells #[.pointer none] 189)).alloc (.cells #[.pointer (some ⟨b,0,none⟩)] 41)=W0 at*;clear hW0 Kg;have ru:Below w.heap.size w W0:=tw.below (Nat.le_refl _) (by simp);have hc0:=(ru.cell (p:=⟨b,0,none⟩) hb).trans hc;gi_wp2_with fail
 refine wpIn_rangeFunc_ownG (F:=Fence.wide) rfl (by omega) (gf:=141) (lb:= #[.pointer (some ⟨w.heap.size+2,0,none⟩)]) rfl trivial (enters_of func141 (by kernel_rfl) rfl)
  (qH 9 (by omega) (w.heap.size+2) W0.heap.size b g n cap a (by omega) (by omega) ha W0 (by omega) (Nat.le_refl _) (bB.cell 0) hc0) belowK_t (belowK_b (Nat.le_refl _)) (Below.refl _ _) (fun _=>rfl)
  (fun pre W=>((∀x∈pre,¬(ks x.1=4∨ks x.1=1))∧aF W w.heap.size 3 #[.int .i64 i]∧aF W (w.heap.size+1) 189 #[.pointer none])∧Below w.heap.size w W)
  (fun c pre W=>(∃GY x,pre=GY++[x]∧(∀x∈GY,¬(ks x.1=4∨ks x.1=1))∧c=.ret∧(ks x.1=4∨ks x.1=1)∧aF W (w.heap.size+1) 189 #[.pointer (xX ks ns gs i x.1)])∧Below w.heap.size w W)
  (OwnFrom.and (Own.from (fun s A B row hs hg hr=>⟨hs.1,hs.2.1.pJ hg hr,hs.2.2.pJ hg hr⟩) _) (ownFrom_below (Nat.le_refl _) (by omega)))
  (fun c=>OwnFrom.and (Own.from (fun s A B row hs hg hr=>by
    obtain⟨GY,x,e1,e0,e2,e3,e4⟩:=hs;exact⟨GY,x,e1,e0,e2,e3,e4.pJ hg hr⟩) _) (ownFrom_below (Nat.le_refl _) (by omega)))
  ⟨⟨by simp,bK,bP⟩,ru⟩
  (fun x=>{tmps:= #[.pointer (some ⟨b,0,none⟩),.int .i64 i,undef,.pointer (some ⟨w.heap.size,0,none⟩),.pointer (some ⟨w.heap.size+1,0,none⟩),undef,.pointer (some ⟨g,x.1*6,none⟩),.pointer (some ⟨b,0,none⟩),.func (.func 141) #[] #[.pointer (some ⟨w.heap.size+2,0,none⟩)],.int .i64 (x.1:Int),.pointer (some ⟨g,x.1*6,none⟩),undef,undef,undef,undef,undef,undef,undef,undef,undef,undef,undef,undef,undef,undef,undef,undef,undef,undef,undef,undef,undef,undef,undef,undef,undef,undef,undef,undef,undef,undef,undef,undef,undef,undef,undef,undef,undef,undef],defers:=[]}) ?assign ?body ?done ?stop
 case assign=>
  intro l x W K hK;gi_wp2
  exact hK
 case body=>
  rintro l pre x W ⟨⟨bG,cK,cP⟩,hB⟩ hx;have hx1:x.1<n:=by have:=x.2;omega
  have k0:=cK.cell 0;have p0:=cP.frozen 0;have p1:=cP.cell 0;have kx:=(hB.cell (p:=⟨g,x.1*6,none⟩) hg).trans (hk x.1 hx1);have vx:=(hB.cell (p:=⟨g,x.1*6+5,none⟩) hg).trans (hv x.1 hx1);have lj:=hB.size;have xY:=hid bG;have HVS:=hid (hvs x.1 hx1);clear bG;by_cases h4:ks x.1=4
  ·rw[h4]at kx;by_cases hr:0≤i∧i<ns x.1
   ·obtain⟨hr1,hr2⟩:=hr;have KF:xX ks ns gs i x.1=some ⟨gs x.1,i.toNat,none⟩:=if_pos ⟨h4,hr1,hr2⟩;rw[HVS.out (by omega)]at vx;obtain⟨k,rfl⟩:∃k:Nat,i=k:=⟨i.toNat,by omega⟩;have q1:(k:Int)≥0:=hr1;rw[show((k:Int)).toNat=k by omega]at KF;gi_wp2_with fail
    gi_region_with (fail)
    all_goals gi_wp2_with fail
    all_goals gi_region_with (fail)
    all_goals gi_wp2_with fail
    all_goals
     have sN:KeepsFrom W0.heap.size W (W.setCell ⟨w.heap.size+1,0,none⟩ (.pointer (some ⟨gs x.1,k,none⟩))):=(KeepsOthers.setCell _ _ _).from _
     have yO:Touch [] w (W.setCell ⟨w.heap.size+1,0,none⟩ (.pointer (some ⟨gs x.1,k,none⟩))):=(Touch.dh hB []).setCell (.inr (by simp)) _;have KS:aF (W.setCell ⟨w.heap.size+1,0,none⟩ (.pointer (some ⟨gs x.1,k,none⟩))) (w.heap.size+1) 189 #[.pointer (xX ks ns gs k x.1)]:=by rw[KF];exact cP.bJ 0 _
     first
      |exact⟨sN,⟨pre,x,rfl,xY.out,rfl,.inl h4,KS⟩,yO.below (Nat.le_refl _) (by simp)⟩
      |exact⟨sN.trans (dJ _ _),⟨pre,x,rfl,xY.out,rfl,.inl h4,KS⟩,yO.drew.below (Nat.le_refl _) (by simp)⟩
      |exact⟨(sN.trans (dJ _ _)).trans (dJ _ _),⟨pre,x,rfl,xY.out,rfl,.inl h4,KS⟩,yO.drew.drew.below (Nat.le_refl _) (by simp)⟩
   ·have KF:xX ks ns gs i x.1=none:=if_neg fun e=>hr ⟨e.2.1,e.2.2⟩;rcases Int.lt_or_le i 0 with hr1|hr1
    ·have q1:¬i≥0:=by omega
     gi_wp2_with fail
     gi_region_with (fail)
     all_goals gi_wp2_with fail
     all_goals(try gi_region_with (fail))
     all_goals(try gi_wp2_with fail)
     all_goals
      have sN:KeepsFrom W0.heap.size W (W.setCell ⟨w.heap.size+1,0,none⟩ (.pointer none)):=(KeepsOthers.setCell _ _ _).from _
      have yO:Touch [] w (W.setCell ⟨w.heap.size+1,0,none⟩ (.pointer none)):=(Touch.dh hB []).setCell (.inr (by simp)) _;have KS:aF (W.setCell ⟨w.heap.size+1,0,none⟩ (.pointer none)) (w.heap.size+1) 189 #[.pointer (xX ks ns gs i x.1)]:=by rw[KF];exact cP.bJ 0 _
      first
       |exact⟨sN,⟨pre,x,rfl,xY.out,rfl,.inl h4,KS⟩,yO.below (Nat.le_refl _) (by simp)⟩
       |exact⟨sN.trans (dJ _ _),⟨pre,x,rfl,xY.out,rfl,.inl h4,KS⟩,yO.drew.below (Nat.le_refl _) (by simp)⟩
       |exact⟨(sN.trans (dJ _ _)).trans (dJ _ _),⟨pre,x,rfl,xY.out,rfl,.inl h4,KS⟩,yO.drew.drew.below (Nat.le_refl _) (by simp)⟩
    ·have q1:i≥0:=by omega
     have q2:¬i<ns x.1:=fun e=>hr ⟨hr1,e⟩;gi_wp2_with fail
     gi_region_with (fail)
     all_goals gi_wp2_with fail
     all_goals(try gi_region_with (fail))
     all_goals(try gi_wp2_with fail)
     all_goals
      have sN:KeepsFrom W0.heap.size W (W.setCell ⟨w.heap.size+1,0,none⟩ (.pointer none)):=(KeepsOthers.setCell _ _ _).from _
      have yO:Touch [] w (W.setCell ⟨w.heap.size+1,0,none⟩ (.pointer none)):=(Touch.dh hB []).setCell (.inr (by simp)) _;have KS:aF (W.setCell ⟨w.heap.size+1,0,none⟩ (.pointer none)) (w.heap.size+1) 189 #[.pointer (xX ks ns gs i x.1)]:=by rw[KF];exact cP.bJ 0 _
      first
       |exact⟨sN,⟨pre,x,rfl,xY.out,rfl,.inl h4,KS⟩,yO.below (Nat.le_refl _) (by simp)⟩
       |exact⟨sN.trans (dJ _ _),⟨pre,x,rfl,xY.out,rfl,.inl h4,KS⟩,yO.drew.below (Nat.le_refl _) (by simp)⟩
       |exact⟨(sN.trans (dJ _ _)).trans (dJ _ _),⟨pre,x,rfl,xY.out,rfl,.inl h4,KS⟩,yO.drew.drew.below (Nat.le_refl _) (by simp)⟩
  ·have h4':(ks x.1==4)=false:=by simpa using h4
   have KF:xX ks ns gs i x.1=none:=if_neg fun e=>h4 e.1;by_cases h1:ks x.1=1
   ·rw[h1]at kx h4';gi_wp2_with fail
    gi_region_with (fail)
    all_goals gi_wp2_with fail
    all_goals(try gi_region_with (fail))
    all_goals(try gi_wp2_with fail)
    all_goals
     have sN:KeepsFrom W0.heap.size W (W.setCell ⟨w.heap.size+1,0,none⟩ (.pointer none)):=(KeepsOthers.setCell _ _ _).from _
     have yO:Touch [] w (W.setCell ⟨w.heap.size+1,0,none⟩ (.pointer none)):=(Touch.dh hB []).setCell (.inr (by simp)) _;have KS:aF (W.setCell ⟨w.heap.size+1,0,none⟩ (.pointer none)) (w.heap.size+1) 189 #[.pointer (xX ks ns gs i x.1)]:=by rw[KF];exact cP.bJ 0 _
     first
      |exact⟨sN,⟨pre,x,rfl,xY.out,rfl,.inr h1,KS⟩,yO.below (Nat.le_refl _) (by simp)⟩
      |exact⟨sN.trans (dJ _ _),⟨pre,x,rfl,xY.out,rfl,.inr h1,KS⟩,yO.drew.below (Nat.le_refl _) (by simp)⟩
      |exact⟨(sN.trans (dJ _ _)).trans (dJ _ _),⟨pre,x,rfl,xY.out,rfl,.inr h1,KS⟩,yO.drew.drew.below (Nat.le_refl _) (by simp)⟩
   ·have cg:(ks x.1==1)=false:=by simpa using h1
    gi_wp2_with fail
    gi_region_with (fail)
    all_goals gi_wp2_with fail
    all_goals(try gi_region_with (fail))
    all_goals(try gi_wp2_with fail)
    all_goals
     have sN:=dJ W0.heap.size W;have yO:Below w.heap.size w W.drew:=((Touch.dh hB []).drew).below (Nat.le_refl _) (by simp);have JT:Below w.heap.size w W.drew.drew:=((Touch.dh hB []).drew.drew).below (Nat.le_refl _) (by simp);have J0:∀y∈pre++[x],¬(ks y.1=4∨ks y.1=1):=fun y hy=>(List.mem_append.1 hy).elim (xY.out y) (fun e=>by simp at e;subst e;exact fun e=>e.elim h4 h1)
     first
      |exact⟨sN,(Below.refl _ W).drew,⟨⟨J0,cK,cP⟩,yO⟩⟩
      |exact⟨sN.trans (dJ _ _),(Below.refl _ W).drew.drew,⟨⟨J0,cK,cP⟩,JT⟩⟩
      |exact⟨KeepsFrom.refl _ _,Below.refl _ _,⟨⟨J0,cK,cP⟩,hB⟩⟩
 case done=>
  rintro D ys W hD rfl ⟨⟨hne,cK,cP⟩,hB⟩ hK;have hnone:pW ks n=none:=DV fun j hj=>by
   have h1:=hne (nth n (n-1-j)) (by unfold jR;exact List.mem_map.2 ⟨n-1-j,by simp;omega,rfl⟩);have h2:(nth n (n-1-j)).1=j:=by show n-1-(n-1-j)=j;omega
   rw[h2]at h1;exact h1
  have hR:=HR.out;rw[hnone]at hR;subst hR;have p0:=cP.frozen 0;have p1:=cP.cell 0;have WW:=cP.lt;gi_wp2_with fail
  have bz:=cP.bJ 0 (.pointer none);have hK':=(KeepsOthers.setCell W ⟨w.heap.size+1,0,none⟩ (.pointer none)).same D _ hK rfl;refine⟨by simp,.inl ⟨_,_,rfl,run_takeDeferred hK',?_⟩⟩;have vO:=bz.grown (grownBy_putObj' _ D (.deferred none)) (by simp;omega);have q0:=vO.cell 0;refine⟨.pointer none,?_,rfl,?_⟩
  ·simp[results,Tryz.f143,go_sem,q0]
  ·have u1:Touch [] w W:=Touch.dh hB [];exact((u1.setCell (.inr (by simp)) _).below (Nat.le_refl _) (by simp)).trans (belowK_b (w:=w) (Nat.le_refl _) _ D _ _ (by omega) hK' rfl rfl)
 case stop=>
  rintro D c pre W hD ⟨k,hk,rfl⟩ ⟨⟨GY,x,e1,e0,rfl,e3,cP⟩,hB⟩ hK;obtain⟨k',rfl⟩:∃k',k=k'+1:=by
   cases k with
   |zero=>simp[jR]at e1
   |succ k'=>exact⟨k',rfl⟩
  rw[kY]at e1;obtain⟨rfl,e5⟩:=List.append_inj' e1 rfl;obtain rfl:nth n k'=x:=by simpa using e5
  have e9:(nth n k').1=n-1-k':=rfl;rw[e9]at e3 cP;have Xa:∀j,j<k'→¬(ks (n-1-j)=4∨ks (n-1-j)=1):=fun j hj=>e0 (nth n j) (by unfold jR;exact List.mem_map.2 ⟨j,by simp[hj],rfl⟩);have hat:pW ks n=some (n-1-k'):=MX (by omega) e3 fun j h1 h2=>by
   have:=Xa (n-1-j) (by omega);rwa[show n-1-(n-1-j)=j by omega]at this
  have hR:=HR.out;rw[hat]at hR;subst hR;gi_wp2_with fail
  refine⟨by simp,.inl ⟨_,_,rfl,run_takeDeferred hK,?_⟩⟩;have WW:=cP.lt;have vO:=cP.grown (grownBy_putObj' _ D (.deferred none)) (by simp;omega);have q0:=vO.cell 0;refine⟨.pointer (xX ks ns gs i (n-1-k')),?_,rfl,?_⟩
  ·simp[results,Tryz.f143,go_sem,q0]
  ·exact hB.trans (belowK_b (w:=w) (Nat.le_refl _) W D _ _ (by omega) hK rfl rfl)
end En
end
end Go.Proofs.YtdokeddjcpnmiaaGreatDoor
