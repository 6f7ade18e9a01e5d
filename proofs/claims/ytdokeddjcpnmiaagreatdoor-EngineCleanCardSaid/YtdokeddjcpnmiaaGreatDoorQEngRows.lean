/- Of EngineClean: Eng29 EngRows TAdd TAdd2 EngRun R12 R12b Xt Built EngRun2 EngRunL. -/
import Derived.Test.YtdokeddjcpnmiaaGreatDoorQEng27
import Derived.Laws.AppendOwn
set_option maxRecDepth 100000
set_option maxHeartbeats 3200000
namespace Go.Proofs.YtdokeddjcpnmiaaGreatDoor
open Go.RowKit Go.Proofs.Tryz
open Go.Lib(hid)
namespace En
def M.new(S:PS)(I:lD):M:=⟨[],[],[],[],0,0,0,S,I⟩
theorem Td(w:World)(s i:Nat)(FS FI:List Nat)(S:PS)(I:lD)(hS:aC w s FS S)(hI:pq w i FI I)(hd:∀x∈FS,x∉FI):Calls prog 32 #[.pointer (some ⟨s,0,none⟩),.pointer (some ⟨i,0,none⟩)] w fun e w'=>
 ∃g f F,e=.returned (.pointer (some ⟨g,0,none⟩))∧ak w' g ⟨s,i,f⟩ F (M.new S I)∧Touch [] w w'∧w.heap.size≤g∧w.heap.size≤f∧(∀x∈F,x∈FS∨x∈FI∨w.heap.size≤x):=by
 have hF:=RP w;have HH:=hid (And.intro hS (And.intro hI hd));clear hS hI hd;go_enter func32,ntmps32;go_wp2_with fail;refine hF.mono ?_;rintro _ w1 ⟨rfl,hf,t1⟩;obtain⟨f,hff⟩:∃f,w.heap.size=f:=⟨_,rfl⟩;rw[hff]at hf;have HF:=hid (And.intro hf t1);clear hF hf t1;go_wp2_with fail;go_ret;obtain⟨hf,t1⟩:=HF.out;obtain⟨hS,hI,hd⟩:=HH.out;have Jy:=hf.lt f (by simp);have t2:=(tR w1).alloc (.cells #[.slice none 0 0,.slice none 0 0,.slice none 0 0,.pointer (some ⟨f,0,none⟩),.int .i64 0,.int .i64 0,.int .i64 0,.pointer (some ⟨s,0,none⟩),.pointer (some ⟨i,0,none⟩)] 85);have t:=t1.trans t2 (by simp);have Ty:=hS.lt;have TC:=hI.lt;have hz:=t1.size;refine⟨w1.heap.size,f,fO w1.heap.size (.slice none 0 0) (.slice none 0 0) (.slice none 0 0) [f] FS FI,rfl,⟨.slice none 0 0,.slice none 0 0,.slice none 0 0,[f],FS,FI,⟨aF.new w1 _ _,World.ownsRow_nil _ _ _ _,World.ownsRow_nil _ _ _ _,World.ownsRow_nil _ _ _ _,hf.touch t2 (by simp),gJ hS t (by simp),hI.touch t (by simp),?_⟩,rfl⟩,t,hz,by omega,?_⟩
 ·refine⟨fun x hx B hB Gd=> ?_,⟨fun x hx=>by simp[rowOf]at hx,⟨fun x hx=>by simp[rowOf]at hx,⟨fun x hx=>by simp[rowOf]at hx,⟨fun x hx B hB Gd=> ?_,⟨fun x hx B hB Gd=> ?_,⟨fun x _ B hB=>by simp at hB,trivial⟩⟩⟩⟩⟩⟩⟩
  ·simp at hx;subst hx;simp only[List.mem_cons,List.not_mem_nil,or_false]at hB;rcases hB with rfl|rfl|rfl|rfl|rfl|rfl
   ·simp[rowOf]at Gd
   ·simp[rowOf]at Gd
   ·simp[rowOf]at Gd
   ·simp at Gd;omega
   ·have:=Ty _ Gd;omega
   ·have:=TC _ Gd;omega
  ·simp at hx;subst hx;simp only[List.mem_cons,List.not_mem_nil,or_false]at hB;rcases hB with rfl|rfl
   ·have:=Ty _ Gd;omega
   ·have:=TC _ Gd;omega
  ·simp only[List.mem_cons,List.not_mem_nil,or_false]at hB;subst hB;exact hd x hx Gd
 ·intro x hx;rw[fA]at hx;rcases hx with e|e|e|e|e|e|e
  ·exact .inr (.inr (by omega))
  ·simp[rowOf]at e
  ·simp[rowOf]at e
  ·simp[rowOf]at e
  ·simp at e;exact .inr (.inr (by omega))
  ·exact .inl e
  ·exact .inr (.inl e)
def kC:lD:=⟨.none,[],0⟩
def Y9(w:World)(g:Nat)(p:Lay)(F:List Nat)(S:PS)(w':World):Prop:=ak w' g p F (M.new S kC)∧(∀x∈F,w.heap.size≤x)∧Touch [] w w'∧S.n=1024∧S.st=[]∧S.bs=vH (List.replicate 1024 0) 0 10 8∧S.here=8∧S.out=[]∧S.made=[]
theorem cj(w:World):pq (w.alloc (.cells (gZ ⟨.none,[],0⟩ (.slice none 0 0)) 115)) w.heap.size [w.heap.size] kC:=⟨.slice none 0 0,aF.new _ _ _,rfl,by simp[rowOf],World.ownsRow_nil _ _ _ _⟩
section
variable {w:World} {g:Nat} {p:Lay} {F:List Nat} {m:M}
theorem sP(h:ak w g p F m):Calls prog 14 #[.pointer (some ⟨g,0,none⟩)] w fun e w'=>e=.returned (.pointer (some ⟨p.s,0,none⟩))∧w=w':=by
 have c7:=h.c7;clear h;go_enter func14,ntmps14;go_wp2_with fail;go_ret;exact⟨rfl,rfl⟩
theorem nO(h:ak w g p F m):Calls prog 17 #[.pointer (some ⟨g,0,none⟩)] w fun e w'=>e=.returned (.pointer (some ⟨p.f,0,none⟩))∧w=w':=by
 have c3:=h.c3;clear h;go_enter func17,ntmps17;go_wp2_with fail;go_ret;exact⟨rfl,rfl⟩
theorem Ht(h:ak w g p F m)(hw:m.words.length≤1000000)(x:Int)(u:Int×Int×Int)(hx:m.word x=some u):Calls prog 19 #[.pointer (some ⟨g,0,none⟩),.int .i64 x] w fun e w'=>e=.returned (.int .i64 0)∧Keep w g p F {m with nx:=x} w':=by
 have hF:=iC h hw x;unfold iJ at hF;rw[hx]at hF;have c6:=h.c6;have f6:=h.z 6;have HK:=hid (h.sO x);clear h hx;go_enter func19,ntmps19;go_wp2_with fail;refine hF.mono ?_;rintro _ _ ⟨_,rfl,rfl,b,i,rfl,_⟩;clear hF;go_wp2_with fail;go_ret;exact⟨rfl,HK.out⟩
end
def cm(w:World)(e:Ending)(w':World):Prop:=∃g p F S,e=.returned (.pointer (some ⟨g,0,none⟩))∧Y9 w g p F S w'
theorem OB(w:World)(s k:Nat)(c:w.cell? ⟨s,2,none⟩=some (.pointer (some ⟨k,0,none⟩))):Calls prog 56 #[.pointer (some ⟨s,0,none⟩)] w fun e w'=>e=.returned (.pointer (some ⟨k,0,none⟩))∧w=w':=by
 go_enter func56,ntmps56;go_wp2_with fail;go_ret;exact⟨rfl,rfl⟩
theorem fJ(w:World):Calls prog 37 #[] w (cm w):=by
 have hP:=WH 1024 (by decide) (by decide) (by decide) w;rw[show((1024:Nat):Int)=1024 from rfl]at hP;go_enter func37,ntmps37;go_wp2_with fail;refine hP.mono ?_;rintro _ w1 ⟨s,FS,S,rfl,hS,pG,t1,e1,e2,e3,e4,e5,e6⟩;have hb:=hS;obtain⟨FK,ov,mv,hp,rfl⟩:=hb;have hK:=rM w1 s S.k (hp.blk.cell 1);have hM:=OB w1 s S.m (hp.blk.cell 2);have HH:=hid (And.intro hS (And.intro pG (And.intro t1 (And.intro e1 (And.intro e2 (And.intro e3 (And.intro e4 (And.intro e5 e6))))))));clear hP hS pG t1 e1 e2 e3 e4 e5 e6 hp;go_wp2_with fail;refine hK.mono ?_;rintro _ _ ⟨rfl,rfl⟩;clear hK;go_wp2_with fail;refine hM.mono ?_;rintro _ _ ⟨rfl,rfl⟩;clear hM;have hN:=JJ w1;go_wp2_with fail;refine hN.mono ?_;rintro _ _ ⟨rfl,rfl⟩;clear hN;have hI:=cj w1;have tI:=(tR w1).alloc (.cells (gZ ⟨.none,[],0⟩ (.slice none 0 0)) 115);have Rs:=gJ HH.out.1 tI (by simp);have hlt:=HH.out.1.lt;have hE:=Td _ s w1.heap.size _ [w1.heap.size] S kC Rs hI (fun x hx hx2=>by simp at hx2;have:=hlt x hx;omega);have HI:=hid (And.intro tI (show w1.heap.size<(w1.alloc (.cells (gZ ⟨.none,[],0⟩ (.slice none 0 0)) 115)).heap.size by simp));clear hI tI Rs hlt;obtain⟨i,hi⟩:∃i,w1.heap.size=i:=⟨_,rfl⟩;rw[hi]at hE;go_wp2_with fail;refine hE.mono ?_;rintro _ w2 ⟨g,f,F,rfl,EL,t2,hg,hf,hF⟩;have ug:=sP EL;have Hu:=nO EL;obtain⟨hS,pG,t1,e1,e2,e3,e4,e5,e6⟩:=HH.out;have HR:Hid (Y9 w g ⟨s,i,f⟩ F S w2):=hid ⟨EL,fun x hx=>(hF x hx).elim (pG x) (fun h=>h.elim (fun h=>by simp at h;have:=t1.size;omega) (fun h=>by have:=t1.size;have:=HI.out.2;omega)),(t1.trans HI.out.1 (by simp)).trans t2 (by simp),e1,e2,e3,e4,e5,e6⟩;clear hE EL t2 hg hf hF hS pG t1 e1 e2 e3 e4 e5 e6 hi;go_wp2_with fail;refine ug.mono ?_;rintro _ _ ⟨rfl,rfl⟩;clear ug;go_wp2_with fail;refine Hu.mono ?_;rintro _ _ ⟨rfl,rfl⟩;clear Hu;go_wp2_with fail;go_ret;exact⟨g,_,F,S,rfl,HR.out⟩
section
variable {w w':World} {g:Nat} {p:Lay} {cv ev wv:Value} {Ff FS FI:List Nat} {m:M}
theorem vC.kD(h:vC w g p cv ev wv Ff FS FI m):(∀x∈rowOf cv,x≠g∧x∉rowOf ev∧x∉rowOf wv)∧(∀x∈rowOf ev,x≠g∧x∉rowOf wv∧x∉rowOf cv)∧∀x∈rowOf wv,x≠g∧x∉rowOf cv∧x∉rowOf ev:=by
 have hc:=fun B hB x hx=>gY.mid (r:=[[g]]) h.apart B hB x hx;have he:=fun B hB x hx=>gY.mid (r:=[[g],rowOf cv]) h.apart B hB x hx;have hw:=fun B hB x hx=>gY.mid (r:=[[g],rowOf cv,rowOf ev]) h.apart B hB x hx;refine⟨fun x hx=>⟨fun e=>hc [g] (by simp) g (by simp) (e▸hx),fun k=>hc (rowOf ev) (by simp) x k hx,fun k=>hc (rowOf wv) (by simp) x k hx⟩,
  fun x hx=>⟨fun e=>he [g] (by simp) g (by simp) (e▸hx),fun k=>he (rowOf wv) (by simp) x k hx,fun k=>he (rowOf cv) (by simp) x k hx⟩,
  fun x hx=>⟨fun e=>hw [g] (by simp) g (by simp) (e▸hx),fun k=>hw (rowOf cv) (by simp) x k hx,fun k=>hw (rowOf ev) (by simp) x k hx⟩⟩
theorem vC.wds(h:vC w g p cv ev wv Ff FS FI m){wv':Value}{L:List (Int×Int×Int)}(hb:aF w' g 85 (ko p cv ev wv' m))(hr:w'.ownsRow 0 35 3 wv' L.length (L.flatMap gI))(t:Touch (g::rowOf wv) w w')(s:Sub w (rowOf wv) (rowOf wv')):
 Keep w g p (fO g cv ev wv Ff FS FI) {m with words:=L} w':=by
 obtain⟨a1,a2,a3,a4,a5,a6,a7⟩:=h.off;obtain⟨b1,b2,b3⟩:=h.kD;have off:∀x,x≠g→x∉rowOf wv→x∉g::rowOf wv:=fun x h1 h2 h3=>(List.mem_cons.1 h3).elim h1 h2;refine⟨fO g cv ev wv' Ff FS FI,⟨cv,ev,wv',Ff,FS,FI,⟨hb,aj h.code t (fun x hx=>off x (b1 x hx).1 (b1 x hx).2.2),aj h.ends t (fun x hx=>off x (b2 x hx).1 (b2 x hx).2.1),hr,
  h.fr.touch t (fun x hx=>off x (fun e=>(a5 x hx).1 (by simp[e])) (fun k=>(a4 x k).2.1 hx)),gJ h.st t (fun x hx=>off x (fun e=>(a6 x hx).1 (by simp[e])) (fun k=>(a4 x k).2.2.1 hx)),h.inp.touch t (fun x hx=>off x (fun e=>(a7 x hx).1 (by simp[e])) (fun k=>(a4 x k).2.2.2 hx)),?_⟩,rfl⟩,t.mono (fun x hx=>.inl (fA.2 (by rcases List.mem_cons.1 hx with e|e<;>simp[e]))),?_⟩
 ·exact gY.turn (r:=[[g],rowOf cv,rowOf ev]) h.apart (fun x hx=>s x hx) (fun B hB x hx=>h.lt B (by simp at hB;rcases hB with e|e|e|e|e|e<;>simp[e]) x hx)
 ·intro x hx;rw[fA]at hx⊢;rcases hx with e|e|e|e|e|e|e
  ·simp[e]
  ·simp[e]
  ·simp[e]
  ·rcases s x e with k|k
   ·simp[k]
   ·exact .inr k
  ·simp[e]
  ·simp[e]
  ·simp[e]
theorem vC.cds(h:vC w g p cv ev wv Ff FS FI m){cv':Value}{L:List Int}(hb:aF w' g 85 (ko p cv' ev wv m))(hr:w'.ownsRow 0 33 1 cv' L.length (cells L))(t:Touch (g::rowOf cv) w w')(s:Sub w (rowOf cv) (rowOf cv')):
 Keep w g p (fO g cv ev wv Ff FS FI) {m with code:=L} w':=by
 obtain⟨a1,a2,a3,a4,a5,a6,a7⟩:=h.off;obtain⟨b1,b2,b3⟩:=h.kD;have off:∀x,x≠g→x∉rowOf cv→x∉g::rowOf cv:=fun x h1 h2 h3=>(List.mem_cons.1 h3).elim h1 h2;refine⟨fO g cv' ev wv Ff FS FI,⟨cv',ev,wv,Ff,FS,FI,⟨hb,hr,aj h.ends t (fun x hx=>off x (b2 x hx).1 (b2 x hx).2.2),aj h.words t (fun x hx=>off x (b3 x hx).1 (b3 x hx).2.1),
  h.fr.touch t (fun x hx=>off x (fun e=>(a5 x hx).1 (by simp[e])) (fun k=>(a2 x k).2.1 hx)),gJ h.st t (fun x hx=>off x (fun e=>(a6 x hx).1 (by simp[e])) (fun k=>(a2 x k).2.2.1 hx)),h.inp.touch t (fun x hx=>off x (fun e=>(a7 x hx).1 (by simp[e])) (fun k=>(a2 x k).2.2.2 hx)),?_⟩,rfl⟩,t.mono (fun x hx=>.inl (fA.2 (by rcases List.mem_cons.1 hx with e|e<;>simp[e]))),?_⟩
 ·exact gY.turn (r:=[[g]]) h.apart (fun x hx=>s x hx) (fun B hB x hx=>h.lt B (by simp at hB;rcases hB with e|e|e|e|e|e<;>simp[e]) x hx)
 ·intro x hx;rw[fA]at hx⊢;rcases hx with e|e|e|e|e|e|e
  ·simp[e]
  ·rcases s x e with k|k
   ·simp[k]
   ·exact .inr k
  ·simp[e]
  ·simp[e]
  ·simp[e]
  ·simp[e]
  ·simp[e]
theorem vC.nds(h:vC w g p cv ev wv Ff FS FI m){ev':Value}{L:List Int}(hb:aF w' g 85 (ko p cv ev' wv m))(hr:w'.ownsRow 0 3 1 ev' L.length (cells L))(t:Touch (g::rowOf ev) w w')(s:Sub w (rowOf ev) (rowOf ev')):
 Keep w g p (fO g cv ev wv Ff FS FI) {m with ends:=L} w':=by
 obtain⟨a1,a2,a3,a4,a5,a6,a7⟩:=h.off;obtain⟨b1,b2,b3⟩:=h.kD;have off:∀x,x≠g→x∉rowOf ev→x∉g::rowOf ev:=fun x h1 h2 h3=>(List.mem_cons.1 h3).elim h1 h2;refine⟨fO g cv ev' wv Ff FS FI,⟨cv,ev',wv,Ff,FS,FI,⟨hb,aj h.code t (fun x hx=>off x (b1 x hx).1 (b1 x hx).2.1),hr,aj h.words t (fun x hx=>off x (b3 x hx).1 (b3 x hx).2.2),
  h.fr.touch t (fun x hx=>off x (fun e=>(a5 x hx).1 (by simp[e])) (fun k=>(a3 x k).2.1 hx)),gJ h.st t (fun x hx=>off x (fun e=>(a6 x hx).1 (by simp[e])) (fun k=>(a3 x k).2.2.1 hx)),h.inp.touch t (fun x hx=>off x (fun e=>(a7 x hx).1 (by simp[e])) (fun k=>(a3 x k).2.2.2 hx)),?_⟩,rfl⟩,t.mono (fun x hx=>.inl (fA.2 (by rcases List.mem_cons.1 hx with e|e<;>simp[e]))),?_⟩
 ·exact gY.turn (r:=[[g],rowOf cv]) h.apart (fun x hx=>s x hx) (fun B hB x hx=>h.lt B (by simp at hB;rcases hB with e|e|e|e|e|e<;>simp[e]) x hx)
 ·intro x hx;rw[fA]at hx⊢;rcases hx with e|e|e|e|e|e|e
  ·simp[e]
  ·simp[e]
  ·rcases s x e with k|k
   ·simp[k]
   ·exact .inr k
  ·simp[e]
  ·simp[e]
  ·simp[e]
  ·simp[e]
end
def qJ(k:Int):Nat:=if k=1 then 107 else if k=2 then 9 else if k=3 then 17 else 47
theorem Ky(k:Int)(h1:1≤k)(h4:k≤4)(w:World)(m:Int)(hm:w.cell? ⟨3,0,none⟩=some (.int .i64 m)):Calls prog 95 #[.int .i64 k] w fun e w'=>∃L:List ByteArray,e=.returned (.slice (some ⟨w.heap.size,0,none⟩) (qJ k) (qJ k))∧w.alloc (.cells (L.map Value.string).toArray 9)=w'∧L.length=qJ k∧∀x∈L,x≠.empty:=by
 rcases(by omega:k=1∨k=2∨k=3∨k=4)with rfl|rfl|rfl|rfl
 ·exact RJ w m hm
 ·exact RL w m hm
 ·exact RN w m hm
 ·exact RO w m hm
theorem Te(k:Int)(h1:1≤k)(h4:k≤4)(j:Nat)(hj:j<qJ k)(w:World)(m:Int)(hm:w.cell? ⟨3,0,none⟩=some (.int .i64 m)):Calls prog 62 #[.int .i64 k,.int .i64 ((j:Int)+1)] w fun e w'=>∃s,e=.returned (.string s)∧s≠.empty∧Touch [] w w':=by
 have hN:=Ky k h1 h4 w m hm;have hk:qJ k≤107:=by unfold qJ;split<;>(try split)<;>(try split)<;>omega
 obtain⟨n,hn⟩:∃n,qJ k=n:=⟨_,rfl⟩;rw[hn]at hN hj hk;have d1:decide ((j:Int)+1<1)=false:=by simp;omega
 have d2:decide ((j:Int)+1>(n:Int))=false:=by simp;omega
 clear hm hn h1 h4;go_enter func62,ntmps62;go_wp2_with fail;refine hN.mono ?_;rintro _ w1 ⟨L,rfl,rfl,hl,hne⟩;have bL:=aF.new w 9 (L.map Value.string).toArray;have cL:=bL.cell j;have e1:((L.map Value.string).toArray)[j]? =some (.string (L.getD j .empty)):=by
  rw[List.getElem?_toArray,List.getElem?_map,List.getD_eq_getElem?_getD,List.getElem?_eq_getElem (by omega)];rfl
 have hx:L.getD j .empty≠.empty:=by
  rw[List.getD_eq_getElem?_getD,List.getElem?_eq_getElem (show j<L.length by omega)];exact hne _ (List.getElem_mem _)
 rw[e1]at cL;obtain⟨s,hs⟩:∃s,L.getD j .empty=s:=⟨_,rfl⟩;rw[hs]at cL hx;have HX:=hid (And.intro hx ((tR w).alloc (.cells (L.map Value.string).toArray 9)));clear hN hl hne bL e1 hx hs;obtain⟨q,hq⟩:∃q,w.heap.size=q:=⟨_,rfl⟩;rw[hq]at cL⊢;clear hq;generalize w.alloc (.cells (L.map Value.string).toArray 9)=w1 at*;go_wp2_with fail;go_ret;exact⟨s,rfl,HX.out.1,HX.out.2⟩
theorem cp{s:ByteArray}(hs:s≠.empty):s.toList.isEmpty=false∧(!s.toList.isEmpty)=true:=by
 have h:s.toList.isEmpty=false:=by
  cases hh:s.toList.isEmpty with
  |false=>rfl
  |true=>
   refine absurd (zG ?_) hs;rw[←ByteArray.toList_eq];exact List.isEmpty_iff.1 hh
 exact⟨h,by rw[h];rfl⟩
def rN(m:M)(k n:Int):Prop:=(1≤k∧k≤4∧1≤n∧n≤qJ k)∨((k=5∨k=7)∧1≤n∧n≤m.ends.length)∨((k=6∨k=9)∧n=0)∨(k=8∧0≤n∧n≤m.words.length)
section
variable {w:World} {g:Nat} {p:Lay} {F:List Nat} {m:M}
theorem Xn(h:ak w g p F m)(k n v:Int)(hm:rN m k n)(ml:Int)(qo:w.cell? ⟨3,0,none⟩=some (.int .i64 ml)):Calls prog 41 #[.pointer (some ⟨g,0,none⟩),.agg #[.int .i64 k,.int .i64 n,.int .i64 v]] w fun e w'=>e=.returned (.bool true)∧Touch [] w w':=by
 have tB:=(tR w).alloc (.cells #[.int .i64 k,.int .i64 n,.int .i64 v] 35);have bB:=aF.new w 35 #[.int .i64 k,.int .i64 n,.int .i64 v];have hE:=h.touch tB (by simp);have qo:=ah tB qo;obtain⟨z,hz⟩:∃z,w.heap.size=z:=⟨_,rfl⟩;rw[hz]at bB;have x0:=bB.cell 0;have x1:=bB.cell 1;rcases hm with⟨h1,h4,n1,n2⟩|⟨hk,n1,n2⟩|⟨hk,rfl⟩|⟨rfl,n1,n2⟩
 ·obtain⟨j,rfl⟩:∃j:Nat,n=(j:Int)+1:=⟨(n-1).toNat,by omega⟩;have hN:=Te k h1 h4 j (by omega) _ ml qo;have HT:=hid tB;clear h hE tB bB qo n1 n2;rcases(by omega:k=1∨k=2∨k=3∨k=4)with rfl|rfl|rfl|rfl
  all_goals clear h1 h4
  all_goals go_enter func41,ntmps41
  all_goals go_upto_region 1 with fail
  all_goals clear hz
  all_goals generalize w.alloc (.cells #[.int .i64 _,.int .i64 ((j:Int)+1),.int .i64 v] 35)=W0 at*
  all_goals go_wp2_with fail
  all_goals refine hN.mono ?_
  all_goals rintro _ w1 ⟨s,rfl,hs,t1⟩
  all_goals obtain⟨hs1,hs2⟩:=cp hs
  all_goals have HF:=hid (HT.out.trans t1 (by simp))
  all_goals clear hs t1 hN
  all_goals go_wp2_with fail
  all_goals go_ret
  all_goals exact⟨rfl,HF.out⟩
 ·obtain⟨cv,ev,wv,Ff,FS,FI,hL,rfl⟩:=hE;have c1:=hL.blk.cell 1;obtain⟨ea,ec,Gh⟩:=bn hL.ends;rw[Gh]at c1;simp only[List.getElem?_toArray,List.getElem?_cons_succ,List.getElem?_cons_zero]at c1;obtain⟨len,hlen⟩:∃len,m.ends.length=len:=⟨_,rfl⟩;rw[hlen]at c1 n2;have d1:decide (n≥1)=true:=by simpa using n1
  have d2:decide (n≤(len:Int))=true:=by simpa using n2
  have HT:=hid tB;clear h hL tB bB qo Gh hlen n1 n2;rcases hk with rfl|rfl
  all_goals go_enter func41,ntmps41
  all_goals go_upto_region 1 with fail
  all_goals clear hz
  all_goals generalize w.alloc (.cells #[.int .i64 _,.int .i64 n,.int .i64 v] 35)=W0 at*
  all_goals go_wp2_with fail
  all_goals go_quiet (fail)
  all_goals go_wp2_with fail
  all_goals go_ret
  all_goals exact⟨rfl,HT.out.drewN _⟩
 ·have HT:=hid tB;clear h hE tB bB qo;rcases hk with rfl|rfl
  all_goals go_enter func41,ntmps41
  all_goals go_upto_region 1 with fail
  all_goals clear hz
  all_goals generalize w.alloc (.cells #[.int .i64 _,.int .i64 0,.int .i64 v] 35)=W0 at*
  all_goals go_wp2_with fail
  all_goals go_ret
  all_goals exact⟨rfl,HT.out⟩
 ·obtain⟨⟨cv,ev,wv,hb,_,_,wa,wc,rfl⟩,_⟩:=hE.view;have c2:=hb.cell 2;unfold ko at c2;simp only[List.getElem?_toArray,List.getElem?_cons_succ,List.getElem?_cons_zero]at c2;obtain⟨len,hlen⟩:∃len,m.words.length=len:=⟨_,rfl⟩;rw[hlen]at c2 n2;have d1:decide (n≥0)=true:=by simpa using n1
  have d2:decide (n≤(len:Int))=true:=by simpa using n2
  have HT:=hid tB;clear h hE tB bB qo hlen n1 n2 hb;go_enter func41,ntmps41;go_upto_region 1 with fail;clear hz;generalize w.alloc (.cells #[.int .i64 8,.int .i64 n,.int .i64 v] 35)=W0 at*;go_wp2_with fail;go_quiet (fail)
  go_wp2_with fail;go_ret;exact⟨rfl,HT.out.drewN _⟩
end
theorem OC:(prog.info? 35).map (fun i=>(i.zero,i.size,i.bytes))=some (some (.agg #[.int .i64 0,.int .i64 0,.int .i64 0]),3,24):=by kernel_rfl
theorem Kz:∃i0,prog.info? 35=some i0∧i0.zero=some (.agg #[.int .i64 0,.int .i64 0,.int .i64 0])∧i0.size=3∧i0.bytes=24:=by
 have h:=OC;cases hi:prog.info? 35 with
 |none=>rw[hi]at h;cases h
 |some i=>
  rw[hi]at h;simp only[Option.map_some,Option.some.injEq,Prod.mk.injEq]at h;exact⟨i,rfl,h.1,h.2.1,h.2.2⟩
theorem rP{w:World}{wv:Value}{L:List (Int×Int×Int)}(h:w.ownsRow 0 35 3 wv L.length (L.flatMap gI)):∃a c,wv=.slice a L.length c:=by
 rcases Go.Joins.ownsRow_forms h with⟨h1,h0⟩|⟨g,cap,h1⟩
 ·exact⟨none,0,by rw[h1,h0]⟩
 ·exact⟨_,_,h1⟩
theorem Xo{w1 W w2:World}{g:Nat}{p:Lay}{cv ev wv:Value}{Ff FS FI:List Nat}{m:M}{b cap n:Nat}(x:Int×Int×Int)(h:vC w1 g p cv ev wv Ff FS FI m)(t:Touch [] w1 W)(hn:m.words.length=n)
 (hown:w2.ownsRow 0 35 3 (.slice (some ⟨b,0,none⟩) (n+1) cap) (n+1) (m.words.flatMap gI++gI x)) (hgr:W.grownBy w2 wv.ownBlock) (hat:wv.ownBlock=some b∨b=W.heap.size):
 Keep w1 g p (fO g cv ev wv Ff FS FI) {m with words:=m.words++[x]} (w2.setCell ⟨g,2,none⟩ (.slice (some ⟨b,0,none⟩) (n+1) cap)):=by
 have NZ:=h.blk.lt;have hz:=t.size;have lN:g∉rowOf wv:=fun k=>(h.kD.2.2 g k).1 rfl;have hbg:b≠g:=by
  rintro rfl;rcases hat with e|e
  ·exact lN (aB.2 e)
  ·omega
 have hb2:aF w2 g 85 (ko p cv ev wv m):=(h.blk.touch t (by simp)).grown hgr (fun e=>lN (aB.2 e.symm));have t2:Touch (g::rowOf wv) w1 w2:=(t.mono (by simp)).grown hgr fun k hk=>.inl (by simp[aB,hk]);refine h.wds (wv':=.slice (some ⟨b,0,none⟩) (n+1) cap) (L:=m.words++[x]) (hb2.bJ 2 _) ?_ (t2.setCell (by simp) _) ?_
 ·have e:(m.words++[x]).flatMap gI=m.words.flatMap gI++gI x:=by simp
  have el:(m.words++[x]).length=n+1:=by simp[hn]
  rw[e,el];exact aj hown (F:=[g]) ((Touch.refl _ _).setCell (by simp) _) (by simp[rowOf];exact hbg)
 ·intro y hy;simp only[rowOf,List.mem_cons,List.not_mem_nil,or_false]at hy;rw[hy];rcases hat with e|e
  ·exact .inl (aB.2 e)
  ·exact .inr (by omega)
theorem KA{w:World}{g:Nat}{p:Lay}{F:List Nat}{m:M}(h:ak w g p F m)(AW:m.words.length<600)(k n v:Int)(hm:rN m k n)(ml:Int)(qo:w.cell? ⟨3,0,none⟩=some (.int .i64 ml)):Calls prog 13 #[.pointer (some ⟨g,0,none⟩),.agg #[.int .i64 k,.int .i64 n,.int .i64 v]] w fun e w'=>
 e=.returned (.tuple #[.int .i64 ((m.words.length:Int)+1),.int .i64 0])∧Keep w g p F {m with words:=m.words++[(k,n,v)]} w':=by
 obtain⟨i0,hi,hz0,hz1,hz2⟩:=Kz;have tB:=(tR w).alloc (.cells #[.int .i64 k,.int .i64 n,.int .i64 v] 35);have bB:=aF.new w 35 #[.int .i64 k,.int .i64 n,.int .i64 v];have hE:=h.touch tB (by simp);have rS:=Xn hE k n v hm ml (ah tB qo);have iN:=h.lt;obtain⟨q,hq⟩:∃q,m.words.length=q:=⟨_,rfl⟩;rw[hq]at AW⊢;have HN:=hid hq;clear hq;obtain⟨z,hz⟩:∃z,w.heap.size=z:=⟨_,rfl⟩;rw[hz]at bB;have Q0:z∉F:=fun hx=>by have:=iN z hx;omega
 have HT:=hid (And.intro tB (And.intro hE (And.intro bB Q0)));have x0:=bB.cell 0;have x1:=bB.cell 1;have x2:=bB.cell 2;clear h hE hm qo tB bB iN Q0;go_enter func13,ntmps13;go_upto_region 1 with fail;clear hz;generalize w.alloc (.cells #[.int .i64 k,.int .i64 n,.int .i64 v] 35)=W0 at*;go_wp2_with fail;refine rS.mono ?_;rintro _ w1 ⟨rfl,t1⟩;obtain⟨tB,hE,bB,Q0⟩:=HT.out;have oC:=hE.touch t1 (by simp);have A3:=bB.touch t1 (by simp);have T1:=tB.trans t1 (by simp);obtain⟨cv,ev,wv,Ff,FS,FI,hL,rfl⟩:=oC;have c2:w1.cell? ⟨g,2,none⟩=some wv:=hL.blk.cell 2;obtain⟨wa,wc,TE⟩:=rP hL.words;have hrow:=hL.words;have lN:g∉rowOf wv:=fun kk=>(hL.kD.2.2 g kk).1 rfl;have HV:Hid (some g≠wv.ownBlock):=hid fun e=>lN (aB.2 e.symm);have WT:=hid hL.blk;have HE:=hid (fun(W w2:World) (b cap q:Nat)=>Xo (W:=W) (w2:=w2) (b:=b) (cap:=cap) (n:=q) (k,n,v) hL);rw[HN.out]at TE hrow;subst TE;have HR:=hid (fun W (t:Touch [] w1 W)=>aj hrow t (by simp));have HA:Hid (q+1≤maxLen):=by show _≤maxLen;unfold maxLen;omega
 have HB:Hid ((q+1)*24≤140737488355328):=by show(q+1)*24≤140737488355328;omega
 have Xp:=hid T1;have x0:=A3.cell 0;have x1:=A3.cell 1;have x2:=A3.cell 2;have hlt:¬(q:Int)≥600:=by omega
 have A2:=fun ob=>ah ((tR w1).alloc ob) c2;clear rS t1 hE bB Q0 tB A3 T1 hL hrow lN HT;go_upto_region 7 with fail;go_region_law (first
  |(refine step_append_lies _ rfl (.tmp 25) (.tmp 27) 83 rfl 0 35 i0 _ 3 24 underlying83 hi hz0 hz1 hz2 rfl (by omega) (.slice wa q wc) q (m.words.flatMap gI) (by simp[Act.eval]) (HR.out _ (by first|with_reducible exact((tR w1).alloc _).drew|with_reducible exact(tR w1).drew.alloc _)) ⟨_,0,none⟩ 1 1 (gI (k,n,v)) (by simp[Act.eval]) rfl (World.news_of_block (heap_alloc_new _ _)) (GQ _) (by omega) HA.out HB.out (Nat.zero_le _) _ rfl ?_;intro gb cap w2 hown hgr hat xg;have HG:=hid (HE.out _ _ _ _ _ (by first|with_reducible exact((tR w1).alloc _).drew|with_reducible exact(tR w1).drew.alloc _) HN.out hown hgr hat);have hb1:=(WT.out.touch (by first|with_reducible exact((tR w1).alloc _).drew|with_reducible exact(tR w1).drew.alloc _) (by simp)).grown hgr HV.out;have d2:=hb1.cell 2;have g2:=hb1.frozen 2;clear hown hgr hat xg hb1))
 all_goals clear A2 x0 x1 x2 c2
 all_goals go_wp2_with fail
 all_goals go_ret2
 all_goals exact⟨rfl,Keep.pre Xp.out HG.out⟩
def Ia(m:M):Prop:=∀df on op a v,m.at_ df on=some (op,a,v)→op≠12∧op≠13∧op≠14
def xu(W:List (Int×Int×Int))(C E:List Int):Prop:=∀m:M,m.words=W→m.code=C→m.ends=E→vT m∧Ia m
theorem xu.of{m:M}(h1:vT m)(h2:Ia m):xu m.words m.code m.ends:=by
 intro m' e1 e2 e3;refine⟨fun x n v h=>h1 x n v ?_,fun df on op a v h=>h2 df on op a v ?_⟩
 ·unfold M.word at h⊢;rw[e1]at h;exact h
 ·unfold M.at_ M.dU at h⊢;rw[e2,e3]at h;exact h
theorem aX.fine{K:PS→Prop}{R:List (Int×Int×Int)→List Int→List Int→Prop}{m:M}(h:aX K R m):aZ K m:=⟨h.st,h.fr,h.ins,h.text,h.words,h.code,h.ends,h.CG,h.ok,h.kk⟩
theorem aZ.rest{K:PS→Prop}{m:M}(h:aZ K m){R:List (Int×Int×Int)→List Int→List Int→Prop}(r:R m.words m.code m.ends):aX K R m:=⟨h.st,h.fr,h.ins,h.text,h.words,h.code,h.ends,h.CG,h.ok,h.kk,r⟩
section
variable {D:Int→PS→Int×PS} {bad:PS→Prop}
end
def cU:List ByteArray:=[⟨#[110,101,103,97,116,101]⟩,⟨#[97,98,115]⟩,⟨#[105,110,118,101,114,116]⟩,⟨#[49,43]⟩,⟨#[49,45]⟩,⟨#[50,42]⟩,⟨#[50,47]⟩,⟨#[48,61]⟩,⟨#[48,60]⟩,⟨#[48,60,62]⟩,⟨#[43]⟩,⟨#[45]⟩,⟨#[42]⟩,⟨#[47]⟩,⟨#[109,111,100]⟩,⟨#[97,110,100]⟩,⟨#[111,114]⟩,⟨#[120,111,114]⟩,⟨#[108,115,104,105,102,116]⟩,⟨#[114,115,104,105,102,116]⟩,⟨#[61]⟩,⟨#[60,62]⟩,⟨#[60]⟩,⟨#[62]⟩,⟨#[117,60]⟩,⟨#[109,105,110]⟩,⟨#[109,97,120]⟩,⟨#[100,117,112]⟩,⟨#[100,114,111,112]⟩,⟨#[115,119,97,112]⟩,⟨#[111,118,101,114]⟩,⟨#[114,111,116]⟩,⟨#[110,105,112]⟩,⟨#[116,117,99,107]⟩,⟨#[63,100,117,112]⟩,⟨#[50,100,117,112]⟩,⟨#[50,100,114,111,112]⟩,⟨#[50,115,119,97,112]⟩,⟨#[50,111,118,101,114]⟩,⟨#[112,105,99,107]⟩,⟨#[114,111,108,108]⟩,⟨#[100,101,112,116,104]⟩,⟨#[115,62,100]⟩,⟨#[100,43]⟩,⟨#[100,45]⟩,⟨#[100,110,101,103,97,116,101]⟩,⟨#[100,97,98,115]⟩,⟨#[100,60]⟩,⟨#[100,117,60]⟩,⟨#[100,61]⟩,⟨#[100,50,42]⟩,⟨#[100,50,47]⟩,⟨#[109,42]⟩,⟨#[117,109,42]⟩,⟨#[117,109,47,109,111,100]⟩,⟨#[102,109,47,109,111,100]⟩,⟨#[115,109,47,114,101,109]⟩,⟨#[42,47]⟩,⟨#[42,47,109,111,100]⟩,⟨#[47,109,111,100]⟩,⟨#[102,110,101,103,97,116,101]⟩,⟨#[102,97,98,115]⟩,⟨#[102,43]⟩,⟨#[102,45]⟩,⟨#[102,42]⟩,⟨#[102,47]⟩,⟨#[102,109,105,110]⟩,⟨#[102,109,97,120]⟩,⟨#[102,60]⟩,⟨#[102,61]⟩,⟨#[115,62,102]⟩,⟨#[102,62,115]⟩,⟨#[64]⟩,⟨#[33]⟩,⟨#[99,64]⟩,⟨#[99,33]⟩,⟨#[43,33]⟩,⟨#[50,64]⟩,⟨#[50,33]⟩,⟨#[102,105,108,108]⟩,⟨#[109,111,118,101]⟩,⟨#[104,101,114,101]⟩,⟨#[97,108,108,111,116]⟩,⟨#[44]⟩,⟨#[99,44]⟩,⟨#[97,108,105,103,110]⟩,⟨#[97,108,105,103,110,101,100]⟩,⟨#[99,101,108,108,115]⟩,⟨#[99,111,117,110,116]⟩,⟨#[101,109,105,116]⟩,⟨#[46]⟩,⟨#[117,46]⟩,⟨#[100,46]⟩,⟨#[102,46]⟩,⟨#[99,114]⟩,⟨#[115,112,97,99,101]⟩,⟨#[115,112,97,99,101,115]⟩,⟨#[116,121,112,101]⟩,⟨#[46,115]⟩,⟨#[100,101,99,105,109,97,108]⟩,⟨#[104,101,120]⟩,⟨#[60,35]⟩,⟨#[35]⟩,⟨#[35,115]⟩,⟨#[104,111,108,100]⟩,⟨#[115,105,103,110]⟩,⟨#[35,62]⟩]
def TD:Array Value:= #[.string ⟨#[110,101,103,97,116,101]⟩,.string ⟨#[97,98,115]⟩,.string ⟨#[105,110,118,101,114,116]⟩,.string ⟨#[49,43]⟩,.string ⟨#[49,45]⟩,.string ⟨#[50,42]⟩,.string ⟨#[50,47]⟩,.string ⟨#[48,61]⟩,.string ⟨#[48,60]⟩,.string ⟨#[48,60,62]⟩,.string ⟨#[43]⟩,.string ⟨#[45]⟩,.string ⟨#[42]⟩,.string ⟨#[47]⟩,.string ⟨#[109,111,100]⟩,.string ⟨#[97,110,100]⟩,.string ⟨#[111,114]⟩,.string ⟨#[120,111,114]⟩,.string ⟨#[108,115,104,105,102,116]⟩,.string ⟨#[114,115,104,105,102,116]⟩,.string ⟨#[61]⟩,.string ⟨#[60,62]⟩,.string ⟨#[60]⟩,.string ⟨#[62]⟩,.string ⟨#[117,60]⟩,.string ⟨#[109,105,110]⟩,.string ⟨#[109,97,120]⟩,.string ⟨#[100,117,112]⟩,.string ⟨#[100,114,111,112]⟩,.string ⟨#[115,119,97,112]⟩,.string ⟨#[111,118,101,114]⟩,.string ⟨#[114,111,116]⟩,.string ⟨#[110,105,112]⟩,.string ⟨#[116,117,99,107]⟩,.string ⟨#[63,100,117,112]⟩,.string ⟨#[50,100,117,112]⟩,.string ⟨#[50,100,114,111,112]⟩,.string ⟨#[50,115,119,97,112]⟩,.string ⟨#[50,111,118,101,114]⟩,.string ⟨#[112,105,99,107]⟩,.string ⟨#[114,111,108,108]⟩,.string ⟨#[100,101,112,116,104]⟩,.string ⟨#[115,62,100]⟩,.string ⟨#[100,43]⟩,.string ⟨#[100,45]⟩,.string ⟨#[100,110,101,103,97,116,101]⟩,.string ⟨#[100,97,98,115]⟩,.string ⟨#[100,60]⟩,.string ⟨#[100,117,60]⟩,.string ⟨#[100,61]⟩,.string ⟨#[100,50,42]⟩,.string ⟨#[100,50,47]⟩,.string ⟨#[109,42]⟩,.string ⟨#[117,109,42]⟩,.string ⟨#[117,109,47,109,111,100]⟩,.string ⟨#[102,109,47,109,111,100]⟩,.string ⟨#[115,109,47,114,101,109]⟩,.string ⟨#[42,47]⟩,.string ⟨#[42,47,109,111,100]⟩,.string ⟨#[47,109,111,100]⟩,.string ⟨#[102,110,101,103,97,116,101]⟩,.string ⟨#[102,97,98,115]⟩,.string ⟨#[102,43]⟩,.string ⟨#[102,45]⟩,.string ⟨#[102,42]⟩,.string ⟨#[102,47]⟩,.string ⟨#[102,109,105,110]⟩,.string ⟨#[102,109,97,120]⟩,.string ⟨#[102,60]⟩,.string ⟨#[102,61]⟩,.string ⟨#[115,62,102]⟩,.string ⟨#[102,62,115]⟩,.string ⟨#[64]⟩,.string ⟨#[33]⟩,.string ⟨#[99,64]⟩,.string ⟨#[99,33]⟩,.string ⟨#[43,33]⟩,.string ⟨#[50,64]⟩,.string ⟨#[50,33]⟩,.string ⟨#[102,105,108,108]⟩,.string ⟨#[109,111,118,101]⟩,.string ⟨#[104,101,114,101]⟩,.string ⟨#[97,108,108,111,116]⟩,.string ⟨#[44]⟩,.string ⟨#[99,44]⟩,.string ⟨#[97,108,105,103,110]⟩,.string ⟨#[97,108,105,103,110,101,100]⟩,.string ⟨#[99,101,108,108,115]⟩,.string ⟨#[99,111,117,110,116]⟩,.string ⟨#[101,109,105,116]⟩,.string ⟨#[46]⟩,.string ⟨#[117,46]⟩,.string ⟨#[100,46]⟩,.string ⟨#[102,46]⟩,.string ⟨#[99,114]⟩,.string ⟨#[115,112,97,99,101]⟩,.string ⟨#[115,112,97,99,101,115]⟩,.string ⟨#[116,121,112,101]⟩,.string ⟨#[46,115]⟩,.string ⟨#[100,101,99,105,109,97,108]⟩,.string ⟨#[104,101,120]⟩,.string ⟨#[60,35]⟩,.string ⟨#[35]⟩,.string ⟨#[35,115]⟩,.string ⟨#[104,111,108,100]⟩,.string ⟨#[115,105,103,110]⟩,.string ⟨#[35,62]⟩]
theorem XC(w:World):Calls prog 57 #[.int .i64 1] w fun e w'=>e=.returned (.slice (some ⟨w.heap.size,0,none⟩) 107 107)∧w.alloc (.cells TD 9)=w':=by
 go_enter func57,ntmps57;go_wp2;refine ay (v:=.slice (some ⟨w.heap.size,0,none⟩) 107 107) (w1:=w.alloc (.cells TD 9)) (by kernel_rfl) ?_;go_wp2;go_ret;exact⟨rfl,rfl⟩
def cV:List ByteArray:=[⟨#[62,114]⟩,⟨#[114,62]⟩,⟨#[114,64]⟩,⟨#[105]⟩,⟨#[106]⟩,⟨#[117,110,108,111,111,112]⟩,⟨#[101,120,101,99,117,116,101]⟩,⟨#[99,97,116,99,104]⟩,⟨#[116,104,114,111,119]⟩]
def cW:Array Value:= #[.string ⟨#[62,114]⟩,.string ⟨#[114,62]⟩,.string ⟨#[114,64]⟩,.string ⟨#[105]⟩,.string ⟨#[106]⟩,.string ⟨#[117,110,108,111,111,112]⟩,.string ⟨#[101,120,101,99,117,116,101]⟩,.string ⟨#[99,97,116,99,104]⟩,.string ⟨#[116,104,114,111,119]⟩]
theorem XD(w:World):Calls prog 57 #[.int .i64 2] w fun e w'=>e=.returned (.slice (some ⟨w.heap.size,0,none⟩) 9 9)∧w.alloc (.cells cW 9)=w':=by
 go_enter func57,ntmps57;go_wp2;go_ret;exact⟨rfl,rfl⟩
def di:List ByteArray:=[⟨#[105,102]⟩,⟨#[101,108,115,101]⟩,⟨#[116,104,101,110]⟩,⟨#[98,101,103,105,110]⟩,⟨#[119,104,105,108,101]⟩,⟨#[114,101,112,101,97,116]⟩,⟨#[117,110,116,105,108]⟩,⟨#[97,103,97,105,110]⟩,⟨#[100,111]⟩,⟨#[63,100,111]⟩,⟨#[108,111,111,112]⟩,⟨#[43,108,111,111,112]⟩,⟨#[108,101,97,118,101]⟩,⟨#[99,97,115,101]⟩,⟨#[111,102]⟩,⟨#[101,110,100,111,102]⟩,⟨#[101,110,100,99,97,115,101]⟩]
def dr:Array Value:= #[.string ⟨#[105,102]⟩,.string ⟨#[101,108,115,101]⟩,.string ⟨#[116,104,101,110]⟩,.string ⟨#[98,101,103,105,110]⟩,.string ⟨#[119,104,105,108,101]⟩,.string ⟨#[114,101,112,101,97,116]⟩,.string ⟨#[117,110,116,105,108]⟩,.string ⟨#[97,103,97,105,110]⟩,.string ⟨#[100,111]⟩,.string ⟨#[63,100,111]⟩,.string ⟨#[108,111,111,112]⟩,.string ⟨#[43,108,111,111,112]⟩,.string ⟨#[108,101,97,118,101]⟩,.string ⟨#[99,97,115,101]⟩,.string ⟨#[111,102]⟩,.string ⟨#[101,110,100,111,102]⟩,.string ⟨#[101,110,100,99,97,115,101]⟩]
theorem XE(w:World):Calls prog 57 #[.int .i64 3] w fun e w'=>e=.returned (.slice (some ⟨w.heap.size,0,none⟩) 17 17)∧w.alloc (.cells dr 9)=w':=by
 go_enter func57,ntmps57;go_wp2;go_ret;exact⟨rfl,rfl⟩
def dt:List ByteArray:=[⟨#[58]⟩,⟨#[58,110,111,110,97,109,101]⟩,⟨#[59]⟩,⟨#[101,120,105,116]⟩,⟨#[114,101,99,117,114,115,101]⟩,⟨#[91]⟩,⟨#[93]⟩,⟨#[108,105,116,101,114,97,108]⟩,⟨#[99,111,109,112,105,108,101,44]⟩,⟨#[112,111,115,116,112,111,110,101]⟩,⟨#[39]⟩,⟨#[91,39,93]⟩,⟨#[105,109,109,101,100,105,97,116,101]⟩,⟨#[99,114,101,97,116,101]⟩,⟨#[100,111,101,115,62]⟩,⟨#[99,111,110,115,116,97,110,116]⟩,⟨#[118,97,114,105,97,98,108,101]⟩,⟨#[118,97,108,117,101]⟩,⟨#[116,111]⟩,⟨#[100,101,102,101,114]⟩,⟨#[105,115]⟩,⟨#[99,104,97,114]⟩,⟨#[91,99,104,97,114,93]⟩,⟨#[40]⟩,⟨#[92]⟩,⟨#[115,34]⟩,⟨#[115,92,34]⟩,⟨#[46,34]⟩,⟨#[101,118,97,108,117,97,116,101]⟩,⟨#[112,97,114,115,101]⟩,⟨#[112,97,114,115,101,45,110,97,109,101]⟩,⟨#[115,97,118,101,45,105,110,112,117,116]⟩,⟨#[114,101,115,116,111,114,101,45,105,110,112,117,116]⟩,⟨#[123,58]⟩,⟨#[119,111,114,100,108,105,115,116]⟩,⟨#[115,101,116,45,99,117,114,114,101,110,116]⟩,⟨#[115,101,116,45,111,114,100,101,114]⟩,⟨#[103,101,116,45,111,114,100,101,114]⟩,⟨#[109,97,114,107,101,114]⟩,⟨#[115,101,116,45,114,101,99,111,103,110,105,122,101,114,115]⟩,⟨#[103,101,116,45,114,101,99,111,103,110,105,122,101,114,115]⟩,⟨#[107,101,121]⟩,⟨#[98,121,101]⟩,⟨#[40,100,111,101,115,62,41]⟩,⟨#[40,116,111,41]⟩,⟨#[40,105,115,41]⟩,⟨#[40,109,97,114,107,101,114,41]⟩]
def dy:Array Value:= #[.string ⟨#[58]⟩,.string ⟨#[58,110,111,110,97,109,101]⟩,.string ⟨#[59]⟩,.string ⟨#[101,120,105,116]⟩,.string ⟨#[114,101,99,117,114,115,101]⟩,.string ⟨#[91]⟩,.string ⟨#[93]⟩,.string ⟨#[108,105,116,101,114,97,108]⟩,.string ⟨#[99,111,109,112,105,108,101,44]⟩,.string ⟨#[112,111,115,116,112,111,110,101]⟩,.string ⟨#[39]⟩,.string ⟨#[91,39,93]⟩,.string ⟨#[105,109,109,101,100,105,97,116,101]⟩,.string ⟨#[99,114,101,97,116,101]⟩,.string ⟨#[100,111,101,115,62]⟩,.string ⟨#[99,111,110,115,116,97,110,116]⟩,.string ⟨#[118,97,114,105,97,98,108,101]⟩,.string ⟨#[118,97,108,117,101]⟩,.string ⟨#[116,111]⟩,.string ⟨#[100,101,102,101,114]⟩,.string ⟨#[105,115]⟩,.string ⟨#[99,104,97,114]⟩,.string ⟨#[91,99,104,97,114,93]⟩,.string ⟨#[40]⟩,.string ⟨#[92]⟩,.string ⟨#[115,34]⟩,.string ⟨#[115,92,34]⟩,.string ⟨#[46,34]⟩,.string ⟨#[101,118,97,108,117,97,116,101]⟩,.string ⟨#[112,97,114,115,101]⟩,.string ⟨#[112,97,114,115,101,45,110,97,109,101]⟩,.string ⟨#[115,97,118,101,45,105,110,112,117,116]⟩,.string ⟨#[114,101,115,116,111,114,101,45,105,110,112,117,116]⟩,.string ⟨#[123,58]⟩,.string ⟨#[119,111,114,100,108,105,115,116]⟩,.string ⟨#[115,101,116,45,99,117,114,114,101,110,116]⟩,.string ⟨#[115,101,116,45,111,114,100,101,114]⟩,.string ⟨#[103,101,116,45,111,114,100,101,114]⟩,.string ⟨#[109,97,114,107,101,114]⟩,.string ⟨#[115,101,116,45,114,101,99,111,103,110,105,122,101,114,115]⟩,.string ⟨#[103,101,116,45,114,101,99,111,103,110,105,122,101,114,115]⟩,.string ⟨#[107,101,121]⟩,.string ⟨#[98,121,101]⟩,.string ⟨#[40,100,111,101,115,62,41]⟩,.string ⟨#[40,116,111,41]⟩,.string ⟨#[40,105,115,41]⟩,.string ⟨#[40,109,97,114,107,101,114,41]⟩]
theorem XF(w:World):Calls prog 57 #[.int .i64 4] w fun e w'=>e=.returned (.slice (some ⟨w.heap.size,0,none⟩) 47 47)∧w.alloc (.cells dy 9)=w':=by
 go_enter func57,ntmps57;go_wp2;go_ret;exact⟨rfl,rfl⟩
theorem XG(n:Int)(w:World):Calls prog 58 #[.int .i64 n] w fun e w'=>∃b,e=.returned (.bool b)∧w=w':=by
 go_enter func58,ntmps58;go_wp2
 all_goals go_ret
 all_goals exact⟨_,rfl,rfl⟩
theorem TF(n:Int)(w:World):Calls prog 59 #[.int .i64 n] w fun e w'=>∃b,e=.returned (.bool b)∧w=w':=by
 go_enter func59,ntmps59;go_wp2
 all_goals go_ret
 all_goals exact⟨_,rfl,rfl⟩
def lU(k:Int):List ByteArray:=if k=1 then cU else if k=2 then cV else if k=3 then di else dt
theorem OX(k:Int)(h1:1≤k)(h2:k≤4)(w:World):Calls prog 57 #[.int .i64 k] w fun e w'=>e=.returned (.slice (some ⟨w.heap.size,0,none⟩) (lU k).length (lU k).length)∧w.alloc (.cells ((lU k).map Value.string).toArray 9)=w':=by
 rcases(by omega:k=1∨k=2∨k=3∨k=4)with rfl|rfl|rfl|rfl
 ·exact XC w
 ·exact XD w
 ·exact XE w
 ·exact XF w
theorem OY(k:Int):(lU k).length≤107:=by
 unfold lU;split
 ·decide
 ·split
  ·decide
  ·split<;>decide
abbrev Bt:=ByteArray×Int×Int×Bool×Bool
def mF(x:Bt):List Value:=[.string x.1,.int .i64 x.2.1,.int .i64 x.2.2.1,.bool x.2.2.2.1,.bool x.2.2.2.2]
theorem KO(x:Bt):∀u∈mF x,u.oneCell'=true:=by
 intro u hu;simp[mF]at hu;rcases hu with rfl|rfl|rfl|rfl|rfl<;>rfl
def dC(x:Bt):ByteArray×Int×Int:=(x.1,x.2.1,x.2.2.1)
def lV(k:Int):List (ByteArray×Int×Int):=(lU k).mapIdx fun i s=>(s,k,(i:Int)+1)
def xV(k:Int):List (ByteArray×Int×Int):=(if 1<k then lV 1 else [])++((if 2<k then lV 2 else [])++((if 3<k then lV 3 else [])++(if 4<k then lV 4 else [])))
theorem OZ(k:Int)(h1:1≤k)(h2:k≤4):xV (k+1)=xV k++lV k:=by
 rcases(by omega:k=1∨k=2∨k=3∨k=4)with rfl|rfl|rfl|rfl<;>simp[xV]
theorem KP(k:Int)(j:Nat)(h:j<(lU k).length):(lV k).take (j+1)=(lV k).take j++[((lU k).getD j .empty,k,(j:Int)+1)]:=by
 unfold lV;have hl:j<((lU k).mapIdx fun i s=>(s,k,(i:Int)+1)).length:=by simpa using h
 rw[List.take_succ_eq_append_getElem hl,List.getElem_mapIdx,List.getD_eq_getElem?_getD,List.getElem?_eq_getElem h];rfl
theorem O1(k:Int):(lV k).take (lU k).length=lV k:=List.take_of_length_le (by unfold lV;simp)
def TG(B:Nat)(v:Value)(l:List (ByteArray×Int×Int))(w:World):Prop:=∃L:List Bt,L.map dC=l∧w.ownsRow B 79 5 v L.length (L.flatMap mF)
theorem KQ:(prog.info? 79).map (fun i=>(i.zero,i.size,i.bytes))=some (some (.agg #[.string .empty,.int .i64 0,.int .i64 0,.bool false,.bool false]),5,40):=by kernel_rfl
theorem Ig:∃i0,prog.info? 79=some i0∧i0.zero=some (.agg #[.string .empty,.int .i64 0,.int .i64 0,.bool false,.bool false])∧i0.size=5∧i0.bytes=40:=by
 have h:=KQ;cases hi:prog.info? 79 with
 |none=>rw[hi]at h;cases h
 |some i=>
  rw[hi]at h;simp only[Option.map_some,Option.some.injEq,Prod.mk.injEq]at h;exact⟨i,rfl,h.1,h.2.1,h.2.2⟩
def vX(w:World)(k:Int)(v:Value)(wr:World):Prop:=TG w.heap.size v (xV k) wr∧Touch [] w wr
def Bb(w:World)(lb:Nat)(k:Int)(j:Nat)(v:Value)(wr:World):Prop:=TG w.heap.size v (xV k++(lV k).take j) wr∧Touch [] w wr∧aF wr lb 9 ((lU k).map Value.string).toArray∧(∀x∈rowOf v,x≠lb)
theorem TH(w:World):Calls prog 38 #[] w fun e w'=>∃v,e=.returned v∧vX w 5 v w':=by
 obtain⟨i0,hi,hz0,hz1,hz2⟩:=Ig;have h0:vX w 1 (.slice none 0 0) w:=⟨⟨[],rfl,World.ownsRow_nil _ _ _ _⟩,Touch.refl _ _⟩;go_enter func38,ntmps38;go_wp2_with fail;go_loopw [1,2] (fun out kd wr=>∃k:Int,1≤k∧k≤5∧kd=.int .i64 k∧vX w k out wr) (fun _ kd _=>(5-intOf kd).toNat)
 case atStart=>exact⟨1,by decide,by decide,rfl,h0⟩
 case round=>
  obtain⟨k,sI,BV,rfl,hR⟩:=hrel;have HR:=hid hR;clear h0 hR;by_cases h5:k=5
  ·subst h5;go_wp2_with fail;go_ret;exact⟨_,rfl,HR.out⟩
  ·have hk4:k≤4:=by omega
   have hN:=OX k sI hk4 wr;have qm:=OY k;obtain⟨n,hn⟩:∃n,(lU k).length=n:=⟨_,rfl⟩;rw[hn]at hN qm;have HN:=hid hn;clear h5 BV hn;go_wp2_with fail;refine hN.mono ?_;rintro _ _ ⟨rfl,rfl⟩;clear hN;obtain⟨hT,tRq⟩:=HR.out;have Wk:∀v,TG w.heap.size v (xV k) wr→∀x∈rowOf v,x≠wr.heap.size:=fun v ⟨L,_,hL⟩ x hx=>by have:=fG hL hx;omega
   have hI:Bb w wr.heap.size k 0 u1 (wr.alloc (.cells ((lU k).map Value.string).toArray 9)):=by
    refine⟨?_,tRq.alloc _,aF.new _ _ _,Wk _ hT⟩;obtain⟨L,e,hL⟩:=hT;exact⟨L,by rw[e];simp,aj hL ((tR wr).alloc _) (by simp)⟩
   obtain⟨lb,Jn⟩:∃lb,wr.heap.size=lb:=⟨_,rfl⟩;have JB:w.heap.size≤lb:=by rw[←Jn];exact tRq.size
   rw[Jn]at hI;have mS:=hid JB;clear hT tRq Wk JB;go_upto_region 6 with fail;clear Jn;generalize wr.alloc (.cells ((lU k).map Value.string).toArray 9)=wA at*;go_wp2_with fail;go_loopw [1,4] (fun out i wq=>∃j:Nat,j≤n∧i=.int .i64 j∧Bb w lb k j out wq) (fun _ i _=>n-(intOf i).toNat)
   case atStart=>exact⟨0,Nat.zero_le _,rfl,hI⟩
   case round=>
    obtain⟨j,hj,rfl,hI⟩:=hrel;rcases Nat.lt_or_ge j n with hlt|ql
    ·obtain⟨hT,tQ,bL,hne⟩:=hI;have cL:=bL.cell j;have kM:(((lU k).map Value.string).toArray)[j]? =some (.string ((lU k).getD j .empty)):=by
      rw[List.getElem?_toArray,List.getElem?_map,List.getD_eq_getElem?_getD,List.getElem?_eq_getElem (by rw[HN.out];exact hlt)];rfl
     rw[kM]at cL;have mE:=KP k j (by rw[HN.out];exact hlt);obtain⟨nm,WD⟩:∃nm,(lU k).getD j .empty=nm:=⟨_,rfl⟩;rw[WD]at cL mE;have HT:=hid (And.intro hT (And.intro tQ (And.intro bL (And.intro hne mE))));clear hT tQ bL hne mE kM WD;go_upto_region 10 with fail;have bY:=aF.new wr 79 #[.string nm,.int .i64 k,.int .i64 ((j:Int)+1),.bool false,.bool false];have tY:=(tR wr).alloc (.cells #[.string nm,.int .i64 k,.int .i64 ((j:Int)+1),.bool false,.bool false] 79);obtain⟨y,hy⟩:∃y,wr.heap.size=y:=⟨_,rfl⟩;rw[hy]at bY⊢;have HY:=hid (show wr.heap.size≤y by omega);clear cL hy;generalize wr.alloc (.cells #[.string nm,.int .i64 k,.int .i64 ((j:Int)+1),.bool false,.bool false] 79)=wB at*;go_cut [5]from 26 to 37 (fun yv wc=>yv=.pointer (some ⟨y,0,none⟩)∧∃b1,aF wc y 79 #[.string nm,.int .i64 k,.int .i64 ((j:Int)+1),.bool b1,.bool false]∧Touch [] wr wc)
     case first=>
      have d3:=bY.cell 3;have f3:=bY.frozen 3;have HB:=hid (And.intro bY tY);clear bY tY;have fin:∀b1,Hid (aF (wB.setCell ⟨y,3,none⟩ (.bool b1)) y 79 #[.string nm,.int .i64 k,.int .i64 ((j:Int)+1),.bool b1,.bool false]∧Touch [] wr (wB.setCell ⟨y,3,none⟩ (.bool b1))):=fun b1=>hid ⟨HB.out.1.bJ 3 _,HB.out.2.setCell (.inr HY.out) _⟩;by_cases h3:k=3
      ·have q3:(k==3)=true:=by simpa using h3
       clear h3;go_wp2_with fail
       all_goals go_meet
       all_goals exact⟨rfl,_,(fin _).out⟩
      have q3:(k==3)=false:=by simpa using h3
      by_cases h4:k=4
      ·have q4:(k==4)=true:=by simpa using h4
       have JS:=fun W=>XG ((j:Int)+1) W;clear h4 h3;go_wp2_with fail;refine(JS _).mono ?_;rintro _ _ ⟨b1,rfl,rfl⟩;go_wp2_with fail;go_meet
       exact⟨rfl,_,(fin _).out⟩
      ·have q4:(k==4)=false:=by simpa using h4
       clear h3 h4;go_wp2_with fail
       all_goals go_meet
       all_goals exact⟨rfl,_,(fin _).out⟩
     case rest=>
      obtain⟨rfl,b1,bY,tY⟩:=hcut;go_upto_region 11 with fail;go_cut [5]from 38 to 57 (fun yv wc=>yv=.pointer (some ⟨y,0,none⟩)∧∃b2,aF wc y 79 #[.string nm,.int .i64 k,.int .i64 ((j:Int)+1),.bool b1,.bool b2]∧Touch [] wr wc)
      case first=>
       have d4:=bY.cell 4;have f4:=bY.frozen 4;have HB:=hid (And.intro bY tY);clear bY tY;have fin:∀b2,Hid (aF (wc.setCell ⟨y,4,none⟩ (.bool b2)) y 79 #[.string nm,.int .i64 k,.int .i64 ((j:Int)+1),.bool b1,.bool b2]∧Touch [] wr (wc.setCell ⟨y,4,none⟩ (.bool b2))):=fun b2=>hid ⟨HB.out.1.bJ 4 _,HB.out.2.setCell (.inr HY.out) _⟩;by_cases h3:k=3
       ·have q3:(k==3)=true:=by simpa using h3
        clear h3;go_wp2_with fail
        all_goals go_meet
        all_goals exact⟨rfl,_,(fin _).out⟩
       have q3:(k==3)=false:=by simpa using h3
       by_cases h4:k=4
       ·have q4:(k==4)=true:=by simpa using h4
        have q2:(k==2)=false:=by simp;omega
        have JS:=fun W=>TF ((j:Int)+1) W;clear h4 h3;go_wp2_with fail;refine(JS _).mono ?_;rintro _ _ ⟨b2,rfl,rfl⟩;go_wp2_with fail;go_meet
        exact⟨rfl,_,(fin _).out⟩
       have q4:(k==4)=false:=by simpa using h4
       by_cases h2:k=2
       ·have q2:(k==2)=true:=by simpa using h2
        clear h2 h3 h4;by_cases h6:(j:Int)<6
        ·have q6:decide ((j:Int)<6)=true:=by simpa using h6
         go_wp2_with fail
         all_goals go_meet
         all_goals exact⟨rfl,_,(fin _).out⟩
        ·have q6:decide ((j:Int)<6)=false:=by simpa using h6
         go_wp2_with fail
         all_goals go_meet
         all_goals exact⟨rfl,_,(fin _).out⟩
       ·have q2:(k==2)=false:=by simpa using h2
        clear h2 h3 h4;go_wp2_with fail
        all_goals go_meet
        all_goals exact⟨rfl,_,(fin _).out⟩
      case rest=>
       obtain⟨rfl,b2,bY,tY⟩:=hcut;obtain⟨hT,tQ,bL,hne,mE⟩:=HT.out;obtain⟨L,eL,hown⟩:=hT;have ag:L.length≤1000:=by
        have e1:L.length=(xV k++(lV k).take j).length:=by rw[←eL,List.length_map]
        have e2:(xV k).length≤400:=by
         unfold xV;have h1:(lV 1).length=107:=rfl;have h2:(lV 2).length=9:=rfl;have h3:(lV 3).length=17:=rfl;have h4:(lV 4).length=47:=rfl;simp only[List.length_append];split<;>split<;>split<;>split<;>simp[h1,h2,h3,h4]
        rw[e1,List.length_append,List.length_take];omega
       have fK:=aj hown tY (by simp);have y0:=bY.cell 0;have y1:=bY.cell 1;have y2:=bY.cell 2;have y3:=bY.cell 3;have y4:=bY.cell 4;have HH:=hid (And.intro tQ (And.intro bL (And.intro hne (And.intro mE (And.intro eL (And.intro tY bY))))));obtain⟨q,hq⟩:∃q,L.length=q:=⟨_,rfl⟩;rw[hq]at fK ag;have HQ:=hid hq;clear tQ bL hne mE eL hown tY bY hq;go_wp2_with (at_builtin;refine wpList_append_own_at _ rfl _ _ 76 rfl w.heap.size 79 i0 _ 5 40 underlying76 hi hz0 hz1 hz2 rfl (by decide) _ _ _ rfl (fK.alloc _) ⟨wc.heap.size,0,none⟩ 1 1 (mF (nm,k,(j:Int)+1,b1,b2)) rfl rfl ?Gn (KO _) (by unfold maxLen;omega) (by omega) ?ZM ?_)
       case Gn=>exact World.news_of_block (heap_alloc_new _ _)
       case ZM=>
        have h1:=HH.out.1.size;have h2:=HH.out.2.2.2.2.2.1.size;simp;omega
       intro v' w2 hown2 hgrow hnil hloc;obtain⟨tQ,bL,hne,mE,eL,tY,bY⟩:=HH.out;have tA:Touch [] w (wc.alloc (.cells (mF (nm,k,(j:Int)+1,b1,b2)).toArray 79)):=(tQ.trans tY (by simp)).alloc _;have hbase:∀r,u1.ownBlock=some r→w.heap.size≤r:=fun r hr=>(fK.lt r hr).1;have KR:Hid (Bb w lb k (j+1) v' w2):=hid ⟨⟨L++[(nm,k,(j:Int)+1,b1,b2)],by
        rw[List.map_append,eL,mE,List.append_assoc];rfl,by
        have e1:(L++[(nm,k,(j:Int)+1,b1,b2)]).flatMap mF=L.flatMap mF++mF (nm,k,(j:Int)+1,b1,b2):=by simp
        have e2:(L++[(nm,k,(j:Int)+1,b1,b2)]).length=q+1:=by rw[List.length_append,HQ.out];rfl
        rw[e1,e2];exact hown2⟩,
        tA.grown hgrow (fun r hr=>.inr (hbase r hr)),
        ((bL.touch tY (by simp)).alloc _).grown hgrow (fun e=>hne lb (aB.2 e.symm) rfl),by
         intro x hx;rcases hloc with h|h
         ·exact hne x (aB.2 (h▸aB.1 hx))
         ·have h1:=aB.1 hx;rw[h]at h1;injection h1 with h1;have:=(bL.touch tY (by simp)).lt;omega⟩
       clear hown2 hgrow hnil hloc tQ bL hne mE eL tY bY tA hbase y0 y1 y2 y3 y4 fK;go_wp2_with fail;go_roundw
       case rel=>exact⟨j+1,by omega,by go_num,KR.out⟩
       case measure=>simp[intOf];omega
    ·obtain rfl:j=n:=by omega
     have HE:Hid (vX w (k+1) u1 wr):=by
      obtain⟨hT,tQ,_,_⟩:=hI;refine hid ⟨?_,tQ⟩;rw[OZ k sI hk4];have e:=O1 k;rw[HN.out]at e;rw[e]at hT;exact hT
     clear hI;go_wp2_with fail;go_roundw
     case rel=>exact⟨k+1,by omega,by omega,by go_num,HE.out⟩
     case measure=>simp[intOf];omega
theorem pU(L:List Bt)(k:Nat)(x:Bt)(h:L[k]? =some x)(c:Nat)(hc:c<5):(L.flatMap mF)[k*5+c]? =(mF x)[c]? :=by
 induction L generalizing k with
 |nil=>cases h
 |cons a t ih=>
  rw[List.flatMap_cons];cases k with
  |zero=>
   simp only[List.getElem?_cons_zero,Option.some.injEq]at h;rw[h,Nat.zero_mul,Nat.zero_add,List.getElem?_append_left (by show c<5;exact hc)]
  |succ k=>
   rw[List.getElem?_cons_succ]at h;rw[List.getElem?_append_right (by show 5≤_;omega),show(k+1)*5+c-(mF a).length=k*5+c by show _-5=_;omega];exact ih k h
def xW:List (ByteArray×Int×Int)→ByteArray→Option Nat
 |[],_=>none
 |x::l,s=>if x.1=s then some 0 else(xW l s).map (· +1)
def Ih(l:List (ByteArray×Int×Int))(s:ByteArray)(i k:Nat):Prop:=∃d,i=k+d∧xW (l.drop k) s=some d
theorem Ih.start{l:List (ByteArray×Int×Int)}{s:ByteArray}{i:Nat}(h:xW l s=some i):Ih l s i 0:=⟨i,by omega,h⟩
theorem Ih.row{l:List (ByteArray×Int×Int)}{s:ByteArray}{i k:Nat}(h:Ih l s i k):∃x,l[k]? =some x∧(x.1=s→i=k)∧(x.1≠s→Ih l s i (k+1)):=by
 obtain⟨d,hd,h⟩:=h;rcases Nat.lt_or_ge k l.length with hk|hk
 ·refine⟨l[k],List.getElem?_eq_getElem hk,?_,?_⟩
  ·intro hx;rw[List.drop_eq_getElem_cons hk,xW,if_pos hx]at h;injection h with h;omega
  ·intro hx;rw[List.drop_eq_getElem_cons hk,xW,if_neg hx]at h;cases hh:xW (l.drop (k+1)) s with
   |none=>rw[hh]at h;cases h
   |some e=>
    rw[hh]at h;simp only[Option.map_some,Option.some.injEq]at h;exact⟨e,by omega,hh⟩
 ·rw[List.drop_of_length_le hk]at h;cases h
def dM:List (Int×Int×Int):=(xV 5).map fun x=>(x.2.1,x.2.2,0)
theorem O4:(xV 5).all (fun x=>decide (1≤x.2.1∧x.2.1≤4∧1≤x.2.2∧x.2.2≤qJ x.2.1))=true:=by kernel_rfl
theorem pV:(xV 5).length=180:=by kernel_rfl
def XH(w:World)(e:Ending)(w':World):Prop:=∃g p F S,e=.returned (.pointer (some ⟨g,0,none⟩))∧ak w' g p F {M.new S kC with words:=dM}∧(∀x∈F,w.heap.size≤x)∧Touch [] w w'∧S.n=1024∧S.st=[]∧S.bs=vH (List.replicate 1024 0) 0 10 8∧S.here=8∧S.out=[]∧S.made=[]
theorem O5(w:World)(ml:Int)(qo:w.cell? ⟨3,0,none⟩=some (.int .i64 ml)):Calls prog 11 #[] w (XH w):=by
 have hM:=fJ w;go_enter func11,ntmps11;go_wp2_with fail;refine hM.mono ?_;rintro _ w0 ⟨g,p,F,S,rfl,hE,hF,t0,hS⟩;have hA:=TH w0;have H0:=hid (And.intro hE (And.intro hF (And.intro t0 hS)));have XB:=hid qo;clear hM hE hF t0 hS qo;go_wp2_with fail;refine hA.mono ?_;rintro _ w1 ⟨v,rfl,⟨L,hL,hrow⟩,t1⟩;have hn:L.length=180:=by
  have e:=congrArg List.length hL;rw[List.length_map,pV]at e;exact e
 obtain⟨r,c,rfl⟩:∃r c,v=.slice (some ⟨r,0,none⟩) 180 c:=by
  rcases Go.Joins.ownsRow_forms hrow with⟨_,hz⟩|⟨g,cap,e⟩
  ·omega
  ·exact⟨g,cap,by rw[e,hn]⟩
 have oC:=H0.out.1.touch t1 (by simp);have hrB:w0.heap.size≤r:=(hrow.lt r rfl).1;have WN:r∉F:=fun hx=>by have:=H0.out.1.lt r hx;omega
 have HK0:Hid (Keep w1 g p F {M.new S kC with words:=dM.take 0} w1):=hid (Keep.refl oC);have HR:=hid (And.intro hL (And.intro hrow (And.intro t1 (And.intro hn WN))));clear hL hrow t1 hn hA oC hrB WN;go_wp2_with fail;go_loopw [9] (fun iv wr=>∃k:Nat,k≤180∧iv=.int .i64 k∧Keep w1 g p F {M.new S kC with words:=dM.take k} wr) (fun iv _=>180-(intOf iv).toNat)
 case atStart=>exact⟨0,by omega,rfl,HK0.out⟩
 case round=>
  obtain⟨k,hk,rfl,hK⟩:=hrel;rcases Nat.lt_or_ge k 180 with hlt|ql
  ·obtain⟨y,hy⟩:∃y,L[k]? =some y:=⟨_,List.getElem?_eq_getElem (by rw[HR.out.2.2.2.1];exact hlt)⟩;have hx:(xV 5)[k]? =some (dC y):=by rw[←HR.out.1,List.getElem?_map,hy];rfl
   obtain⟨yn,yk,yv,y3,y4⟩:=y;have nP:=List.all_eq_true.1 O4 _ (List.mem_of_getElem? hx);have nP:=of_decide_eq_true nP;simp only[dC]at nP;obtain⟨Fk,rL,tk,sk⟩:=hK;have W4:=aj HR.out.2.1 tk (by intro z hz;simp only[rowOf,List.mem_cons,List.not_mem_nil,or_false]at hz;rw[hz];exact HR.out.2.2.2.2);have kM:∀j u,(L.flatMap mF)[j]? =some u→wr.cell? ⟨r,j,none⟩=some u:=fun j u hj=>by
    have h:=W4.cells (g:=r) rfl j u hj
    first
     |exact h
     |(rw[Addr.add_lit,Nat.zero_add]at h;exact h)
   have c0:wr.cell? ⟨r,k*5,none⟩=some (.string yn):=kM (k*5) _ ((pU L k _ hy 0 (by omega)).trans rfl);have c1:wr.cell? ⟨r,k*5+1,none⟩=some (.int .i64 yk):=kM (k*5+1) _ ((pU L k _ hy 1 (by omega)).trans rfl);have c2:wr.cell? ⟨r,k*5+2,none⟩=some (.int .i64 yv):=kM (k*5+2) _ ((pU L k _ hy 2 (by omega)).trans rfl);have c3:wr.cell? ⟨r,k*5+3,none⟩=some (.bool y3):=kM (k*5+3) _ ((pU L k _ hy 3 (by omega)).trans rfl);have c4:wr.cell? ⟨r,k*5+4,none⟩=some (.bool y4):=kM (k*5+4) _ ((pU L k _ hy 4 (by omega)).trans rfl);have W8:(dM.take k).length=k:=by
    rw[List.length_take];unfold dM;rw[List.length_map,pV];omega
   have Zf:dM.take (k+1)=dM.take k++[(yk,yv,0)]:=by
    have hl:k<dM.length:=by unfold dM;rw[List.length_map,pV];exact hlt
    rw[List.take_succ_eq_append_getElem hl];congr 1;have:dM[k]? =some (yk,yv,0):=by unfold dM;rw[List.getElem?_map,hx];rfl
    rw[List.getElem?_eq_getElem hl]at this;injection this with this;rw[this]
   have tA:=(tR wr).alloc (.cells #[.string yn,.int .i64 yk,.int .i64 yv,.bool y3,.bool y4] 79);have Gj:wr.cell? ⟨3,0,none⟩=some (.int .i64 ml):=by
    have h1:=ah H0.out.2.2.1 XB.out;have h2:=ah HR.out.2.2.1 h1;have hsz:=World.block_lt_of_cell? _ _ XB.out;exact(tk.cell (World.block_lt_of_cell? _ _ h2) (fun hx=>by have h4:=H0.out.2.1 _ hx;have h5:(3:Nat)<w.heap.size:=hsz;have h6:w.heap.size≤(3:Nat):=h4;omega)).trans h2
   have hAdd:=KA (m:={M.new S kC with words:=dM.take k}) (rL.touch tA (by simp)) (by show(dM.take k).length<600;omega) yk yv 0 (.inl nP) ml (ah tA Gj);have e1:({M.new S kC with words:=dM.take k}:M).words.length=k:=W8;rw[e1]at hAdd;have HT:=hid (And.intro tk (And.intro sk (And.intro tA Zf)));clear rL tk sk W4 kM W8 Zf tA Gj e1 nP hx hy;go_wp2_with fail;refine hAdd.mono ?_;rintro _ w5 ⟨rfl,XS⟩;have HK5:Hid (Keep w1 g p F {M.new S kC with words:=dM.take (k+1)} w5):=hid (by
    rw[HT.out.2.2.2];exact Keep.trans HT.out.1 HT.out.2.1 (Keep.pre HT.out.2.2.1 XS))
   clear XS hAdd;go_wp2_with fail;go_roundw
   case rel=>exact⟨k+1,by omega,nW (by omega),HK5.out⟩
   case measure=>simp only[intOf];omega
  ·obtain rfl:k=180:=by omega
   have HF:Hid (∃F',ak wr g p F' {M.new S kC with words:=dM}∧(∀x∈F',w.heap.size≤x)∧Touch [] w wr):=hid (by
    obtain⟨F',h1,h2,h3⟩:=hK;rw[show dM.take 180=dM from List.take_of_length_le (by unfold dM;rw[List.length_map,pV];exact Nat.le_refl _)]at h1;have s1:=H0.out.2.2.1.size;have s2:=HR.out.2.2.1.size;refine⟨F',h1,fun x hx=> ?_,(H0.out.2.2.1.trans HR.out.2.2.1 (by simp)).trans h2 (fun x hx=>.inr (H0.out.2.1 x hx))⟩;rcases h3 x hx with h|h
    ·exact H0.out.2.1 x h
    ·omega)
   clear hK;go_wp2_with fail;go_ret;obtain⟨F',h1,h2,h3⟩:=HF.out;exact⟨g,p,F',S,rfl,h1,h2,h3,H0.out.2.2.2⟩
end En
namespace En
def XM(m:M):Prop:=∀df on a v,m.at_ df on=some (12,a,v)→0≤a∧a≤1000
def M4(W:List (Int×Int×Int))(C E:List Int):Prop:=∀m:M,m.words=W→m.code=C→m.ends=E→vT m∧XM m
theorem M4.of{m:M}(h1:vT m)(h2:XM m):M4 m.words m.code m.ends:=by
 intro m' e1 e2 e3;refine⟨fun x n v h=>h1 x n v ?_,fun df on a v h=>h2 df on a v ?_⟩
 ·unfold M.word at h⊢;rw[e1]at h;exact h
 ·unfold M.at_ M.dU at h⊢;rw[e2,e3]at h;exact h
end En
end Go.Proofs.YtdokeddjcpnmiaaGreatDoor
