/- Of EngineClean: Do Do2 Do3 Do4 Ops3 PShown PLive TellsP PKeep. -/
import Derived.Test.YtdokeddjcpnmiaaGreatDoorQRealOps
import Derived.Test.YtdokeddjcpnmiaaGreatDoorQShape
import Derived.Lib.OthersKept
import Derived.Lib.OwnBridge
set_option maxRecDepth 100000
set_option maxHeartbeats 4000000
namespace Go.Proofs.YtdokeddjcpnmiaaGreatDoor
open Go.RowKit Go.Proofs.Tryz
open Go.Lib(hid)
theorem lW(ps:List Nat):(places ps).size=ps.length:=by simp[places,ByteArray.size]
theorem Eb(ps:List Nat)(Q5:∀i∈ps,i<4)(j:Nat)(hj:j<(places ps).size):((places ps)[j]'hj).toNat=97+ps.getD j 0:=by
 have hl:j<ps.length:=by rw[lW]at hj;exact hj
 have h1:(places ps)[j]'hj=UInt8.ofNat (97+ps.getD j 0):=by
  have:(places ps)[j]'hj=(ps.map fun i=>UInt8.ofNat (97+i)).toArray[j]'(by simpa using hl):=rfl;rw[this];simp[List.getD,List.getElem?_eq_getElem hl]
 have h2:=Q5 (ps.getD j 0) (by rw[List.getD,List.getElem?_eq_getElem hl];exact List.getElem_mem hl);rw[h1];generalize ps.getD j 0=x at h2;simp;omega
theorem nQ{F:List Nat}{a w:World}(h:Touch F a w){k:Nat}(hk:k∈F∨a.heap.size≤k)(s:ByteArray)(pos:Nat):Touch F a (w.iterAt k s pos):=
 h.trans (G:=[k]) ⟨rfl,rfl,rfl,by rw[Lib.iterAt_size];exact Nat.le_refl _,fun i _ hi=>Lib.iterAt_other w k i s pos (by simpa using hi)⟩ (by simpa using hk)
theorem aG.iter{w:World}{b:Nat}{F:List Nat}{L:List Int}(h:aG w b F L){k:Nat}(hk:k∉F)(s:ByteArray)(pos:Nat):aG (w.iterAt k s pos) b F L:=
 h.touch (nQ (Touch.refl [k] w) (by simp) s pos) (by simp;rintro f hf rfl;exact hk hf)
def Pk(w:World)(b:Nat)(F:List Nat)(A:List Int)(v:Value)(M:List Int)(it:Nat)(s:ByteArray)(ps:List Nat)(j:Nat)(wr:World):Prop:=
 ∃F',aG wr b F' (A++(ps.take j).map fun i=>M.getD i 0)∧Touch F w wr∧Sub w F F'∧it∉F'∧w.heap.size≤it∧(∀g∈rowOf v,g∉F'∧g≠it∧w.heap.size≤g)∧wr.ownsRow 0 33 1 v M.length (cells M)∧wr.heap[it]? =some (.stringIter s j)
theorem TY(w:World)(b:Nat)(F:List Nat)(L:List Int)(h:aG w b F L)(op:Int)(t:Nat)(ps:List Nat)(hS:∀w,bf op t (places ps) w)(Q5:∀i∈ps,i<t)(lB:t≤4)(iI:ps.length≤6)
 (uk:¬op=40) (ur:¬op=41) (Rb:¬op=42) (Zi:¬op=35) (hL:L.length≤128) (ht:t≤L.length) (hroom:L.length-t+ps.length≤128):
 Calls prog 96 #[.pointer (some ⟨b,0,none⟩),.int .i64 op] w fun e w'=>
  ∃F',e=.returned (.int .i64 0)∧aG w' b F' (L.take (L.length-t)++ps.map fun i=>(L.drop (L.length-t)).getD i 0)∧Touch F w w'∧Sub w F F':=by
 obtain⟨s,hs⟩:∃s,places ps=s:=⟨_,rfl⟩;have hsz:s.size=ps.length:=by rw[←hs,lW]
 have hat:∀j (hj:j<s.size),(s[j]'hj).toNat=97+ps.getD j 0:=by
  subst hs;exact Eb ps (fun i hi=>by have:=Q5 i hi;omega)
 rw[hs]at hS;obtain⟨v0,hb0,nV,qK,jk⟩:=id h;obtain⟨a0,c0,rfl⟩:=bn jk;have HL:=hid h.lt;have H:=hid h;have g0:=hb0.cell 0;obtain⟨n,hn⟩:∃n,L.length=n:=⟨_,rfl⟩;have Hh:=hid (And.intro Q5 hat);have Hn:=hid hn;rw[hn]at hL ht hroom g0⊢;have Hb:=hid hb0;clear h hb0 nV qK jk Q5 hat hn hs;obtain⟨m,hm⟩:∃m,n-t=m:=⟨_,rfl⟩;rw[hm]at hroom⊢;have e1:¬(n:Int)<t:=by omega
 have e2:IntKind.i64.wrap ((n:Int)-t)=m:=by rw[IntKind.wrap_i64];omega
 have e3:IntKind.i64.wrap ((m:Int)+(s.size:Int))=(m+ps.length:Nat):=by rw[IntKind.wrap_i64,hsz];omega
 have e4:¬((m+ps.length:Nat):Int)>128:=by omega
 go_enter func96,ntmps96;have YY:(op==40)=false:=by simp[uk]
 have Y':(op==41)=false:=by simp[ur]
 have Zs:(op==42)=false:=by simp[Rb]
 have b35:(op==35)=false:=by simp[Zi]
 go_wp2_with fail;refine(hS _).mono ?_;rintro _ w1 ⟨rfl,t1⟩;go_upto_region 8 with(fail);have JC:∀f,f∈F→f<w1.heap.size:=fun f hf=>Nat.lt_of_lt_of_le (HL.out f hf) t1.size;have Dc:aG (w1.alloc (.cells #[.int .i64 t,.string s] 177)) b F L:=(H.out.touch t1 (by simp)).alloc _;have bA:=aF.new w1 177 #[.int .i64 t,.string s];have tA:=t1.alloc (.cells #[.int .i64 t,.string s] 177);have qV:b∈F:=by obtain⟨v,_,rfl,_⟩:=H.out;simp
 have g1:(w1.alloc (.cells #[.int .i64 t,.string s] 177)).cell? ⟨b,0,none⟩=some (.slice a0 n c0):=(tA.cell (p:=⟨b,0,none⟩) (HL.out b qV) (by simp)).trans g0;have pG:w1.heap.size∉F:=fun hf=>Nat.lt_irrefl _ (JC _ hf);have hSw:w.heap.size≤w1.heap.size:=t1.size;generalize T9:w1.alloc (.cells #[.int .i64 t,.string s] 177)=wA at*;generalize Ua:w1.heap.size=BS at*;clear T9 Ua t1 g0 Hb;have hT:=qp wA b F L Dc t (by rw[Hn.out];omega) (by rw[Hn.out];omega);rw[Hn.out,hm]at hT;have uu:(L.drop m).length=t:=by rw[List.length_drop,Hn.out];omega
 have z0:=bA.cell 0;have z1:=bA.cell 1;have HA:=hid tA;have HS:=hid Dc;clear tA Dc;go_wp2_with fail;refine hT.mono ?_;rintro _ w2 ⟨v,rfl,hown,Rs,t2⟩;have eh:=bA.lt;have y0:=(t2.cell (p:=⟨BS,0,none⟩) eh pG).trans z0;have y1:=(t2.cell (p:=⟨BS,1,none⟩) eh pG).trans z1;have T2:=hid ((HA.out.mono (G:=F) (by simp)).trans t2 (fun g hg=>.inl hg));clear hT z0 z1 bA g1;go_upto_region 19 with(fail);have Ub:(L.take m).length=m:=by rw[List.length_take,Hn.out];omega
 have D0:Pk w b F (L.take m) v (L.drop m) w2.heap.size s ps 0 (w2.iter s 0):=by
  refine⟨F,by rw[List.take_zero,List.map_nil,List.append_nil];exact Rs.alloc _,T2.out.alloc _,Sub.refl _ _,fun hf=>Nat.lt_irrefl _ (Nat.lt_of_lt_of_le (HL.out _ hf) T2.out.size),T2.out.size,?_,?_,World.iter_heap w2 s 0⟩
  ·intro g hg;have h1:=hown.lt g (aB.1 hg);have h2:=HA.out.size;exact⟨fun hf=>by have:=HL.out _ hf;omega,by omega,by omega⟩
  ·rw[uu];exact(Go.Joins.ownsRow_le hown (Nat.zero_le _)).alloc _
 have hv:∃a c,v=.slice a t c:=bn (Go.Joins.ownsRow_le hown (Nat.zero_le _));obtain⟨av,cv,rfl⟩:=hv;generalize w2.iter s 0=W0 at D0⊢;generalize w2.heap.size=it at D0⊢;generalize hA:L.take m=A at*;generalize hM:L.drop m=M at*;clear Rs hown t2 y0 y1 T2 HA HS HL H hS qV pG JC hSw eh;have uv:=hid (And.intro hA hM);clear hA hM;go_loopg [11] ps.length (fun gf _ wr=>∃j,j≤ps.length∧ps.length≤j+gf∧Pk w b F A (.slice av t cv) M it s ps j wr)
 case atStart=>exact⟨0,by omega,by omega,D0⟩
 case round=>
  obtain⟨j,hj,hgj,hD⟩:=hrel;clear D0;by_cases hlt:j<ps.length
  ·obtain⟨g',rfl⟩:∃g',gk=g'+1:=⟨gk-1,by omega⟩;have ux:j<s.size:=by omega
   obtain⟨p,hp⟩:∃p,ps.getD j 0=p:=⟨_,rfl⟩;have hpt:p<t:=by
    have:=Hh.out.1 (ps.getD j 0) (by rw[List.getD,List.getElem?_eq_getElem hlt];exact List.getElem_mem hlt);omega
   have hch:=Hh.out.2 j ux;rw[hp]at hch;obtain⟨F',d1,d2,d3,d4,d5,d6,d7,d8⟩:=hD;have Gg:∀ty,(Instr.next (.pointer (some ⟨it,0,none⟩)) true ty).run prog wr=_:=fun ty=>Lib.run_next_ascii_at wr it s j ty d8 ux (by omega);rw[hch]at Gg;have i8:=Lib.iterAt_heap wr it s j (j+1) d8;have i1:=d1.iter d4 s (j+1);have i2:=nQ d2 (k:=it) (.inr d5) s (j+1);have i7:(wr.iterAt it s (j+1)).ownsRow 0 33 1 (.slice av t cv) M.length (cells M):=aj d7 (nQ (Touch.refl [it] wr) (by simp) s (j+1)) (fun g hg hf=>(d6 g hg).2.1 (by simpa using hf));generalize wr.iterAt it s (j+1)=W at*;obtain⟨g,rfl⟩:∃g,av=some ⟨g,0,none⟩:=by
    rcases Go.Joins.ownsRow_forms i7 with⟨e,e'⟩|⟨g,cap,e⟩
    ·omega
    ·cases e;exact⟨g,rfl⟩
   have ei:=i7;rw[uu]at ei;have hcell:W.cell? ⟨g,p,none⟩=some (.int .i64 (M.getD p 0)):=by
    rw[ei.cellAt p (by omega)];exact eH M p (by omega)
   obtain⟨x,hx⟩:∃x,M.getD p 0=x:=⟨_,rfl⟩;rw[hx]at hcell;have oZ:=vG W b F' _ i1 (by rw[List.length_append,List.length_map,List.length_take,Ub];omega) x;have K:=hid (And.intro i8 (And.intro i2 (And.intro i7 (And.intro d3 (And.intro d4 (And.intro d5 d6))))));clear d1 d2 d3 d4 d5 d6 d7 d8 i8 i1 i2 i7 ei hch;have ep:IntKind.i32.wrap ((97+p:Nat)-97)=p:=by rw[IntKind.wrap_i32];omega
   have Hx:=hid (And.intro hx hp);clear hx hp;go_wp2_with fail;refine oZ.mono ?_;rintro _ w3 ⟨lO,rfl,hs3,t3,vZ⟩;obtain⟨i8,i2,i7,d3,d4,d5,d6⟩:=K.out;have Zj:Pk w b F A (.slice (some ⟨g,0,none⟩) t cv) M it s ps (j+1) w3:=by
    have Ks:w.heap.size≤W.heap.size:=i2.size;have ey:it<W.heap.size:=(Array.getElem?_eq_some_iff.1 i8).1;have KB:∀g'∈rowOf (.slice (some ⟨g,0,none⟩) t cv),g'<W.heap.size:=fun g' KY=>fG i7 KY;refine⟨lO,?_,i2.trans t3 d3,Sub.trans d3 vZ Ks,?_,d5,?_,?_,?_⟩
    ·have e:(ps.take (j+1)).map (fun i=>M.getD i 0)=(ps.take j).map (fun i=>M.getD i 0)++[x]:=by
      rw[List.take_add_one,List.map_append];congr 1;have:=Hx.out.1;have h2:=Hx.out.2;rw[List.getElem?_eq_getElem hlt];rw[List.getD,List.getElem?_eq_getElem hlt]at h2;simp only[Option.getD_some]at h2;simp[h2];exact this
     rw[e,←List.append_assoc];exact hs3
    ·intro hf;rcases vZ _ hf with h|h
     ·exact d4 h
     ·omega
    ·intro g' KY;refine⟨fun hf=> ?_,(d6 g' KY).2⟩;rcases vZ _ hf with h|h
     ·exact(d6 g' KY).1 h
     ·have:=KB g' KY;omega
    ·exact aj i7 t3 (fun g' KY=>(d6 g' KY).1)
    ·exact(t3.block it ey d4).trans i8
   clear hs3 t3 vZ i8 i2 i7 d3 d4 d5 d6 K Gg hcell;go_wp2;go_roundg g'
   case measure=>omega
   case rel=>exact⟨j+1,by omega,by omega,Zj⟩
  ·have K0:j=ps.length:=by omega
   subst K0;obtain⟨F',d1,d2,d3,d4,d5,d6,d7,d8⟩:=hD;have Gg:∀ty,(Instr.next (.pointer (some ⟨it,0,none⟩)) true ty).run prog wr=_:=fun ty=>Lib.run_next_end_at wr it s ps.length ty d8 (by omega);clear d4 d5 d6 d7 d8;go_wp2;go_ret;rw[List.take_length]at d1;rw[uv.out.1,uv.out.2];exact⟨F',rfl,d1,d2,d3⟩
theorem X5(w:World)(b:Nat)(F:List Nat)(L:List Int)(h:aG w b F L)(t:Nat)(ps:List Nat)(hS:∀w,bf 35 t (places ps) w)(Q5:∀i∈ps,i<t)(lB:t≤4)(iI:ps.length≤6)
 (top:Int) (Fw:L.getD (L.length-1) 0=top) (hnz:¬top=0) (YS:1≤t) (hL:L.length≤128) (ht:t≤L.length) (hroom:L.length-t+ps.length≤128):
 Calls prog 96 #[.pointer (some ⟨b,0,none⟩),.int .i64 35] w fun e w'=>
  ∃F',e=.returned (.int .i64 0)∧aG w' b F' (L.take (L.length-t)++ps.map fun i=>(L.drop (L.length-t)).getD i 0)∧Touch F w w'∧Sub w F F':=by
 have Uc:=hid Fw;clear Fw;obtain⟨s,hs⟩:∃s,places ps=s:=⟨_,rfl⟩;have hsz:s.size=ps.length:=by rw[←hs,lW]
 have hat:∀j (hj:j<s.size),(s[j]'hj).toNat=97+ps.getD j 0:=by
  subst hs;exact Eb ps (fun i hi=>by have:=Q5 i hi;omega)
 rw[hs]at hS;obtain⟨v0,hb0,nV,qK,jk⟩:=id h;obtain⟨a0,c0,rfl⟩:=bn jk;have HL:=hid h.lt;have H:=hid h;have g0:=hb0.cell 0;obtain⟨n,hn⟩:∃n,L.length=n:=⟨_,rfl⟩;have Hh:=hid (And.intro Q5 hat);have Hn:=hid hn;rw[hn]at hL ht hroom g0⊢;have Hb:=hid hb0;clear h hb0 nV qK jk Q5 hat hn hs;obtain⟨m,hm⟩:∃m,n-t=m:=⟨_,rfl⟩;rw[hm]at hroom⊢;have e1:¬(n:Int)<t:=by omega
 have e2:IntKind.i64.wrap ((n:Int)-t)=m:=by rw[IntKind.wrap_i64];omega
 have e3:IntKind.i64.wrap ((m:Int)+(s.size:Int))=(m+ps.length:Nat):=by rw[IntKind.wrap_i64,hsz];omega
 have e4:¬((m+ps.length:Nat):Int)>128:=by omega
 go_enter func96,ntmps96;go_wp2_with fail;refine(hS _).mono ?_;rintro _ w1 ⟨rfl,t1⟩;go_upto_region 8 with(fail);have JC:∀f,f∈F→f<w1.heap.size:=fun f hf=>Nat.lt_of_lt_of_le (HL.out f hf) t1.size;have Dc:aG (w1.alloc (.cells #[.int .i64 t,.string s] 177)) b F L:=(H.out.touch t1 (by simp)).alloc _;have bA:=aF.new w1 177 #[.int .i64 t,.string s];have tA:=t1.alloc (.cells #[.int .i64 t,.string s] 177);have qV:b∈F:=by obtain⟨v,_,rfl,_⟩:=H.out;simp
 have g1:(w1.alloc (.cells #[.int .i64 t,.string s] 177)).cell? ⟨b,0,none⟩=some (.slice a0 n c0):=(tA.cell (p:=⟨b,0,none⟩) (HL.out b qV) (by simp)).trans g0;have pG:w1.heap.size∉F:=fun hf=>Nat.lt_irrefl _ (JC _ hf);have hSw:w.heap.size≤w1.heap.size:=t1.size;generalize T9:w1.alloc (.cells #[.int .i64 t,.string s] 177)=wA at*;generalize Ua:w1.heap.size=BS at*;clear T9 Ua t1 g0 Hb;obtain⟨gt,rfl⟩:∃gt,a0=some ⟨gt,0,none⟩:=by
  obtain⟨v',hb',_,_,uS⟩:=Dc;have e:=(hb'.cell 0).symm.trans g1;simp at e;subst e;rw[Hn.out]at uS;rcases Go.Joins.ownsRow_forms uS with⟨e,e'⟩|⟨g,cap,e⟩
  ·omega
  ·cases e;exact⟨g,rfl⟩
 have ZZ:wA.cell? ⟨gt,n-1,none⟩=some (.int .i64 top):=by
  obtain⟨v',hb',_,_,uS⟩:=Dc;have e:=(hb'.cell 0).symm.trans g1;simp at e;subst e;rw[Hn.out]at uS;rw[uS.cellAt (n-1) (by omega)];rw[eH L (n-1) (by rw[Hn.out];omega)];have:=Uc.out;rw[Hn.out]at this;rw[this]
 have en:IntKind.i64.wrap ((n:Int)-1)=(n-1:Nat):=by rw[IntKind.wrap_i64];omega
 have hT:=qp wA b F L Dc t (by rw[Hn.out];omega) (by rw[Hn.out];omega);rw[Hn.out,hm]at hT;have uu:(L.drop m).length=t:=by rw[List.length_drop,Hn.out];omega
 have z0:=bA.cell 0;have z1:=bA.cell 1;have HA:=hid tA;have HS:=hid Dc;clear tA Dc;go_wp2_with fail;refine hT.mono ?_;rintro _ w2 ⟨v,rfl,hown,Rs,t2⟩;have eh:=bA.lt;have y0:=(t2.cell (p:=⟨BS,0,none⟩) eh pG).trans z0;have y1:=(t2.cell (p:=⟨BS,1,none⟩) eh pG).trans z1;have T2:=hid ((HA.out.mono (G:=F) (by simp)).trans t2 (fun g hg=>.inl hg));clear hT z0 z1 bA g1;go_upto_region 19 with(fail);have Ub:(L.take m).length=m:=by rw[List.length_take,Hn.out];omega
 have D0:Pk w b F (L.take m) v (L.drop m) w2.heap.size s ps 0 (w2.iter s 0):=by
  refine⟨F,by rw[List.take_zero,List.map_nil,List.append_nil];exact Rs.alloc _,T2.out.alloc _,Sub.refl _ _,fun hf=>Nat.lt_irrefl _ (Nat.lt_of_lt_of_le (HL.out _ hf) T2.out.size),T2.out.size,?_,?_,World.iter_heap w2 s 0⟩
  ·intro g hg;have h1:=hown.lt g (aB.1 hg);have h2:=HA.out.size;exact⟨fun hf=>by have:=HL.out _ hf;omega,by omega,by omega⟩
  ·rw[uu];exact(Go.Joins.ownsRow_le hown (Nat.zero_le _)).alloc _
 have hv:∃a c,v=.slice a t c:=bn (Go.Joins.ownsRow_le hown (Nat.zero_le _));obtain⟨av,cv,rfl⟩:=hv;generalize w2.iter s 0=W0 at D0⊢;generalize w2.heap.size=it at D0⊢;generalize hA:L.take m=A at*;generalize hM:L.drop m=M at*;clear Rs hown t2 y0 y1 T2 HA HS HL H hS qV pG JC hSw eh;have uv:=hid (And.intro hA hM);clear hA hM;go_loopg [11] ps.length (fun gf _ wr=>∃j,j≤ps.length∧ps.length≤j+gf∧Pk w b F A (.slice av t cv) M it s ps j wr)
 case atStart=>exact⟨0,by omega,by omega,D0⟩
 case round=>
  obtain⟨j,hj,hgj,hD⟩:=hrel;clear D0;by_cases hlt:j<ps.length
  ·obtain⟨g',rfl⟩:∃g',gk=g'+1:=⟨gk-1,by omega⟩;have ux:j<s.size:=by omega
   obtain⟨p,hp⟩:∃p,ps.getD j 0=p:=⟨_,rfl⟩;have hpt:p<t:=by
    have:=Hh.out.1 (ps.getD j 0) (by rw[List.getD,List.getElem?_eq_getElem hlt];exact List.getElem_mem hlt);omega
   have hch:=Hh.out.2 j ux;rw[hp]at hch;obtain⟨F',d1,d2,d3,d4,d5,d6,d7,d8⟩:=hD;have Gg:∀ty,(Instr.next (.pointer (some ⟨it,0,none⟩)) true ty).run prog wr=_:=fun ty=>Lib.run_next_ascii_at wr it s j ty d8 ux (by omega);rw[hch]at Gg;have i8:=Lib.iterAt_heap wr it s j (j+1) d8;have i1:=d1.iter d4 s (j+1);have i2:=nQ d2 (k:=it) (.inr d5) s (j+1);have i7:(wr.iterAt it s (j+1)).ownsRow 0 33 1 (.slice av t cv) M.length (cells M):=aj d7 (nQ (Touch.refl [it] wr) (by simp) s (j+1)) (fun g hg hf=>(d6 g hg).2.1 (by simpa using hf));generalize wr.iterAt it s (j+1)=W at*;obtain⟨g,rfl⟩:∃g,av=some ⟨g,0,none⟩:=by
    rcases Go.Joins.ownsRow_forms i7 with⟨e,e'⟩|⟨g,cap,e⟩
    ·omega
    ·cases e;exact⟨g,rfl⟩
   have ei:=i7;rw[uu]at ei;have hcell:W.cell? ⟨g,p,none⟩=some (.int .i64 (M.getD p 0)):=by
    rw[ei.cellAt p (by omega)];exact eH M p (by omega)
   obtain⟨x,hx⟩:∃x,M.getD p 0=x:=⟨_,rfl⟩;rw[hx]at hcell;have oZ:=vG W b F' _ i1 (by rw[List.length_append,List.length_map,List.length_take,Ub];omega) x;have K:=hid (And.intro i8 (And.intro i2 (And.intro i7 (And.intro d3 (And.intro d4 (And.intro d5 d6))))));clear d1 d2 d3 d4 d5 d6 d7 d8 i8 i1 i2 i7 ei hch;have ep:IntKind.i32.wrap ((97+p:Nat)-97)=p:=by rw[IntKind.wrap_i32];omega
   have Hx:=hid (And.intro hx hp);clear hx hp;go_wp2_with fail;refine oZ.mono ?_;rintro _ w3 ⟨lO,rfl,hs3,t3,vZ⟩;obtain⟨i8,i2,i7,d3,d4,d5,d6⟩:=K.out;have Zj:Pk w b F A (.slice (some ⟨g,0,none⟩) t cv) M it s ps (j+1) w3:=by
    have Ks:w.heap.size≤W.heap.size:=i2.size;have ey:it<W.heap.size:=(Array.getElem?_eq_some_iff.1 i8).1;have KB:∀g'∈rowOf (.slice (some ⟨g,0,none⟩) t cv),g'<W.heap.size:=fun g' KY=>fG i7 KY;refine⟨lO,?_,i2.trans t3 d3,Sub.trans d3 vZ Ks,?_,d5,?_,?_,?_⟩
    ·have e:(ps.take (j+1)).map (fun i=>M.getD i 0)=(ps.take j).map (fun i=>M.getD i 0)++[x]:=by
      rw[List.take_add_one,List.map_append];congr 1;have:=Hx.out.1;have h2:=Hx.out.2;rw[List.getElem?_eq_getElem hlt];rw[List.getD,List.getElem?_eq_getElem hlt]at h2;simp only[Option.getD_some]at h2;simp[h2];exact this
     rw[e,←List.append_assoc];exact hs3
    ·intro hf;rcases vZ _ hf with h|h
     ·exact d4 h
     ·omega
    ·intro g' KY;refine⟨fun hf=> ?_,(d6 g' KY).2⟩;rcases vZ _ hf with h|h
     ·exact(d6 g' KY).1 h
     ·have:=KB g' KY;omega
    ·exact aj i7 t3 (fun g' KY=>(d6 g' KY).1)
    ·exact(t3.block it ey d4).trans i8
   clear hs3 t3 vZ i8 i2 i7 d3 d4 d5 d6 K Gg hcell;go_wp2;go_roundg g'
   case measure=>omega
   case rel=>exact⟨j+1,by omega,by omega,Zj⟩
  ·have K0:j=ps.length:=by omega
   subst K0;obtain⟨F',d1,d2,d3,d4,d5,d6,d7,d8⟩:=hD;have Gg:∀ty,(Instr.next (.pointer (some ⟨it,0,none⟩)) true ty).run prog wr=_:=fun ty=>Lib.run_next_end_at wr it s ps.length ty d8 (by omega);clear d4 d5 d6 d7 d8;go_wp2;go_ret;rw[List.take_length]at d1;rw[uv.out.1,uv.out.2];exact⟨F',rfl,d1,d2,d3⟩
theorem Ud(w:World)(b:Nat)(F:List Nat)(L:List Int)(h:aG w b F L)(t:Nat)(ps:List Nat)(hS:∀w,bf 35 t (places ps) w)(lB:t≤4)
 (top:Int) (Fw:L.getD (L.length-1) 0=top) (hnz:top=0) (YS:1≤t) (hL:L.length≤128) (ht:t≤L.length):
 Calls prog 96 #[.pointer (some ⟨b,0,none⟩),.int .i64 35] w fun e w'=>e=.returned (.int .i64 (0))∧Touch [] w w':=by
 have Uc:=hid Fw;clear Fw;obtain⟨s,hs⟩:∃s,places ps=s:=⟨_,rfl⟩;rw[hs]at hS;obtain⟨v0,hb0,nV,qK,jk⟩:=id h;obtain⟨a0,c0,rfl⟩:=bn jk;have HL:=hid h.lt;have H:=hid h;have g0:=hb0.cell 0;obtain⟨n,hn⟩:∃n,L.length=n:=⟨_,rfl⟩;have Hn:=hid hn;rw[hn]at hL ht g0;have Hb:=hid hb0;clear h hb0 nV qK jk hn hs;have e1:¬(n:Int)<t:=by omega
 go_enter func96,ntmps96;go_wp2_with fail;refine(hS _).mono ?_;rintro _ w1 ⟨rfl,t1⟩;go_upto_region 8 with(fail);have JC:∀f,f∈F→f<w1.heap.size:=fun f hf=>Nat.lt_of_lt_of_le (HL.out f hf) t1.size;have Dc:aG (w1.alloc (.cells #[.int .i64 t,.string s] 177)) b F L:=(H.out.touch t1 (by simp)).alloc _;have bA:=aF.new w1 177 #[.int .i64 t,.string s];have tA:=t1.alloc (.cells #[.int .i64 t,.string s] 177);have qV:b∈F:=by obtain⟨v,_,rfl,_⟩:=H.out;simp
 have g1:(w1.alloc (.cells #[.int .i64 t,.string s] 177)).cell? ⟨b,0,none⟩=some (.slice a0 n c0):=(tA.cell (p:=⟨b,0,none⟩) (HL.out b qV) (by simp)).trans g0;have pG:w1.heap.size∉F:=fun hf=>Nat.lt_irrefl _ (JC _ hf);have hSw:w.heap.size≤w1.heap.size:=t1.size;generalize T9:w1.alloc (.cells #[.int .i64 t,.string s] 177)=wA at*;generalize Ua:w1.heap.size=BS at*;clear T9 Ua t1 g0 Hb;obtain⟨gt,rfl⟩:∃gt,a0=some ⟨gt,0,none⟩:=by
  obtain⟨v',hb',_,_,uS⟩:=Dc;have e:=(hb'.cell 0).symm.trans g1;simp at e;subst e;rw[Hn.out]at uS;rcases Go.Joins.ownsRow_forms uS with⟨e,e'⟩|⟨g,cap,e⟩
  ·omega
  ·cases e;exact⟨g,rfl⟩
 have ZZ:wA.cell? ⟨gt,n-1,none⟩=some (.int .i64 top):=by
  obtain⟨v',hb',_,_,uS⟩:=Dc;have e:=(hb'.cell 0).symm.trans g1;simp at e;subst e;rw[Hn.out]at uS;rw[uS.cellAt (n-1) (by omega)];rw[eH L (n-1) (by rw[Hn.out];omega)];have:=Uc.out;rw[Hn.out]at this;rw[this]
 have en:IntKind.i64.wrap ((n:Int)-1)=(n-1:Nat):=by rw[IntKind.wrap_i64];omega
 have z0:=bA.cell 0;have z1:=bA.cell 1;have HA:=hid tA;clear tA Dc HL H;go_wp2;go_ret;exact⟨rfl,HA.out⟩
theorem Ue(w:World)(b:Nat)(F:List Nat)(L:List Int)(h:aG w b F L)(op:Int)(t:Nat)(ps:List Nat)(hS:∀w,bf op t (places ps) w)
 (uk:¬op=40) (ur:¬op=41) (Rb:¬op=42) (ht:L.length<t):
 Calls prog 96 #[.pointer (some ⟨b,0,none⟩),.int .i64 op] w fun e w'=>e=.returned (.int .i64 (-4))∧Touch [] w w':=by
 obtain⟨s,hs⟩:∃s,places ps=s:=⟨_,rfl⟩;rw[hs]at hS;obtain⟨v0,hb0,nV,qK,jk⟩:=id h;obtain⟨a0,c0,rfl⟩:=bn jk;have HL:=hid h.lt;have H:=hid h;have g0:=hb0.cell 0;obtain⟨n,hn⟩:∃n,L.length=n:=⟨_,rfl⟩;have Hn:=hid hn;rw[hn]at ht g0;have Hb:=hid hb0;clear h hb0 nV qK jk hn hs;have e1:(n:Int)<t:=by omega
 go_enter func96,ntmps96;have YY:(op==40)=false:=by simp[uk]
 have Y':(op==41)=false:=by simp[ur]
 have Zs:(op==42)=false:=by simp[Rb]
 go_wp2_with fail;refine(hS _).mono ?_;rintro _ w1 ⟨rfl,t1⟩;go_upto_region 8 with(fail);have JC:∀f,f∈F→f<w1.heap.size:=fun f hf=>Nat.lt_of_lt_of_le (HL.out f hf) t1.size;have Dc:aG (w1.alloc (.cells #[.int .i64 t,.string s] 177)) b F L:=(H.out.touch t1 (by simp)).alloc _;have bA:=aF.new w1 177 #[.int .i64 t,.string s];have tA:=t1.alloc (.cells #[.int .i64 t,.string s] 177);have qV:b∈F:=by obtain⟨v,_,rfl,_⟩:=H.out;simp
 have g1:(w1.alloc (.cells #[.int .i64 t,.string s] 177)).cell? ⟨b,0,none⟩=some (.slice a0 n c0):=(tA.cell (p:=⟨b,0,none⟩) (HL.out b qV) (by simp)).trans g0;have pG:w1.heap.size∉F:=fun hf=>Nat.lt_irrefl _ (JC _ hf);have hSw:w.heap.size≤w1.heap.size:=t1.size;generalize T9:w1.alloc (.cells #[.int .i64 t,.string s] 177)=wA at*;generalize Ua:w1.heap.size=BS at*;clear T9 Ua t1 g0 Hb;have z0:=bA.cell 0;have z1:=bA.cell 1;have HA:=hid tA;clear tA Dc HL H;go_wp2;go_ret;exact⟨rfl,HA.out⟩
theorem X6(w:World)(b:Nat)(F:List Nat)(L:List Int)(h:aG w b F L)(op:Int)(t:Nat)(ps:List Nat)(hS:∀w,bf op t (places ps) w)(lB:t≤4)(iI:ps.length≤6)
 (uk:¬op=40) (ur:¬op=41) (Rb:¬op=42) (Zi:¬op=35) (hL:L.length≤128) (ht:t≤L.length) (hroom:128<L.length-t+ps.length):
 Calls prog 96 #[.pointer (some ⟨b,0,none⟩),.int .i64 op] w fun e w'=>e=.returned (.int .i64 (-3))∧Touch [] w w':=by
 obtain⟨s,hs⟩:∃s,places ps=s:=⟨_,rfl⟩;have hsz:s.size=ps.length:=by rw[←hs,lW]
 rw[hs]at hS;obtain⟨v0,hb0,nV,qK,jk⟩:=id h;obtain⟨a0,c0,rfl⟩:=bn jk;have HL:=hid h.lt;have H:=hid h;have g0:=hb0.cell 0;obtain⟨n,hn⟩:∃n,L.length=n:=⟨_,rfl⟩;have Hn:=hid hn;rw[hn]at hL ht hroom g0;have Hb:=hid hb0;clear h hb0 nV qK jk hn hs;obtain⟨m,hm⟩:∃m,n-t=m:=⟨_,rfl⟩;rw[hm]at hroom;have e1:¬(n:Int)<t:=by omega
 have e2:IntKind.i64.wrap ((n:Int)-t)=m:=by rw[IntKind.wrap_i64];omega
 have e3:IntKind.i64.wrap ((m:Int)+(s.size:Int))=(m+ps.length:Nat):=by rw[IntKind.wrap_i64,hsz];omega
 have e4:((m+ps.length:Nat):Int)>128:=by omega
 go_enter func96,ntmps96;have YY:(op==40)=false:=by simp[uk]
 have Y':(op==41)=false:=by simp[ur]
 have Zs:(op==42)=false:=by simp[Rb]
 have b35:(op==35)=false:=by simp[Zi]
 go_wp2_with fail;refine(hS _).mono ?_;rintro _ w1 ⟨rfl,t1⟩;go_upto_region 8 with(fail);have JC:∀f,f∈F→f<w1.heap.size:=fun f hf=>Nat.lt_of_lt_of_le (HL.out f hf) t1.size;have Dc:aG (w1.alloc (.cells #[.int .i64 t,.string s] 177)) b F L:=(H.out.touch t1 (by simp)).alloc _;have bA:=aF.new w1 177 #[.int .i64 t,.string s];have tA:=t1.alloc (.cells #[.int .i64 t,.string s] 177);have qV:b∈F:=by obtain⟨v,_,rfl,_⟩:=H.out;simp
 have g1:(w1.alloc (.cells #[.int .i64 t,.string s] 177)).cell? ⟨b,0,none⟩=some (.slice a0 n c0):=(tA.cell (p:=⟨b,0,none⟩) (HL.out b qV) (by simp)).trans g0;have pG:w1.heap.size∉F:=fun hf=>Nat.lt_irrefl _ (JC _ hf);have hSw:w.heap.size≤w1.heap.size:=t1.size;generalize T9:w1.alloc (.cells #[.int .i64 t,.string s] 177)=wA at*;generalize Ua:w1.heap.size=BS at*;clear T9 Ua t1 g0 Hb;have z0:=bA.cell 0;have z1:=bA.cell 1;have HA:=hid tA;clear tA Dc HL H;go_wp2;go_ret;exact⟨rfl,HA.out⟩
theorem Uf(w:World)(b:Nat)(F:List Nat)(L:List Int)(h:aG w b F L)(t:Nat)(ps:List Nat)(hS:∀w,bf 35 t (places ps) w)(lB:t≤4)(iI:ps.length≤6)
 (top:Int) (Fw:L.getD (L.length-1) 0=top) (hnz:¬top=0) (YS:1≤t) (hL:L.length≤128) (ht:t≤L.length) (hroom:128<L.length-t+ps.length):
 Calls prog 96 #[.pointer (some ⟨b,0,none⟩),.int .i64 35] w fun e w'=>e=.returned (.int .i64 (-3))∧Touch [] w w':=by
 have Uc:=hid Fw;clear Fw;obtain⟨s,hs⟩:∃s,places ps=s:=⟨_,rfl⟩;have hsz:s.size=ps.length:=by rw[←hs,lW]
 rw[hs]at hS;obtain⟨v0,hb0,nV,qK,jk⟩:=id h;obtain⟨a0,c0,rfl⟩:=bn jk;have HL:=hid h.lt;have H:=hid h;have g0:=hb0.cell 0;obtain⟨n,hn⟩:∃n,L.length=n:=⟨_,rfl⟩;have Hn:=hid hn;rw[hn]at hL ht hroom g0;have Hb:=hid hb0;clear h hb0 nV qK jk hn hs;obtain⟨m,hm⟩:∃m,n-t=m:=⟨_,rfl⟩;rw[hm]at hroom;have e1:¬(n:Int)<t:=by omega
 have e2:IntKind.i64.wrap ((n:Int)-t)=m:=by rw[IntKind.wrap_i64];omega
 have e3:IntKind.i64.wrap ((m:Int)+(s.size:Int))=(m+ps.length:Nat):=by rw[IntKind.wrap_i64,hsz];omega
 have e4:((m+ps.length:Nat):Int)>128:=by omega
 go_enter func96,ntmps96;go_wp2_with fail;refine(hS _).mono ?_;rintro _ w1 ⟨rfl,t1⟩;go_upto_region 8 with(fail);have JC:∀f,f∈F→f<w1.heap.size:=fun f hf=>Nat.lt_of_lt_of_le (HL.out f hf) t1.size;have Dc:aG (w1.alloc (.cells #[.int .i64 t,.string s] 177)) b F L:=(H.out.touch t1 (by simp)).alloc _;have bA:=aF.new w1 177 #[.int .i64 t,.string s];have tA:=t1.alloc (.cells #[.int .i64 t,.string s] 177);have qV:b∈F:=by obtain⟨v,_,rfl,_⟩:=H.out;simp
 have g1:(w1.alloc (.cells #[.int .i64 t,.string s] 177)).cell? ⟨b,0,none⟩=some (.slice a0 n c0):=(tA.cell (p:=⟨b,0,none⟩) (HL.out b qV) (by simp)).trans g0;have pG:w1.heap.size∉F:=fun hf=>Nat.lt_irrefl _ (JC _ hf);have hSw:w.heap.size≤w1.heap.size:=t1.size;generalize T9:w1.alloc (.cells #[.int .i64 t,.string s] 177)=wA at*;generalize Ua:w1.heap.size=BS at*;clear T9 Ua t1 g0 Hb;obtain⟨gt,rfl⟩:∃gt,a0=some ⟨gt,0,none⟩:=by
  obtain⟨v',hb',_,_,uS⟩:=Dc;have e:=(hb'.cell 0).symm.trans g1;simp at e;subst e;rw[Hn.out]at uS;rcases Go.Joins.ownsRow_forms uS with⟨e,e'⟩|⟨g,cap,e⟩
  ·omega
  ·cases e;exact⟨g,rfl⟩
 have ZZ:wA.cell? ⟨gt,n-1,none⟩=some (.int .i64 top):=by
  obtain⟨v',hb',_,_,uS⟩:=Dc;have e:=(hb'.cell 0).symm.trans g1;simp at e;subst e;rw[Hn.out]at uS;rw[uS.cellAt (n-1) (by omega)];rw[eH L (n-1) (by rw[Hn.out];omega)];have:=Uc.out;rw[Hn.out]at this;rw[this]
 have en:IntKind.i64.wrap ((n:Int)-1)=(n-1:Nat):=by rw[IntKind.wrap_i64];omega
 have z0:=bA.cell 0;have z1:=bA.cell 1;have HA:=hid tA;clear tA Dc HL H;go_wp2;go_ret;exact⟨rfl,HA.out⟩
theorem Ug(w:World)(b:Nat)(F:List Nat)(L:List Int)(h:aG w b F L)(hL:L.length<128):
 Calls prog 96 #[.pointer (some ⟨b,0,none⟩),.int .i64 42] w fun e w'=>
  ∃F',e=.returned (.int .i64 0)∧aG w' b F' (L++[(L.length:Int)])∧Touch F w w'∧Sub w F F':=by
 have hP:=vG w b F L h hL L.length;obtain⟨v0,hb0,nV,qK,jk⟩:=id h;obtain⟨a0,c0,rfl⟩:=bn jk;have g0:=hb0.cell 0;clear h hb0 nV qK jk;obtain⟨n,hn⟩:∃n:Nat,L.length=n:=⟨_,rfl⟩;rw[hn]at hP g0⊢;clear hn hL;go_enter func96,ntmps96;go_wp2_with fail;refine hP.mono ?_;rintro _ w1 ⟨F',rfl,hs,t1,aT⟩;go_wp2;go_ret;exact⟨F',rfl,hs,t1,aT⟩
theorem Df(w:World)(b:Nat)(F:List Nat)(L:List Int)(h:aG w b F L)(hL:L.length=128):
 Calls prog 96 #[.pointer (some ⟨b,0,none⟩),.int .i64 42] w fun e w'=>e=.returned (.int .i64 (-3))∧Touch [] w w':=by
 have hP:=wY w b F L h hL L.length;obtain⟨v0,hb0,nV,qK,jk⟩:=id h;obtain⟨a0,c0,rfl⟩:=bn jk;have g0:=hb0.cell 0;clear h hb0 nV qK jk;obtain⟨n,hn⟩:∃n:Nat,L.length=n:=⟨_,rfl⟩;rw[hn]at hP g0;clear hn hL;go_enter func96,ntmps96;go_wp2_with fail;refine hP.mono ?_;rintro _ w1 ⟨rfl,t1⟩;go_wp2;go_ret;exact⟨rfl,t1⟩
theorem Uh(w:World)(b:Nat)(F:List Nat)(op:Int)(h:aG w b F []):
 Calls prog 121 #[.pointer (some ⟨b,0,none⟩),.int .i64 op] w fun e w'=>e=.returned (.int .i64 (-4))∧Touch [] w w':=by
 obtain⟨v0,hb0,nV,qK,jk⟩:=h;obtain⟨a0,c0,rfl⟩:=bn jk;have g0:=hb0.cell 0;clear hb0 nV qK jk;simp only[List.length_nil]at g0;go_enter func121,ntmps121;go_wp2;go_ret;exact⟨rfl,Touch.refl _ _⟩
theorem uT{w:World}{b:Nat}{F:List Nat}{L:List Int}(h:aG w b F L)(n:Nat)(hn:L.length=n+1):
 ∃g c,aF w b 94 #[.slice (some ⟨g,0,none⟩) (n+1) c]∧b≠g∧F=[b,g]∧n+1≤c∧w.ownsRow 0 33 1 (.slice (some ⟨g,0,none⟩) (n+1) c) (n+1) (cells L)∧
  ∀j,j≤n→w.cell? ⟨g,j,none⟩=some (.int .i64 (L.getD j 0)):=by
 obtain⟨v0,hb0,rfl,qK,jk⟩:=h;rw[hn]at jk;obtain⟨g,c,rfl⟩:=Go.Joins.ownsRow_form jk (by omega);refine⟨g,c,hb0,?_,rfl,zH jk,jk,fun j hj=> ?_⟩
 ·intro e;exact qK (by simp[rowOf,e])
 ·rw[jk.cellAt j (by omega)];exact eH L j (by omega)
theorem Pm(w:World)(b:Nat)(F:List Nat)(L:List Int)(op:Int)(h:aG w b F L)(n:Nat)(hn:L.length=n+1)(hL:n≤128)(x:Int)(hx:L.getD n 0=x)(hu:¬IntKind.u64.wrap x<n):
 Calls prog 121 #[.pointer (some ⟨b,0,none⟩),.int .i64 op] w fun e w'=>e=.returned (.int .i64 (-4))∧Touch [] w w':=by
 obtain⟨g,c,hb,hbg,hF,hc,hr,hcell⟩:=uT h n hn;have g0:=hb.cell 0;have gx:=hcell n (Nat.le_refl _);rw[hx]at gx;have en:IntKind.i64.wrap (((n+1:Nat):Int)-1)=n:=by rw[IntKind.wrap_i64];omega
 have eu:IntKind.u64.wrap (n:Int)=n:=by rw[IntKind.wrap_u64];omega
 have e0:¬(n:Int)<0:=by omega
 have e1:(n:Int)≤IntKind.u64.wrap x:=by omega
 clear h hb hF hr hcell hx hu hn;go_enter func121,ntmps121;go_wp2
 all_goals go_ret
 all_goals exact⟨rfl,Touch.refl _ _⟩
theorem Fx{w:World}{b g c m:Nat}{M:List Int}(hbg:b≠g)
 (hB:aF w b 94 #[.slice (some ⟨g,0,none⟩) m c]) (hr:w.ownsRow 0 33 1 (.slice (some ⟨g,0,none⟩) m c) m (cells M)) (hM:M.length=m):aG w b [b,g] M:=by
 subst hM;exact⟨_,hB,rfl,by simp[rowOf];exact hbg,hr⟩
theorem Ui(w:World)(b:Nat)(F:List Nat)(L:List Int)(h:aG w b F L)(n:Nat)(hn:L.length=n+1)(hL:n≤128)(d:Nat)(hx:L.getD n 0=d)(hd:d<n):
 Calls prog 121 #[.pointer (some ⟨b,0,none⟩),.int .i64 40] w fun e w'=>e=.returned (.int .i64 0)∧aG w' b F (L.take n++[L.getD (n-1-d) 0])∧Touch F w w':=by
 obtain⟨g,c,hb,hbg,rfl,hc,hr,hcell⟩:=uT h n hn;have g0:=hb.cell 0;have gx:=hcell n (Nat.le_refl _);rw[hx]at gx;have gy:=hcell (n-1-d) (by omega);obtain⟨y,hy⟩:∃y,L.getD (n-1-d) 0=y:=⟨_,rfl⟩;rw[hy]at gy⊢;have fx:=hr.frozenAt n;obtain⟨at_,hat⟩:∃k,n-1-d=k:=⟨_,rfl⟩;rw[hat]at gy;have en:IntKind.i64.wrap (((n+1:Nat):Int)-1)=n:=by rw[IntKind.wrap_i64];omega
 have en1:IntKind.i64.wrap ((n:Int)-1)=(n-1:Nat):=by rw[IntKind.wrap_i64];omega
 have B7:IntKind.i64.wrap (((n-1:Nat):Int)-d)=at_:=by rw[IntKind.wrap_i64];omega
 have eu:IntKind.u64.wrap (n:Int)=n:=by rw[IntKind.wrap_u64];omega
 have ed:IntKind.u64.wrap (d:Int)=d:=by rw[IntKind.wrap_u64];omega
 have e0:¬(n:Int)<0:=by omega
 have e1:¬(n:Int)≤d:=by omega
 have e2:at_<n+1:=by omega
 have Hr:=hid (And.intro hb (And.intro hr (And.intro hn hat)));have Uj:=hid hbg;clear h hb hbg hr hcell hx hn hy hat;go_enter func121,ntmps121;go_wp2;go_ret;obtain⟨hb,hr,hn,hat⟩:=Hr.out;refine⟨rfl,Fx Uj.out (hb.far (fun e=>Uj.out e) _) ?_ (by simp;omega),(Touch.refl _ _).setCell (by simp) _⟩;have hs:=(hr.stored n (.int .i64 y)).1;have e:(cells L).set n (.int .i64 y)=cells (L.take n++[y]):=by
  apply List.ext_getElem?;intro j;simp only[cells,List.getElem?_set,List.getElem?_map,List.length_map,List.getElem?_append,List.getElem?_take,List.length_take];by_cases h1:j<n
  ·rw[if_neg (by omega),if_pos (by omega),if_pos h1]
  ·by_cases h2:n=j
   ·subst h2;rw[if_pos rfl,if_pos (by omega),if_neg (by omega),show n-min n L.length=0 by omega];rfl
   ·rw[if_neg h2,if_neg (by omega),List.getElem?_eq_none (by omega),List.getElem?_eq_none (by simp;omega)]
 rw[e]at hs;exact hs
theorem Uk(w:World)(b:Nat)(F:List Nat)(L:List Int)(h:aG w b F L)(n:Nat)(hn:L.length=n+1)(hL:n≤128)(d:Nat)(hx:L.getD n 0=d)(hd:d<n):
 Calls prog 121 #[.pointer (some ⟨b,0,none⟩),.int .i64 41] w fun e w'=>
  ∃F',e=.returned (.int .i64 0)∧aG w' b F' ((L.take n).take (n-1-d)++(L.take n).drop (n-d)++[L.getD (n-1-d) 0])∧Touch F w w'∧Sub w F F':=by
 obtain⟨i0,hi,hz0,hz1,hz2⟩:=jH;obtain⟨g,c,hb,hbg,rfl,hc,hr,hcell⟩:=uT h n hn;have g0:=hb.cell 0;have gx:=hcell n (Nat.le_refl _);rw[hx]at gx;have gy:=hcell (n-1-d) (by omega);obtain⟨y,hy⟩:∃y,L.getD (n-1-d) 0=y:=⟨_,rfl⟩;rw[hy]at gy⊢;obtain⟨at_,hat⟩:∃k,n-1-d=k:=⟨_,rfl⟩;rw[show n-d=at_+1 by omega];rw[hat]at gy⊢;have uS:=zV hr (m:=n) (by omega);have hzl:(L.take n).length=n:=by rw[List.length_take];omega
 obtain⟨Z,hZ⟩:∃Z,L.take n=Z:=⟨_,rfl⟩;rw[hZ]at uS hzl⊢;have hcm:c≤9223372036854775807:=by
  rcases hr.2 with⟨h0,_⟩|⟨g',cap',cur,hv,_,_,_,hcm,_,_⟩
  ·cases h0
  ·cases hv;unfold maxLen at hcm;omega
 obtain⟨g',cap',hv,_,_,_,_,_,hH⟩:=Lib.holds_of_ownsRow (enc:=Value.int .i64) (zs:=Z) uS (by simp);injection hv with Kl _ hv2;injection Kl with Kl;injection Kl with Kl;subst Kl hv2;have hD:=Tryz.uj g 0 c at_ (at_+1) Z w hH (by omega) hcm (by omega) (by omega);rw[hzl]at hD;rw[show n-(at_+1-at_)=n-1 by omega,show at_+1-at_=1 by omega]at hD;have hown:∀q,(Sort.putRow (Value.int .i64) (Sort.ahead w q) g 0 (Z.take at_++Z.drop (at_+1)++List.replicate 1 0).toArray).ownsRow 0 33 1 (.slice (some ⟨g,0,none⟩) (n-1) c) (n-1) (cells (Z.take at_++Z.drop (at_+1))):=fun q=>by
  have:=Lib.ownsRow_putRow (q:=q) (k:=n-1) (zs:=Z) (ys:=Z.take at_++Z.drop (at_+1)++List.replicate 1 0) uS (by simp;omega) (by omega);rw[List.take_left' (by simp;omega)]at this;exact this
 have ez:∀q,Touch [g] w (Sort.putRow (Value.int .i64) (Sort.ahead w q) g 0 (Z.take at_++Z.drop (at_+1)++List.replicate 1 0).toArray):=fun q=>
  ⟨rfl,rfl,rfl,by simp[Sort.putRow,Sort.mapBlock,Sort.ahead],fun k _ hk=>by
    simp only[List.mem_singleton]at hk;simp[Sort.putRow,Sort.mapBlock,Sort.ahead,Array.getElem?_modify,show g≠k from fun e=>hk e.symm]⟩
 have en:IntKind.i64.wrap (((n+1:Nat):Int)-1)=n:=by rw[IntKind.wrap_i64];omega
 have en1:IntKind.i64.wrap ((n:Int)-1)=(n-1:Nat):=by rw[IntKind.wrap_i64];omega
 have B7:IntKind.i64.wrap (((n-1:Nat):Int)-d)=at_:=by rw[IntKind.wrap_i64];omega
 have en3:IntKind.i64.wrap ((at_:Int)+1)=(at_+1:Nat):=by rw[IntKind.wrap_i64];omega
 have eu:IntKind.u64.wrap (n:Int)=n:=by rw[IntKind.wrap_u64];omega
 have ed:IntKind.u64.wrap (d:Int)=d:=by rw[IntKind.wrap_u64];omega
 have e0:¬(n:Int)<0:=by omega
 have e1:¬(n:Int)≤d:=by omega
 have e2:at_<n+1:=by omega
 have qo:(Z.take at_++Z.drop (at_+1)).length=n-1:=by simp;omega
 generalize (Z.take at_++Z.drop (at_+1))=M at hD hown ez qo⊢;have Hr:=hid (And.intro hb (And.intro hown (And.intro ez qo)));have Uj:=hid hbg;have hbl:=hb.lt;clear h hb hbg hr uS hcell hx hn hy hat hZ hzl hH hown ez qo;go_enter func121,ntmps121;go_wp2_with fail;refine hD.mono ?_;rintro _ w1 ⟨rfl,q,Y7⟩;obtain⟨hb,hown,ez,qo⟩:=Hr.out;have Zk:aF w1 b 94 #[.slice (some ⟨g,0,none⟩) (n+1) c]:=Y7▸hb.touch (ez q) (by simp;exact Uj.out);have cS:w1.ownsRow 0 33 1 (.slice (some ⟨g,0,none⟩) (n-1) c) (n-1) (cells M):=Y7▸hown q;have Lk:Touch [g] w w1:=Y7▸ez q;clear Y7 hb hown ez Hr hD g0 gx gy;have hN:=(aF.new w1 33 #[.int .i64 y]);have mL:=cS.alloc (.cells #[.int .i64 y] 33);go_wp2_with (at_builtin;refine wpList_append_own_at _ rfl _ _ 25 rfl 0 33 i0 (.int .i64 0) 1 8 underlying25 hi hz0 hz1 hz2 rfl (by decide) _ _ _ rfl mL ⟨w1.heap.size,0,none⟩ 1 1 (cells [y]) rfl rfl ?Gn (iZ _) (by unfold maxLen;omega) (by omega) (Nat.zero_le _) ?_)
 case Gn=>
  intro j u hj;have h2:=(List.getElem?_eq_some_iff.1 hj).1;have ZN:j=0:=by simp[cells]at h2;omega
  subst ZN;exact(hN.cell (0+0)).trans (by simpa[cells]using hj)
 intro v' w2 hown2 hgrow hnil hloc;have hgb:some b≠(Value.slice (some ⟨g,0,none⟩) (n-1) c).ownBlock:=by simp[Value.ownBlock];exact fun e=>Uj.out e
 have B8:aF w2 b 94 #[.slice (some ⟨g,0,none⟩) (n+1) c]:=(Zk.alloc _).grown hgrow hgb;have YZ:Touch [b,g] w w2:=((Lk.mono (G:=[b,g]) (by simp)).alloc _).grown hgrow (fun k hk=>by simp[Value.ownBlock]at hk;simp[hk]);have f2:=B8.frozen 0;have c2:=B8.cell 0;obtain⟨a',c',rfl⟩:=bn hown2;have acN:w.heap.size≤w1.heap.size:=Lk.size;have uf:b∉rowOf (.slice a' (n-1+1) c'):=fun hb'=>by
  rcases hloc with e|e
  ·exact hgb (e▸(aB.1 hb').symm)
  ·rw[aB.1 hb']at e;simp at e;omega
 have aT:Sub w [b,g] (b::rowOf (.slice a' (n-1+1) c')):=by
  intro f hf;rcases List.mem_cons.1 hf with rfl|hf
  ·exact .inl (by simp)
  ·rcases hloc with e|e
   ·rw[aB.1 hf]at e;simp[Value.ownBlock]at e;exact .inl (by simp[e])
   ·rw[aB.1 hf]at e;simp at e;exact .inr (by omega)
 rw[←eB]at hown2;have K1:=hid B8;have K2:=hid YZ;have K3:=hid aT;have K4:=hid hown2;have K5:=hid uf;clear B8 YZ aT hown2 uf hloc hnil hgrow hgb mL hN cS Lk Zk;go_wp2;go_ret;refine⟨_,rfl,⟨_,K1.out.bJ 0 _,rfl,K5.out,?_⟩,K2.out.setCell (by simp) _,K3.out⟩;rw[List.length_append,qo];exact aj K4.out ((Touch.refl [b] w2).setCell (by simp) _) (fun k hk hkb=>K5.out (by rw[List.mem_singleton.1 hkb]at hk;exact hk))
def PS.lZ(S:PS):Nat:=S.base.toNat
theorem Ym(w:World)(n:Nat)(hn:n≤4000):Calls prog 230 #[.string ⟨#[32]⟩,.int .i64 (n:Int)] w fun e w'=>e=.returned (.string ⟨(List.replicate n (32:UInt8)).toArray⟩)∧Touch [] w w':=by
 refine(Tryz.strings_Repeat ⟨#[32]⟩ n w (by omega) (by simp[ByteArray.size];omega)).mono ?_;rintro _ w' ⟨rfl,hb⟩;refine⟨?_,Touch.dh hb _⟩;have e:∀n,Lib.repeatL [(32:UInt8)] n=List.replicate n 32:=by
  intro n;induction n with
  |zero=>rfl
  |succ n ih=>rw[List.replicate_succ,←ih];rfl
 have e2:(⟨#[(32:UInt8)]⟩:ByteArray).data.toList=[32]:=rfl;rw[e2,e]
theorem Lg:cu 97 1 (fun _ _=>True) (fun l S=>(([],0),{S with out:=iy S.out ⟨(List.replicate (min (max (l.getD 0 0) 0) 4000).toNat (32:UInt8)).toArray⟩})):=by
 intro W B s F S t f first cap l lv bW hS hF eO;obtain⟨b,C,hC,hb,hA,hB⟩:=dQ eO rfl rfl;obtain⟨g,hg0,hg,hA⟩:=(hA:fH C 1 b (.func (.func 229) #[] #[]) _ W);obtain⟨g2,_,hg2,rfl,rfl,rfl,rfl⟩:=aW hA (Nat.zero_le _);refine⟨rfl,enters_of func281 (by kernel_rfl) rfl,fun hl bG hc=>aR.post (bU hg2 (enters_of func220 (by kernel_rfl) rfl) (Bw hS bW hB hg (enters_of func229 (by kernel_rfl) rfl) ?_))⟩;obtain⟨ad,c,x,rfl,rfl,hx⟩:=hc.one hl;simp only[List.getD_cons_zero];have x0:=ah ((tR W).drew) hx;obtain⟨n,hn⟩:∃n:Nat,min (max x 0) 4000=n:=⟨(min (max x 0) 4000).toNat,by omega⟩;have hR:=fun w=>Ym w n (by omega);rw[hn,Int.toNat_natCast];clear hS hB hA hg eO hc hx hF hg2 hg0;show Calls prog 229 #[.slice (some ⟨ad,0,none⟩) 1 c] W.drew _;go_enter func229,ntmps229;go_wp2_with fail;refine(hR _).mono ?_;rintro _ w1 ⟨rfl,t1⟩;clear hR;go_wp2_with fail;go_ret;exact⟨rfl,t1⟩
def PS.text(S:PS)(p k:Nat):ByteArray:=strOfNums (mZ S.bs p k)
theorem Sub.UM{w w1:World}{F:List Nat}(hF:∀x∈F,w.heap.size≤x)(t:Touch [] w w1){w2:World}(t2:Touch F w1 w2):Touch [] w w2:=t.trans t2 (fun g hg=>.inr (hF g hg))
theorem Sub.vt{w w1:World}{F F':List Nat}(hF:∀x∈F,w.heap.size≤x)(hs:Sub w1 F F')(hz:w.heap.size≤w1.heap.size):∀x∈F',w.heap.size≤x:=fun x hx=>by
 rcases hs x hx with h|h
 ·exact hF x h
 ·omega
def Live(w0 w:World)(s:Nat)(S:PS):Prop:=∃F,aC w s F S∧(∀x∈F,w0.heap.size≤x)∧Touch [] w0 w
section
variable {w0 w w':World} {s:Nat} {S S':PS}
theorem Live.t(h:Live w0 w s S):Touch [] w0 w:=by
 obtain⟨_,_,_,h⟩:=h;exact h
theorem Live.quiet(h:Live w0 w s S)(t:Touch [] w w'):Live w0 w' s S:=by
 obtain⟨F,h1,h2,h3⟩:=h;exact⟨F,h1.quiet t,h2,h3.trans t (by simp)⟩
theorem Live.next{F F':List Nat}(h1:aC w' s F' S')(hF:∀x∈F,w0.heap.size≤x)(h3:Touch [] w0 w)(t:Touch F w w')(hs:Sub w F F'):Live w0 w' s S':=
 ⟨F',h1,Sub.vt hF hs h3.size,Sub.UM hF h3 t⟩
theorem Live.stack{yH:List Nat}{L:List Int}{FS:List Nat}{ov mv:Value}(hp:iB w s FS ov mv S)(hF:∀x∈foot s S FS ov mv,w0.heap.size≤x)(h3:Touch [] w0 w)(hk:aG w' S.k yH L)(t:Touch FS w w')(hs:Sub w FS yH):Live w0 w' s {S with st:=L}:=
 Live.next ⟨yH,ov,mv,hp.stack hk t,rfl⟩ hF h3 (t.mono (fun g hg=>.inl (aI g hg))) (dV hs)
theorem Live.len(h:Live w0 w s S):S.bs.length=S.n∧S.n≤65536:=by
 obtain⟨F,⟨FS,ov,mv,hp,rfl⟩,k2,k3⟩:=h;exact⟨hp.mem.len,hp.mem.small⟩
end

def On(K:List Nat)(w w':World):Prop:=∀x∈K,w'.heap[x]? =w.heap[x]?
theorem On.refl(K:List Nat)(w:World):On K w w:=fun _ _=>rfl
theorem On.trans{K:List Nat}{a b c:World}(h:On K a b)(k:On K b c):On K a c:=fun x hx=>(k x hx).trans (h x hx)
theorem On.blk{K:List Nat}{w w':World}{b:Nat}{t:TypeId}{cs:Array Value}(o:On K w w')(hb:b∈K)(h:aF w b t cs):aF w' b t cs:=(o b hb).trans h
theorem On.sub{K L:List Nat}{w w':World}(h:On K w w')(hs:∀x∈L,x∈K):On L w w':=fun x hx=>h x (hs x hx)
def jo(w0 w:World)(s:Nat)(S:PS)(K:List Nat):Prop:=∃F,aC w s F S∧(∀x∈F,w0.heap.size≤x)∧Touch [] w0 w∧∀x∈K,x∉F∧x<w.heap.size
section
variable {w0 w w':World} {s:Nat} {S S':PS} {K:List Nat}
theorem jo.t(h:jo w0 w s S K):Touch [] w0 w:=by
 obtain⟨_,_,_,h,_⟩:=h;exact h
theorem jo.live(h:jo w0 w s S K):Live w0 w s S:=by
 obtain⟨F,h1,h2,h3,_⟩:=h;exact⟨F,h1,h2,h3⟩
theorem jo.quiet(h:jo w0 w s S K)(t:Touch [] w w'):jo w0 w' s S K:=by
 obtain⟨F,h1,h2,h3,h4⟩:=h;exact⟨F,h1.quiet t,h2,h3.trans t (by simp),fun x hx=>⟨(h4 x hx).1,Nat.lt_of_lt_of_le (h4 x hx).2 t.size⟩⟩
theorem jo.on(h:jo w0 w s S K)(t:Touch [] w w'):On K w w':=by
 obtain⟨F,h1,h2,h3,h4⟩:=h;exact fun x hx=>t.block x (h4 x hx).2 (by simp)
theorem jo.more{b:Nat}(h:jo w0 w s S K)(t:Touch [] w w')(hb:w.heap.size≤b)(hlt:b<w'.heap.size):jo w0 w' s S (b::K):=by
 have hq:=h.quiet t;obtain⟨F,h1,h2,h3,h4⟩:=h;obtain⟨F2,k1,k2,k3,k4⟩:jo w0 w' s S K:=⟨F,h1.quiet t,h2,h3.trans t (by simp),fun x hx=>⟨(h4 x hx).1,Nat.lt_of_lt_of_le (h4 x hx).2 t.size⟩⟩;refine⟨F,h1.quiet t,h2,h3.trans t (by simp),fun x hx=> ?_⟩;rcases List.mem_cons.1 hx with rfl|hx
 ·exact⟨fun hm=>by have:=h1.lt _ hm;omega,hlt⟩
 ·exact⟨(h4 x hx).1,Nat.lt_of_lt_of_le (h4 x hx).2 t.size⟩
theorem jo.less{L:List Nat}(h:jo w0 w s S K)(hs:∀x∈L,x∈K):jo w0 w s S L:=by
 obtain⟨F,h1,h2,h3,h4⟩:=h;exact⟨F,h1,h2,h3,fun x hx=>h4 x (hs x hx)⟩
theorem jo.step{P:Program}{f:FuncId}{args:Array Value}{e0:Ending}(h:jo w0 w s S K)(hC:∀F,aC w s F S→Calls P f args w fun e w'=>e=e0∧∃F',aC w' s F' S'∧Touch F w w'∧Sub w F F'):
 Calls P f args w fun e w'=>e=e0∧jo w0 w' s S' K∧On K w w':=by
 obtain⟨F,h1,h2,h3,h4⟩:=h;refine(hC F h1).mono ?_;rintro _ w' ⟨rfl,F',k1,k2,k3⟩;refine⟨rfl,⟨F',k1,Sub.vt h2 k3 h3.size,Sub.UM h2 h3 k2,fun x hx=>⟨fun hm=> ?_,Nat.lt_of_lt_of_le (h4 x hx).2 k2.size⟩⟩,fun x hx=>k2.block x (h4 x hx).2 (h4 x hx).1⟩;rcases k3 x hm with hm|hm
 ·exact(h4 x hx).1 hm
 ·have:=(h4 x hx).2;omega
theorem UN{P:Program}{f:FuncId}{args:Array Value}{e0:Ending}{F:List Nat}{L:List Int}(h:aC w s F S)(hC:∀FS,aG w S.k FS S.st→Calls P f args w fun e w'=>∃yH,e=e0∧aG w' S.k yH L∧Touch FS w w'∧Sub w FS yH):
 Calls P f args w fun e w'=>e=e0∧∃F',aC w' s F' {S with st:=L}∧Touch F w w'∧Sub w F F':=by
 obtain⟨FS,ov,mv,hp,rfl⟩:=h;refine(hC FS hp.iO).mono ?_;rintro _ w' ⟨yH,rfl,k1,k2,k3⟩;exact⟨rfl,_,⟨yH,ov,mv,hp.stack k1 k2,rfl⟩,k2.mono (fun g hg=>.inl (aI g hg)),dV k3⟩
theorem fg{F:List Nat}{L:List Int}{op e:Int}(hS:aC w s F S)(h1:28≤op)(h2:op≤42)
 (hC:∀FS,aG w S.k FS S.st→Calls prog 96 #[.pointer (some ⟨S.k,0,none⟩),.int .i64 op] w fun r w'=>∃yH,r=.returned (.int .i64 e)∧aG w' S.k yH L∧Touch FS w w'∧Sub w FS yH):
 Calls prog 64 #[.pointer (some ⟨s,0,none⟩),.int .i64 op] w fun r w'=>r=.returned (.int .i64 e)∧∃F',aC w' s F' {S with st:=L}∧Touch F w w'∧Sub w F F':=by
 have hk:=UN hS hC;have s1:w.cell? ⟨s,1,none⟩=some (.pointer (some ⟨S.k,0,none⟩)):=by
  obtain⟨FS,ov,mv,hp,_⟩:=hS;exact hp.blk.cell 1
 have g1:op≥28:=by omega
 clear hS hC;go_enter func64,ntmps64;go_wp2_with fail;refine hk.mono ?_;rintro _ w1 ⟨rfl,F',k1,k2,k3⟩;have HD:=hid (And.intro k1 (And.intro k2 k3));clear hk k1 k2 k3;go_wp2_with fail;go_ret;exact⟨rfl,F',HD.out⟩
end
end Go.Proofs.YtdokeddjcpnmiaaGreatDoor
