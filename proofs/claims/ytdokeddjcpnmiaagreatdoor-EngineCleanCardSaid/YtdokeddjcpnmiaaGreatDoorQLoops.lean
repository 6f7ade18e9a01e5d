/- Of EngineClean: Loops. -/
import Derived.Test.YtdokeddjcpnmiaaGreatDoorQRep
import Derived.WalkMore
set_option maxRecDepth 100000
set_option maxHeartbeats 3200000
namespace Go.Proofs.YtdokeddjcpnmiaaGreatDoor
open Go.RowKit Go.Proofs.Tryz
open Go.Lib(hid)
namespace En
structure iw(z:Nat)(w1:World)(T:Nat)(L:List (Int×Int×Int))(gf:Nat)(tv:Value)(tab:List Int)(todo:List (Int×Int))(wr:World):Prop where
 below:Below z w1 wr
 inv:pR L gf tab todo
 base:z≤T
 tabs:aF wr T 3 (cells tab).toArray
 row:dX z wr tv todo
 off:T∉rowOf tv
theorem Below.AZ{B:Nat}{a w w':World}(h:Below B a w)(hB:B≤w.heap.size)(t:Touch [] w w'):Below B a w':=
 h.trans ⟨t.os,t.tape,t.output,t.size,fun k hk=>t.block k (Nat.lt_of_lt_of_le hk hB) (by simp)⟩
theorem OH(tab:List Int)(k:Nat)(l:Int):(cells tab).toArray.setIfInBounds k (.int .i64 l)=(cells (tab.set k l)).toArray:=by
 unfold cells;rw[List.map_set];simp
section
variable {w1 wr wq w3 w4:World} {T k g c:Nat} {L:List (Int×Int×Int)} {gf:Nat} {tab:List Int} {ds:List (Int×Int)} {l:Int}
theorem iw.cw{tv:Value}(h:iw w1.heap.size w1 T L (gf+1) (.slice (some ⟨g,0,none⟩) (ds.length+1) c) tab (ds++[((k:Int),l)]) wr)(hrow:dX w1.heap.size wr (.slice (some ⟨g,0,none⟩) ds.length c) ds)(tq:Touch [] wr wq)(hk:k<L.length)(hl:0≤l)(he:tab.getD k 0=l)(htv:tv=.slice (some ⟨g,0,none⟩) ds.length c):iw w1.heap.size w1 T L gf tv tab ds wq:=by
 rw[htv];exact⟨Below.AZ h.below h.below.size tq,h.inv.same hk hl he,h.base,h.tabs.touch tq (by simp),hrow.touch tq (by simp),h.off⟩
theorem iw.Hd(h:iw w1.heap.size w1 T L (gf+1) (.slice (some ⟨g,0,none⟩) (ds.length+1) c) tab (ds++[((k:Int),l)]) wr)(hrow:dX w1.heap.size wr (.slice (some ⟨g,0,none⟩) ds.length c) ds)(tq:Touch [] wr wq)(t3:Touch [] (wq.setCell ⟨T,k,none⟩ (.int .i64 l)) w3):dX w1.heap.size w3 (.slice (some ⟨g,0,none⟩) ds.length c) ds:=by
 have Tp:=h.off;have h1:=hrow.touch tq (by simp);have h2:=h1.touch ((Touch.refl [T] wq).setCell (p:=⟨T,k,none⟩) (.inl (by simp)) (.int .i64 l)) (F:=[T]) (fun x hx=>by
  simp only[rowOf,List.mem_cons,List.not_mem_nil,or_false]at hx Tp⊢;exact fun e=>Tp (by rw[←hx,e]))
 exact h2.touch t3 (by simp)
theorem iw.next{v':Value}(h:iw w1.heap.size w1 T L (gf+1) (.slice (some ⟨g,0,none⟩) (ds.length+1) c) tab (ds++[((k:Int),l)]) wr)(tq:Touch [] wr wq)(t3:Touch [] (wq.setCell ⟨T,k,none⟩ (.int .i64 l)) w3)(hk:k<L.length)(hl:0≤l)(hn:tab.getD k 0<0)(hgB:w1.heap.size≤g)
 (ha:dX w1.heap.size w4 v' (ds++gM (opAt L k).1 (opAt L k).2.1 k l)) (hgr:w3.grownBy w4 (some g)) (hat:v'.ownBlock=some g∨v'.ownBlock=some w3.heap.size):iw w1.heap.size w1 T L gf v' (tab.set k l) (ds++gM (opAt L k).1 (opAt L k).2.1 k l) w4:=by
 have Tp:T≠g:=fun e=>h.off (by simp[rowOf,e]);have b1:=Below.AZ h.below h.below.size tq;have b2:=b1.setCell (p:=⟨T,k,none⟩) h.base (.int .i64 l);have b3:=Below.AZ b2 b2.size t3;have hb:=(((h.tabs.touch tq (by simp)).bJ k (.int .i64 l)).touch t3 (by simp));rw[OH]at hb;refine⟨b3.grown hgr b3.size (fun j hj=>by injection hj with hj;omega),h.inv.on hk hl hn,h.base,hb.grown hgr (by intro e;injection e with e;exact Tp e),ha,?_⟩;intro hx;rw[aB]at hx;rcases hat with e|e
 ·rw[hx]at e;injection e with e;exact Tp e
 ·rw[hx]at e;injection e with e;have:=hb.lt;omega
end
theorem OI(L:List (Int×Int×Int))(hL:L.length≤100000)(lv:Value)(w:World)(hI:mK w lv L):Calls prog 60 #[.agg #[lv]] w fun e w'=>∃tv ok,e=.returned (.tuple #[tv,.bool ok])∧(ok=true→∃T c tab,0<L.length∧tv=.slice (some ⟨T,0,none⟩) L.length c∧tab.length=L.length∧aF w' T 3 (cells tab).toArray∧∀t,jI L=some t→t=tab)∧(ok=false→jI L=none)∧Touch [] w w':=by
 obtain⟨n,qm⟩:∃n,L.length=n:=⟨_,rfl⟩;obtain⟨la,lc,rfl⟩:∃la lc,lv=.slice la n lc:=by
  rcases hI with⟨rfl,a,c,rfl⟩|⟨b,off,c,rfl,_⟩
  ·exact⟨a,c,by rw[←qm];rfl⟩
  ·exact⟨_,c,by rw[qm]⟩
 have bB:=aF.new w 24 #[.slice la n lc];have tB:=(tR w).alloc (.cells #[.slice la n lc] 24);have hz1:(w.alloc (.cells #[.slice la n lc] 24)).heap.size=w.heap.size+1:=World.size_alloc _ _;obtain⟨z,hz⟩:∃z,w.heap.size=z:=⟨_,rfl⟩;rw[hz]at bB hz1;have x0:(w.alloc (.cells #[.slice la n lc] 24)).cell? ⟨z,0,none⟩=some (.slice la n lc):=bB.cell 0;rw[qm]at hL⊢;rcases Nat.eq_zero_or_pos n with rfl|T6
 ·have HN:Hid (jI L=none):=hid (by rw[List.eq_nil_of_length_eq_zero qm];rfl);have HB:=hid tB;clear bB tB hz1 qm hI;go_enter func60,ntmps60;go_wp2_with fail;go_step3
  go_wp2_with fail
  (try rw[Exit.noGoto_ret])
  go_ret2;exact⟨_,_,rfl,by simp,fun _=>HN.out,HB.out⟩
 have hn:L≠[]:=fun e=>by rw[e]at qm;simp at qm;omega
 obtain⟨b,off,Hi,hcell⟩:∃b off,la=some ⟨b,off,none⟩∧∀i x,L[i]? =some x→w.cell? ⟨b,off+i*3,none⟩=some (.int .u8 x.1)∧w.cell? ⟨b,off+i*3+1,none⟩=some (.int .i64 x.2.1)∧w.cell? ⟨b,off+i*3+2,none⟩=some (.int .i64 x.2.2):=by
  rcases hI with⟨h,_⟩|⟨b,off,c,e,h⟩
  ·exact absurd h hn
  ·injection e with e1 e2 e3;exact⟨b,off,e1,h⟩
 subst Hi;have HH:=hid (And.intro qm (And.intro hn hcell));have HB:=hid (And.intro bB (And.intro tB hz1));have e0:((n:Int)==0)=false:=by simp;omega
 clear bB tB hz1 qm hn hcell hI;go_enter func60,ntmps60;go_wp2_with fail;go_step3
 go_upto_region 3 with fail;clear hz;generalize w.alloc (.cells #[.slice (some ⟨b,off,none⟩) n lc] 24)=w1 at*;have sY:=hid (fun(W:World) (g cc:Nat) hx=>KE (-1) n T6 (by omega) g cc W hx);have xa:=fun ob=>ah ((tR w1).alloc ob) x0;go_wp2_with fail;refine Calls.mono (sY.out _ _ _ ((aF.new w1 _ _).cell 0)) ?_;rintro _ w2 ⟨rfl,hT,tT⟩;have tT:=(tR w1).alloc (.cells #[.int .i64 (-1)] 3) |>.trans tT (by simp);obtain⟨T,Up,s7⟩:∃T,(w1.alloc (.cells #[.int .i64 (-1)] 3)).heap.size=T∧w1.heap.size≤T:=⟨_,rfl,by rw[World.size_alloc];omega⟩;rw[Up]at hT⊢;have hrow:dX w1.heap.size (w2.alloc (.cells #[.int .i64 0,.int .i64 0] 151)) (.slice (some ⟨w2.heap.size,0,none⟩) 1 1) [(0,0)]:=⟨rfl,.inr ⟨_,1,_,rfl,tT.size,aF.new w2 _ _,Nat.le_refl _,by decide,rfl,rfl⟩⟩;have H0:iw w1.heap.size w1 T L (2*n+1) (.slice (some ⟨w2.heap.size,0,none⟩) 1 1) (List.replicate n (-1)) [(0,0)] (w2.alloc (.cells #[.int .i64 0,.int .i64 0] 151)):=by
  refine⟨(Below.alloc ⟨tT.os,tT.tape,tT.output,tT.size,fun k hk=>tT.block k hk (by simp)⟩ tT.size _),?_,s7,hT.alloc _,hrow,?_⟩
  ·have h:=pR.start HH.out.2.1;rw[HH.out.1]at h;exact h
  ·have:=hT.lt;simp[rowOf];omega
 have H0:=hid H0;have UB:=hid s7;clear hT tT xa sY hrow Up s7;go_wp2_with fail;go_step3
 go_wp2_with fail;go_loopg [5] (2*n+1) (fun gf tv wr=>∃tab todo,iw w1.heap.size w1 T L gf tv tab todo wr)
 case atStart=>exact⟨_,_,H0.out⟩
 case round=>
  obtain⟨tab,todo,hR⟩:=hrel;clear H0;rcases Nat.eq_zero_or_pos todo.length with h0|h0
  ·obtain rfl:=List.eq_nil_of_length_eq_zero h0;obtain⟨ra,rc,rfl⟩:=hR.row.none_;have HR:=hid hR;clear hR h0;go_wp2_with fail
   (try rw[Exit.noGoto_ret])
   go_ret2;exact⟨_,true,rfl,fun _=>⟨T,n,tab,T6,rfl,HR.out.inv.len.trans HH.out.1,HR.out.tabs,fun t ht=>HR.out.inv.end_ ht⟩,fun h=>(by cases h),HB.out.2.1.trans (Touch.dh HR.out.below []) (by simp)⟩
  ·obtain⟨ds,a,l,rfl⟩:=OD todo h0;obtain⟨g,c,rfl,UI,UT,NZ,ca,cl,hrow⟩:=hR.row.form;obtain⟨g',rfl,hg1,YT,hg2⟩:=hR.inv.pop;obtain⟨q,hq⟩:∃q,ds.length=q:=⟨_,rfl⟩;rw[hq]at UI ca cl hrow hg1⊢;have Q7:q≤2*n:=by rw[HH.out.1]at hg2;omega
   have hl2:l≤2*n:=by rw[HH.out.1]at YT;exact YT
   have HR:=hid (And.intro hR (And.intro UT (And.intro NZ (And.intro hrow hq))));clear hR h0 UT NZ hrow hq YT hg2 hg1;go_upto_region 8 with fail;have bS:=aF.new wr 151 #[.int .i64 a,.int .i64 l];have tS:=(tR wr).alloc (.cells #[.int .i64 a,.int .i64 l] 151);obtain⟨y,hy⟩:∃y,wr.heap.size=y:=⟨_,rfl⟩;rw[hy]at bS⊢;generalize wr.alloc (.cells #[.int .i64 a,.int .i64 l] 151)=wq at*;have y0:wq.cell? ⟨y,0,none⟩=some (.int .i64 a):=bS.cell 0;have y1:wq.cell? ⟨y,1,none⟩=some (.int .i64 l):=bS.cell 1;have xq:wq.cell? ⟨z,0,none⟩=some (.slice (some ⟨b,off,none⟩) n lc):=by
    have h1:z<w1.heap.size:=by have:=HB.out.2.2;omega
    exact ah tS ((HR.out.1.below.cell h1).trans x0)
   have HS:=hid (And.intro bS (And.intro tS hy));have KJ:Hid (Touch [] w wq):=hid ((HB.out.2.1.trans (Touch.dh HR.out.1.below []) (by simp)).trans tS (by simp));clear ca cl bS tS hy;have nY:a<0∨(n:Int)≤a∨l<0∨∃k:Nat,a=k∧k<n∧0≤l:=by
    rcases Int.lt_or_le a 0 with h|h
    ·exact .inl h
    rcases Int.lt_or_le a n with h1|h1
    ·rcases Int.lt_or_le l 0 with h2|h2
     ·exact .inr (.inr (.inl h2))
     ·exact .inr (.inr (.inr ⟨a.toNat,by omega,by omega,h2⟩))
    ·exact .inr (.inl h1)
   rcases nY with hb|hb|hb|⟨k,rfl,hk,hl⟩
   ·have KL:=hid (HR.out.1.inv.bad (.inl hb));have d1:decide (a<0)=true:=by simpa using hb
    clear hb;go_wp2_with fail
    (try rw[Exit.noGoto_ret])
    go_ret2;exact⟨_,false,rfl,fun h=>(by cases h),fun _=>KL.out,KJ.out⟩
   ·have KL:=hid (HR.out.1.inv.bad (.inr (.inl (by rw[HH.out.1];exact hb))));have d1:decide (a<0)=false:=by simp;omega
    have d2:decide (a≥(n:Int))=true:=by simpa using hb
    clear hb;go_wp2_with fail
    (try rw[Exit.noGoto_ret])
    go_ret2;exact⟨_,false,rfl,fun h=>(by cases h),fun _=>KL.out,KJ.out⟩
   ·have KL:=hid (HR.out.1.inv.bad (.inr (.inr hb)));have d3:decide (l<0)=true:=by simpa using hb
    clear hb;go_wp2_with fail
    all_goals(try rw[Exit.noGoto_ret])
    all_goals go_ret2
    all_goals exact⟨_,false,rfl,fun h=>(by cases h),fun _=>KL.out,KJ.out⟩
   ·have d2:decide (n≤k)=false:=by simp;omega
    have d3:decide (l<0)=false:=by simp;omega
    obtain⟨t,ht⟩:∃t,tab.getD k 0=t:=⟨_,rfl⟩;have Bk:T≠y:=by
     have:=HR.out.1.tabs.lt;have:=HS.out.2.2;omega
    have UX:Hid (aF wq T 3 (cells tab).toArray):=hid (HR.out.1.tabs.touch HS.out.2.1 (by simp));have ct:wq.cell? ⟨T,k,none⟩=some (.int .i64 t):=by
     rw[UX.out.cell k,List.getElem?_toArray,←ht];exact eH tab k (by rw[HR.out.1.inv.len,HH.out.1];exact hk)
    have ft:=UX.out.frozen k;have Q8:=hid (And.intro ht Bk);clear ht Bk;go_upto_region 10 with fail;have HLT:Hid (Touch [] wr wq.drew):=hid HS.out.2.1.drew;by_cases he:t=l
    ·subst he;have Wn:Hid (iw w1.heap.size w1 T L g' (.slice (some ⟨g,0,none⟩) q c) tab ds wq.drew):=hid (iw.cw HR.out.1 (by rw[HR.out.2.2.2.2];exact HR.out.2.2.2.1) HLT.out (by rw[HH.out.1];exact hk) hl Q8.out.1 (by rw[HR.out.2.2.2.2]));go_region
     all_goals go_wp2_with fail
     all_goals go_roundg g'
     all_goals first
      |omega
      |exact⟨_,_,Wn.out⟩
    ·have e1:(t==l)=false:=by simpa using he
     have HE:=hid he;clear he;rcases Int.lt_or_le t 0 with ht|ht
     ·have d4:decide (t≥0)=false:=by simp;omega
      have s9:Hid (tab.getD k 0<0):=hid (by rw[Q8.out.1];exact ht);clear ht d4;have d4:decide (t≥0)=false:=by have h:=s9.out;rw[Q8.out.1]at h;simp;omega
      have Bk:=Q8.out.2;obtain⟨⟨op,a1,v1⟩,hx⟩:∃x,L[k]? =some x:=⟨_,List.getElem?_eq_getElem (by rw[HH.out.1];exact hk)⟩;have t3:Touch [] w ((wq.setCell ⟨T,k,none⟩ (.int .i64 l)).drew):=(KJ.out.setCell (.inr (by have h1:=UB.out;have h2:=HB.out.2.1.size;exact Nat.le_trans h2 h1)) _).drew;obtain⟨zI,MQ,pN⟩:=HH.out.2.2 k _ hx;have i0:=ah t3 zI;have i1:=ah t3 MQ;have i2:=ah t3 pN;have hop:opAt L k=(op,a1,v1):=by unfold opAt;rw[List.getD_eq_getElem?_getD,hx];rfl
      have z3:((wq.setCell ⟨T,k,none⟩ (.int .i64 l)).drew).cell? ⟨z,0,none⟩=some (.slice (some ⟨b,off,none⟩) n lc):=by
       have s7:T≠z:=by have h1:=UB.out;have h2:=HB.out.2.2;omega
       exact(((Touch.refl [T] wq).setCell (p:=⟨T,k,none⟩) (.inl (by simp)) (.int .i64 l)).drew.cell (World.block_lt_of_cell? _ _ xq) (by simp;exact fun e=>s7 e.symm)).trans xq
      have bY:=(HS.out.1.far (p:=⟨T,k,none⟩) (fun e=>Bk e.symm) (.int .i64 l)).drew;have s0:((wq.setCell ⟨T,k,none⟩ (.int .i64 l)).drew).cell? ⟨y,0,none⟩=some (.int .i64 k):=bY.cell 0;have s1:((wq.setCell ⟨T,k,none⟩ (.int .i64 l)).drew).cell? ⟨y,1,none⟩=some (.int .i64 l):=bY.cell 1;have HSt:=hid (fun W=>NP op a1 v1 k (by omega) l ⟨hl,by omega⟩ W);have Hj:Hid (∀w5,Touch [] (((wq.setCell ⟨T,k,none⟩ (.int .i64 l)).drew).drew) w5→dX w1.heap.size w5 (.slice (some ⟨g,0,none⟩) q c) ds∧w1.heap.size≤w5.heap.size):=hid fun w5 t5=>⟨by
       have h:=iw.Hd HR.out.1 (by rw[HR.out.2.2.2.2];exact HR.out.2.2.2.1) HS.out.2.1 ((tR _).drew.drew.trans t5 (by simp));rw[HR.out.2.2.2.2]at h;exact h,by
       have h1:=t5.size;have h2:=HS.out.2.1.size;have h3:=HR.out.1.below.size;have h4:(((wq.setCell ⟨T,k,none⟩ (.int .i64 l)).drew).drew).heap.size=wq.heap.size:=by rw[World.size_drew,World.size_drew,World.size_setCell]
       omega⟩
      have Hk:Hid (∀w5 v6 w6,Touch [] (((wq.setCell ⟨T,k,none⟩ (.int .i64 l)).drew).drew) w5→dX w1.heap.size w6 v6 (ds++gM op a1 k l)→w5.grownBy w6 (some g)→(v6.ownBlock=some g∨v6.ownBlock=some w5.heap.size)→∃tab todo,iw w1.heap.size w1 T L g' v6 tab todo w6):=hid fun w5 v6 w6 t5 h1 h2 h3=>by
       refine⟨_,_,iw.next HR.out.1 HS.out.2.1 ((tR _).drew.drew.trans t5 (by simp)) (by rw[HH.out.1];exact hk) hl s9.out HR.out.2.1 ?_ h2 h3⟩;rw[hop];exact h1
      have HLEN:Hid (ds.length+(gM op a1 k l).length≤1000000):=hid (by have h1:=AY op a1 k l;have h2:=HR.out.2.2.2.2;omega);have HDQ:=hid HR.out.2.2.2.2;clear zI MQ pN t3 hx bY hop;go_region
      all_goals go_upto_region 14 with fail
      generalize (wq.setCell ⟨T,k,none⟩ (.int .i64 l)).drew=w4 at*;go_region_law (first
       |(go_simp;go_at_call 94;refine Calls.mono (HSt.out _) ?_;rintro _ w5 ⟨sv,rfl,hst,t5⟩;have H5:=hid (And.intro hst (And.intro t5 (Hj.out _ t5)));clear hst t5)
       |(refine vU rfl (.tmp 71) (.tmp 82) rfl w1.heap.size (.slice (some ⟨g,0,none⟩) q c) ds (gM op a1 k l) (by simp[Act.eval]) H5.out.2.2.1 sv (by simp[Act.eval]) H5.out.1 HLEN.out H5.out.2.2.2 ?_;intro v6 w6 Vc VC VM;have H6:=hid (Hk.out _ _ _ H5.out.2.1 Vc VC VM);clear Vc VC VM))
      all_goals go_wp2_with fail
      all_goals go_roundg g'
      all_goals first
       |omega
       |exact H6.out
     ·have KL:=hid (HR.out.1.inv.twice (by rw[HH.out.1];exact hk) hl (by rw[Q8.out.1];exact HE.out) (by rw[Q8.out.1];exact ht));have Hm:=hid KJ.out.drew;have d4:decide (t≥0)=true:=by simpa using ht
      clear ht;go_region
      all_goals go_wp2_with fail
      all_goals(try rw[Exit.noGoto_ret])
      all_goals go_ret2
      all_goals exact⟨_,false,rfl,fun h=>(by cases h),fun _=>KL.out,Hm.out⟩
end En
end Go.Proofs.YtdokeddjcpnmiaaGreatDoor
