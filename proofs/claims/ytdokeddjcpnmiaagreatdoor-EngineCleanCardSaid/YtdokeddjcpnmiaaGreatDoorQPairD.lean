/- Of EngineClean: PairD. -/
import Derived.Test.YtdokeddjcpnmiaaGreatDoorQPairOps
set_option maxRecDepth 100000
set_option maxHeartbeats 8000000
namespace Go.Proofs.YtdokeddjcpnmiaaGreatDoor
open Go.RowKit Go.Proofs.Tryz
open Go.Lib(hid)
theorem tJ(p:Int×Int):au (nS p).1∧au (nS p).2:=⟨aV _,aV _⟩
theorem lq(p:Int×Int)(h1:au p.1)(h2:au p.2):au (dL p).1∧au (dL p).2:=by
 unfold dL;split
 ·exact tJ p
 ·exact⟨h1,h2⟩
theorem p9(x:Int)(h:au x):au (fq x).1∧au (fq x).2:=by unfold fq au at*;omega
def mH(p:Int×Int)(b:Int):(Int×Int)×Int:=
 if¬(gW (dL p) (dL (fq b)).1).2=0 then((0,0),(gW (dL p) (dL (fq b)).1).2)else
 let whole:=if bits .xor .i64 p.2 b<0 then nS ((gW (dL p) (dL (fq b)).1).1.2,0)else((gW (dL p) (dL (fq b)).1).1.2,0)
 let left:=if p.2<0 then wrap64 (-(gW (dL p) (dL (fq b)).1).1.1)else(gW (dL p) (dL (fq b)).1).1.1
 if whole=fq whole.1 then((left,whole.1),0)else((0,0),-11)
def gq(p:Int×Int)(b:Int):(Int×Int)×Int:=
 if¬(gW (dL p) (dL (fq b)).1).2=0 then((0,0),(gW (dL p) (dL (fq b)).1).2)else
 let whole:=if bits .xor .i64 p.2 b<0 then nS ((gW (dL p) (dL (fq b)).1).1.2,0)else((gW (dL p) (dL (fq b)).1).1.2,0)
 let left:=if p.2<0 then wrap64 (-(gW (dL p) (dL (fq b)).1).1.1)else(gW (dL p) (dL (fq b)).1).1.1
 let more:=¬left=0∧bits .xor .i64 p.2 b<0
 let wj:=if more then wrap64 (left+b)else left
 let Lp:=if more then zA whole (fq (-1))else whole
 if Lp=fq Lp.1 then((wj,Lp.1),0)else((0,0),-11)
theorem I5(x y:Int)(w:World):(Instr.field 213 (.agg #[.int .i64 x,.int .i64 y]) 0).run prog w=.ok (.int .i64 x) w:=by
 simp[Instr.field,run_underlying underlying213,go_sem,asAgg,Result.andThen]
theorem gF(p q:Int×Int)(w:World):(binOp .neq 213 (.agg #[.int .i64 p.1,.int .i64 p.2]) (.agg #[.int .i64 q.1,.int .i64 q.2])).run prog w=.ok (.bool (decide (¬p=q))) w:=by
 rw[wC];obtain⟨a,b⟩:=p;obtain⟨c,d⟩:=q;congr 2;simp only[Prod.mk.injEq];by_cases h1:a=c<;>by_cases h2:b=d<;>simp[h1,h2]
theorem P7(p:Int×Int)(b:Int)(h1:au p.1)(h2:au p.2)(hb:au b)(w:World):
 Calls prog 187 #[aN p,.int .i64 b] w fun e w'=>e=.returned (.tuple #[.int .i64 (mH p b).1.1,.int .i64 (mH p b).1.2,.int .i64 (mH p b).2])∧Touch [] w w':=by
 obtain⟨x,y⟩:=p;have UU:=fun w=>tC (x,y) w;have fp:=fun w=>iA b w;have Yr:=fun w=>tC (fq b) w;have hU:=fun w=>BI (dL (x,y)) (dL (fq b)).1 (lq (x,y) h1 h2).1 (lq (x,y) h1 h2).2 (lq (fq b) (p9 b hb).1 (p9 b hb).2).1 w;obtain⟨R,hR⟩:∃R,mH (x,y) b=R:=⟨_,rfl⟩;rw[hR];unfold mH at hR;obtain⟨u,hu⟩:∃u,gW (dL (x,y)) (dL (fq b)).1=u:=⟨_,rfl⟩;rw[hu]at hU hR;simp only[]at hR;clear hu;obtain⟨⟨sx,sy⟩,hs⟩:∃r,dL (x,y)=r:=⟨_,rfl⟩;rw[hs]at UU hU;clear hs;obtain⟨⟨tx,ty⟩,ht⟩:∃r,dL (fq b)=r:=⟨_,rfl⟩;rw[ht]at Yr hU;clear ht;obtain⟨⟨ox,oy⟩,ho⟩:∃r,fq b=r:=⟨_,rfl⟩;rw[ho]at fp Yr;clear ho h1 h2 hb;obtain⟨⟨lf,q⟩,ee⟩:=u;simp only[]at hU hR;unfold aN at*;have H0:=hid (And.intro (aF.new w 213 #[.int .i64 x,.int .i64 y]) ((tR w).alloc (.cells #[.int .i64 x,.int .i64 y] 213)));have HR:=hid hR;clear hR;have iN:=fun w=>I5 tx ty w;go_enter func187,ntmps187;go_wp2_with fail;refine(UU _).mono ?_;rintro _ w1 ⟨rfl,t1⟩;have H1:=hid (And.intro (H0.out.1.touch t1 (by simp)) (H0.out.2.trans t1 (by simp)));clear t1 UU;go_wp2_with fail;refine(fp _).mono ?_;rintro _ w2 ⟨rfl,t2⟩;have H2:=hid (And.intro (H1.out.1.touch t2 (by simp)) (H1.out.2.trans t2 (by simp)));clear t2 fp;go_wp2_with fail;refine(Yr _).mono ?_;rintro _ w3 ⟨rfl,t3⟩;have H3:=hid (And.intro (H2.out.1.touch t3 (by simp)) (H2.out.2.trans t3 (by simp)));clear t3 Yr;go_wp2_with fail;refine(hU _).mono ?_;rintro _ w4 ⟨rfl,t4⟩;have H4:=hid (And.intro (H3.out.1.touch t4 (by simp)) (H3.out.2.trans t4 (by simp)));clear t4 hU;by_cases he:ee=0;rotate_left
 ·have HX:Hid (R=((0,0),ee)):=by
   have:=HR.out;rw[if_pos he]at this;exact this.symm
  clear HR;go_wp2_with fail;go_ret3;exact⟨by rw[HX.out];rfl,H4.out.2⟩
 have HR:=hid (by have:=HR.out;rwa[if_neg (fun h=>h he)]at this);subst he;have P8:=aF.new w4 213 #[.int .i64 q,.int .i64 0];have b2:=H4.out.1.alloc (.cells #[.int .i64 q,.int .i64 0] 213);have T4:=H4.out.2.alloc (.cells #[.int .i64 q,.int .i64 0] 213);have Qa:w.heap.size≤w4.heap.size:=H4.out.2.size;have hlt:w.heap.size<w4.heap.size:=H4.out.1.lt;have c1:=b2.cell 1;have d0:=P8.cell 0;have d1:=P8.cell 1;have Qa:=hid Qa;have hlt:=hid hlt;by_cases hs:bits .xor .i64 y b<0
 ·have HR:=hid (by have:=HR.out;rwa[if_pos hs]at this);have hN:=fun w=>qM (q,0) w;obtain⟨⟨n0,n1⟩,hn⟩:∃r,nS (q,0)=r:=⟨_,rfl⟩;have HR:=hid (by have:=HR.out;rwa[hn]at this);rw[hn]at hN;clear hn;unfold aN at hN;go_wp2_with fail;refine(hN _).mono ?_;rintro _ w5 ⟨rfl,t5⟩;have Qb:=P8.touch t5 (by simp);have k2:=b2.touch t5 (by simp);have T5:=T4.trans t5 (by simp);have e0:=Qb.cell 0;have e1:=Qb.cell 1;have f0:=Qb.frozen 0;have f1:=Qb.frozen 1;clear c1 d0 d1 P8 b2 T4 t5;have c1:=k2.cell 1;go_upto_region 7 with fail;have H6:=hid (And.intro (k2.zP (Nat.ne_of_lt hlt.out) (.int .i64 n0) (.int .i64 n1)) (And.intro (Qb.jF (.int .i64 n0) (.int .i64 n1)) ((T5.setCell (p:=⟨w4.heap.size,0,none⟩) (.inr Qa.out) (.int .i64 n0)).setCell (p:=⟨w4.heap.size,1,none⟩) (.inr Qa.out) (.int .i64 n1))));clear k2 Qb T5 e0 e1 f0 f1 c1;generalize (w5.setCell ⟨w4.heap.size,0,none⟩ (.int .i64 n0)).setCell ⟨w4.heap.size,1,none⟩ (.int .i64 n1)=w6 at*;by_cases hy:y<0
  ·have HR:=hid (by have:=HR.out;rwa[if_pos hy]at this);have fK:=fun w=>iA n0 w;have fC:=fun w=>gF (n0,n1) (fq n0) w;by_cases hf:(n0,n1)=fq n0
   ·have HX:Hid (R=((wrap64 (-lf),n0),0)):=by
     have:=HR.out;rw[if_pos hf]at this;exact this.symm
    have fC:=fun w=>(fC w).trans (by rw[decide_eq_false (fun h=>h hf)]);clear hf HR;obtain⟨⟨vx,vy⟩,hv⟩:∃r,fq n0=r:=⟨_,rfl⟩;rw[hv]at fK fC;clear hv;simp only[]at fC;unfold aN at fK;have c1:=H6.out.1.cell 1;have d0:=H6.out.2.1.cell 0;have d1:=H6.out.2.1.cell 1;go_upto_region 9 with fail;have g0:=ah ((tR w6).drew) d0;have g1:=ah ((tR w6).drew) d1;go_region_with (go_at_call 160;refine(fK _).mono ?_;rintro _ w7 ⟨rfl,t7⟩;have m0:=ah t7 g0;have m1:=ah t7 g1;have T7:=hid (H6.out.2.2.trans t7.aO (by simp));clear t7)
    all_goals go_wp2_with fail
    all_goals go_quiet (fail)
    all_goals go_wp2_with fail
    all_goals go_ret3
    all_goals exact⟨by rw[HX.out];rfl,T7.out.drewN _⟩
   ·have HX:Hid (R=((0,0),-11)):=by
     have:=HR.out;rw[if_neg hf]at this;exact this.symm
    have fC:=fun w=>(fC w).trans (by rw[decide_eq_true hf]);clear hf HR;obtain⟨⟨vx,vy⟩,hv⟩:∃r,fq n0=r:=⟨_,rfl⟩;rw[hv]at fK fC;clear hv;simp only[]at fC;unfold aN at fK;have c1:=H6.out.1.cell 1;have d0:=H6.out.2.1.cell 0;have d1:=H6.out.2.1.cell 1;go_upto_region 9 with fail;have g0:=ah ((tR w6).drew) d0;have g1:=ah ((tR w6).drew) d1;go_region_with (go_at_call 160;refine(fK _).mono ?_;rintro _ w7 ⟨rfl,t7⟩;have m0:=ah t7 g0;have m1:=ah t7 g1;have T7:=hid (H6.out.2.2.trans t7.aO (by simp));clear t7)
    all_goals go_wp2_with fail
    all_goals go_ret3
    all_goals exact⟨by rw[HX.out];rfl,T7.out⟩
  ·have HR:=hid (by have:=HR.out;rwa[if_neg hy]at this);have fK:=fun w=>iA n0 w;have fC:=fun w=>gF (n0,n1) (fq n0) w;by_cases hf:(n0,n1)=fq n0
   ·have HX:Hid (R=((lf,n0),0)):=by
     have:=HR.out;rw[if_pos hf]at this;exact this.symm
    have fC:=fun w=>(fC w).trans (by rw[decide_eq_false (fun h=>h hf)]);clear hf HR;obtain⟨⟨vx,vy⟩,hv⟩:∃r,fq n0=r:=⟨_,rfl⟩;rw[hv]at fK fC;clear hv;simp only[]at fC;unfold aN at fK;have c1:=H6.out.1.cell 1;have d0:=H6.out.2.1.cell 0;have d1:=H6.out.2.1.cell 1;go_upto_region 9 with fail;have g0:=ah ((tR w6).drew) d0;have g1:=ah ((tR w6).drew) d1;go_region_with (go_at_call 160;refine(fK _).mono ?_;rintro _ w7 ⟨rfl,t7⟩;have m0:=ah t7 g0;have m1:=ah t7 g1;have T7:=hid (H6.out.2.2.trans t7.aO (by simp));clear t7)
    all_goals go_wp2_with fail
    all_goals go_quiet (fail)
    all_goals go_wp2_with fail
    all_goals go_ret3
    all_goals exact⟨by rw[HX.out];rfl,T7.out.drewN _⟩
   ·have HX:Hid (R=((0,0),-11)):=by
     have:=HR.out;rw[if_neg hf]at this;exact this.symm
    have fC:=fun w=>(fC w).trans (by rw[decide_eq_true hf]);clear hf HR;obtain⟨⟨vx,vy⟩,hv⟩:∃r,fq n0=r:=⟨_,rfl⟩;rw[hv]at fK fC;clear hv;simp only[]at fC;unfold aN at fK;have c1:=H6.out.1.cell 1;have d0:=H6.out.2.1.cell 0;have d1:=H6.out.2.1.cell 1;go_upto_region 9 with fail;have g0:=ah ((tR w6).drew) d0;have g1:=ah ((tR w6).drew) d1;go_region_with (go_at_call 160;refine(fK _).mono ?_;rintro _ w7 ⟨rfl,t7⟩;have m0:=ah t7 g0;have m1:=ah t7 g1;have T7:=hid (H6.out.2.2.trans t7.aO (by simp));clear t7)
    all_goals go_wp2_with fail
    all_goals go_ret3
    all_goals exact⟨by rw[HX.out];rfl,T7.out⟩
 ·have HR:=hid (by have:=HR.out;rwa[if_neg hs]at this);go_upto_region 7 with fail;have H6:=hid (And.intro b2 (And.intro P8 T4));clear b2 P8 T4 c1 d0 d1;generalize w4.alloc (.cells #[.int .i64 q,.int .i64 0] 213)=w6 at*;by_cases hy:y<0
  ·have HR:=hid (by have:=HR.out;rwa[if_pos hy]at this);have fK:=fun w=>iA q w;have fC:=fun w=>gF (q,0) (fq q) w;by_cases hf:(q,0)=fq q
   ·have HX:Hid (R=((wrap64 (-lf),q),0)):=by
     have:=HR.out;rw[if_pos hf]at this;exact this.symm
    have fC:=fun w=>(fC w).trans (by rw[decide_eq_false (fun h=>h hf)]);clear hf HR;obtain⟨⟨vx,vy⟩,hv⟩:∃r,fq q=r:=⟨_,rfl⟩;rw[hv]at fK fC;clear hv;simp only[]at fC;unfold aN at fK;have c1:=H6.out.1.cell 1;have d0:=H6.out.2.1.cell 0;have d1:=H6.out.2.1.cell 1;go_upto_region 9 with fail;have g0:=ah ((tR w6).drew) d0;have g1:=ah ((tR w6).drew) d1;go_region_with (go_at_call 160;refine(fK _).mono ?_;rintro _ w7 ⟨rfl,t7⟩;have m0:=ah t7 g0;have m1:=ah t7 g1;have T7:=hid (H6.out.2.2.trans t7.aO (by simp));clear t7)
    all_goals go_wp2_with fail
    all_goals go_quiet (fail)
    all_goals go_wp2_with fail
    all_goals go_ret3
    all_goals exact⟨by rw[HX.out];rfl,T7.out.drewN _⟩
   ·have HX:Hid (R=((0,0),-11)):=by
     have:=HR.out;rw[if_neg hf]at this;exact this.symm
    have fC:=fun w=>(fC w).trans (by rw[decide_eq_true hf]);clear hf HR;obtain⟨⟨vx,vy⟩,hv⟩:∃r,fq q=r:=⟨_,rfl⟩;rw[hv]at fK fC;clear hv;simp only[]at fC;unfold aN at fK;have c1:=H6.out.1.cell 1;have d0:=H6.out.2.1.cell 0;have d1:=H6.out.2.1.cell 1;go_upto_region 9 with fail;have g0:=ah ((tR w6).drew) d0;have g1:=ah ((tR w6).drew) d1;go_region_with (go_at_call 160;refine(fK _).mono ?_;rintro _ w7 ⟨rfl,t7⟩;have m0:=ah t7 g0;have m1:=ah t7 g1;have T7:=hid (H6.out.2.2.trans t7.aO (by simp));clear t7)
    all_goals go_wp2_with fail
    all_goals go_ret3
    all_goals exact⟨by rw[HX.out];rfl,T7.out⟩
  ·have HR:=hid (by have:=HR.out;rwa[if_neg hy]at this);have fK:=fun w=>iA q w;have fC:=fun w=>gF (q,0) (fq q) w;by_cases hf:(q,0)=fq q
   ·have HX:Hid (R=((lf,q),0)):=by
     have:=HR.out;rw[if_pos hf]at this;exact this.symm
    have fC:=fun w=>(fC w).trans (by rw[decide_eq_false (fun h=>h hf)]);clear hf HR;obtain⟨⟨vx,vy⟩,hv⟩:∃r,fq q=r:=⟨_,rfl⟩;rw[hv]at fK fC;clear hv;simp only[]at fC;unfold aN at fK;have c1:=H6.out.1.cell 1;have d0:=H6.out.2.1.cell 0;have d1:=H6.out.2.1.cell 1;go_upto_region 9 with fail;have g0:=ah ((tR w6).drew) d0;have g1:=ah ((tR w6).drew) d1;go_region_with (go_at_call 160;refine(fK _).mono ?_;rintro _ w7 ⟨rfl,t7⟩;have m0:=ah t7 g0;have m1:=ah t7 g1;have T7:=hid (H6.out.2.2.trans t7.aO (by simp));clear t7)
    all_goals go_wp2_with fail
    all_goals go_quiet (fail)
    all_goals go_wp2_with fail
    all_goals go_ret3
    all_goals exact⟨by rw[HX.out];rfl,T7.out.drewN _⟩
   ·have HX:Hid (R=((0,0),-11)):=by
     have:=HR.out;rw[if_neg hf]at this;exact this.symm
    have fC:=fun w=>(fC w).trans (by rw[decide_eq_true hf]);clear hf HR;obtain⟨⟨vx,vy⟩,hv⟩:∃r,fq q=r:=⟨_,rfl⟩;rw[hv]at fK fC;clear hv;simp only[]at fC;unfold aN at fK;have c1:=H6.out.1.cell 1;have d0:=H6.out.2.1.cell 0;have d1:=H6.out.2.1.cell 1;go_upto_region 9 with fail;have g0:=ah ((tR w6).drew) d0;have g1:=ah ((tR w6).drew) d1;go_region_with (go_at_call 160;refine(fK _).mono ?_;rintro _ w7 ⟨rfl,t7⟩;have m0:=ah t7 g0;have m1:=ah t7 g1;have T7:=hid (H6.out.2.2.trans t7.aO (by simp));clear t7)
    all_goals go_wp2_with fail
    all_goals go_ret3
    all_goals exact⟨by rw[HX.out];rfl,T7.out⟩
end Go.Proofs.YtdokeddjcpnmiaaGreatDoor
