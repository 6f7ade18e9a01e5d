/- Of EngineClean: PairD2. -/
import Derived.Test.YtdokeddjcpnmiaaGreatDoorQPairD
set_option maxRecDepth 100000
set_option maxHeartbeats 8000000
namespace Go.Proofs.YtdokeddjcpnmiaaGreatDoor
open Go.RowKit Go.Proofs.Tryz
open Go.Lib(hid)
theorem Ei(p:Int×Int)(b:Int)(h1:au p.1)(h2:au p.2)(hb:au b)(w:World):
 Calls prog 156 #[aN p,.int .i64 b] w fun e w'=>e=.returned (.tuple #[.int .i64 (gq p b).1.1,.int .i64 (gq p b).1.2,.int .i64 (gq p b).2])∧Touch [] w w':=by
 obtain⟨x,y⟩:=p;have UU:=fun w=>tC (x,y) w;have fp:=fun w=>iA b w;have Yr:=fun w=>tC (fq b) w;have hU:=fun w=>BI (dL (x,y)) (dL (fq b)).1 (lq (x,y) h1 h2).1 (lq (x,y) h1 h2).2 (lq (fq b) (p9 b hb).1 (p9 b hb).2).1 w;obtain⟨R,hR⟩:∃R,gq (x,y) b=R:=⟨_,rfl⟩;rw[hR];unfold gq at hR;obtain⟨u,hu⟩:∃u,gW (dL (x,y)) (dL (fq b)).1=u:=⟨_,rfl⟩;rw[hu]at hU hR;simp only[]at hR;clear hu;obtain⟨⟨sx,sy⟩,hs⟩:∃r,dL (x,y)=r:=⟨_,rfl⟩;rw[hs]at UU hU;clear hs;obtain⟨⟨tx,ty⟩,ht⟩:∃r,dL (fq b)=r:=⟨_,rfl⟩;rw[ht]at Yr hU;clear ht;obtain⟨⟨ox,oy⟩,ho⟩:∃r,fq b=r:=⟨_,rfl⟩;rw[ho]at fp Yr;clear ho h1 h2 hb;obtain⟨⟨lf,q⟩,ee⟩:=u;simp only[]at hU hR;unfold aN at*;have H0:=hid (And.intro (aF.new w 213 #[.int .i64 x,.int .i64 y]) ((tR w).alloc (.cells #[.int .i64 x,.int .i64 y] 213)));have HR:=hid hR;clear hR;have iN:=fun w=>I5 tx ty w;go_enter func156,ntmps156;go_wp2_with fail;refine(UU _).mono ?_;rintro _ w1 ⟨rfl,t1⟩;have H1:=hid (And.intro (H0.out.1.touch t1 (by simp)) (H0.out.2.trans t1 (by simp)));clear t1 UU;go_wp2_with fail;refine(fp _).mono ?_;rintro _ w2 ⟨rfl,t2⟩;have H2:=hid (And.intro (H1.out.1.touch t2 (by simp)) (H1.out.2.trans t2 (by simp)));clear t2 fp;go_wp2_with fail;refine(Yr _).mono ?_;rintro _ w3 ⟨rfl,t3⟩;have H3:=hid (And.intro (H2.out.1.touch t3 (by simp)) (H2.out.2.trans t3 (by simp)));clear t3 Yr;go_wp2_with fail;refine(hU _).mono ?_;rintro _ w4 ⟨rfl,t4⟩;have H4:=hid (And.intro (H3.out.1.touch t4 (by simp)) (H3.out.2.trans t4 (by simp)));clear t4 hU;by_cases he:ee=0;rotate_left
 ·have HX:Hid (R=((0,0),ee)):=by
   have:=HR.out;rw[if_pos he]at this;exact this.symm
  clear HR;go_wp2_with fail;go_ret3;exact⟨by rw[HX.out];rfl,H4.out.2⟩
 have HR:=hid (by have:=HR.out;rwa[if_neg (fun h=>h he)]at this);subst he;have P8:=aF.new w4 213 #[.int .i64 q,.int .i64 0];have b2:=H4.out.1.alloc (.cells #[.int .i64 q,.int .i64 0] 213);have T4:=H4.out.2.alloc (.cells #[.int .i64 q,.int .i64 0] 213);have Qa:w.heap.size≤w4.heap.size:=H4.out.2.size;have hlt:w.heap.size<w4.heap.size:=H4.out.1.lt;have c1:=b2.cell 1;have d0:=P8.cell 0;have d1:=P8.cell 1;have Qa:=hid Qa;have hlt:=hid hlt;by_cases hs:bits .xor .i64 y b<0
 ·have HR:=hid (by have:=HR.out;rwa[if_pos hs]at this);have hN:=fun w=>qM (q,0) w;obtain⟨⟨n0,n1⟩,hn⟩:∃r,nS (q,0)=r:=⟨_,rfl⟩;have HR:=hid (by have:=HR.out;rwa[hn]at this);rw[hn]at hN;clear hn;unfold aN at hN;go_wp2_with fail;refine(hN _).mono ?_;rintro _ w5 ⟨rfl,t5⟩;have Qb:=P8.touch t5 (by simp);have k2:=b2.touch t5 (by simp);have T5:=T4.trans t5 (by simp);have e0:=Qb.cell 0;have e1:=Qb.cell 1;have f0:=Qb.frozen 0;have f1:=Qb.frozen 1;clear c1 d0 d1 P8 b2 T4 t5;have c1:=k2.cell 1;go_upto_region 7 with fail;have H6:=hid (And.intro (k2.zP (Nat.ne_of_lt hlt.out) (.int .i64 n0) (.int .i64 n1)) (And.intro (Qb.jF (.int .i64 n0) (.int .i64 n1)) ((T5.setCell (p:=⟨w4.heap.size,0,none⟩) (.inr Qa.out) (.int .i64 n0)).setCell (p:=⟨w4.heap.size,1,none⟩) (.inr Qa.out) (.int .i64 n1))));clear k2 Qb T5 e0 e1 f0 f1 c1;generalize (w5.setCell ⟨w4.heap.size,0,none⟩ (.int .i64 n0)).setCell ⟨w4.heap.size,1,none⟩ (.int .i64 n1)=w6 at*;by_cases hy:y<0
  ·have HR:=hid (by have:=HR.out;rwa[if_pos hy]at this);obtain⟨lw,JB⟩:∃z,wrap64 (-lf)=z:=⟨_,rfl⟩;have HR:=hid (by have:=HR.out;rwa[JB]at this);have mS:=hid JB;by_cases hl:lw=0
   ·have hno:¬(¬lw=0∧bits .xor .i64 y b<0):=fun h=>h.1 hl;have HR:=hid (by have:=HR.out;simp only[if_neg hno]at this;exact this);clear hno;have hl0:(wrap64 (-lf) != 0)=false:=by simp[JB,hl]
    clear hl JB;have fK:=fun w=>iA n0 w;have fC:=fun w=>gF (n0,n1) (fq n0) w;by_cases hf:(n0,n1)=fq n0
    ·have HX:Hid (R=((lw,n0),0)):=by
      have:=HR.out;rw[if_pos hf]at this;exact this.symm
     have fC:=fun w=>(fC w).trans (by rw[decide_eq_false (fun h=>h hf)]);clear hf HR;obtain⟨⟨vx,vy⟩,hv⟩:∃r,fq n0=r:=⟨_,rfl⟩;rw[hv]at fK fC;clear hv;simp only[]at fC;unfold aN at fK;have c1:=H6.out.1.cell 1;have d0:=H6.out.2.1.cell 0;have d1:=H6.out.2.1.cell 1;go_upto_region 12 with fail;have g0:=ah ((tR w6).drew) d0;have g1:=ah ((tR w6).drew) d1;go_region_with (go_at_call 160;refine(fK _).mono ?_;rintro _ w7 ⟨rfl,t7⟩;have m0:=ah t7 g0;have m1:=ah t7 g1;have T7:=hid (H6.out.2.2.trans t7.aO (by simp));clear t7)
     all_goals go_wp2_with fail
     all_goals go_quiet (fail)
     all_goals go_wp2_with fail
     all_goals go_ret3
     all_goals exact⟨by rw[HX.out,←mS.out];rfl,T7.out.drewN _⟩
    ·have HX:Hid (R=((0,0),-11)):=by
      have:=HR.out;rw[if_neg hf]at this;exact this.symm
     have fC:=fun w=>(fC w).trans (by rw[decide_eq_true hf]);clear hf HR;obtain⟨⟨vx,vy⟩,hv⟩:∃r,fq n0=r:=⟨_,rfl⟩;rw[hv]at fK fC;clear hv;simp only[]at fC;unfold aN at fK;have c1:=H6.out.1.cell 1;have d0:=H6.out.2.1.cell 0;have d1:=H6.out.2.1.cell 1;go_upto_region 12 with fail;have g0:=ah ((tR w6).drew) d0;have g1:=ah ((tR w6).drew) d1;go_region_with (go_at_call 160;refine(fK _).mono ?_;rintro _ w7 ⟨rfl,t7⟩;have m0:=ah t7 g0;have m1:=ah t7 g1;have T7:=hid (H6.out.2.2.trans t7.aO (by simp));clear t7)
     all_goals go_wp2_with fail
     all_goals go_ret3
     all_goals exact⟨by rw[HX.out];rfl,T7.out⟩
   ·have H9:¬lw=0∧bits .xor .i64 y b<0:=⟨hl,hs⟩;have HR:=hid (by have:=HR.out;simp only[if_pos H9]at this;exact this);clear H9;have hl0:(wrap64 (-lf) != 0)=true:=by simp[JB,hl]
    clear hl JB;have hM:=fun w=>iA (-1) w;have Yt:=fun w=>zR (n0,n1) (fq (-1)) w;obtain⟨⟨mx,my⟩,hm⟩:∃r,zA (n0,n1) (fq (-1))=r:=⟨_,rfl⟩;have HR:=hid (by have:=HR.out;rwa[hm]at this);rw[hm]at Yt;clear hm;obtain⟨⟨kx,ky⟩,hk⟩:∃r,fq (-1)=r:=⟨_,rfl⟩;rw[hk]at hM Yt;clear hk;unfold aN at hM Yt;have c1:=H6.out.1.cell 1;have d0:=H6.out.2.1.cell 0;have d1:=H6.out.2.1.cell 1;go_upto_region 11 with fail;have g0:=ah ((tR w6).drew) d0;have g1:=ah ((tR w6).drew) d1;go_cut [53]from 51 to 53 (fun _ wx=>aF wx w.heap.size 213 #[.int .i64 x,.int .i64 y]∧aF wx w4.heap.size 213 #[.int .i64 mx,.int .i64 my]∧Touch [] w wx)
    case first=>
     go_region_with (first|(go_at_call 160;refine(hM _).mono ?_;rintro _ w7 ⟨rfl,t7⟩;have m0:=ah t7 g0;have m1:=ah t7 g1;have T7:=hid t7.aO;clear t7)|(go_at_call 162;refine(Yt _).mono ?_;rintro _ w8 ⟨rfl,t8⟩;have T8:=T7.out.trans t8 (by simp);have n10:=H6.out.2.1.touch T8 (by simp);have e0:=n10.cell 0;have e1:=n10.cell 1;have f0:=n10.frozen 0;have f1:=n10.frozen 1;have H8:=hid (And.intro (H6.out.1.touch T8 (by simp)) (And.intro n10 (H6.out.2.2.trans T8 (by simp))));clear T8 n10))
     all_goals(go_wp2_with fail;go_meet;exact⟨H8.out.1.zP (Nat.ne_of_lt hlt.out) (.int .i64 mx) (.int .i64 my),H8.out.2.1.jF (.int .i64 mx) (.int .i64 my),(H8.out.2.2.setCell (p:=⟨w4.heap.size,0,none⟩) (.inr Qa.out) (.int .i64 mx)).setCell (p:=⟨w4.heap.size,1,none⟩) (.inr Qa.out) (.int .i64 my)⟩)
    case rest=>
     clear H6 g0 g1 c1 d0 d1;have H6:=hid hcut;clear hcut;have fK:=fun w=>iA mx w;have fC:=fun w=>gF (mx,my) (fq mx) w;by_cases hf:(mx,my)=fq mx
     ·have HX:Hid (R=((wrap64 (lw+b),mx),0)):=by
       have:=HR.out;rw[if_pos hf]at this;exact this.symm
      have fC:=fun w=>(fC w).trans (by rw[decide_eq_false (fun h=>h hf)]);clear hf HR;obtain⟨⟨vx,vy⟩,hv⟩:∃r,fq mx=r:=⟨_,rfl⟩;rw[hv]at fK fC;clear hv;simp only[]at fC;unfold aN at fK;have c1:=H6.out.1.cell 1;have d0:=H6.out.2.1.cell 0;have d1:=H6.out.2.1.cell 1;go_upto_region 12 with fail;have g0:=ah ((tR wc).drew) d0;have g1:=ah ((tR wc).drew) d1;go_region_with (go_at_call 160;refine(fK _).mono ?_;rintro _ w7 ⟨rfl,t7⟩;have m0:=ah t7 g0;have m1:=ah t7 g1;have T7:=hid (H6.out.2.2.trans t7.aO (by simp));clear t7)
      all_goals go_wp2_with fail
      all_goals go_quiet (fail)
      all_goals go_wp2_with fail
      all_goals go_ret3
      all_goals exact⟨by rw[HX.out,←mS.out];rfl,T7.out.drewN _⟩
     ·have HX:Hid (R=((0,0),-11)):=by
       have:=HR.out;rw[if_neg hf]at this;exact this.symm
      have fC:=fun w=>(fC w).trans (by rw[decide_eq_true hf]);clear hf HR;obtain⟨⟨vx,vy⟩,hv⟩:∃r,fq mx=r:=⟨_,rfl⟩;rw[hv]at fK fC;clear hv;simp only[]at fC;unfold aN at fK;have c1:=H6.out.1.cell 1;have d0:=H6.out.2.1.cell 0;have d1:=H6.out.2.1.cell 1;go_upto_region 12 with fail;have g0:=ah ((tR wc).drew) d0;have g1:=ah ((tR wc).drew) d1;go_region_with (go_at_call 160;refine(fK _).mono ?_;rintro _ w7 ⟨rfl,t7⟩;have m0:=ah t7 g0;have m1:=ah t7 g1;have T7:=hid (H6.out.2.2.trans t7.aO (by simp));clear t7)
      all_goals go_wp2_with fail
      all_goals go_ret3
      all_goals exact⟨by rw[HX.out];rfl,T7.out⟩
  ·have HR:=hid (by have:=HR.out;rwa[if_neg hy]at this);obtain⟨lw,JB⟩:∃z,lf=z:=⟨_,rfl⟩;have HR:=hid (by have:=HR.out;rwa[JB]at this);have mS:=hid JB;by_cases hl:lw=0
   ·have hno:¬(¬lw=0∧bits .xor .i64 y b<0):=fun h=>h.1 hl;have HR:=hid (by have:=HR.out;simp only[if_neg hno]at this;exact this);clear hno;have hl0:(lf != 0)=false:=by simp[JB,hl]
    clear hl JB;have fK:=fun w=>iA n0 w;have fC:=fun w=>gF (n0,n1) (fq n0) w;by_cases hf:(n0,n1)=fq n0
    ·have HX:Hid (R=((lw,n0),0)):=by
      have:=HR.out;rw[if_pos hf]at this;exact this.symm
     have fC:=fun w=>(fC w).trans (by rw[decide_eq_false (fun h=>h hf)]);clear hf HR;obtain⟨⟨vx,vy⟩,hv⟩:∃r,fq n0=r:=⟨_,rfl⟩;rw[hv]at fK fC;clear hv;simp only[]at fC;unfold aN at fK;have c1:=H6.out.1.cell 1;have d0:=H6.out.2.1.cell 0;have d1:=H6.out.2.1.cell 1;go_upto_region 12 with fail;have g0:=ah ((tR w6).drew) d0;have g1:=ah ((tR w6).drew) d1;go_region_with (go_at_call 160;refine(fK _).mono ?_;rintro _ w7 ⟨rfl,t7⟩;have m0:=ah t7 g0;have m1:=ah t7 g1;have T7:=hid (H6.out.2.2.trans t7.aO (by simp));clear t7)
     all_goals go_wp2_with fail
     all_goals go_quiet (fail)
     all_goals go_wp2_with fail
     all_goals go_ret3
     all_goals exact⟨by rw[HX.out,←mS.out];rfl,T7.out.drewN _⟩
    ·have HX:Hid (R=((0,0),-11)):=by
      have:=HR.out;rw[if_neg hf]at this;exact this.symm
     have fC:=fun w=>(fC w).trans (by rw[decide_eq_true hf]);clear hf HR;obtain⟨⟨vx,vy⟩,hv⟩:∃r,fq n0=r:=⟨_,rfl⟩;rw[hv]at fK fC;clear hv;simp only[]at fC;unfold aN at fK;have c1:=H6.out.1.cell 1;have d0:=H6.out.2.1.cell 0;have d1:=H6.out.2.1.cell 1;go_upto_region 12 with fail;have g0:=ah ((tR w6).drew) d0;have g1:=ah ((tR w6).drew) d1;go_region_with (go_at_call 160;refine(fK _).mono ?_;rintro _ w7 ⟨rfl,t7⟩;have m0:=ah t7 g0;have m1:=ah t7 g1;have T7:=hid (H6.out.2.2.trans t7.aO (by simp));clear t7)
     all_goals go_wp2_with fail
     all_goals go_ret3
     all_goals exact⟨by rw[HX.out];rfl,T7.out⟩
   ·have H9:¬lw=0∧bits .xor .i64 y b<0:=⟨hl,hs⟩;have HR:=hid (by have:=HR.out;simp only[if_pos H9]at this;exact this);clear H9;have hl0:(lf != 0)=true:=by simp[JB,hl]
    clear hl JB;have hM:=fun w=>iA (-1) w;have Yt:=fun w=>zR (n0,n1) (fq (-1)) w;obtain⟨⟨mx,my⟩,hm⟩:∃r,zA (n0,n1) (fq (-1))=r:=⟨_,rfl⟩;have HR:=hid (by have:=HR.out;rwa[hm]at this);rw[hm]at Yt;clear hm;obtain⟨⟨kx,ky⟩,hk⟩:∃r,fq (-1)=r:=⟨_,rfl⟩;rw[hk]at hM Yt;clear hk;unfold aN at hM Yt;have c1:=H6.out.1.cell 1;have d0:=H6.out.2.1.cell 0;have d1:=H6.out.2.1.cell 1;go_upto_region 11 with fail;have g0:=ah ((tR w6).drew) d0;have g1:=ah ((tR w6).drew) d1;go_cut [53]from 51 to 53 (fun _ wx=>aF wx w.heap.size 213 #[.int .i64 x,.int .i64 y]∧aF wx w4.heap.size 213 #[.int .i64 mx,.int .i64 my]∧Touch [] w wx)
    case first=>
     go_region_with (first|(go_at_call 160;refine(hM _).mono ?_;rintro _ w7 ⟨rfl,t7⟩;have m0:=ah t7 g0;have m1:=ah t7 g1;have T7:=hid t7.aO;clear t7)|(go_at_call 162;refine(Yt _).mono ?_;rintro _ w8 ⟨rfl,t8⟩;have T8:=T7.out.trans t8 (by simp);have n10:=H6.out.2.1.touch T8 (by simp);have e0:=n10.cell 0;have e1:=n10.cell 1;have f0:=n10.frozen 0;have f1:=n10.frozen 1;have H8:=hid (And.intro (H6.out.1.touch T8 (by simp)) (And.intro n10 (H6.out.2.2.trans T8 (by simp))));clear T8 n10))
     all_goals(go_wp2_with fail;go_meet;exact⟨H8.out.1.zP (Nat.ne_of_lt hlt.out) (.int .i64 mx) (.int .i64 my),H8.out.2.1.jF (.int .i64 mx) (.int .i64 my),(H8.out.2.2.setCell (p:=⟨w4.heap.size,0,none⟩) (.inr Qa.out) (.int .i64 mx)).setCell (p:=⟨w4.heap.size,1,none⟩) (.inr Qa.out) (.int .i64 my)⟩)
    case rest=>
     clear H6 g0 g1 c1 d0 d1;have H6:=hid hcut;clear hcut;have fK:=fun w=>iA mx w;have fC:=fun w=>gF (mx,my) (fq mx) w;by_cases hf:(mx,my)=fq mx
     ·have HX:Hid (R=((wrap64 (lw+b),mx),0)):=by
       have:=HR.out;rw[if_pos hf]at this;exact this.symm
      have fC:=fun w=>(fC w).trans (by rw[decide_eq_false (fun h=>h hf)]);clear hf HR;obtain⟨⟨vx,vy⟩,hv⟩:∃r,fq mx=r:=⟨_,rfl⟩;rw[hv]at fK fC;clear hv;simp only[]at fC;unfold aN at fK;have c1:=H6.out.1.cell 1;have d0:=H6.out.2.1.cell 0;have d1:=H6.out.2.1.cell 1;go_upto_region 12 with fail;have g0:=ah ((tR wc).drew) d0;have g1:=ah ((tR wc).drew) d1;go_region_with (go_at_call 160;refine(fK _).mono ?_;rintro _ w7 ⟨rfl,t7⟩;have m0:=ah t7 g0;have m1:=ah t7 g1;have T7:=hid (H6.out.2.2.trans t7.aO (by simp));clear t7)
      all_goals go_wp2_with fail
      all_goals go_quiet (fail)
      all_goals go_wp2_with fail
      all_goals go_ret3
      all_goals exact⟨by rw[HX.out,←mS.out];rfl,T7.out.drewN _⟩
     ·have HX:Hid (R=((0,0),-11)):=by
       have:=HR.out;rw[if_neg hf]at this;exact this.symm
      have fC:=fun w=>(fC w).trans (by rw[decide_eq_true hf]);clear hf HR;obtain⟨⟨vx,vy⟩,hv⟩:∃r,fq mx=r:=⟨_,rfl⟩;rw[hv]at fK fC;clear hv;simp only[]at fC;unfold aN at fK;have c1:=H6.out.1.cell 1;have d0:=H6.out.2.1.cell 0;have d1:=H6.out.2.1.cell 1;go_upto_region 12 with fail;have g0:=ah ((tR wc).drew) d0;have g1:=ah ((tR wc).drew) d1;go_region_with (go_at_call 160;refine(fK _).mono ?_;rintro _ w7 ⟨rfl,t7⟩;have m0:=ah t7 g0;have m1:=ah t7 g1;have T7:=hid (H6.out.2.2.trans t7.aO (by simp));clear t7)
      all_goals go_wp2_with fail
      all_goals go_ret3
      all_goals exact⟨by rw[HX.out];rfl,T7.out⟩
 ·have HR:=hid (by have:=HR.out;rwa[if_neg hs]at this);go_upto_region 7 with fail;have H6:=hid (And.intro b2 (And.intro P8 T4));clear b2 P8 T4 c1 d0 d1;generalize w4.alloc (.cells #[.int .i64 q,.int .i64 0] 213)=w6 at*;by_cases hy:y<0
  ·have HR:=hid (by have:=HR.out;rwa[if_pos hy]at this);have hno:¬(¬wrap64 (-lf)=0∧bits .xor .i64 y b<0):=fun h=>by have:=h.2;omega
   have HR:=hid (by have:=HR.out;simp only[if_neg hno]at this;exact this);clear hno;by_cases hl:wrap64 (-lf)=0
   ·have hl0:(wrap64 (-lf) != 0)=false:=by simp[hl]
    clear hl;have fK:=fun w=>iA q w;have fC:=fun w=>gF (q,0) (fq q) w;by_cases hf:(q,0)=fq q
    ·have HX:Hid (R=((wrap64 (-lf),q),0)):=by
      have:=HR.out;rw[if_pos hf]at this;exact this.symm
     have fC:=fun w=>(fC w).trans (by rw[decide_eq_false (fun h=>h hf)]);clear hf HR;obtain⟨⟨vx,vy⟩,hv⟩:∃r,fq q=r:=⟨_,rfl⟩;rw[hv]at fK fC;clear hv;simp only[]at fC;unfold aN at fK;have c1:=H6.out.1.cell 1;have d0:=H6.out.2.1.cell 0;have d1:=H6.out.2.1.cell 1;go_upto_region 12 with fail;have g0:=ah ((tR w6).drew) d0;have g1:=ah ((tR w6).drew) d1;go_region_with (go_at_call 160;refine(fK _).mono ?_;rintro _ w7 ⟨rfl,t7⟩;have m0:=ah t7 g0;have m1:=ah t7 g1;have T7:=hid (H6.out.2.2.trans t7.aO (by simp));clear t7)
     all_goals go_wp2_with fail
     all_goals go_quiet (fail)
     all_goals go_wp2_with fail
     all_goals go_ret3
     all_goals exact⟨by rw[HX.out];rfl,T7.out.drewN _⟩
    ·have HX:Hid (R=((0,0),-11)):=by
      have:=HR.out;rw[if_neg hf]at this;exact this.symm
     have fC:=fun w=>(fC w).trans (by rw[decide_eq_true hf]);clear hf HR;obtain⟨⟨vx,vy⟩,hv⟩:∃r,fq q=r:=⟨_,rfl⟩;rw[hv]at fK fC;clear hv;simp only[]at fC;unfold aN at fK;have c1:=H6.out.1.cell 1;have d0:=H6.out.2.1.cell 0;have d1:=H6.out.2.1.cell 1;go_upto_region 12 with fail;have g0:=ah ((tR w6).drew) d0;have g1:=ah ((tR w6).drew) d1;go_region_with (go_at_call 160;refine(fK _).mono ?_;rintro _ w7 ⟨rfl,t7⟩;have m0:=ah t7 g0;have m1:=ah t7 g1;have T7:=hid (H6.out.2.2.trans t7.aO (by simp));clear t7)
     all_goals go_wp2_with fail
     all_goals go_ret3
     all_goals exact⟨by rw[HX.out];rfl,T7.out⟩
   ·have hl0:(wrap64 (-lf) != 0)=true:=by simp[hl]
    clear hl;have fK:=fun w=>iA q w;have fC:=fun w=>gF (q,0) (fq q) w;by_cases hf:(q,0)=fq q
    ·have HX:Hid (R=((wrap64 (-lf),q),0)):=by
      have:=HR.out;rw[if_pos hf]at this;exact this.symm
     have fC:=fun w=>(fC w).trans (by rw[decide_eq_false (fun h=>h hf)]);clear hf HR;obtain⟨⟨vx,vy⟩,hv⟩:∃r,fq q=r:=⟨_,rfl⟩;rw[hv]at fK fC;clear hv;simp only[]at fC;unfold aN at fK;have c1:=H6.out.1.cell 1;have d0:=H6.out.2.1.cell 0;have d1:=H6.out.2.1.cell 1;go_upto_region 12 with fail;have g0:=ah ((tR w6).drew) d0;have g1:=ah ((tR w6).drew) d1;go_region_with (go_at_call 160;refine(fK _).mono ?_;rintro _ w7 ⟨rfl,t7⟩;have m0:=ah t7 g0;have m1:=ah t7 g1;have T7:=hid (H6.out.2.2.trans t7.aO (by simp));clear t7)
     all_goals go_wp2_with fail
     all_goals go_quiet (fail)
     all_goals go_wp2_with fail
     all_goals go_ret3
     all_goals exact⟨by rw[HX.out];rfl,T7.out.drewN _⟩
    ·have HX:Hid (R=((0,0),-11)):=by
      have:=HR.out;rw[if_neg hf]at this;exact this.symm
     have fC:=fun w=>(fC w).trans (by rw[decide_eq_true hf]);clear hf HR;obtain⟨⟨vx,vy⟩,hv⟩:∃r,fq q=r:=⟨_,rfl⟩;rw[hv]at fK fC;clear hv;simp only[]at fC;unfold aN at fK;have c1:=H6.out.1.cell 1;have d0:=H6.out.2.1.cell 0;have d1:=H6.out.2.1.cell 1;go_upto_region 12 with fail;have g0:=ah ((tR w6).drew) d0;have g1:=ah ((tR w6).drew) d1;go_region_with (go_at_call 160;refine(fK _).mono ?_;rintro _ w7 ⟨rfl,t7⟩;have m0:=ah t7 g0;have m1:=ah t7 g1;have T7:=hid (H6.out.2.2.trans t7.aO (by simp));clear t7)
     all_goals go_wp2_with fail
     all_goals go_ret3
     all_goals exact⟨by rw[HX.out];rfl,T7.out⟩
  ·have HR:=hid (by have:=HR.out;rwa[if_neg hy]at this);have hno:¬(¬lf=0∧bits .xor .i64 y b<0):=fun h=>by have:=h.2;omega
   have HR:=hid (by have:=HR.out;simp only[if_neg hno]at this;exact this);clear hno;by_cases hl:lf=0
   ·have hl0:(lf != 0)=false:=by simp[hl]
    clear hl;have fK:=fun w=>iA q w;have fC:=fun w=>gF (q,0) (fq q) w;by_cases hf:(q,0)=fq q
    ·have HX:Hid (R=((lf,q),0)):=by
      have:=HR.out;rw[if_pos hf]at this;exact this.symm
     have fC:=fun w=>(fC w).trans (by rw[decide_eq_false (fun h=>h hf)]);clear hf HR;obtain⟨⟨vx,vy⟩,hv⟩:∃r,fq q=r:=⟨_,rfl⟩;rw[hv]at fK fC;clear hv;simp only[]at fC;unfold aN at fK;have c1:=H6.out.1.cell 1;have d0:=H6.out.2.1.cell 0;have d1:=H6.out.2.1.cell 1;go_upto_region 12 with fail;have g0:=ah ((tR w6).drew) d0;have g1:=ah ((tR w6).drew) d1;go_region_with (go_at_call 160;refine(fK _).mono ?_;rintro _ w7 ⟨rfl,t7⟩;have m0:=ah t7 g0;have m1:=ah t7 g1;have T7:=hid (H6.out.2.2.trans t7.aO (by simp));clear t7)
     all_goals go_wp2_with fail
     all_goals go_quiet (fail)
     all_goals go_wp2_with fail
     all_goals go_ret3
     all_goals exact⟨by rw[HX.out];rfl,T7.out.drewN _⟩
    ·have HX:Hid (R=((0,0),-11)):=by
      have:=HR.out;rw[if_neg hf]at this;exact this.symm
     have fC:=fun w=>(fC w).trans (by rw[decide_eq_true hf]);clear hf HR;obtain⟨⟨vx,vy⟩,hv⟩:∃r,fq q=r:=⟨_,rfl⟩;rw[hv]at fK fC;clear hv;simp only[]at fC;unfold aN at fK;have c1:=H6.out.1.cell 1;have d0:=H6.out.2.1.cell 0;have d1:=H6.out.2.1.cell 1;go_upto_region 12 with fail;have g0:=ah ((tR w6).drew) d0;have g1:=ah ((tR w6).drew) d1;go_region_with (go_at_call 160;refine(fK _).mono ?_;rintro _ w7 ⟨rfl,t7⟩;have m0:=ah t7 g0;have m1:=ah t7 g1;have T7:=hid (H6.out.2.2.trans t7.aO (by simp));clear t7)
     all_goals go_wp2_with fail
     all_goals go_ret3
     all_goals exact⟨by rw[HX.out];rfl,T7.out⟩
   ·have hl0:(lf != 0)=true:=by simp[hl]
    clear hl;have fK:=fun w=>iA q w;have fC:=fun w=>gF (q,0) (fq q) w;by_cases hf:(q,0)=fq q
    ·have HX:Hid (R=((lf,q),0)):=by
      have:=HR.out;rw[if_pos hf]at this;exact this.symm
     have fC:=fun w=>(fC w).trans (by rw[decide_eq_false (fun h=>h hf)]);clear hf HR;obtain⟨⟨vx,vy⟩,hv⟩:∃r,fq q=r:=⟨_,rfl⟩;rw[hv]at fK fC;clear hv;simp only[]at fC;unfold aN at fK;have c1:=H6.out.1.cell 1;have d0:=H6.out.2.1.cell 0;have d1:=H6.out.2.1.cell 1;go_upto_region 12 with fail;have g0:=ah ((tR w6).drew) d0;have g1:=ah ((tR w6).drew) d1;go_region_with (go_at_call 160;refine(fK _).mono ?_;rintro _ w7 ⟨rfl,t7⟩;have m0:=ah t7 g0;have m1:=ah t7 g1;have T7:=hid (H6.out.2.2.trans t7.aO (by simp));clear t7)
     all_goals go_wp2_with fail
     all_goals go_quiet (fail)
     all_goals go_wp2_with fail
     all_goals go_ret3
     all_goals exact⟨by rw[HX.out];rfl,T7.out.drewN _⟩
    ·have HX:Hid (R=((0,0),-11)):=by
      have:=HR.out;rw[if_neg hf]at this;exact this.symm
     have fC:=fun w=>(fC w).trans (by rw[decide_eq_true hf]);clear hf HR;obtain⟨⟨vx,vy⟩,hv⟩:∃r,fq q=r:=⟨_,rfl⟩;rw[hv]at fK fC;clear hv;simp only[]at fC;unfold aN at fK;have c1:=H6.out.1.cell 1;have d0:=H6.out.2.1.cell 0;have d1:=H6.out.2.1.cell 1;go_upto_region 12 with fail;have g0:=ah ((tR w6).drew) d0;have g1:=ah ((tR w6).drew) d1;go_region_with (go_at_call 160;refine(fK _).mono ?_;rintro _ w7 ⟨rfl,t7⟩;have m0:=ah t7 g0;have m1:=ah t7 g1;have T7:=hid (H6.out.2.2.trans t7.aO (by simp));clear t7)
     all_goals go_wp2_with fail
     all_goals go_ret3
     all_goals exact⟨by rw[HX.out];rfl,T7.out⟩
end Go.Proofs.YtdokeddjcpnmiaaGreatDoor
