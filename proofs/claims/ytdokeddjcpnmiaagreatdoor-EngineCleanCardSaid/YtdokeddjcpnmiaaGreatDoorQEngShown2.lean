/- Of EngineClean: May Define DefineA EngShown EngShown2. -/
import Derived.Test.YtdokeddjcpnmiaaGreatDoorQLoops
import Derived.Test.YtdokeddjcpnmiaaGreatDoorQPHead
set_option maxRecDepth 100000
set_option maxHeartbeats 6400000
namespace Go.Proofs.YtdokeddjcpnmiaaGreatDoor
open Go.RowKit Go.Proofs.Tryz
open Go.Lib(hid)
namespace En
def iK(op a v Tw MQ:Int)(k n:Nat)(t:Int):Prop:=1≤op∧op<16∧(op=1∨v=0)∧Tw≤a∧a≤MQ∧¬(op=12∧0<k)∧¬(op=15∧k+1=n∧0<t)
theorem MS(L:List (Int×Int×Int))(hL:L.length≤100000)(hop:∀x∈L,0≤x.1∧x.1<256)(words:Nat)(lv:Value)(w:World)(hI:mK w lv L):Calls prog 39 #[.agg #[lv],.int .i64 words] w fun e w'=>∃ok,e=.returned (.bool ok)∧(JN L words→ok=true)∧(ok=true→L.length≤500∧0<L.length∧∃tab,∀i,i<L.length→rE L words tab i)∧Touch [] w w':=by
 obtain⟨n,qm⟩:∃n,L.length=n:=⟨_,rfl⟩;obtain⟨la,lc,rfl⟩:∃la lc,lv=.slice la n lc:=by
  rcases hI with⟨rfl,a,c,rfl⟩|⟨b,off,c,rfl,_⟩
  ·exact⟨a,c,by rw[←qm];rfl⟩
  ·exact⟨_,c,by rw[qm]⟩
 have bB:=aF.new w 24 #[.slice la n lc];have tB:=(tR w).alloc (.cells #[.slice la n lc] 24);obtain⟨z,hz⟩:∃z,w.heap.size=z:=⟨_,rfl⟩;rw[hz]at bB;have x0:(w.alloc (.cells #[.slice la n lc] 24)).cell? ⟨z,0,none⟩=some (.slice la n lc):=bB.cell 0;have Hp:mK (w.alloc (.cells #[.slice la n lc] 24)) (.slice la n lc) L:=by
  rcases hI with h|⟨b,off,c,e,h⟩
  ·exact .inl h
  ·refine .inr ⟨b,off,c,e,fun i x hx=> ?_⟩;obtain⟨h0,h1,h2⟩:=h i x hx;exact⟨ah tB h0,ah tB h1,ah tB h2⟩
 have Tx:=OI L hL _ _ Hp;have HB:=hid (And.intro bB (And.intro tB (And.intro qm (And.intro Hp (And.intro hL hop)))));clear bB tB hI Hp qm hop hL;go_enter func39,ntmps39;go_upto_region 1 with fail;clear hz;generalize w.alloc (.cells #[.slice la n lc] 24)=w1 at*;go_wp2_with fail;refine Tx.mono ?_;rintro _ w2 ⟨tv,okL,rfl,H9,hno,t2⟩;have y0:=ah t2 x0;have YZ:=HB.out.2.1.trans t2 (by simp);have Ob:=hid YZ;have V0:=hid hno;have td:=hid H9;have Hs:=hid t2;clear x0 Tx YZ hno H9 t2;cases okL with
 |false=>
  go_wp2_with fail;go_ret;refine⟨false,rfl,fun h=> ?_,fun h=>(by cases h),Ob.out⟩;obtain⟨tab,h,_⟩:=h;have h0:jI L=none:=by simpa using V0.out
  rw[h0]at h;cases h
 |true=>
  obtain⟨T,c,tab,Cq,rfl,yo,V1,hrun⟩:=td.out rfl;have Xj:=hid (And.intro yo (And.intro V1 hrun));rw[HB.out.2.2.1]at Cq⊢;clear yo V1 hrun V0 td;by_cases Fe:n>500
  ·have hb2:(n:Int)>500:=by omega
   go_wp2_with fail;go_ret;refine⟨false,rfl,fun h=> ?_,fun h=>(by cases h),Ob.out⟩;obtain⟨_,_,h,_⟩:=h;rw[HB.out.2.2.1]at h;omega
  have hb2:¬(n:Int)>500:=by omega
  obtain⟨b,off,Hi,hcell⟩:∃b off,la=some ⟨b,off,none⟩∧∀i x,L[i]? =some x→w2.cell? ⟨b,off+i*3,none⟩=some (.int .u8 x.1)∧w2.cell? ⟨b,off+i*3+1,none⟩=some (.int .i64 x.2.1)∧w2.cell? ⟨b,off+i*3+2,none⟩=some (.int .i64 x.2.2):=by
   rcases HB.out.2.2.2.1 with⟨h,_⟩|⟨b,off,c,e,h⟩
   ·have h1:=HB.out.2.2.1;rw[h]at h1;simp at h1;omega
   ·injection e with e1 e2 e3;refine⟨b,off,e1,fun i x hx=> ?_⟩;obtain⟨h0,h1,h2⟩:=h i x hx;exact⟨ah Hs.out h0,ah Hs.out h1,ah Hs.out h2⟩
  subst Hi;have HC:=hid hcell;have qF:∀i,i<n→L[i]? =some (opAt L i):=fun i hi=>by
   unfold opAt;rw[List.getD_eq_getElem?_getD];have h1:i<L.length:=by rw[HB.out.2.2.1];exact hi
   rw[List.getElem?_eq_getElem h1];rfl
  have HG:=hid qF;obtain⟨ol,Hv⟩:∃o,(opAt L (n-1)).1=o:=⟨_,rfl⟩;have l0:=(hcell _ _ (qF (n-1) (by omega))).1;rw[Hv]at l0;obtain⟨of,H'⟩:∃o,(opAt L 0).1=o:=⟨_,rfl⟩;obtain⟨af,cF⟩:∃o,(opAt L 0).2.1=o:=⟨_,rfl⟩;obtain⟨f0,f1,_⟩:=hcell _ _ (qF 0 Cq);rw[H',Nat.zero_mul,Nat.add_zero]at f0;rw[cF,Nat.zero_mul,Nat.add_zero]at f1;have en:IntKind.i64.wrap ((n:Int)-1)=((n-1:Nat):Int):=by rw[IntKind.wrap_i64];omega
  have HH:=hid (And.intro Hv (And.intro H' cF));clear hcell qF Hv H' cF;by_cases vV:ol=15∨ol=3
  ·have NQ:(ol != 15&&ol != 3)=false:=by rcases vV with rfl|rfl<;>rfl
   have HLA:=hid vV;clear vV;obtain⟨lo,Gi⟩:∃lo,fM L=lo:=⟨_,rfl⟩;have V2:=hid Gi;have nY:(of=12∧af=lo)∨(of≠12∧lo=0):=by
    have h:=Gi;unfold fM at h;rw[HH.out.2.1,HH.out.2.2]at h;split at h
    ·rename_i Ct;exact .inl ⟨Ct,h⟩
    ·rename_i Ct;exact .inr ⟨Ct,h.symm⟩
   clear Gi;clear NQ;go_upto_region 5 with fail;go_cut [41]from 42 (fun v wc=>v=.bool false∧w2=wc)
   case first=>
    rcases HLA.out with h|h
    ·have NQ:(ol != 15)=false:=by rw[h];rfl
     clear nY;go_wp2_with fail
     all_goals go_meet
     all_goals exact⟨rfl,rfl⟩
    ·have NQ:(ol != 15)=true:=by rw[h];rfl
     have q3:(ol != 3)=false:=by rw[h];rfl
     clear nY;go_wp2_with fail
     all_goals go_meet
     all_goals exact⟨rfl,rfl⟩
   case rest=>
    obtain⟨rfl,rfl⟩:=hcut;go_upto_if 47 with fail
    go_cut [8]from 48 (fun v wc=>v=.int .i64 lo∧w2=wc)
    case first=>
     rcases nY with⟨rfl,rfl⟩|⟨h,rfl⟩
     ·go_wp2_with fail
      all_goals go_meet
      all_goals exact⟨rfl,rfl⟩
     ·have q12:(of==12)=false:=by simpa using h
      go_wp2_with fail
      all_goals go_meet
      all_goals exact⟨rfl,rfl⟩
    case rest=>
     obtain⟨rfl,rfl⟩:=hcut;clear l0 f0 f1 nY;go_upto_region 10 with fail;have oM:=(tR w2).alloc (.map #[] 0);have i0:=eZ.new w2;have JX:= @run_makeMap prog;have Y0:=hid y0;clear y0;go_upto_region 11 with(refine oh _ rfl _ _ _ 124 rfl _ _ underlying124 underlying3 w2.heap.size _ rfl (by first|assumption|exact i0) _ rfl _ rfl ?_;intro wn hn tn;have oM:=oM.trans tn (by simp));obtain⟨bl,hbl⟩:∃bl,w2.heap.size=bl:=⟨_,rfl⟩;rw[hbl]at hn⊢;have jX:eZ wn bl cz:=hn;have cG:=hid (And.intro jX oM);have y3:=ah oM Y0.out;clear hn oM i0 hbl tn jX;have oM:=(tR wn).alloc (.map #[] 0);have i0:=eZ.new wn;have ya:=ah oM y3;have Y3:=hid y3;have HN:=hid HB.out.2.2.1;clear y3;go_upto_region 12 with(refine oh _ rfl _ _ _ 124 rfl _ _ underlying124 underlying3 wn.heap.size _ rfl (by first|assumption|exact i0) _ rfl _ rfl ?_;intro wm hm tm;have oM:=oM.trans tm (by simp));clear ya JX i0;obtain⟨bh,V'⟩:∃bh,wn.heap.size=bh:=⟨_,rfl⟩;rw[V']at hm⊢;have MU:eZ wm bh (Tq ((n-1:Nat):Int) words (wrap64 (lo-1))):=hm;rw[show wrap64 (lo-1)=IntKind.i64.wrap (lo-1)from(IntWalk.i64_left _).symm,show((n-1:Nat):Int)=(L.length:Int)-1 by rw[HN.out];omega,←V2.out]at MU;have HM:=hid (And.intro (cG.out.1.touch oM (by simp)) (And.intro MU (And.intro (cG.out.2.trans oM (by simp)) V2.out)));have y4:=ah oM Y3.out;clear hm oM V' tm MU cG Y3;go_wp2_with fail;go_loopw [67] (fun i wr=>∃k:Nat,k≤n∧i=.int .i64 k∧Touch [] wm wr∧∀j,j<k→testW L words tab j) (fun i _=>n-(intOf i).toNat)
     case atStart=>exact⟨0,Nat.zero_le _,rfl,Touch.refl _ _,fun j hj=>absurd hj (by omega)⟩
     case round=>
      obtain⟨k,hk,rfl,tr,Tz⟩:=hrel;have tj:=hid (And.intro tr Tz);rcases Nat.lt_or_ge k n with hlt|ql
      ·obtain⟨⟨op,a,v⟩,hx⟩:∃x,opAt L k=x:=⟨_,rfl⟩;have IA:=HG.out k hlt;rw[hx]at IA;obtain⟨c0,c1,c2⟩:=HC.out k _ IA;have tw:=HM.out.2.2.1.trans tr (by simp);have c0:=ah tw c0;have c1:=ah tw c1;have c2:=ah tw c2;have yr:=ah tr y4;have HX:=hid hx;clear tr Tz hx IA;go_upto_region 15 with fail;have bS:=aF.new wr 56 #[.int .u8 op,.int .i64 a,.int .i64 v];have tS:=(tR wr).alloc (.cells #[.int .u8 op,.int .i64 a,.int .i64 v] 56);obtain⟨y,hy⟩:∃y,wr.heap.size=y:=⟨_,rfl⟩;rw[hy]at bS⊢;have tT:=tj.out.1.trans tS (by simp);generalize wr.alloc (.cells #[.int .u8 op,.int .i64 a,.int .i64 v] 56)=w5 at*;have s0:w5.cell? ⟨y,0,none⟩=some (.int .u8 op):=bS.cell 0;have s1:w5.cell? ⟨y,1,none⟩=some (.int .i64 a):=bS.cell 1;have s2:w5.cell? ⟨y,2,none⟩=some (.int .i64 v):=bS.cell 2;have y5:=ah tT y4;obtain⟨Tw,Xu⟩:∃x,Gx (dR op)=x:=⟨_,rfl⟩;obtain⟨MQ,Xv⟩:∃x,A8 L words (dR op)=x:=⟨_,rfl⟩;have sI:=cD (HM.out.1.touch tT (by simp)) op;have hk2:=Xt (HM.out.2.1.touch tT (by simp)) op;rw[Xu]at sI;rw[Xv]at hk2;obtain⟨t,ht⟩:∃t,tab.getD k 0=t:=⟨_,rfl⟩;have ct:w5.cell? ⟨T,k,none⟩=some (.int .i64 t):=by
        rw[(Xj.out.2.1.touch (HM.out.2.2.1.trans tT (by simp)) (by simp)).cell k,List.getElem?_toArray,←ht];exact eH tab k (by rw[Xj.out.1,HN.out];exact hlt)
       have KJ:=hid (Ob.out.trans (HM.out.2.2.1.trans tT (by simp)) (by simp));have Q8:=hid tT;have HQ:=hid (And.intro Xu (And.intro Xv ht));have Wa:=hid (RI op w5);have Wb:JN L words→testW L words tab k:=fun h=>by
        obtain⟨tb,h1,_,_,h2⟩:=h;obtain rfl:=Xj.out.2.2 _ h1;exact(Hz (Tv (h2 0 (by rw[HN.out];omega))) k).1 (h2 k (by rw[HN.out];exact hlt))
       have lR:testW L words tab k↔iK op a v Tw MQ k n t:=by
        unfold testW iK;rw[HX.out];simp only[Xu,Xv,ht,HN.out]
       have Xw:Hid (JN L words→iK op a v Tw MQ k n t):=hid fun h=>lR.1 (Wb h);have Wn:Hid (iK op a v Tw MQ k n t→∀j,j<k+1→testW L words tab j):=hid fun h j hj=>by
        rcases Nat.lt_or_ge j k with h1|h1
        ·exact tj.out.2 j h1
        ·obtain rfl:j=k:=by omega
         exact lR.2 h
       clear Wb lR tT bS tS hy c0 c1 c2 yr tw y4 ht Xu Xv;go_wp2_with fail;refine Wa.out.mono ?_;rintro _ _ ⟨rfl,rfl⟩;clear Wa;by_cases h1:1≤op
       case neg=>
        have d1:decide (op<1)=true:=by simpa using Int.not_le.1 h1
        have zN:=hid h1;clear h1;go_wp2_with fail
        all_goals go_ret
        all_goals exact⟨false,rfl,fun h=>(by exfalso;have h1:=Xw.out h;have h2:=zN.out;unfold iK at h1;omega),fun h=>(by cases h),KJ.out⟩
       have d1:decide (op<1)=false:=by simp;omega
       by_cases h2:op<16
       case neg=>
        have d2:decide (op≥16)=true:=by simp;omega
        have zN:=hid h2;clear h1 h2;go_wp2_with fail
        all_goals go_ret
        all_goals exact⟨false,rfl,fun h=>(by exfalso;have h1:=Xw.out h;have h2:=zN.out;unfold iK at h1;omega),fun h=>(by cases h),KJ.out⟩
       have d2:decide (op≥16)=false:=by simp;omega
       have Bx:=hid (And.intro h1 h2);clear h1 h2;by_cases h3:op=1
       ·subst h3;rcases Int.lt_or_le a Tw with h4|h4
        ·have d4:decide (a<Tw)=true:=by simpa using h4
         have zN:=hid h4;clear h4;go_wp2_with fail
         all_goals go_ret
         all_goals exact⟨false,rfl,fun h=>(by exfalso;have h1:=Xw.out h;have h2:=zN.out;unfold iK at h1;omega),fun h=>(by cases h),KJ.out⟩
        have d4:decide (a<Tw)=false:=by simpa using h4
        rcases Int.lt_or_le MQ a with h5|h5
        ·have d5:decide (a>MQ)=true:=by simpa using h5
         have zN:=hid h5;clear h4 h5;go_wp2_with fail
         all_goals go_ret
         all_goals exact⟨false,rfl,fun h=>(by exfalso;have h1:=Xw.out h;have h2:=zN.out;unfold iK at h1;omega),fun h=>(by cases h),KJ.out⟩
        have d5:decide (a>MQ)=false:=by simpa using h5
        have mr:=hid (And.intro h4 h5);clear h4 h5;go_wp2_with fail
        all_goals go_roundw
        all_goals first
         |exact⟨k+1,by omega,nW (by omega),Q8.out,Wn.out (by have q1:=Bx.out;have q2:=mr.out;(try have q3:=zN.out);unfold iK;omega)⟩
         |(simp only[intOf];omega)
       have n1:(op != 1)=true:=by simpa using h3
       by_cases h6:v=0
       case neg=>
        have n2:(v != 0)=true:=by simpa using h6
        have zN:=hid (And.intro h3 h6);clear h3 h6;go_wp2_with fail
        all_goals go_ret
        all_goals exact⟨false,rfl,fun h=>(by exfalso;have h1:=Xw.out h;have h2:=zN.out;unfold iK at h1;omega),fun h=>(by cases h),KJ.out⟩
       subst h6;rcases Int.lt_or_le a Tw with h4|h4
       ·have d4:decide (a<Tw)=true:=by simpa using h4
        have zN:=hid h4;clear h4 h3;go_wp2_with fail
        all_goals go_ret
        all_goals exact⟨false,rfl,fun h=>(by exfalso;have h1:=Xw.out h;have h2:=zN.out;unfold iK at h1;omega),fun h=>(by cases h),KJ.out⟩
       have d4:decide (a<Tw)=false:=by simpa using h4
       rcases Int.lt_or_le MQ a with h5|h5
       ·have d5:decide (a>MQ)=true:=by simpa using h5
        have zN:=hid h5;clear h4 h5 h3;go_wp2_with fail
        all_goals go_ret
        all_goals exact⟨false,rfl,fun h=>(by exfalso;have h1:=Xw.out h;have h2:=zN.out;unfold iK at h1;omega),fun h=>(by cases h),KJ.out⟩
       have d5:decide (a>MQ)=false:=by simpa using h5
       have mr:=hid (And.intro h4 h5);clear h4 h5 h3;by_cases h7:op=12
       ·subst h7;rcases Nat.eq_zero_or_pos k with h8|h8
        ·subst h8;go_wp2_with fail
         all_goals go_roundw
         all_goals first
          |exact⟨1,by omega,rfl,Q8.out,Wn.out (by have q2:=mr.out;unfold iK;omega)⟩
          |(simp[intOf];omega)
          |(simp[intOf];done)
          |(simp only[intOf,Int.toNat];omega)
        ·have d8:decide (0<k)=true:=by simpa using h8
         have zN:=hid h8;clear h8;go_wp2_with fail
         all_goals go_ret
         all_goals exact⟨false,rfl,fun h=>(by exfalso;have h1:=Xw.out h;have h2:=zN.out;unfold iK at h1;omega),fun h=>(by cases h),KJ.out⟩
       have n7:(op==12)=false:=by simpa using h7
       by_cases h9:op=15
       ·subst h9;clear h7 n7;by_cases h10:k+1=n
        ·have d10:((k:Int)==((n-1:Nat):Int))=true:=by simp;omega
         rcases Int.lt_or_le 0 t with h11|h11
         ·have d11:decide (0<t)=true:=by simpa using h11
          have zN:=hid (And.intro h10 h11);clear h10 h11;go_wp2_with fail
          all_goals go_ret
          all_goals exact⟨false,rfl,fun h=>(by exfalso;have h1:=Xw.out h;have h2:=zN.out;unfold iK at h1;omega),fun h=>(by cases h),KJ.out⟩
         ·have d11:decide (0<t)=false:=by simpa using h11
          have zN:=hid (And.intro h10 h11);clear h10 h11;go_wp2_with fail
          all_goals go_roundw
          all_goals first
           |exact⟨k+1,by omega,nW (by omega),Q8.out,Wn.out (by have q1:=Bx.out;have q2:=mr.out;(try have q3:=zN.out);unfold iK;omega)⟩
           |(simp only[intOf];omega)
        ·have d10:((k:Int)==((n-1:Nat):Int))=false:=by simp;omega
         have zN:=hid h10;clear h10;go_wp2_with fail
         all_goals go_roundw
         all_goals first
          |exact⟨k+1,by omega,nW (by omega),Q8.out,Wn.out (by have q1:=Bx.out;have q2:=mr.out;(try have q3:=zN.out);unfold iK;omega)⟩
          |(simp only[intOf];omega)
       have n9:(op==15)=false:=by simpa using h9
       have zN:=hid (And.intro h7 h9);clear h7 h9;go_wp2_with fail
       all_goals go_roundw
       all_goals first
        |exact⟨k+1,by omega,nW (by omega),Q8.out,Wn.out (by have q1:=Bx.out;have q2:=mr.out;(try have q3:=zN.out);unfold iK;omega)⟩
        |(simp only[intOf];omega)
      ·obtain rfl:k=n:=by omega
       clear tr Tz;go_wp2_with fail;go_ret;refine⟨true,rfl,fun _=>rfl,fun _=>⟨by rw[HN.out];omega,by rw[HN.out];exact Cq,tab,fun i hi=> ?_⟩,Ob.out.trans (HM.out.2.2.1.trans tj.out.1 (by simp)) (by simp)⟩;rw[HN.out]at hi;exact(Hz (OJ (tj.out.2 0 Cq)) i).2 (tj.out.2 i hi)
  ·have NQ:(ol != 15&&ol != 3)=true:=by simp;omega
   go_wp2_with fail;go_ret;refine⟨false,rfl,fun h=> ?_,fun h=>(by cases h),Ob.out⟩;obtain⟨_,_,_,h,_⟩:=h;rw[HB.out.2.2.1,HH.out.1]at h;exact absurd h vV
theorem mK.touch{w w':World}{lv:Value}{L:List (Int×Int×Int)}(h:mK w lv L)(t:Touch [] w w'):mK w' lv L:=by
 rcases h with h|⟨b,off,c,e,h⟩
 ·exact .inl h
 ·refine .inr ⟨b,off,c,e,fun i x hx=> ?_⟩;obtain⟨h0,h1,h2⟩:=h i x hx;exact⟨ah t h0,ah t h1,ah t h2⟩
theorem vW{w:World}{ev:Value}{l:List Int}{t:TypeId}(h:w.ownsRow 0 t 1 ev l.length (cells l)):∃a c,ev=.slice a l.length c:=by
 rcases Go.Joins.ownsRow_forms h with⟨h1,h0⟩|⟨g,cap,h1⟩
 ·exact⟨none,0,by rw[h1,h0]⟩
 ·exact⟨_,_,h1⟩
theorem OL{w:World}{g:Nat}{p:Lay}{F:List Nat}{m:M}(h:ak w g p F m)(kM:m.code.length≤1000000)(Za:m.ends.length<300)(L:List (Int×Int×Int))(hL:L.length≤500)(hop:∀x∈L,(0≤x.1∧x.1<256)∧0≤x.2.1∧x.2.1≤1000000)(nP:JN L m.words.length)(lv:Value)(hI:mK w lv L)(Gi:∀b∈rowOf lv,b<w.heap.size∧b∉F):
 Calls prog 12 #[.pointer (some ⟨g,0,none⟩),.agg #[lv]] w fun e w'=>e=.returned (.tuple #[.int .i64 ((m.ends.length:Int)+1),.int .i64 0])∧Keep w g p F (m.laid L) w':=by
 have bB:=aF.new w 24 #[lv];have tB:=(tR w).alloc (.cells #[lv] 24);obtain⟨z,hz⟩:∃z,w.heap.size=z:=⟨_,rfl⟩;have iN:=h.lt;have Q0:z∉F:=fun hx=>by have:=iN z hx;omega
 rw[hz]at bB;have x0:(w.alloc (.cells #[lv] 24)).cell? ⟨z,0,none⟩=some lv:=bB.cell 0;have hE:=h.touch tB (by simp);have HB:=hid (And.intro bB (And.intro tB (And.intro Q0 (And.intro hI (And.intro hE Gi)))));have HP:=hid (And.intro kM (And.intro hL (And.intro hop nP)));clear bB tB hI hE hop nP Gi Q0 h iN kM hL;go_enter func12,ntmps12;go_upto_region 3 with fail;clear hz;generalize w.alloc (.cells #[lv] 24)=w1 at*;obtain⟨cv,ev,wv,Ff,FS,FI,cH,hFe⟩:=HB.out.2.2.2.2.1;have c2:w1.cell? ⟨g,2,none⟩=some wv:=cH.blk.cell 2;obtain⟨wa,wc,rfl⟩:=rP cH.words;obtain⟨q,hq⟩:∃q,m.words.length=q:=⟨_,rfl⟩;have HQ:=hid hq;rw[hq]at c2;have OM:=hid (fun W (t:Touch [] w1 W)=>MS L (by have:=HP.out.2.1;omega) (fun x hx=>(HP.out.2.2.1 x hx).1) q lv W (by
  rcases HB.out.2.2.2.1 with h|⟨b,off,c,e,h⟩
  ·exact .inl h
  ·refine .inr ⟨b,off,c,e,fun i x hx=> ?_⟩;obtain⟨h0,h1,h2⟩:=h i x hx;have tt:=HB.out.2.1.trans t (by simp);exact⟨ah tt h0,ah tt h1,ah tt h2⟩))
 clear cH hq;go_still_tail 6,(by kernel_rfl)
 go_wp2_with fail;refine Calls.mono (OM.out _ (tR w1).drew) ?_;rintro _ w5 ⟨ok,rfl,hy,_,t5⟩;obtain rfl:ok=true:=hy (by have h:=HP.out.2.2.2;rw[HQ.out]at h;exact h);have t5:=(tR w1).drew.trans t5 (by simp);have x5:=ah t5 x0;have tD:=HB.out.2.2.2.2.1.touch t5 (by simp);have cI:=hid (And.intro t5 tD);obtain⟨cv5,IP,wv5,Ff5,pI,FI5,cJ,_⟩:=tD;have c5:w5.cell? ⟨g,1,none⟩=some IP:=cJ.blk.cell 1;obtain⟨ea,ec,rfl⟩:=vW cJ.ends;obtain⟨q2,Q7⟩:∃q2,m.ends.length=q2:=⟨_,rfl⟩;rw[Q7]at c5 Za;have cN:=hid Q7;have e5:¬(300:Int)≤(q2:Int):=by omega
 have e6:decide ((q2:Int)≥300)=false:=by simp;omega
 clear hy t5 cJ Q7 c2 x0 OM HQ;go_upto_region 7 with fail;go_still_tail 5,(by kernel_rfl)
 go_wp2_with fail;have TT:=(HB.out.2.1.trans cI.out.1 (by simp)).drew;refine(MO (cI.out.2.touch (tR w5).drew (by simp)) HP.out.1 (by rw[cN.out];omega) L (by have:=HP.out.2.1;omega) HP.out.2.2.1 lv (HB.out.2.2.2.1.touch TT) (fun b hb=>⟨Nat.lt_of_lt_of_le (HB.out.2.2.2.2.2 b hb).1 TT.size,(HB.out.2.2.2.2.2 b hb).2⟩)).mono ?_;rintro _ w6 ⟨rfl,hK,_⟩;have HK:=hid (Keep.pre TT hK);obtain⟨F6,I1,_,_⟩:=hK;obtain⟨cv6,I2,wv6,Ff6,GN,FI6,cQ,_⟩:=I1;have c6:w6.cell? ⟨g,1,none⟩=some I2:=cQ.blk.cell 1;obtain⟨ea6,ec6,rfl⟩:=vW cQ.ends;have el:(m.laid L).ends.length=q2+1:=by
  unfold M.laid;simp[cN.out]
 rw[el]at c6;clear TT cQ c5 x5 el e5 e6;go_wp2_with fail;go_ret2;exact⟨by rw[cN.out];rfl,HK.out⟩
def cR(L:List (Int×Int×Int))(words:Int):Prop:=0<L.length∧∃tab,∀i,i<L.length→rE L words tab i
theorem TA{L:List (Int×Int×Int)}{words:Nat}(h:cR L words)(hw:words≤1000000)(hl:L.length≤500):∀x∈L,((0≤x.1∧x.1<256)∧0≤x.2.1∧x.2.1≤1000000)∧(x.1=12→x.2.1≤16):=by
 obtain⟨h0,tab,h⟩:=h;intro x hx;obtain⟨i,hi,rfl⟩:=List.getElem_of_mem hx;have e:∀j (hj:j<L.length),opAt L j=L[j]:=fun j hj=>by
  unfold opAt;rw[List.getD_eq_getElem?_getD,List.getElem?_eq_getElem hj];rfl
 have hm:=h i hi;have I3:=h 0 h0;unfold rE at hm I3;dsimp only at hm I3
 rw[e i hi]at hm;obtain⟨k1,k2,_,k3,k4,_⟩:=hm;obtain⟨_,_,_,j3,j4,_⟩:=I3;have jX:0≤Gx (dR L[i].1):=by unfold Gx;split<;>decide
 have MU:Ae L words (dR L[i].1)≤1000000:=by
  unfold Ae;split
  ·omega
  ·split
   ·omega
   ·split
    ·decide
    ·split
     ·split
      ·rename_i Ct;rw[Ct]at j4;have h16:Ae L words (dR 12)=16:=rfl;omega
      ·omega
     ·decide
 refine⟨⟨⟨by omega,by omega⟩,by omega,by omega⟩,fun Ct=> ?_⟩;rw[Ct]at k4;exact k4
theorem KM{w:World}{g:Nat}{p:Lay}{F:List Nat}{m:M}(h:ak w g p F m)(kM:m.code.length≤1000000)(Za:m.ends.length<300)(L:List (Int×Int×Int))(hL:L.length≤500)(hop:∀x∈L,0≤x.1∧x.1<256)(AW:m.words.length≤1000000)(lv:Value)(hI:mK w lv L)(Gi:0<L.length→∀b∈rowOf lv,b<w.heap.size∧b∉F):
 Calls prog 12 #[.pointer (some ⟨g,0,none⟩),.agg #[lv]] w fun e w'=>(e=.returned (.tuple #[.int .i64 0,.int .i64 1])∧Keep w g p F m w')∨(cR L m.words.length∧e=.returned (.tuple #[.int .i64 ((m.ends.length:Int)+1),.int .i64 0])∧Keep w g p F (m.laid L) w'):=by
 have bB:=aF.new w 24 #[lv];have tB:=(tR w).alloc (.cells #[lv] 24);obtain⟨z,hz⟩:∃z,w.heap.size=z:=⟨_,rfl⟩;have iN:=h.lt;have Q0:z∉F:=fun hx=>by have:=iN z hx;omega
 rw[hz]at bB;have x0:(w.alloc (.cells #[lv] 24)).cell? ⟨z,0,none⟩=some lv:=bB.cell 0;have hE:=h.touch tB (by simp);have HB:=hid (And.intro bB (And.intro tB (And.intro Q0 (And.intro hI (And.intro hE Gi)))));have HP:=hid (And.intro kM (And.intro hL (And.intro hop AW)));clear bB tB hI hE hop AW Gi Q0 h iN kM hL;go_enter func12,ntmps12;go_upto_region 3 with fail;clear hz;generalize w.alloc (.cells #[lv] 24)=w1 at*;obtain⟨cv,ev,wv,Ff,FS,FI,cH,hFe⟩:=HB.out.2.2.2.2.1;have c2:w1.cell? ⟨g,2,none⟩=some wv:=cH.blk.cell 2;obtain⟨wa,wc,rfl⟩:=rP cH.words;obtain⟨q,hq⟩:∃q,m.words.length=q:=⟨_,rfl⟩;have HQ:=hid hq;rw[hq]at c2;have OM:=hid (fun W (t:Touch [] w1 W)=>MS L (by have:=HP.out.2.1;omega) (fun x hx=>HP.out.2.2.1 x hx) q lv W (by
  rcases HB.out.2.2.2.1 with h|⟨b,off,c,e,h⟩
  ·exact .inl h
  ·refine .inr ⟨b,off,c,e,fun i x hx=> ?_⟩;obtain⟨h0,h1,h2⟩:=h i x hx;have tt:=HB.out.2.1.trans t (by simp);exact⟨ah tt h0,ah tt h1,ah tt h2⟩))
 clear cH hq;go_still_tail 6,(by kernel_rfl)
 go_wp2_with fail;refine Calls.mono (OM.out _ (tR w1).drew) ?_;rintro _ w5 ⟨ok,rfl,_,hy,t5⟩;have t5:=(tR w1).drew.trans t5 (by simp);have x5:=ah t5 x0;have tD:=HB.out.2.2.2.2.1.touch t5 (by simp);have cI:=hid (And.intro t5 tD);cases ok
 ·clear hy t5 c2 x0 x5 OM;go_wp2_with fail;go_ret2;exact .inl ⟨rfl,(Keep.refl cI.out.2).pre (HB.out.2.1.trans cI.out.1 (by simp))⟩
 have HY:Hid (cR L m.words.length):=hid ⟨(hy rfl).2.1,by rw[HQ.out];exact(hy rfl).2.2⟩;obtain⟨cv5,IP,wv5,Ff5,pI,FI5,cJ,_⟩:=tD;have c5:w5.cell? ⟨g,1,none⟩=some IP:=cJ.blk.cell 1;obtain⟨ea,ec,rfl⟩:=vW cJ.ends;obtain⟨q2,Q7⟩:∃q2,m.ends.length=q2:=⟨_,rfl⟩;rw[Q7]at c5 Za;have cN:=hid Q7;have e5:¬(300:Int)≤(q2:Int):=by omega
 have e6:decide ((q2:Int)≥300)=false:=by simp;omega
 clear hy t5 cJ Q7 c2 x0 OM HQ;go_upto_region 7 with fail;go_still_tail 5,(by kernel_rfl)
 go_wp2_with fail;have TT:=(HB.out.2.1.trans cI.out.1 (by simp)).drew;refine(MO (cI.out.2.touch (tR w5).drew (by simp)) HP.out.1 (by rw[cN.out];omega) L (by have:=HP.out.2.1;omega) (fun x hx=>(TA HY.out HP.out.2.2.2 HP.out.2.1 x hx).1) lv (HB.out.2.2.2.1.touch TT) (fun b hb=>⟨Nat.lt_of_lt_of_le (HB.out.2.2.2.2.2 HY.out.1 b hb).1 TT.size,(HB.out.2.2.2.2.2 HY.out.1 b hb).2⟩)).mono ?_;rintro _ w6 ⟨rfl,hK,_⟩;have HK:=hid (Keep.pre TT hK);obtain⟨F6,I1,_,_⟩:=hK;obtain⟨cv6,I2,wv6,Ff6,GN,FI6,cQ,_⟩:=I1;have c6:w6.cell? ⟨g,1,none⟩=some I2:=cQ.blk.cell 1;obtain⟨ea6,ec6,rfl⟩:=vW cQ.ends;have el:(m.laid L).ends.length=q2+1:=by
  unfold M.laid;simp[cN.out]
 rw[el]at c6;clear TT cQ c5 x5 el e5 e6;go_wp2_with fail;go_ret2;exact .inr ⟨HY.out,by rw[cN.out];rfl,HK.out⟩
def xU(W:List (Int×Int×Int))(C E:List Int):Prop:=∀m:M,m.words=W→m.code=C→m.ends=E→vT m∧Ia m∧∀x n v,m.word x≠some (1,n,v)
theorem xU.of{m:M}(h1:vT m)(h2:Ia m)(h3:∀x n v,m.word x≠some (1,n,v)):xU m.words m.code m.ends:=by
 intro m' e1 e2 e3;obtain⟨a,b⟩:=xu.of h1 h2 m' e1 e2 e3;refine⟨a,b,fun x n v h=>h3 x n v ?_⟩;unfold M.word at h⊢;rw[e1]at h;exact h
def Q9:Int→PS→Int×PS:=fun _ S=>(777,S)
theorem Ib:pK PS.ok Q9:=fun _ _ h1 h2=>⟨h1,h2⟩
theorem MW{w wB:World}{g:Nat}{p:Lay}{F:List Nat}{m:M}(h:ak w g p F m)(hR:aX PS.ok xU m)(nV:∀x∈F,wB.heap.size≤x)(tB:Touch [] wB w):
 Calls prog 27 #[.pointer (some ⟨g,0,none⟩)] w fun R w'=>R=.returned (jK (m.step Q9).1)∧Keep w g p F (m.step Q9).2 w':=by
 obtain⟨h1,h2,h3⟩:=hR.rest m rfl rfl rfl;refine Ho h hR.fine nV tB Ib (fun n hn=> ?_) h1 (fun op a v ha ho=> ?_)
 ·rcases hn with⟨_,v,hw⟩|⟨_,a,v,u,_,hw⟩
  ·exact absurd hw (h3 _ _ _)
  ·exact absurd hw (h3 _ _ _)
 ·have:=h2 _ _ _ _ _ ha;omega
structure Fh(w:World)(g:Nat)(p:Lay)(F:List Nat)(m:M)(W:World):Prop where
 Xy:ak W g p F m
 new:∀x∈F,w.heap.size≤x
 touch:Touch [] w W
theorem Fh.keep{w W W2:World}{g:Nat}{p:Lay}{F:List Nat}{m m2:M}(h:Fh w g p F m W)(k:Keep W g p F m2 W2):∃F2,Fh w g p F2 m2 W2∧Touch F W W2∧Sub W F F2:=by
 obtain⟨F2,h1,h2,h3⟩:=k;refine⟨F2,⟨h1,fun x hx=> ?_,h.touch.trans h2 (fun x hx=>.inr (h.new x hx))⟩,h2,h3⟩;rcases h3 x hx with e|e
 ·exact h.new x e
 ·exact Nat.le_trans h.touch.size e
theorem Fh.quiet{w W W2:World}{g:Nat}{p:Lay}{F:List Nat}{m:M}(h:Fh w g p F m W)(t:Touch [] W W2):Fh w g p F m W2:=⟨h.Xy.touch t (by simp),h.new,h.touch.trans t (by simp)⟩
theorem Xz{w:World}{b:Nat}{t:TypeId}{L:List (Int×Int×Int)}(h:aF w b t (L.flatMap rQ).toArray)(c:Nat):mK w (.slice (some ⟨b,0,none⟩) L.length c) L:=by
 refine .inr ⟨b,0,c,rfl,fun i x hx=> ?_⟩;have hg:∀j,j<3→(L.flatMap rQ)[i*3+j]? =(rQ x)[j]? :=fun j hj=>by
  clear h;induction L generalizing i with
  |nil=>cases hx
  |cons a t ih=>
   rw[List.flatMap_cons];cases i with
   |zero=>
    simp only[List.getElem?_cons_zero,Option.some.injEq]at hx;rw[hx,Nat.zero_mul,Nat.zero_add,List.getElem?_append_left (by show j<3;exact hj)]
   |succ i=>
    rw[List.getElem?_cons_succ]at hx;rw[List.getElem?_append_right (by show 3≤_;omega),show(i+1)*3+j-(rQ a).length=i*3+j by show _-3=_;omega];exact ih i hx
 refine⟨?_,?_,?_⟩
 ·rw[h.cell,List.getElem?_toArray,Nat.zero_add];exact(hg 0 (by omega)).trans rfl
 ·rw[h.cell,List.getElem?_toArray,Nat.zero_add];exact(hg 1 (by omega)).trans rfl
 ·rw[h.cell,List.getElem?_toArray,Nat.zero_add];exact(hg 2 (by omega)).trans rfl
def fZ(S:PS):M:={(M.new S kC).laid [(1,0,5),(15,0,0)]with words:=[(5,1,0)]}
theorem OU(S:PS):uw (fZ S) (1:Nat) [(1,0,5),(15,0,0)]:=
 Gw (pre:=[]) (post:=[]) (b:=0) (by decide) (show(1:Nat)≤1 by decide) rfl rfl rfl rfl (by intro x hx;simp at hx;rcases hx with rfl|rfl<;>decide)
theorem KN(S:PS)(h:PS.ok S)(hst:S.st=[]):aX PS.ok xU {fZ S with nx:=1}:=by
 refine⟨by show S.st.length≤128;rw[hst];decide,Nat.le_of_ble_eq_true rfl,Nat.le_of_ble_eq_true rfl,⟨Nat.le_of_ble_eq_true rfl,by intro o ho;cases ho⟩,Nat.le_of_ble_eq_true rfl,Nat.le_of_ble_eq_true rfl,?_,Nat.le_of_ble_eq_true rfl,h,fun _ _ h=>h,xU.of ?_ ?_ ?_⟩
 ·intro x hx;have e:({fZ S with nx:=1}:M).ends=[4]:=rfl;rw[e,List.mem_singleton]at hx;rw[hx];show(0:Int)≤4∧(4:Int)≤4;decide
 ·intro x n v hw;have e:({fZ S with nx:=1}:M).word x=(if x<1 then none else [((5:Int),(1:Int),(0:Int))][(x-1).toNat]?):=rfl;rw[e]at hw;split at hw
  ·cases hw
  ·cases hh:(x-1).toNat with
   |zero=>rw[hh]at hw;cases hw
   |succ j=>rw[hh]at hw;simp at hw
 ·intro df on op a v hw;unfold M.at_ at hw;have e1:({fZ S with nx:=1}:M).ends=[4]:=rfl;have e2:({fZ S with nx:=1}:M).code=[1,5,15,0]:=rfl;rw[e1]at hw;split at hw
  ·cases hw
  ·rename_i hc;have SV:df=1:=by
    have:¬(([4]:List Int).length:Int)<df:=fun h=>hc (.inr (.inl h));have h0:¬df<1:=fun h=>hc (.inl h);simp at this;omega
   subst SV;have hb:({fZ S with nx:=1}:M).dU 1=0:=rfl;rw[hb]at hw hc;have hon:on=0∨on=1:=by
    have h1:¬on<0:=fun h=>hc (.inr (.inr (.inl h)));have h2:¬((2:Int)≤on):=fun h=>hc (.inr (.inr (.inr h)));omega
   rw[e2]at hw;injection hw with hw;injection hw with h1 _;rw[←h1];rcases hon with rfl|rfl<;>decide
 ·intro x n v hw;have e:({fZ S with nx:=1}:M).word x=(if x<1 then none else [((5:Int),(1:Int),(0:Int))][(x-1).toNat]?):=rfl;rw[e]at hw;split at hw
  ·cases hw
  ·cases hh:(x-1).toNat with
   |zero=>rw[hh]at hw;cases hw
   |succ j=>rw[hh]at hw;simp at hw
theorem OV(S:PS)(hst:S.st=[])(k:Nat):M.run Q9 (k+4) {fZ S with nx:=1}=M.run Q9 k ((fZ S).go 0 0 [5] []):=by
 have hA:=OU S;have e:({fZ S with nx:=1}:M)={(fZ S).go 0 0 [] []with nx:=1}:=by
  have:S={S with st:=[]}:=by cases S;simp at hst;subst hst;rfl
  show({fZ S with nx:=1}:M)={fZ {S with st:=[]}with nx:=1};rw[←this]
 have hF:ED [⟨1,0,0,0,0,[]⟩]:=by unfold ED aU;decide
 rw[e];refine(NK (m:=fZ S) (F:=[]) (k+3) [] 0 0 1 1 0 (by decide) rfl (by decide) (show(1:Int)≤1 by decide) (by decide)).trans ?_;refine(ZU hA (by decide) hF (k+2) 0 [] 0 5 rfl (by decide)).trans ?_;refine(WQ hA (by decide) hF (k+1) 1 [5] 0 0 rfl (by decide)).trans ?_;exact go_back (m:=fZ S) (F:=[]) (f:=⟨1,0,0,0,0,[]⟩) k [5] rfl
end En
end Go.Proofs.YtdokeddjcpnmiaaGreatDoor
