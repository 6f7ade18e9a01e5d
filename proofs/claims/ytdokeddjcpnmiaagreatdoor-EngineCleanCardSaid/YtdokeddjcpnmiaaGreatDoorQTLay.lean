/- Of EngineClean: TLay. -/
import Derived.Test.YtdokeddjcpnmiaaGreatDoorQEngRows
import Derived.Laws.BitsLemmas
set_option maxRecDepth 100000
set_option maxHeartbeats 3200000
namespace Go.Proofs.YtdokeddjcpnmiaaGreatDoor
open Go.RowKit Go.Proofs.Tryz
open Go.Lib(hid)
namespace En
def rQ(x:Int×Int×Int):List Value:=[.int .u8 x.1,.int .i64 x.2.1,.int .i64 x.2.2]
def mK(w:World)(lv:Value)(L:List (Int×Int×Int)):Prop:=(L=[]∧∃a c,lv=.slice a 0 c)∨∃b off c,lv=.slice (some ⟨b,off,none⟩) L.length c∧∀i x,L[i]? =some x→w.cell? ⟨b,off+i*3,none⟩=some (.int .u8 x.1)∧w.cell? ⟨b,off+i*3+1,none⟩=some (.int .i64 x.2.1)∧w.cell? ⟨b,off+i*3+2,none⟩=some (.int .i64 x.2.2)
def Hw(w w':World)(lv:Value):Prop:=∀b∈rowOf lv,∀o,w'.cell? ⟨b,o,none⟩=w.cell? ⟨b,o,none⟩
theorem mK.off{w w':World}{lv:Value}{L:List (Int×Int×Int)}(h:mK w lv L)(ho:Hw w w' lv):mK w' lv L:=by
 rcases h with h|⟨b,off,c,rfl,h⟩
 ·exact .inl h
 ·refine .inr ⟨b,off,c,rfl,fun i x hx=> ?_⟩;have hb:=ho b (by simp[rowOf]);rw[hb,hb,hb];exact h i x hx
theorem Hw.refl(w:World)(lv:Value):Hw w w lv:=fun _ _ _=>rfl
theorem Hw.trans{w w1 w2:World}{lv:Value}(h:Hw w w1 lv)(k:Hw w1 w2 lv):Hw w w2 lv:=fun b hb o=>(k b hb o).trans (h b hb o)
theorem Hw.of{F:List Nat}{w w':World}{lv:Value}(t:Touch F w w')(hl:∀b∈rowOf lv,b<w.heap.size∧b∉F):Hw w w' lv:=fun b hb o=>t.cell (p:=⟨b,o,none⟩) (hl b hb).1 (hl b hb).2
theorem Tf{w1 W w2:World}{g:Nat}{p:Lay}{cv ev wv:Value}{Ff FS FI:List Nat}{m:M}{b cap n:Nat}(x:List Int)(hx:x.length=2)(h:vC w1 g p cv ev wv Ff FS FI m)(t:Touch [] w1 W)(hn:m.code.length=n)
 (hown:w2.ownsRow 0 33 1 (.slice (some ⟨b,0,none⟩) (n+2) cap) (n+2) (cells m.code++cells x)) (hgr:W.grownBy w2 cv.ownBlock) (hat:cv.ownBlock=some b∨b=W.heap.size):
 Keep w1 g p (fO g cv ev wv Ff FS FI) {m with code:=m.code++x} (w2.setCell ⟨g,0,none⟩ (.slice (some ⟨b,0,none⟩) (n+2) cap)):=by
 have NZ:=h.blk.lt;have hz:=t.size;have lN:g∉rowOf cv:=fun k=>(h.kD.1 g k).1 rfl;have hbg:b≠g:=by
  rintro rfl;rcases hat with e|e
  ·exact lN (aB.2 e)
  ·omega
 have hb2:aF w2 g 85 (ko p cv ev wv m):=(h.blk.touch t (by simp)).grown hgr (fun e=>lN (aB.2 e.symm));have t2:Touch (g::rowOf cv) w1 w2:=(t.mono (by simp)).grown hgr fun k hk=>.inl (by simp[aB,hk]);refine h.cds (cv':=.slice (some ⟨b,0,none⟩) (n+2) cap) (L:=m.code++x) (hb2.bJ 0 _) ?_ (t2.setCell (by simp) _) ?_
 ·rw[eB,show(m.code++x).length=n+2 by rw[List.length_append,hn,hx]];exact aj hown (F:=[g]) ((Touch.refl _ _).setCell (by simp) _) (by simp[rowOf];exact hbg)
 ·intro y hy;simp only[rowOf,List.mem_cons,List.not_mem_nil,or_false]at hy;rw[hy];rcases hat with e|e
  ·exact .inl (aB.2 e)
  ·exact .inr (by omega)
theorem Tg{w1 W w2:World}{g:Nat}{p:Lay}{cv ev wv:Value}{Ff FS FI:List Nat}{m:M}{b cap n:Nat}(x:Int)(h:vC w1 g p cv ev wv Ff FS FI m)(t:Touch [] w1 W)(hn:m.ends.length=n)
 (hown:w2.ownsRow 0 3 1 (.slice (some ⟨b,0,none⟩) (n+1) cap) (n+1) (cells m.ends++cells [x])) (hgr:W.grownBy w2 ev.ownBlock) (hat:ev.ownBlock=some b∨b=W.heap.size):
 Keep w1 g p (fO g cv ev wv Ff FS FI) {m with ends:=m.ends++[x]} (w2.setCell ⟨g,1,none⟩ (.slice (some ⟨b,0,none⟩) (n+1) cap)):=by
 have NZ:=h.blk.lt;have hz:=t.size;have lN:g∉rowOf ev:=fun k=>(h.kD.2.1 g k).1 rfl;have hbg:b≠g:=by
  rintro rfl;rcases hat with e|e
  ·exact lN (aB.2 e)
  ·omega
 have hb2:aF w2 g 85 (ko p cv ev wv m):=(h.blk.touch t (by simp)).grown hgr (fun e=>lN (aB.2 e.symm));have t2:Touch (g::rowOf ev) w1 w2:=(t.mono (by simp)).grown hgr fun k hk=>.inl (by simp[aB,hk]);refine h.nds (ev':=.slice (some ⟨b,0,none⟩) (n+1) cap) (L:=m.ends++[x]) (hb2.bJ 1 _) ?_ (t2.setCell (by simp) _) ?_
 ·rw[eB,show(m.ends++[x]).length=n+1 by rw[List.length_append,hn];rfl];exact aj hown (F:=[g]) ((Touch.refl _ _).setCell (by simp) _) (by simp[rowOf];exact hbg)
 ·intro y hy;simp only[rowOf,List.mem_cons,List.not_mem_nil,or_false]at hy;rw[hy];rcases hat with e|e
  ·exact .inl (aB.2 e)
  ·exact .inr (by omega)
def M.laid(m:M)(L:List (Int×Int×Int)):M:={m with code:=m.code++gL L,ends:=m.ends++[((m.code.length+2*L.length:Nat):Int)]}
def KC(w:World)(g:Nat)(p:Lay)(F:List Nat)(m:M)(L:List (Int×Int×Int))(lv:Value)(k:Nat)(wr:World):Prop:=Keep w g p F {m with code:=m.code++gL (L.take k)} wr∧mK wr lv L∧Hw w wr lv
theorem Ti{w wr wc:World}{g n:Nat}{p:Lay}{F Fk:List Nat}{m mk:M}{L:List (Int×Int×Int)}{b off lc k:Nat}{op a v:Int}(Gi:∀x∈rowOf (.slice (some ⟨b,off,none⟩) n lc),x<w.heap.size∧x∉F)(tk:Touch F w wr)(sk:Sub w F Fk)(Gj:mk={m with code:=m.code++gL (L.take k)})(hn:n=L.length)
 (hcell:∀i x,L[i]? =some x→wr.cell? ⟨b,off+i*3,none⟩=some (.int .u8 x.1)∧wr.cell? ⟨b,off+i*3+1,none⟩=some (.int .i64 x.2.1)∧wr.cell? ⟨b,off+i*3+2,none⟩=some (.int .i64 x.2.2))
 (hx:L[k]? =some (op,a,v)) (hO:Hw w wr (.slice (some ⟨b,off,none⟩) n lc)) (hG:Keep wr g p Fk {mk with code:=mk.code++[op+256*a,v]} wc):KC w g p F m L (.slice (some ⟨b,off,none⟩) n lc) (k+1) wc:=by
 have r6:Hw wr wc (.slice (some ⟨b,off,none⟩) n lc):=by
  obtain⟨_,_,t2,_⟩:=hG;refine Hw.of t2 (fun x hx=> ?_);obtain⟨h1,h2⟩:=Gi x hx;exact⟨Nat.lt_of_lt_of_le h1 tk.size,fun h3=>(sk x h3).elim h2 (fun h4=>by omega)⟩
 have r7:L.take (k+1)=L.take k++[(op,a,v)]:=by
  obtain⟨hkl,A6⟩:=List.getElem?_eq_some_iff.1 hx;rw[List.take_succ_eq_append_getElem hkl,A6]
 refine⟨?_,?_,hO.trans r6⟩
 ·have hK:=Keep.trans tk sk hG;rw[Gj]at hK;rw[r7];unfold gL at hK⊢;rw[List.flatMap_append,←List.append_assoc];exact hK
 ·exact mK.off (.inr ⟨b,off,lc,by rw[hn],hcell⟩) r6
theorem Tj:(prog.info? 3).map (fun i=>(i.zero,i.size,i.bytes))=some (some (.int .i64 0),1,8):=by kernel_rfl
theorem DU:∃i0,prog.info? 3=some i0∧i0.zero=some (.int .i64 0)∧i0.size=1∧i0.bytes=8:=by
 have h:=Tj;cases hi:prog.info? 3 with
 |none=>rw[hi]at h;cases h
 |some i=>rw[hi]at h;simp at h;exact⟨i,rfl,h.1,h.2.1,h.2.2⟩
theorem MO{w:World}{g:Nat}{p:Lay}{F:List Nat}{m:M}(h:ak w g p F m)(kM:m.code.length≤1000000)(Za:m.ends.length≤1000)(L:List (Int×Int×Int))(hL:L.length≤1000)(hop:∀x∈L,(0≤x.1∧x.1<256)∧0≤x.2.1∧x.2.1≤1000000)(lv:Value)(hI:mK w lv L)(Gi:∀b∈rowOf lv,b<w.heap.size∧b∉F):
 Calls prog 40 #[.pointer (some ⟨g,0,none⟩),lv] w fun e w'=>e=.returned (.tuple #[])∧Keep w g p F (m.laid L) w'∧Hw w w' lv:=by
 obtain⟨i0,hi,hz0,hz1,hz2⟩:=jH;obtain⟨j0,ji,jz0,jz1,jz2⟩:=DU;obtain⟨n,hn⟩:∃n,L.length=n:=⟨_,rfl⟩;have uz:∃a c,lv=.slice a n c:=by
  rcases hI with⟨rfl,a,c,rfl⟩|⟨b,off,c,rfl,_⟩
  ·exact⟨a,c,by rw[←hn];rfl⟩
  ·exact⟨_,c,by rw[hn]⟩
 have h0:KC w g p F m L lv 0 w:=⟨by
  have e:({m with code:=m.code++gL (L.take 0)}:M)=m:=by simp[gL]
  rw[e];exact Keep.refl h,hI,Hw.refl _ _⟩
 have HH:=hid (And.intro h (And.intro kM (And.intro Za (And.intro hn (And.intro hop Gi)))));rw[hn]at hL;obtain⟨la,lc,rfl⟩:=uz;clear h kM Za hn hop Gi hI;go_enter func40,ntmps40;go_wp2_with fail;go_loopw [8] (fun i wr=>∃k:Nat,k≤n∧i=.int .i64 k∧KC w g p F m L (.slice la n lc) k wr) (fun i _=>n-(intOf i).toNat)
 case atStart=>exact⟨0,Nat.zero_le _,rfl,h0⟩
 case round=>
  obtain⟨k,hk,rfl,hR⟩:=hrel;rcases Nat.lt_or_ge k n with hlt|ql
  ·obtain⟨hK,hI,hO⟩:=hR;obtain⟨x,hx⟩:∃x,L[k]? =some x:=⟨_,List.getElem?_eq_getElem (by rw[HH.out.2.2.2.1];exact hlt)⟩;rcases hI with⟨hnil,_⟩|⟨b,off,c,hlv,hcell⟩
   ·rw[hnil]at hx;cases hx
   ·injection hlv with Kl hv2 hv3;subst Kl hv3;clear hv2;obtain⟨k0,k1,k2⟩:=hcell k x hx;have Wi:=HH.out.2.2.2.2.1 x (List.mem_of_getElem? hx);obtain⟨op,a,v⟩:=x;dsimp only at k0 k1 k2 Wi
    have hOr:bits .or .i64 (IntKind.i64.wrap (a*256)) (IntKind.i64.wrap op)=op+256*a:=by
     have e1:IntKind.i64.wrap (a*256)=a*256:=by rw[IntKind.wrap_i64];omega
     have e2:IntKind.i64.wrap op=op:=by rw[IntKind.wrap_i64];omega
     rw[e1,e2,bits_join .i64 62 (by decide) (fun n h0 h1=>by rw[IntKind.wrap_i64];omega) 8 (a*256) op (by omega) (by omega) (by omega) Wi.1.1 (by omega) (by omega)];omega
    have hb1:0≤a:=Wi.2.1;have hb2:a≤1000000:=Wi.2.2;have hb3:0≤op:=Wi.1.1;have hb4:op≤255:=by omega
    obtain⟨Fk,hE,tk,sk⟩:=hK;obtain⟨cv,ev,wv,Ff,FS,FI,r8,rfl⟩:=hE;have HX:=hid (And.intro hx (And.intro tk (And.intro sk (And.intro r8 (And.intro hcell hO)))));have tY:=(tR wr).alloc (.cells #[.int .u8 op,.int .i64 a,.int .i64 v] 56);have bY:=aF.new wr 56 #[.int .u8 op,.int .i64 a,.int .i64 v];have hL2:=HX.out.2.2.2.1;have c0:wr.cell? ⟨g,0,none⟩=some cv:=hL2.blk.cell 0;have c0:=ah tY c0;obtain⟨y,hy⟩:∃y,wr.heap.size=y:=⟨_,rfl⟩;rw[hy]at bY;have Y8:=hid tY;clear hx Wi tk sk r8 hcell hO hL2 tY;go_upto_region 3 with fail;clear hy k0 k1 k2;generalize wr.alloc (.cells #[.int .u8 op,.int .i64 a,.int .i64 v] 56)=wB at*;have y0:=bY.cell 0;have y1:=bY.cell 1;have y2:=bY.cell 2;have kM:(m.code++gL (L.take k)).length≤1010000:=by
     have h1:=HH.out.2.1;have h2:=nJ (L.take k);rw[List.length_append,h2,List.length_take];omega
    obtain⟨mk,Gj⟩:∃mk:M,({m with code:=m.code++gL (L.take k)}:M)=mk:=⟨_,rfl⟩;rw[Gj]at HX;have kM:mk.code.length≤1010000:=by rw[←Gj];exact kM
    have HMK:=hid Gj;clear Gj;have MP:=HX.out.2.2.2.1;have hrow:=MP.code;obtain⟨ca,cc,hcv⟩:=bn hrow;have lN:g∉rowOf cv:=fun kk=>(MP.kD.1 g kk).1 rfl;obtain⟨q,hq⟩:∃q,mk.code.length=q:=⟨_,rfl⟩;rw[hq]at kM hrow hcv;have G':Hid (∀W,Touch [] wB W→W.ownsRow 0 33 1 (.slice ca q cc) q (cells mk.code)):=hid fun W t=>by rw[←hcv];exact aj (aj hrow Y8.out (by simp)) t (by simp)
    have HV:Hid (some g≠(Value.slice ca q cc).ownBlock):=hid (by rw[←hcv];exact fun e=>lN (aB.2 e.symm));have WT:=hid (MP.blk.touch Y8.out (by simp));have HE:=hid (fun(W w2:World) (b cap:Nat) (t:Touch [] wB W)=>Tf (W:=W) (w2:=w2) (b:=b) (cap:=cap) (n:=q) [op+256*a,v] rfl MP (Y8.out.trans t (by simp)) hq);rw[hcv]at c0 HE;have HA:Hid (q+2≤maxLen):=by show _≤maxLen;unfold maxLen;omega
    have HB:Hid ((q+2)*8≤140737488355328):=by show(q+2)*8≤140737488355328;omega
    have A0:=fun ob=>ah ((tR wB).alloc ob) c0;have HCQ:=hid (And.intro hcv hq);clear MP hrow hcv lN hq h0;have Wn:=hid (fun(wc:World) (hG:Keep wr g p (fO g cv ev wv Ff FS FI) {mk with code:=mk.code++[op+256*a,v]} wc)=>Ti HH.out.2.2.2.2.2 HX.out.2.1 HX.out.2.2.1 HMK.out.symm (by rw[HH.out.2.2.2.1]) HX.out.2.2.2.2.1 HX.out.1 HX.out.2.2.2.2.2 hG);rw[HCQ.out.1]at Wn;go_region_law (first
     |(refine step_append_lies _ rfl (.tmp 16) (.tmp 26) 25 rfl 0 33 i0 _ 1 8 underlying25 hi hz0 hz1 hz2 rfl (by omega) (.slice ca q cc) q (cells mk.code) (by simp[Act.eval]) (G'.out _ (by first|with_reducible exact((tR wB).alloc _).drew|with_reducible exact(tR wB).drew.alloc _)) ⟨_,0,none⟩ 2 2 (cells [op+256*a,v]) (by simp[Act.eval]) rfl (World.news_of_block (heap_alloc_new _ _)) (iZ _) (by omega) HA.out HB.out (Nat.zero_le _) _ rfl ?_;intro gb cap w2 hown hgr hat xg;have HG:=hid (HE.out _ _ _ _ (by first|with_reducible exact((tR wB).alloc _).drew|with_reducible exact(tR wB).drew.alloc _) hown hgr hat);have hb1:=(WT.out.touch (by first|with_reducible exact((tR wB).alloc _).drew|with_reducible exact(tR wB).drew.alloc _) (by simp)).grown hgr HV.out;have d0:=hb1.cell 0;have g0:=hb1.frozen 0;clear hown hgr hat xg hb1))
    all_goals have si:=hid (Wn.out _ HG.out)
    all_goals clear HG d0 g0
    all_goals go_wp2_with fail
    all_goals go_roundw
    all_goals first
     |exact⟨k+1,by omega,by go_num,si.out⟩
     |(simp[intOf];omega)
  ·obtain rfl:k=n:=by omega
   obtain⟨hK,hI,hO⟩:=hR;obtain⟨Fk,hE,tk,sk⟩:=hK;have eT:L.take k=L:=List.take_of_length_le (by rw[HH.out.2.2.2.1];exact Nat.le_refl _);rw[eT]at hE;have Gi:=HH.out.2.2.2.2.2;obtain⟨mk,Gj⟩:∃mk:M,({m with code:=m.code++gL L}:M)=mk:=⟨_,rfl⟩;rw[Gj]at hE;obtain⟨cv,ev,wv,Ff,FS,FI,MP,rfl⟩:=hE;have c0:wr.cell? ⟨g,0,none⟩=some cv:=MP.blk.cell 0;have c1:wr.cell? ⟨g,1,none⟩=some ev:=MP.blk.cell 1;obtain⟨ca,cc,hcv⟩:=bn MP.code;have hrow:=MP.ends;obtain⟨ea,ec,Gh⟩:=bn hrow;have lN:g∉rowOf ev:=fun kk=>(MP.kD.2.1 g kk).1 rfl;have Za:mk.ends.length≤1000:=by rw[←Gj];exact HH.out.2.2.1
   have kM:mk.code.length≤1010000:=by
    rw[←Gj];show(m.code++gL L).length≤1010000;have h1:=HH.out.2.1;have h2:=nJ L;have h3:=HH.out.2.2.2.1;rw[List.length_append,h2];omega
   obtain⟨q,hq⟩:∃q,mk.ends.length=q:=⟨_,rfl⟩;obtain⟨cq,Ha⟩:∃cq,mk.code.length=cq:=⟨_,rfl⟩;rw[hq]at Za hrow Gh;rw[Ha]at hcv kM;have G':Hid (∀W,Touch [] wr W→W.ownsRow 0 3 1 (.slice ea q ec) q (cells mk.ends)):=hid fun W t=>by rw[←Gh];exact aj hrow t (by simp)
   have HV:Hid (some g≠(Value.slice ea q ec).ownBlock):=hid (by rw[←Gh];exact fun e=>lN (aB.2 e.symm));have WT:=hid MP.blk;have HE:=hid (fun(W w2:World) (b cap:Nat) (t:Touch [] wr W)=>Tg (W:=W) (w2:=w2) (b:=b) (cap:=cap) (n:=q) (cq:Int) MP t hq);rw[hcv]at c0;rw[Gh]at c1 HE;have HA:Hid (q+1≤maxLen):=by show _≤maxLen;unfold maxLen;omega
   have HB:Hid ((q+1)*8≤140737488355328):=by show(q+1)*8≤140737488355328;omega
   have A0:=fun ob=>ah ((tR wr).alloc ob) c0;have A1:=fun ob=>ah ((tR wr).alloc ob) c1;have cr:Hid (∀w2,Keep wr g p (fO g cv (.slice ea q ec) wv Ff FS FI) {mk with ends:=mk.ends++[(cq:Int)]} w2→Keep w g p F (m.laid L) w2∧Hw w w2 (.slice la k lc)):=hid fun w2 hG=>by
    rw[←Gh]at hG;have Hc:cq=m.code.length+2*L.length:=by
     rw[←Ha,←Gj];show(m.code++gL L).length=_;rw[List.length_append,nJ]
    have e:({mk with ends:=mk.ends++[(cq:Int)]}:M)=m.laid L:=by
     rw[Hc,←Gj];rfl
    refine⟨?_,hO.trans ?_⟩
    ·rw[←e];exact Keep.trans tk sk hG
    ·obtain⟨_,_,t2,_⟩:=hG;refine Hw.of t2 (fun x hx=> ?_);obtain⟨h1,h2⟩:=Gi x hx;exact⟨Nat.lt_of_lt_of_le h1 tk.size,fun h3=>(sk x h3).elim h2 (fun h4=>by omega)⟩
   clear MP hrow hcv lN hq Ha Gh Gj hI hO tk sk eT h0 Gi;go_upto_region 5 with fail;go_region_law (first
    |(refine step_append_lies _ rfl (.tmp 35) (.tmp 41) 62 rfl 0 3 j0 _ 1 8 underlying62 ji jz0 jz1 jz2 rfl (by omega) (.slice ea q ec) q (cells mk.ends) (by simp[Act.eval]) (G'.out _ (by first|with_reducible exact((tR wr).alloc _).drew|with_reducible exact(tR wr).drew.alloc _)) ⟨_,0,none⟩ 1 1 (cells [(cq:Int)]) (by simp[Act.eval]) rfl (World.news_of_block (heap_alloc_new _ _)) (iZ _) (by omega) HA.out HB.out (Nat.zero_le _) _ rfl ?_;intro gb cap w2 hown hgr hat xg;have HG:=hid (HE.out _ _ _ _ (by first|with_reducible exact((tR wr).alloc _).drew|with_reducible exact(tR wr).drew.alloc _) hown hgr hat);have hb1:=(WT.out.touch (by first|with_reducible exact((tR wr).alloc _).drew|with_reducible exact(tR wr).drew.alloc _) (by simp)).grown hgr HV.out;have d1:=hb1.cell 1;have g1:=hb1.frozen 1;clear hown hgr hat xg hb1))
   all_goals go_wp2_with fail
   all_goals go_end0
   all_goals exact⟨rfl,cr.out _ HG.out⟩
end En
end Go.Proofs.YtdokeddjcpnmiaaGreatDoor
