/- Of EngineClean: DigT. -/
import Derived.Test.YtdokeddjcpnmiaaGreatDoorQPairOps
set_option maxRecDepth 100000
set_option maxHeartbeats 6400000
namespace Go.Proofs.YtdokeddjcpnmiaaGreatDoor
open Go.RowKit Go.Proofs.Tryz
open Go.Lib(hid)
theorem QM{w:World}{base:Nat}{e:TypeId}{a:Option Addr}{cap n m:Nat}{L:List Int}(h:w.ownsRow base e 1 (.slice a n cap) n (aL L))(hm:m≤n):
 w.ownsRow base e 1 (.slice a m cap) m (aL (L.take m)):=by
 obtain⟨h1,h2⟩:=h;have hl:L.length=n:=by simpa[aL]using h1
 rcases h2 with⟨h0,hn⟩|⟨g',cap',cur,hv,hg,hh,Mf,oJ,hsz,qU⟩
 ·injection h0 with e1 e2 e3;subst e1 e3 hn;obtain rfl:m=0:=by omega
  exact⟨by simp[aL],.inl ⟨rfl,rfl⟩⟩
 ·cases hv;refine⟨by simp only[aL,List.length_map,List.length_take];omega,.inr ⟨g',cap,cur,rfl,hg,hh,by omega,oJ,hsz,?_⟩⟩;rw[aL,List.map_take,←aL,←qU,List.take_take];congr 1;omega
theorem VQ{w:World}{base:Nat}{e:TypeId}{a:Option Addr}{cap n:Nat}{xs:List Value}(h:w.ownsRow base e 1 (.slice a n cap) n xs):n≤cap:=by
 rcases h.2 with⟨h0,hn⟩|⟨g',cap',cur,hv,hg,hh,Mf,oJ,_,_⟩
 ·omega
 ·cases hv;exact Mf
theorem Cg{W wr:World}{s:Nat}{F K:List Nat}{S:PS}{acc:List Int}(h:Kept W s F K wr {S with made:=S.made++acc}):
 ∃a n cap,wr.cell? ⟨s,3,none⟩=some (.slice a n cap)∧wr.frozen? ⟨s,3,none⟩=false∧S.made.length≤cap∧s∉K∧Done W s F S S (wr.setCell ⟨s,3,none⟩ (.slice a S.made.length cap)):=by
 obtain⟨F',⟨FS,ov,mv,hp,rfl⟩,h2,h3,h4⟩:=h;have hr:=hp.made;obtain⟨a,cap,rfl⟩:=dD hr.1;have hle:S.made.length≤(S.made++acc).length:=by rw[List.length_append];omega
 have oJ:=VQ hr.1;refine⟨a,_,cap,hp.blk.cell 3,hp.blk.frozen 3,Nat.le_trans hle oJ,fun hs=>(h4 s hs).1 (by simp[foot]),?_⟩;have tS:=(Touch.refl (s::rowOf (.slice a (S.made++acc).length cap)) wr).setCell (p:=⟨s,3,none⟩) (by simp) (.slice a S.made.length cap);have hrow:vI (wr.setCell ⟨s,3,none⟩ (.slice a S.made.length cap)) (.slice a S.made.length cap) S.made:=by
  refine⟨?_,fun x hx=>hr.2 x (List.mem_append_left _ hx)⟩;have h0:=QM (m:=S.made.length) hr.1 hle;rw[List.take_left' rfl]at h0;refine aj h0 ((Touch.refl [s] wr).setCell (p:=⟨s,3,none⟩) (by simp) (.slice a S.made.length cap)) (fun x hx hm=> ?_);rw[List.mem_singleton.1 hm]at hx;have NV:s∈rowOf (.slice a (S.made++acc).length cap):=by cases a<;>exact hx
  exact(jY hr.1 s NV).ne hp.blk.ty (by decide) rfl
 have hd:=rT (made':=S.made) hp (hp.blk.bJ 3 _) hrow tS (fun x hx=>.inl (by cases a<;>exact hx));obtain⟨F2,k1,k2,k3,k4⟩:=hd;exact⟨F2,k1,⟨rfl,rfl,rfl,rfl,rfl,rfl⟩,h2.trans k3 (fun g hg=>h3 g hg),Sub.trans h3 k4 h2.size⟩
structure N1(W:World)(s g1 g2 p:Nat)(F:List Nat)(S:PS)(B n k:Nat)(wr:World)(m:Nat)(acc:List Int):Prop where
 kept:Kept W s F [p,g1,g2] wr {S with made:=S.made++acc}
 pair:aF wr p 213 #[.int .i64 (pl m),.int .i64 (ph m)]
 b1:aF wr g1 37 #[.pointer (some ⟨s,0,none⟩)]
 b2:aF wr g2 4 #[.bool true]
 small:m<340282366920938463463374607431768211456
 num:m=n / B^acc.length
 few:acc.length≤k
 text:oU B n=acc++oU B m
theorem L9(W:World)(s g1 g2 ad c:Nat)(all:Bool)(x0 y0:Int)(F:List Nat)(S:PS)(hS:aC W s F S)(bW:S.ok)(hB:¬(2≤S.base∧S.base≤36))
 (hg1:g1∉F) (hg2:g2∉F) (b1:aF W g1 37 #[.pointer (some ⟨s,0,none⟩)]) (b2:aF W g2 4 #[.bool all]) (h0:W.cell? ⟨ad,0,none⟩=some (.int .i64 (x0))) (h1:W.cell? ⟨ad,1,none⟩=some (.int .i64 (y0))):
 Calls prog 295 #[.slice (some ⟨ad,0,none⟩) 2 c,.pointer (some ⟨g1,0,none⟩),.pointer (some ⟨g2,0,none⟩)] W (aR W s F S (([x0,y0],-40),S)):=by
 have zS:=Bu hS bW.2.2.1 hB;have Wo:Kept W s F [g1,g2] W S:=⟨F,hS,Touch.refl _ _,Sub.refl _ _,fun x hx=>by
  simp only[List.mem_cons,List.not_mem_nil,or_false]at hx;rcases hx with rfl|rfl
  ·exact⟨hg1,b1.lt⟩
  ·exact⟨hg2,b2.lt⟩⟩
 have d0:=b1.cell 0;have s0:∃mv,W.cell? ⟨s,3,none⟩=some mv∧∃a cap,mv=.slice a S.made.length cap:=by
  obtain⟨FS,ov,mv,hp,_⟩:=hS;exact⟨mv,hp.blk.cell 3,dD hp.made.1⟩
 obtain⟨mv,s3,ma,mc,rfl⟩:=s0;obtain⟨ml,qo⟩:∃ml,S.made.length=ml:=⟨_,rfl⟩;rw[qo]at s3;obtain⟨q,hq⟩:∃q,x0=q:=⟨_,rfl⟩;obtain⟨qh,UQ⟩:∃q,y0=q:=⟨_,rfl⟩;rw[hq]at h0;rw[UQ]at h1;have HQ:=hid (And.intro hq UQ);have HH:=hid (And.intro Wo (And.intro b1 (And.intro b2 qo)));clear hq UQ Wo hS hg1 hg2 b1 b2 bW hB qo;go_enter func295,ntmps295;go_wp2_with fail;refine zS.mono ?_;rintro _ w1 ⟨rfl,t1⟩;clear zS d0;have d1:=(HH.out.2.1.touch t1.drew (by simp)).cell 0;have s1:=ah t1.drew s3;have hA:=fun w (t:Touch [] W w)=>mO ad 2 c q qh w (Nat.le_refl _) (ah t h0) (ah t h1);have HT:=hid t1;clear t1;go_upto_region 2 with fail;go_cut [8,9]from 17 to 23 (fun pv nv wx=>∃p,pv=.pointer (some ⟨p,0,none⟩)∧nv=.int .i64 (ml:Int)∧aF wx p 213 #[.int .i64 q,.int .i64 qh]∧W.heap.size≤p∧Touch [] W wx)
 case first=>
  have vu:Hid (g1<w1.heap.size):=(HH.out.2.1.touch HT.out (by simp)).lt;have wE:Hid (s<w1.heap.size):=World.block_lt_of_cell? _ _ s1;have e1:=fun o=>ah (((tR w1).alloc o).drew) ((HH.out.2.1.touch HT.out (by simp)).cell 0);have f1:=fun o=>ah (((tR w1).alloc o).drew) (ah HT.out s3);go_region_with (go_at_call 163;refine(hA _ (by first|exact HT.out.drew|exact HT.out.drew.alloc _)).mono ?_;rintro _ w2 ⟨rfl,t2⟩;have T2:=Touch.trans (by first|exact HT.out.drew|exact HT.out.drew.alloc _) t2 (by simp);have d2:=(HH.out.2.1.touch T2 (by simp)).cell 0;have s2:=ah T2 s3;have e2:=fun o=>ah ((tR w2).alloc o) d2;have f2:=fun o=>ah ((tR w2).alloc o) s2;try(have bP:=((aF.new w1 213 #[.int .i64 0,.int .i64 0]).drew).touch t2 (by simp));try(have p0:=bP.cell 0);try(have p1:=bP.cell 1);try(have z0:=bP.frozen 0);try(have z1:=bP.frozen 1);try(have d3:=fun i u j v=>iG (((Touch.refl [w1.heap.size] w2).setCell (p:=⟨w1.heap.size,i,none⟩) (by simp) u).setCell (p:=⟨w1.heap.size,j,none⟩) (by simp) v) d2 (fun hm=>absurd (List.mem_singleton.1 hm) (Nat.ne_of_lt vu.out)));try(have s3':=fun i u j v=>iG (((Touch.refl [w1.heap.size] w2).setCell (p:=⟨w1.heap.size,i,none⟩) (by simp) u).setCell (p:=⟨w1.heap.size,j,none⟩) (by simp) v) s2 (fun hm=>absurd (List.mem_singleton.1 hm) (Nat.ne_of_lt wE.out))))
  all_goals(go_wp2_with fail;go_meet;first|exact⟨_,rfl,rfl,aF.new w2 _ _,T2.size,T2.alloc _⟩|exact⟨_,rfl,rfl,bP.jF _ _,HT.out.size,(T2.setCell (.inr HT.out.size) _).setCell (.inr HT.out.size) _⟩)
 case rest=>
  obtain⟨p,rfl,rfl,bP,Rf,tc⟩:=hcut;have hk:=HH.out.1.more tc Rf bP.lt;have bb1:=HH.out.2.1.touch tc (by simp);have bb2:=HH.out.2.2.1.touch tc (by simp);have HG:Hid (g1≠p∧g2≠p):=⟨fun e=>by have:=HH.out.2.1.lt;omega,fun e=>by have:=HH.out.2.2.1.lt;omega⟩;clear hA s3 h0 h1 d1 s1 tc;have hk:Kept W s F [p,g1,g2] wc {S with made:=S.made++[]}:=by rwa[show({S with made:=S.made++[]}:PS)=S from by rw[List.append_nil]]
  have HB:=hid (And.intro bP (And.intro bb1 hk));clear bP bb1 bb2 hk Rf;go_wp2_with fail;go_loopw [7,10] (fun ev mv wr=>ev=.int .i64 (-40)∧mv=.bool false∧wc=wr) (fun _ _ _=>0)
  case atStart=>exact⟨rfl,rfl,rfl⟩
  case round=>
   obtain⟨rfl,rfl,rfl⟩:=hrel;obtain⟨bP,bb1,hk⟩:=HB.out;obtain⟨ca,cn,cc,x3,z3,hcc,VR,hD⟩:=Cg hk;have zn:=HH.out.2.2.2;rw[zn]at hcc hD;have xo:(ml:Int)≤cc:=by omega
   have hc0:(0:Int)≤ml:=by omega
   have d1:wc.cell? ⟨g1,0,none⟩=some (.pointer (some ⟨s,0,none⟩)):=bb1.cell 0;have ZB:s≠p∧s≠g1:=⟨fun e=>VR (by rw[e];simp),fun e=>VR (by rw[e];simp)⟩;have d2:wc.drew.cell? ⟨g1,0,none⟩=some (.pointer (some ⟨s,0,none⟩)):=(bb1.drew).cell 0;have x3':=ah ((tR wc).drew) x3;have z3':wc.drew.frozen? ⟨s,3,none⟩=false:=z3;have P3:=(bP.far (p:=⟨s,3,none⟩) (fun e=>ZB.1 e.symm) (.slice ca ml cc)).drew;have p0:=P3.cell 0;have p1:=P3.cell 1;have HD:Hid (Done W s F S S (wc.setCell ⟨s,3,none⟩ (.slice ca ml cc))):=hD;clear x3 z3 P3 hD VR hcc ZB zn;clear bP bb1 hk HB;go_upto_region 10 with fail;go_region
   all_goals go_wp2_with fail
   all_goals go_ret2
   all_goals obtain⟨rfl,rfl⟩:=HQ.out
   all_goals exact⟨_,rfl,(bH.blk (cs:=[x0,y0]) (aF.dG (n:=wc.heap.size) (wc.setCell ⟨s,3,none⟩ (.slice ca ml cc)) (by simp) 33 (cells [x0,y0]).toArray) 2).quiet ((tR _).drew),(HD.out.alloc _).on ((tR _).drew)⟩
theorem sj(W:World)(s g1 g2 ad c:Nat)(all:Bool)(n B:Nat)(F:List Nat)(S:PS)(hS:aC W s F S)(bW:S.ok)(hB:S.base=B)(ru:2≤B)(Zk:B≤36)(hn:n<340282366920938463463374607431768211456)(R:(List Int×Int)×PS)(hR:(all=false∧S.made.length<200∧R=(([pl (n / B),ph (n / B)],0),{S with made:=S.made++[(((ng (n%B)).toNat:Nat):Int)]}))∨(all=false∧¬S.made.length<200∧R=(([pl (n / B),ph (n / B)],-17),S))∨(all=true∧200<S.made.length+(oU B n).length∧∃k,S.made.length+k=200∧R=(([pl (n / B^(k+1)),ph (n / B^(k+1))],-17),S)))
 (hg1:g1∉F) (hg2:g2∉F) (b1:aF W g1 37 #[.pointer (some ⟨s,0,none⟩)]) (b2:aF W g2 4 #[.bool all]) (h0:W.cell? ⟨ad,0,none⟩=some (.int .i64 (pl n))) (h1:W.cell? ⟨ad,1,none⟩=some (.int .i64 (ph n))):
 Calls prog 295 #[.slice (some ⟨ad,0,none⟩) 2 c,.pointer (some ⟨g1,0,none⟩),.pointer (some ⟨g2,0,none⟩)] W (aR W s F S R):=by
 have zS:=zO hS bW.2.2.1 (by rw[hB];omega);rw[hB]at zS;have Wo:Kept W s F [g1,g2] W S:=⟨F,hS,Touch.refl _ _,Sub.refl _ _,fun x hx=>by
  simp only[List.mem_cons,List.not_mem_nil,or_false]at hx;rcases hx with rfl|rfl
  ·exact⟨hg1,b1.lt⟩
  ·exact⟨hg2,b2.lt⟩⟩
 have d0:=b1.cell 0;have s0:∃mv,W.cell? ⟨s,3,none⟩=some mv∧∃a cap,mv=.slice a S.made.length cap:=by
  obtain⟨FS,ov,mv,hp,_⟩:=hS;exact⟨mv,hp.blk.cell 3,dD hp.made.1⟩
 obtain⟨mv,s3,ma,mc,rfl⟩:=s0;obtain⟨ml,qo⟩:∃ml,S.made.length=ml:=⟨_,rfl⟩;rw[qo]at s3;rw[qo]at hR;have hst:=fun m (hm:m<340282366920938463463374607431768211456) W=>UD m B hm ru Zk W;obtain⟨q,hq⟩:∃q,pl n=q:=⟨_,rfl⟩;obtain⟨qh,UQ⟩:∃q,ph n=q:=⟨_,rfl⟩;rw[hq]at h0;rw[UQ]at h1;have HQ:=hid (And.intro hq UQ);have HH:=hid (And.intro Wo (And.intro b1 (And.intro b2 qo)));have HR:=hid hR;clear hq UQ Wo hS hg1 hg2 b1 b2 bW hB qo hR;go_enter func295,ntmps295;go_wp2_with fail;refine zS.mono ?_;rintro _ w1 ⟨rfl,t1⟩;clear zS d0;have d1:=(HH.out.2.1.touch t1.drew (by simp)).cell 0;have s1:=ah t1.drew s3;have hA:=fun w (t:Touch [] W w)=>mO ad 2 c q qh w (Nat.le_refl _) (ah t h0) (ah t h1);have HT:=hid t1;clear t1;go_upto_region 2 with fail;go_cut [8,9]from 17 to 23 (fun pv nv wx=>∃p,pv=.pointer (some ⟨p,0,none⟩)∧nv=.int .i64 (ml:Int)∧aF wx p 213 #[.int .i64 q,.int .i64 qh]∧W.heap.size≤p∧Touch [] W wx)
 case first=>
  have vu:Hid (g1<w1.heap.size):=(HH.out.2.1.touch HT.out (by simp)).lt;have wE:Hid (s<w1.heap.size):=World.block_lt_of_cell? _ _ s1;have e1:=fun o=>ah (((tR w1).alloc o).drew) ((HH.out.2.1.touch HT.out (by simp)).cell 0);have f1:=fun o=>ah (((tR w1).alloc o).drew) (ah HT.out s3);go_region_with (go_at_call 163;refine(hA _ (by first|exact HT.out.drew|exact HT.out.drew.alloc _)).mono ?_;rintro _ w2 ⟨rfl,t2⟩;have T2:=Touch.trans (by first|exact HT.out.drew|exact HT.out.drew.alloc _) t2 (by simp);have d2:=(HH.out.2.1.touch T2 (by simp)).cell 0;have s2:=ah T2 s3;have e2:=fun o=>ah ((tR w2).alloc o) d2;have f2:=fun o=>ah ((tR w2).alloc o) s2;try(have bP:=((aF.new w1 213 #[.int .i64 0,.int .i64 0]).drew).touch t2 (by simp));try(have p0:=bP.cell 0);try(have p1:=bP.cell 1);try(have z0:=bP.frozen 0);try(have z1:=bP.frozen 1);try(have d3:=fun i u j v=>iG (((Touch.refl [w1.heap.size] w2).setCell (p:=⟨w1.heap.size,i,none⟩) (by simp) u).setCell (p:=⟨w1.heap.size,j,none⟩) (by simp) v) d2 (fun hm=>absurd (List.mem_singleton.1 hm) (Nat.ne_of_lt vu.out)));try(have s3':=fun i u j v=>iG (((Touch.refl [w1.heap.size] w2).setCell (p:=⟨w1.heap.size,i,none⟩) (by simp) u).setCell (p:=⟨w1.heap.size,j,none⟩) (by simp) v) s2 (fun hm=>absurd (List.mem_singleton.1 hm) (Nat.ne_of_lt wE.out))))
  all_goals(go_wp2_with fail;go_meet;first|exact⟨_,rfl,rfl,aF.new w2 _ _,T2.size,T2.alloc _⟩|exact⟨_,rfl,rfl,bP.jF _ _,HT.out.size,(T2.setCell (.inr HT.out.size) _).setCell (.inr HT.out.size) _⟩)
 case rest=>
  obtain⟨p,rfl,rfl,bP,Rf,tc⟩:=hcut;have hk:=HH.out.1.more tc Rf bP.lt;have bb1:=HH.out.2.1.touch tc (by simp);have bb2:=HH.out.2.2.1.touch tc (by simp);have HG:Hid (g1≠p∧g2≠p):=⟨fun e=>by have:=HH.out.2.1.lt;omega,fun e=>by have:=HH.out.2.2.1.lt;omega⟩;clear hA s3 h0 h1 d1 s1 tc;have HW:=hid Rf;rcases HR.out with⟨rfl,hroom,hR⟩|⟨rfl,hroom,hR⟩|⟨rfl,hlen,k,ZC,hR⟩
  ·have KR:=hid (And.intro hroom hR);have hk:Kept W s F [p,g1,g2] wc {S with made:=S.made++[]}:=by rwa[show({S with made:=S.made++[]}:PS)=S from by rw[List.append_nil]]
   have HB:=hid (And.intro bP (And.intro bb1 (And.intro bb2 hk)));clear bP bb1 bb2 hk Rf hroom hR HR;go_wp2_with fail;go_loopw [7,10] (fun ev mv wr=>(ev=.int .i64 0∧mv=.bool true∧wc=wr)∨(ev=.int .i64 (0)∧mv=.bool false∧Kept W s F [p,g1,g2] wr {S with made:=S.made++[(((ng (n%B)).toNat:Nat):Int)]}∧aF wr p 213 #[.int .i64 (pl (n / B)),.int .i64 (ph (n / B))]∧aF wr g1 37 #[.pointer (some ⟨s,0,none⟩)])) (fun _ mv _=>match mv with| .bool true=>1|_=>0)
   case atStart=>exact .inl ⟨rfl,rfl,rfl⟩
   case round=>
    rcases hrel with⟨rfl,rfl,rfl⟩|⟨rfl,rfl,Ws,bE,bg⟩
    ·obtain⟨rfl,rfl⟩:=HQ.out;have hs:=hst n hn;obtain⟨c8,Ll⟩:∃c8,ng (n%B)=c8:=⟨_,rfl⟩;obtain⟨m2,vP⟩:∃m2,n / B=m2:=⟨_,rfl⟩;rw[Ll,vP]at hs;have qW:m2<340282366920938463463374607431768211456:=by rw[←vP];exact Nat.lt_of_le_of_lt (Nat.div_le_self _ _) hn
     have HC:=hid (And.intro Ll vP);have p0:=HB.out.1.cell 0;have p1:=HB.out.1.cell 1;clear Ll vP;go_wp2_with fail;refine(hs _).mono ?_;rintro _ w3 ⟨rfl,t3⟩;have bP:=HB.out.1.touch t3 (by simp);have VT:=hid t3;clear t3 hs p0 p1;have p0:=bP.cell 0;have p1:=bP.cell 1;have z0:=bP.frozen 0;have z1:=bP.frozen 1;go_upto_region 8 with fail;have zQ:=bP.jF (.int .i64 (pl m2)) (.int .i64 (ph m2));have tP:=((Touch.refl [p] w3).setCell (p:=⟨p,0,none⟩) (by simp) (.int .i64 (pl m2))).setCell (p:=⟨p,1,none⟩) (by simp) (.int .i64 (ph m2));have sI:=(HB.out.2.2.2.quiet VT.out).own (by simp) HW.out tP;have bb1:=(HB.out.2.1.touch VT.out (by simp)).touch tP (fun hm=>HG.out.1 (List.mem_singleton.1 hm));have bb2:=(HB.out.2.2.1.touch VT.out (by simp)).touch tP (fun hm=>HG.out.2 (List.mem_singleton.1 hm));clear p0 p1 z0 z1 bP tP;generalize (w3.setCell ⟨p,0,none⟩ (.int .i64 (pl m2))).setCell ⟨p,1,none⟩ (.int .i64 (ph m2))=w4 at*;have d0:w4.cell? ⟨g1,0,none⟩=some (.pointer (some ⟨s,0,none⟩)):=bb1.cell 0;have kM:0≤((c8.toNat:Nat):Int)∧((c8.toNat:Nat):Int)≤255:=by have:=c8.toNat_lt;omega
     have hH:=sI.step (fun F' hS=>wG hS (by show(S.made++[]).length<200;rw[List.append_nil,HH.out.2.2.2];exact KR.out.1) _ kM);have Nb:=hid (And.intro zQ (And.intro bb1 bb2));clear zQ bb1 bb2 sI kM;go_wp2_with fail;refine hH.mono ?_;rintro _ w5 ⟨rfl,hk3,Nc⟩;have Dk:=Nc.blk (by simp) Nb.out.1;have xp:=Nc.blk (by simp) Nb.out.2.1;have bb3:=Nc.blk (by simp) Nb.out.2.2;have d2:w5.cell? ⟨g2,0,none⟩=some (.bool false):=bb3.cell 0;have p0:=Dk.cell 0;have p1:=Dk.cell 1;have hk4:Kept W s F [p,g1,g2] w5 {S with made:=S.made++[(((ng (n%B)).toNat:Nat):Int)]}:=by
      have h:=hk3;rw[←HC.out.1]at h;have e:S.made++[]++[(((ng (n%B)).toNat:Nat):Int)]=S.made++[(((ng (n%B)).toNat:Nat):Int)]:=by rw[List.append_nil]
      rw[←e];exact h
     have HF:Hid (Kept W s F [p,g1,g2] w5 {S with made:=S.made++[(((ng (n%B)).toNat:Nat):Int)]}∧aF w5 p 213 #[.int .i64 (pl (n / B)),.int .i64 (ph (n / B))]∧aF w5 g1 37 #[.pointer (some ⟨s,0,none⟩)]):=⟨hk4,by rw[HC.out.2];exact Dk,xp⟩;clear Dk xp bb3 hk4 hk3 Nc hH d0;go_wp2_with fail;exact⟨.inr ⟨rfl,rfl,HF.out⟩,by decide⟩
    ·clear HB;have p0:=bE.cell 0;have p1:=bE.cell 1;have HD:Hid (Done W s F S {S with made:=S.made++[(((ng (n%B)).toNat:Nat):Int)]} wr):=Ws.done ⟨rfl,rfl,rfl,rfl,rfl,rfl⟩;clear Ws bE bg;go_wp2_with fail;go_ret2;rw[KR.out.2];exact⟨_,rfl,bH.blk (cs:=[pl (n / B),ph (n / B)]) (aF.new _ _ _) 2,HD.out.alloc _⟩
  ·have KR:=hid (And.intro hroom hR);have hk:Kept W s F [p,g1,g2] wc {S with made:=S.made++[]}:=by rwa[show({S with made:=S.made++[]}:PS)=S from by rw[List.append_nil]]
   have HB:=hid (And.intro bP (And.intro bb1 (And.intro bb2 hk)));clear bP bb1 bb2 hk Rf hroom hR HR;go_wp2_with fail;go_loopw [7,10] (fun ev mv wr=>(ev=.int .i64 0∧mv=.bool true∧wc=wr)∨(ev=.int .i64 (-17)∧mv=.bool false∧Kept W s F [p,g1,g2] wr {S with made:=S.made++[]}∧aF wr p 213 #[.int .i64 (pl (n / B)),.int .i64 (ph (n / B))]∧aF wr g1 37 #[.pointer (some ⟨s,0,none⟩)])) (fun _ mv _=>match mv with| .bool true=>1|_=>0)
   case atStart=>exact .inl ⟨rfl,rfl,rfl⟩
   case round=>
    rcases hrel with⟨rfl,rfl,rfl⟩|⟨rfl,rfl,Ws,bE,bg⟩
    ·obtain⟨rfl,rfl⟩:=HQ.out;have hs:=hst n hn;obtain⟨c8,Ll⟩:∃c8,ng (n%B)=c8:=⟨_,rfl⟩;obtain⟨m2,vP⟩:∃m2,n / B=m2:=⟨_,rfl⟩;rw[Ll,vP]at hs;have qW:m2<340282366920938463463374607431768211456:=by rw[←vP];exact Nat.lt_of_le_of_lt (Nat.div_le_self _ _) hn
     have HC:=hid (And.intro Ll vP);have p0:=HB.out.1.cell 0;have p1:=HB.out.1.cell 1;clear Ll vP;go_wp2_with fail;refine(hs _).mono ?_;rintro _ w3 ⟨rfl,t3⟩;have bP:=HB.out.1.touch t3 (by simp);have VT:=hid t3;clear t3 hs p0 p1;have p0:=bP.cell 0;have p1:=bP.cell 1;have z0:=bP.frozen 0;have z1:=bP.frozen 1;go_upto_region 8 with fail;have zQ:=bP.jF (.int .i64 (pl m2)) (.int .i64 (ph m2));have tP:=((Touch.refl [p] w3).setCell (p:=⟨p,0,none⟩) (by simp) (.int .i64 (pl m2))).setCell (p:=⟨p,1,none⟩) (by simp) (.int .i64 (ph m2));have sI:=(HB.out.2.2.2.quiet VT.out).own (by simp) HW.out tP;have bb1:=(HB.out.2.1.touch VT.out (by simp)).touch tP (fun hm=>HG.out.1 (List.mem_singleton.1 hm));have bb2:=(HB.out.2.2.1.touch VT.out (by simp)).touch tP (fun hm=>HG.out.2 (List.mem_singleton.1 hm));clear p0 p1 z0 z1 bP tP;generalize (w3.setCell ⟨p,0,none⟩ (.int .i64 (pl m2))).setCell ⟨p,1,none⟩ (.int .i64 (ph m2))=w4 at*;have d0:w4.cell? ⟨g1,0,none⟩=some (.pointer (some ⟨s,0,none⟩)):=bb1.cell 0;have kM:0≤((c8.toNat:Nat):Int)∧((c8.toNat:Nat):Int)≤255:=by have:=c8.toNat_lt;omega
     obtain⟨F',ug,_⟩:=id sI;have hH:=tH ug (by show¬(S.made++[]).length<200;rw[List.append_nil,HH.out.2.2.2];exact KR.out.1) ((c8.toNat:Nat):Int);have d2:w4.cell? ⟨g2,0,none⟩=some (.bool false):=bb2.cell 0;have p0:=zQ.cell 0;have p1:=zQ.cell 1;have HF:Hid (Kept W s F [p,g1,g2] w4 {S with made:=S.made++[]}∧aF w4 p 213 #[.int .i64 (pl (n / B)),.int .i64 (ph (n / B))]∧aF w4 g1 37 #[.pointer (some ⟨s,0,none⟩)]):=⟨sI,by rw[HC.out.2];exact zQ,bb1⟩;clear zQ bb1 bb2 sI kM ug;go_wp2_with fail;refine hH.mono ?_;rintro _ _ ⟨rfl,rfl⟩;clear hH;go_wp2_with fail;exact⟨.inr ⟨rfl,rfl,HF.out⟩,by decide⟩
    ·clear HB;obtain⟨ca,cn,cc,x3,z3,hcc,VR,hD⟩:=Cg Ws;have zn:=HH.out.2.2.2;rw[zn]at hcc hD;have xo:(ml:Int)≤cc:=by omega
     have hc0:(0:Int)≤ml:=by omega
     have d1:wr.cell? ⟨g1,0,none⟩=some (.pointer (some ⟨s,0,none⟩)):=bg.cell 0;have ZB:s≠p∧s≠g1:=⟨fun e=>VR (by rw[e];simp),fun e=>VR (by rw[e];simp)⟩;have d2:wr.drew.cell? ⟨g1,0,none⟩=some (.pointer (some ⟨s,0,none⟩)):=(bg.drew).cell 0;have x3':=ah ((tR wr).drew) x3;have z3':wr.drew.frozen? ⟨s,3,none⟩=false:=z3;have P3:=(bE.far (p:=⟨s,3,none⟩) (fun e=>ZB.1 e.symm) (.slice ca ml cc)).drew;have p0:=P3.cell 0;have p1:=P3.cell 1;have HD:Hid (Done W s F S S (wr.setCell ⟨s,3,none⟩ (.slice ca ml cc))):=hD;clear x3 z3 P3 hD VR hcc ZB zn;clear Ws bE bg;go_upto_region 10 with fail;go_region
     all_goals go_wp2_with fail
     all_goals go_ret2
     all_goals rw[KR.out.2]
     all_goals exact⟨_,rfl,(bH.blk (cs:=[pl (n / B),ph (n / B)]) (aF.dG (n:=wr.heap.size) (wr.setCell ⟨s,3,none⟩ (.slice ca ml cc)) (by simp) 33 (cells [pl (n / B),ph (n / B)]).toArray) 2).quiet ((tR _).drew),(HD.out.alloc _).on ((tR _).drew)⟩
  ·have KR:=hid (And.intro hlen (And.intro ZC hR));have hk:Kept W s F [p,g1,g2] wc {S with made:=S.made++[]}:=by rwa[show({S with made:=S.made++[]}:PS)=S from by rw[List.append_nil]]
   have HG0:Hid (N1 W s g1 g2 p F S B n k wc n []):=⟨hk,by rw[HQ.out.1,HQ.out.2];exact bP,bb1,bb2,hn,by rw[List.length_nil,Nat.pow_zero,Nat.div_one],by simp,by simp⟩;clear bP bb1 bb2 hk Rf hlen ZC hR HR;go_wp2_with fail;go_loopw [7,10] (fun ev mv wr=>(∃m acc,ev=.int .i64 0∧mv=.bool true∧N1 W s g1 g2 p F S B n k wr m acc)∨(ev=.int .i64 (-17)∧mv=.bool false∧(∃acc,Kept W s F [p,g1,g2] wr {S with made:=S.made++acc})∧aF wr p 213 #[.int .i64 (pl (n / B^(k+1))),.int .i64 (ph (n / B^(k+1)))]∧aF wr g1 37 #[.pointer (some ⟨s,0,none⟩)])) (fun _ mv wr=>match mv with| .bool true=>rU wr p+1|_=>0)
   case atStart=>exact .inl ⟨n,[],rfl,rfl,HG0.out⟩
   case round=>
    clear HG0;rcases hrel with⟨m,acc,rfl,rfl,hG⟩|⟨rfl,rfl,Ws,bE,bg⟩
    ·have HB:=hid (And.intro hG.pair (And.intro hG.b1 (And.intro hG.b2 hG.kept)));have xr:Hid (rU wr p=m):=oH hG.pair hG.small;have hsm:=hG.small;have HX:=hid hG;clear hG;have hs:=hst m hsm;obtain⟨c8,Ll⟩:∃c8,ng (m%B)=c8:=⟨_,rfl⟩;obtain⟨m2,vP⟩:∃m2,m / B=m2:=⟨_,rfl⟩;rw[Ll,vP]at hs;have qW:m2<340282366920938463463374607431768211456:=by rw[←vP];exact Nat.lt_of_le_of_lt (Nat.div_le_self _ _) hsm
     have HC:=hid (And.intro Ll vP);have p0:=HB.out.1.cell 0;have p1:=HB.out.1.cell 1;clear Ll vP;go_wp2_with fail;refine(hs _).mono ?_;rintro _ w3 ⟨rfl,t3⟩;have bP:=HB.out.1.touch t3 (by simp);have VT:=hid t3;clear t3 hs p0 p1;have p0:=bP.cell 0;have p1:=bP.cell 1;have z0:=bP.frozen 0;have z1:=bP.frozen 1;go_upto_region 8 with fail;have zQ:=bP.jF (.int .i64 (pl m2)) (.int .i64 (ph m2));have tP:=((Touch.refl [p] w3).setCell (p:=⟨p,0,none⟩) (by simp) (.int .i64 (pl m2))).setCell (p:=⟨p,1,none⟩) (by simp) (.int .i64 (ph m2));have sI:=(HB.out.2.2.2.quiet VT.out).own (by simp) HW.out tP;have bb1:=(HB.out.2.1.touch VT.out (by simp)).touch tP (fun hm=>HG.out.1 (List.mem_singleton.1 hm));have bb2:=(HB.out.2.2.1.touch VT.out (by simp)).touch tP (fun hm=>HG.out.2 (List.mem_singleton.1 hm));clear p0 p1 z0 z1 bP tP;generalize (w3.setCell ⟨p,0,none⟩ (.int .i64 (pl m2))).setCell ⟨p,1,none⟩ (.int .i64 (ph m2))=w4 at*;have d0:w4.cell? ⟨g1,0,none⟩=some (.pointer (some ⟨s,0,none⟩)):=bb1.cell 0;have kM:0≤((c8.toNat:Nat):Int)∧((c8.toNat:Nat):Int)≤255:=by have:=c8.toNat_lt;omega
     have heq:=fun W=>wC (pl m2) (ph m2) 0 0 W;rw[BF m2 qW]at heq;have hgd:=uW;have Ke:=HH.out.2.2.2;have UR:=HX.out.few;have PW:=HX.out.text;have hlen:=KR.out.1;have hk2:=KR.out.2.1;have VU:(oU B n).length=acc.length+(oU B m).length:=by rw[PW,List.length_append]
     by_cases hroom:acc.length<k
     ·have hBm:B≤m:=by
       rcases Nat.lt_or_ge m B with h|h
       ·rw[x9 B m h,List.length_singleton]at VU;omega
       ·exact h
      have hz:¬m2=0:=by
       rw[←HC.out.2];intro h;have:=(Nat.div_eq_zero_iff_lt (show 0<B by omega)).1 h;omega
      have N2:Hid (m2<m):=by
       show m2<m;rw[←HC.out.2];exact Nat.div_lt_self (by omega) (by omega)
      rw[decide_eq_false hz]at heq;have hH:=sI.step (fun F' hS=>wG hS (by show(S.made++acc).length<200;rw[List.length_append,Ke];omega) _ kM);have VW:(oU B n=(acc++[((c8.toNat:Nat):Int)])++oU B m2)∧m2=n / B^(acc++[((c8.toNat:Nat):Int)]).length∧(acc++[((c8.toNat:Nat):Int)]).length≤k:=by
       refine⟨?_,?_,by rw[List.length_append,List.length_singleton];omega⟩
       ·rw[PW,yc B m ru hBm,HC.out.1,HC.out.2];simp
       ·rw[List.length_append,List.length_singleton,Nat.pow_succ,←Nat.div_div_eq_div_mul,←HX.out.num,HC.out.2]
      have Nb:=hid (And.intro zQ (And.intro bb1 (And.intro bb2 VW)));clear zQ bb1 bb2 sI kM VW hz hBm hroom VU hk2 hlen PW UR Ke;go_wp2_with fail;refine hH.mono ?_;rintro _ w5 ⟨rfl,hk3,Nc⟩;have Dk:=Nc.blk (by simp) Nb.out.1;have xp:=Nc.blk (by simp) Nb.out.2.1;have bb3:=Nc.blk (by simp) Nb.out.2.2.1;have d2:w5.cell? ⟨g2,0,none⟩=some (.bool true):=bb3.cell 0;have p0:=Dk.cell 0;have p1:=Dk.cell 1;have hk4:Kept W s F [p,g1,g2] w5 {S with made:=S.made++(acc++[((c8.toNat:Nat):Int)])}:=by
       have h:=hk3;have e:S.made++acc++[((c8.toNat:Nat):Int)]=S.made++(acc++[((c8.toNat:Nat):Int)]):=List.append_assoc _ _ _;rw[←e];exact h
      have HF:Hid (N1 W s g1 g2 p F S B n k w5 m2 (acc++[((c8.toNat:Nat):Int)])∧rU w5 p=m2):=⟨⟨hk4,Dk,xp,bb3,qW,Nb.out.2.2.2.2.1,Nb.out.2.2.2.2.2,Nb.out.2.2.2.1⟩,oH Dk qW⟩;clear Dk xp bb3 hk4 hk3 Nc hH d0;go_wp2_with fail;refine⟨.inl ⟨m2,_,rfl,rfl,HF.out.1⟩,?_⟩;have h1:=xr.out;have h2:=HF.out.2;have h3:=N2.out;simp only[h1,h2];omega
     ·have ZE:acc.length=k:=by omega
      have VW:m2=n / B^(k+1):=by rw[←ZE,Nat.pow_succ,←Nat.div_div_eq_div_mul,←HX.out.num,HC.out.2]
      obtain⟨F',ug,_⟩:=id sI;have hH:=tH ug (by show¬(S.made++acc).length<200;rw[List.length_append,Ke];omega) ((c8.toNat:Nat):Int);have d2:w4.cell? ⟨g2,0,none⟩=some (.bool true):=bb2.cell 0;have p0:=zQ.cell 0;have p1:=zQ.cell 1;have HF:Hid ((∃acc,Kept W s F [p,g1,g2] w4 {S with made:=S.made++acc})∧aF w4 p 213 #[.int .i64 (pl (n / B^(k+1))),.int .i64 (ph (n / B^(k+1)))]∧aF w4 g1 37 #[.pointer (some ⟨s,0,none⟩)]):=⟨⟨acc,sI⟩,by rw[←VW];exact zQ,bb1⟩;clear zQ bb1 bb2 sI kM ug VW ZE hroom VU hk2 hlen PW UR Ke;go_wp2_with fail;refine hH.mono ?_;rintro _ _ ⟨rfl,rfl⟩;clear hH;go_wp2_with fail;refine⟨.inr ⟨rfl,rfl,HF.out⟩,?_⟩;have h1:=xr.out;simp only[h1];omega
    ·obtain⟨acc,Ws⟩:=Ws;obtain⟨ca,cn,cc,x3,z3,hcc,VR,hD⟩:=Cg Ws;have zn:=HH.out.2.2.2;rw[zn]at hcc hD;have xo:(ml:Int)≤cc:=by omega
     have hc0:(0:Int)≤ml:=by omega
     have d1:wr.cell? ⟨g1,0,none⟩=some (.pointer (some ⟨s,0,none⟩)):=bg.cell 0;have ZB:s≠p∧s≠g1:=⟨fun e=>VR (by rw[e];simp),fun e=>VR (by rw[e];simp)⟩;have d2:wr.drew.cell? ⟨g1,0,none⟩=some (.pointer (some ⟨s,0,none⟩)):=(bg.drew).cell 0;have x3':=ah ((tR wr).drew) x3;have z3':wr.drew.frozen? ⟨s,3,none⟩=false:=z3;have P3:=(bE.far (p:=⟨s,3,none⟩) (fun e=>ZB.1 e.symm) (.slice ca ml cc)).drew;have p0:=P3.cell 0;have p1:=P3.cell 1;have HD:Hid (Done W s F S S (wr.setCell ⟨s,3,none⟩ (.slice ca ml cc))):=hD;clear x3 z3 P3 hD VR hcc ZB zn;clear Ws bE bg;go_upto_region 10 with fail;go_region
     all_goals go_wp2_with fail
     all_goals go_ret2
     all_goals rw[KR.out.2.2]
     all_goals exact⟨_,rfl,(bH.blk (cs:=[pl (n / B^(k+1)),ph (n / B^(k+1))]) (aF.dG (n:=wr.heap.size) (wr.setCell ⟨s,3,none⟩ (.slice ca ml cc)) (by simp) 33 (cells [pl (n / B^(k+1)),ph (n / B^(k+1))]).toArray) 2).quiet ((tR _).drew),(HD.out.alloc _).on ((tR _).drew)⟩
end Go.Proofs.YtdokeddjcpnmiaaGreatDoor
