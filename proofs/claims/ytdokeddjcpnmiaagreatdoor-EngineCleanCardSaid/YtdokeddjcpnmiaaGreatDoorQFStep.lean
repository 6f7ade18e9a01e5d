/- Of EngineClean: Frm5 FDown FUp FUp2 FStep. -/
import Derived.Test.YtdokeddjcpnmiaaGreatDoorQFrm2
import Derived.RangeFuncBox
import Derived.RangeFuncLeaves
import Derived.RangeFuncNested
import Derived.RangeFuncCalls
import Derived.Shelf.Abstract
import Derived.OwnWalkIn
import Derived.TacticsInMore
import Derived.LoopNIn
import Derived.LoopIn
import Derived.Stop.RegionWithIn
set_option maxRecDepth 100000
set_option maxHeartbeats 3200000
namespace Go.Proofs.YtdokeddjcpnmiaaGreatDoor
open Go.RowKit Go.Proofs.Tryz
open Go.Lib(hid)
namespace En
theorem GU(w:World)(b n c:Nat)(a:Option Addr)(c0:w.cell? ⟨b,0,none⟩=some (.slice a n c)):Calls prog 22 #[.pointer (some ⟨b,0,none⟩)] w fun e w'=>e=.returned (.int .i64 n)∧w=w':=by
 go_enter func22,ntmps22;go_wp2;go_ret;exact⟨rfl,rfl⟩
theorem Oa{w:World}{g cap n m:Nat}{L:List Fq}(h:w.ownsRow 0 45 6 (.slice (some ⟨g,0,none⟩) n cap) n (L.flatMap dO))(hn:L.length=n)(hm:m≤n):
 w.ownsRow 0 45 6 (.slice (some ⟨g,0,none⟩) m cap) m ((L.take m).flatMap dO):=by
 have key:∀(L:List Fq) (m:Nat),(L.take m).flatMap dO=(L.flatMap dO).take (m*6):=by
  intro L;induction L with
  |nil=>intro m;simp
  |cons f r ih=>
   intro m;cases m with
   |zero=>simp
   |succ m=>
    rw[List.take_succ_cons,List.flatMap_cons,List.flatMap_cons,ih,show(m+1)*6=(dO f).length+m*6 by show(m+1)*6=6+m*6;omega,List.take_length_add_append]
 obtain⟨h1,h2⟩:=h;rcases h2 with⟨h0,_⟩|⟨g',cap',cur,hv,hg,hh,Mf,oJ,hsz,qU⟩
 ·cases h0
 ·cases hv;refine⟨by rw[xM,List.length_take,hn];congr 1;omega,.inr ⟨g,cap,cur,rfl,hg,hh,by omega,oJ,hsz,?_⟩⟩;rw[key,←qU,List.take_take];congr 1;omega
theorem Si{w:World}{g cap n:Nat}{xs:List Value}(h:w.ownsRow 0 45 6 (.slice (some ⟨g,0,none⟩) n cap) n xs):n≤cap:=by
 rcases h.2 with⟨h0,_⟩|⟨g',cap',cur,hv,hg,hh,Mf,oJ,_,_⟩
 ·cases h0
 ·cases hv;exact Mf
theorem Kc{b:Nat}{v v':Value}{Q:List Fq}{m:Nat}(h:(b::(rowOf v++eP Q)).Nodup)(hv:rowOf v'=rowOf v):(b::(rowOf v'++eP (Q.take m))).Nodup:=by
 rw[hv];have e:eP Q=eP (Q.take m)++eP (Q.drop m):=by rw[←xB,List.take_append_drop]
 rw[e,←List.append_assoc,←List.cons_append]at h;exact(List.nodup_append.1 h).1
theorem vN(w:World)(b:Nat)(F:List Nat)(L:List Fr)(h:aP w b F L)(hL:L.length≤1000)(i:Int):
 Calls prog 77 #[.pointer (some ⟨b,0,none⟩),.int .i64 i] w fun e w'=>e=.returned (.tuple #[])∧aP w' b F (L.take i.toNat)∧Touch F w w':=by
 have hD:=qz w b F L h;have h0:=h;obtain⟨v,Q,hR,y6,hF,iN⟩:=h;have hb:=hR.blk;have hr:=hR.row;have qV:b∈F:=hF b (by simp);have ag:L.length=Q.length:=by rw[y6,List.length_map]
 have c0:=hb.cell 0;have f0:=hb.frozen 0;obtain⟨m,hm⟩:∃m,i.toNat=m:=⟨_,rfl⟩;rw[hm];rcases Nat.lt_or_ge m L.length with hlt|ql
 ·obtain⟨n,hn⟩:∃n,Q.length=n:=⟨_,rfl⟩;rw[ag,hn]at hD hlt hL;rw[hn]at hr;rcases Go.Joins.ownsRow_forms hr with⟨rfl,Cq⟩|⟨g,cap,rfl⟩
  ·omega
  have oJ:=Si hr;have ai:(m:Int)<(n:Int):=by omega
  have HE:=hid (fun(w1:World) (hB:aF w1 b 97 #[.slice (some ⟨g,0,none⟩) m cap]) (t:Touch [b] w w1)=>(⟨.slice (some ⟨g,0,none⟩) m cap,Q.take m,⟨hB,by
   rw[List.length_take,hn,Nat.min_eq_left (by omega)];exact aj (Oa hr hn (by omega)) t (by intro k hk hkb;rw[List.mem_singleton.1 hkb]at hk;exact hR.Mw hk),fun q hq=>(hR.ok q (List.mem_of_mem_take hq)).touch t (fun x hx hb=>by
    rw[List.mem_singleton.1 hb]at hx;exact hR.Mx (jP.2 ⟨q,List.mem_of_mem_take hq,hx⟩)),Kc hR.nd rfl⟩,by rw[y6,List.map_take],fun x hx=>hF x (by
    rcases List.mem_cons.1 hx with hx|hx
    ·simp[hx]
    ·rcases List.mem_append.1 hx with hx|hx
     ·exact List.mem_cons_of_mem _ (List.mem_append_left _ hx)
     ·obtain⟨q,hq,hx⟩:=jP.1 hx;exact List.mem_cons_of_mem _ (List.mem_append_right _ (jP.2 ⟨q,List.mem_of_mem_take hq,hx⟩))),fun x hx=>Nat.lt_of_lt_of_le (iN x hx) t.size⟩:aP w1 b F (L.take m)))
  have HB:=hid hb;have HF:=hid qV;clear hr hn h0 hb hR y6 hF iN ag qV;rcases Int.lt_or_le i 0 with hi|hi
  ·have h3:((0:Nat):Int)<(n:Int):=by omega
   obtain rfl:m=0:=by omega
   go_enter func77,ntmps77;go_wp2_with (go_at_call 22;refine hD.mono ?_;rintro e w' ⟨rfl,rfl⟩);go_end0
   rw[show(max i 0).toNat=0 by omega];exact⟨rfl,HE.out _ (HB.out.bJ 0 _) ((Touch.refl _ _).setCell (by simp) _),(Touch.refl _ _).setCell (.inl HF.out) _⟩
  ·obtain rfl:i=(m:Int):=by omega
   go_enter func77,ntmps77;go_wp2_with (go_at_call 22;refine hD.mono ?_;rintro e w' ⟨rfl,rfl⟩);go_end0
   exact⟨rfl,HE.out _ (HB.out.bJ 0 _) ((Touch.refl _ _).setCell (by simp) _),(Touch.refl _ _).setCell (.inl HF.out) _⟩
 ·rw[List.take_of_length_le ql];obtain⟨n,hn⟩:∃n,L.length=n:=⟨_,rfl⟩;rw[hn]at ql hD;have HE:=hid h0;clear hr h0 hb hR y6 hF iN qV;rcases Int.lt_or_le i 0 with hi|hi
  ·obtain rfl:m=0:=by omega
   obtain rfl:n=0:=by omega
   go_enter func77,ntmps77;go_wp2_with (go_at_call 22;refine hD.mono ?_;rintro e w' ⟨rfl,rfl⟩);go_end0
   exact⟨rfl,HE.out,Touch.refl _ _⟩
  ·obtain rfl:i=(m:Int):=by omega
   have DM:¬(m:Int)<(n:Int):=by omega
   go_enter func77,ntmps77;go_wp2_with (go_at_call 22;refine hD.mono ?_;rintro e w' ⟨rfl,rfl⟩);go_end0
   exact⟨rfl,HE.out,Touch.refl _ _⟩
end En
section
open Go.RowKit Go.Shelf
namespace En
attribute [local go_sem] Oper.semAt_some
def jR{α:Type}(f:Nat→α)(k:Nat):List α:=(List.range k).map f
theorem kY{α:Type}(f:Nat→α)(k:Nat):jR f (k+1)=jR f k++[f k]:=by simp[jR,List.range_succ]
theorem qG{α:Type}(f:Nat→α)(k:Nat):(jR f k).length=k:=by simp[jR]
abbrev Ix(len:Nat):=Fin (len-1+1)
def nth(len:Nat)(k:Nat):Ix len:=⟨len-1-k,by omega⟩
theorem Y1{n:Nat}{P:Program}{f:FuncId}{args:Array Value}{w:World}{R:Ending→World→Prop}(h:Calls P f args w R):CallsIn Fence.wide n P f args w R:=callsIn_wide.2 h
theorem Y2{n:Nat}{P:Program}{f:FuncId}{args:Array Value}{w:World}{R:Ending→World→Prop}(l:Nat)(h:Calls P f args w R):CallsIn (Fence.wide.inRound l) n P f args w R:=CallsIn.inRound l (Y1 h)
theorem Sj(n:Nat)(_hn:1≤n)(l Bs n₀ b g len cap:Nat)(a:Option Addr)(Sk:len≤1000000)(hb:b<n₀)(ha:len≠0→a=some ⟨g,0,none⟩)(J Jx:List (Ix len)→World→Prop)
 (hY:∀(pre:List (Ix len)) (x:Ix len) W,J pre W→pre.length<len→YieldAt Fence.wide (n-1) prog l #[.int .i64 (x.1:Int),.pointer (some ⟨g,x.1*6,none⟩)] W fun e W'=>
   (e=.returned (.bool true)∧J (pre++[x]) W'∧Below n₀ W W')∨(e=.returned (.bool false)∧Jx (pre++[x]) W'))
 (W:World) (Eg:Bs<n₀) (zb:W.cell? ⟨Bs,0,none⟩=some (.pointer (some ⟨b,0,none⟩))) (hc:W.cell? ⟨b,0,none⟩=some (.slice a len cap)) (h0:J [] W):
 CallsIn Fence.wide n prog 141 #[.func (.yield l) #[] #[],.pointer (some ⟨Bs,0,none⟩)] W fun e W'=>(∃v,e=.returned v)∧
  ((∃ys,ys=jR (nth len) len∧J ys W')∨(∃pre,(∃k,k≤len∧pre=jR (nth len) k)∧Jx pre W')):=by
 have hD:=Y1 (n:=n-1) (GU W b len cap a hc);refine callsIn_of_wp func141 rfl trivial ?_ rfl;simp only[ntmps141,List.size_toArray,List.length_cons,List.length_nil,Nat.reduceAdd,Nat.reduceSub,Array.replicate_succ,Array.replicate_zero,List.push_toArray,List.append_toArray,List.nil_append,List.cons_append];gi_wp2_with fail
 refine⟨trivial,hD.mono ?_⟩;rintro _ _ ⟨rfl,rfl⟩;clear hD;gi_wp2_with fail
 gi_loopw [3] (fun i wr=>∃k:Nat,k≤len∧i=.int .i64 ((len:Int)-1-k)∧J (jR (nth len) k) wr∧Below n₀ W wr)
  (fun i _=>(intOf i+1).toNat)
 case atStart=>exact⟨0,Nat.zero_le _,nW (by omega),h0,Below.refl _ _⟩
 case round=>
  obtain⟨k,hk,rfl,hJs,Gg⟩:=hrel;by_cases hlt:k<len
  ·obtain⟨m,hm⟩:∃m:Nat,m=len-1-k:=⟨_,rfl⟩;have hmi:(len:Int)-1-k=(m:Int):=by omega
   rw[hmi];obtain rfl:=ha (by omega);have abb:=(Gg.cell (p:=⟨b,0,none⟩) hb).trans hc;have abd:=(Gg.cell (p:=⟨Bs,0,none⟩) Eg).trans zb;have qo:m<len:=by omega
   have Ke:m<len-1+1:=by omega
   have he:nth len k=⟨m,Ke⟩:=by unfold nth;simp only[←hm]
   obtain⟨fn,tmps,assign,body,hy,hR⟩:=hY _ ⟨m,Ke⟩ wr hJs (by rw[qG];exact hlt);try dsimp only at hy
   clear hm;gi_wp2
   refine hR.mono ?_;rintro e W3 (⟨rfl,hJ3,hk3⟩|⟨rfl,Ek⟩)
   ·gi_wp2
    go_roundw
    case rel=>exact⟨k+1,by omega,nW (by omega),by rw[kY,he];exact hJ3,Gg.trans hk3⟩
    case measure=>simp only[intOf];omega
   ·gi_wp2
    refine bodyPost_ret (results_none rfl _ _ _) rfl ?_;exact⟨⟨_,rfl⟩,.inr ⟨_,⟨k+1,by omega,by rw[kY,he]⟩,Ek⟩⟩
  ·obtain rfl:k=len:=by omega
   rw[show(k:Int)-1-k= -1 by omega];gi_wp2
   go_end0
   exact⟨⟨_,rfl⟩,.inl ⟨_,rfl,hJs⟩⟩
theorem zK(n b:Nat)(w:World):
 CallsIn Fence.wide n prog 109 #[.pointer (some ⟨b,0,none⟩)] w fun e w'=>e=.returned (.func (.func 141) #[] #[.pointer (some ⟨w.heap.size,0,none⟩)])∧w'=w.alloc (.cells #[.pointer (some ⟨b,0,none⟩)] 41):=by
 refine callsIn_of_wp func109 rfl trivial ?_ rfl;simp only[ntmps109,List.size_toArray,List.length_cons,List.length_nil,Nat.reduceAdd,Nat.reduceSub,Array.replicate_succ,Array.replicate_zero,List.push_toArray,List.append_toArray,List.nil_append,List.cons_append];gi_wp2
 go_ret;exact⟨rfl,rfl⟩
theorem qH(n:Nat)(hn:1≤n)(Bs n₀ b g len cap:Nat)(a:Option Addr)(Sk:len≤1000000)(hb:b<n₀)(ha:len≠0→a=some ⟨g,0,none⟩)(w:World)(zb:Bs<n₀)(Y4:n₀≤w.heap.size)
 (hp:w.cell? ⟨Bs,0,none⟩=some (.pointer (some ⟨b,0,none⟩))) (hc:w.cell? ⟨b,0,none⟩=some (.slice a len cap)):
 SeqStopsK Fence.wide n prog 141 #[.pointer (some ⟨Bs,0,none⟩)] (fun x:Ix len=> #[Value.int .i64 (x.1:Int),.pointer (some ⟨g,x.1*6,none⟩)]) (Below n₀) (fun ys=>ys=jR (nth len) len)
  (fun pre=>∃k,k≤len∧pre=jR (nth len) k) len w:=fun l J Jx W hW _ _ hY h0=>
 Sj n hn l Bs n₀ b g len cap a Sk hb ha J Jx hY W zb ((hW.cell (p:=⟨Bs,0,none⟩) (Nat.lt_of_lt_of_le zb Y4)).trans hp) ((hW.cell (p:=⟨b,0,none⟩) (Nat.lt_of_lt_of_le hb Y4)).trans hc) h0
end En
end
section
open Go.RowKit Go.Shelf
namespace En
attribute [local go_sem] Oper.semAt_some
theorem _root_.Go.Proofs.YtdokeddjcpnmiaaGreatDoor.aF.pJ{A B:World}{row:Option Nat}{g:Nat}{t:TypeId}{cs:Array Value}(h:aF A g t cs)(hg:A.grownBy B row)(hr:∀r,row=some r→∃o:Obj,A.heap[r]? =some o∧o.isCells=false):aF B g t cs:=
 h.grown hg fun e=>by
  obtain⟨o,ho,hc⟩:=hr g e.symm;unfold aF at h;rw[h]at ho;cases ho;simp[Obj.isCells]at hc
theorem _root_.Go.Proofs.YtdokeddjcpnmiaaGreatDoor.Touch.Sl{W W':World}(h:Touch [] W W')(B:Nat):KeepsFrom B W W':=
 ⟨h.size,fun k o _ hk _=>(h.block k (Array.getElem?_eq_some_iff.1 hk).1 (by simp)).trans hk⟩
theorem dJ(B:Nat)(W:World):KeepsFrom B W W.drew:=(tR W).drew.Sl B
theorem DJ(w:World)(b g n cap:Nat)(a:Option Addr)(ks:Nat→Int)(hb:b<w.heap.size)(hc:w.cell? ⟨b,0,none⟩=some (.slice a n cap))(ha:n≠0→a=some ⟨g,0,none⟩)(hg:g<w.heap.size)(hn:n≤1000)
 (hk:∀i,i<n→w.cell? ⟨g,i*6,none⟩=some (.int .i64 (ks i))) (kind:Int) (R:Option Addr) (hR:R=if n≠0∧ks (n-1)=kind then some ⟨g,(n-1)*6,none⟩else none):
 Calls prog 108 #[.pointer (some ⟨b,0,none⟩),.int .i64 kind] w fun e w'=>e=.returned (.pointer R)∧Touch [] w w':=by
 suffices h:CallsIn Fence.wide 10 prog 108 #[.pointer (some ⟨b,0,none⟩),.int .i64 kind] w fun e w'=>e=.returned (.pointer R)∧Below w.heap.size w w' from
  (callsIn_wide.1 h).mono fun _ _ h=>⟨h.1,Touch.dh h.2 _⟩
 refine callsIn_of_wp_marks func108 rfl trivial ?_ rfl;simp only[ntmps108,List.size_toArray,List.length_cons,List.length_nil,Nat.reduceAdd,Nat.reduceSub,Array.replicate_succ,Array.replicate_zero,List.push_toArray,List.append_toArray,List.nil_append,List.cons_append];gi_wp2_with fail
 refine⟨trivial,(zK 9 b _).mono ?_⟩;rintro _ _ ⟨rfl,rfl⟩;have bK:aF (((w.alloc (.cells #[.int .i64 kind] 3)).alloc (.cells #[.pointer none] 161)).alloc (.cells #[.pointer (some ⟨b,0,none⟩)] 41)) w.heap.size 3 #[.int .i64 kind]:=((aF.new w _ _).alloc _).alloc _;have bP:aF (((w.alloc (.cells #[.int .i64 kind] 3)).alloc (.cells #[.pointer none] 161)).alloc (.cells #[.pointer (some ⟨b,0,none⟩)] 41)) (w.heap.size+1) 161 #[.pointer none]:=(aF.dG _ (by simp) _ _).alloc _;have bB:aF (((w.alloc (.cells #[.int .i64 kind] 3)).alloc (.cells #[.pointer none] 161)).alloc (.cells #[.pointer (some ⟨b,0,none⟩)] 41)) (w.heap.size+2) 41 #[.pointer (some ⟨b,0,none⟩)]:=aF.dG _ (by simp) _ _;have tw:=(((tR w).alloc (.cells #[.int .i64 kind] 3)).alloc (.cells #[.pointer none] 161)).alloc (.cells #[.pointer (some ⟨b,0,none⟩)] 41);have Kg:((w.alloc (.cells #[.int .i64 kind] 3)).alloc (.cells #[.pointer none] 161)).heap.size=w.heap.size+2:=by simp
 have hs0:(((w.alloc (.cells #[.int .i64 kind] 3)).alloc (.cells #[.pointer none] 161)).alloc (.cells #[.pointer (some ⟨b,0,none⟩)] 41)).heap.size=w.heap.size+3:=by simp
 rw[Kg];generalize hW0:((w.alloc (.cells #[.int .i64 kind] 3)).alloc (.cells #[.pointer none] 161)).alloc (.cells #[.pointer (some ⟨b,0,none⟩)] 41)=W0 at*;clear hW0 Kg;have ru:Below w.heap.size w W0:=tw.below (Nat.le_refl _) (by simp);have hc0:=(ru.cell (p:=⟨b,0,none⟩) hb).trans hc;gi_wp2_with fail
 refine wpIn_rangeFunc_ownG (F:=Fence.wide) rfl (by omega) (gf:=141) (lb:= #[.pointer (some ⟨w.heap.size+2,0,none⟩)]) rfl trivial (enters_of func141 (by kernel_rfl) rfl)
  (qH 9 (by omega) (w.heap.size+2) W0.heap.size b g n cap a (by omega) (by omega) ha W0 (by omega) (Nat.le_refl _) (bB.cell 0) hc0) belowK_t (belowK_b (Nat.le_refl _)) (Below.refl _ _) (fun _=>rfl)
  (fun pre W=>(pre=[]∧aF W w.heap.size 3 #[.int .i64 kind]∧aF W (w.heap.size+1) 161 #[.pointer none])∧Below w.heap.size w W)
  (fun c pre W=>(∃x,pre=[x]∧((c=.ret∧ks x.1=kind∧aF W (w.heap.size+1) 161 #[.pointer (some ⟨g,x.1*6,none⟩)])∨(c=.exit 0∧ks x.1≠kind∧aF W (w.heap.size+1) 161 #[.pointer none])))∧Below w.heap.size w W)
  (OwnFrom.and (Own.from (fun s A B row hs hg hr=>⟨hs.1,hs.2.1.pJ hg hr,hs.2.2.pJ hg hr⟩) _) (ownFrom_below (Nat.le_refl _) (by omega)))
  (fun c=>OwnFrom.and (Own.from (fun s A B row hs hg hr=>by obtain⟨x,e1,e2⟩:=hs;exact⟨x,e1,e2.imp (fun h=>⟨h.1,h.2.1,h.2.2.pJ hg hr⟩) (fun h=>⟨h.1,h.2.1,h.2.2.pJ hg hr⟩)⟩) _) (ownFrom_below (Nat.le_refl _) (by omega)))
  ⟨⟨rfl,bK,bP⟩,ru⟩
  (fun x=>{tmps:= #[.pointer (some ⟨b,0,none⟩),.int .i64 kind,undef,.pointer (some ⟨w.heap.size,0,none⟩),.pointer (some ⟨w.heap.size+1,0,none⟩),undef,.pointer (some ⟨g,x.1*6,none⟩),.pointer (some ⟨b,0,none⟩),.func (.func 141) #[] #[.pointer (some ⟨w.heap.size+2,0,none⟩)],.int .i64 (x.1:Int),.pointer (some ⟨g,x.1*6,none⟩),undef,undef,undef,undef,undef,undef,undef],defers:=[]}) ?assign ?body ?done ?stop
 case assign=>
  intro l x W K hK;gi_wp2
  exact hK
 case body=>
  rintro l pre x W ⟨⟨rfl,cK,cP⟩,hB⟩ hx;have hx1:x.1<n:=by have:=x.2;simp at hx;omega
  have k0:=cK.cell 0;have p0:=cP.frozen 0;have p1:=cP.cell 0;have kx:=(hB.cell (p:=⟨g,x.1*6,none⟩) hg).trans (hk x.1 hx1);have lj:=hB.size;by_cases hx:ks x.1=kind
  ·have NV:(ks x.1==kind)=true:=by simpa using hx
   gi_wp2_with fail
   gi_region_with (fail)
   all_goals gi_wp2_with fail
   all_goals
    have sN:KeepsFrom W0.heap.size W (W.setCell ⟨w.heap.size+1,0,none⟩ (.pointer (some ⟨g,x.1*6,none⟩))):=(KeepsOthers.setCell _ _ _).from _
    have sN:=sN.trans (dJ _ _);have yO:Below w.heap.size w (W.setCell ⟨w.heap.size+1,0,none⟩ (.pointer (some ⟨g,x.1*6,none⟩))).drew:=(((Touch.dh hB []).setCell (.inr (by simp)) _).drew).below (Nat.le_refl _) (by simp);exact⟨sN,⟨x,rfl,.inl ⟨rfl,hx,cP.bJ 0 _⟩⟩,yO⟩
  ·have NV:(ks x.1==kind)=false:=by simpa using hx
   gi_wp2_with fail
   gi_region_with (fail)
   all_goals gi_wp2_with fail
   all_goals
    have sN:=dJ W0.heap.size W;exact⟨sN,⟨x,rfl,.inr ⟨rfl,hx,cP⟩⟩,((Touch.dh hB []).drew).below (Nat.le_refl _) (by simp)⟩
 case done=>
  rintro D ys W hD rfl ⟨⟨hne,cK,cP⟩,hB⟩ hK;have Cq:n=0:=by
   rcases Nat.eq_zero_or_pos n with h|h
   ·exact h
   ·have:=congrArg List.length hne;rw[qG]at this;simp at this;omega
  rw[if_neg (fun h=>h.1 Cq)]at hR;subst hR;have p0:=cP.frozen 0;have p1:=cP.cell 0;have WW:=cP.lt;gi_wp2_with fail
  have bz:=cP.bJ 0 (.pointer none);have hK':=(KeepsOthers.setCell W ⟨w.heap.size+1,0,none⟩ (.pointer none)).same D _ hK rfl;refine⟨by simp,.inl ⟨_,_,rfl,run_takeDeferred hK',?_⟩⟩;have vO:=bz.grown (grownBy_putObj' _ D (.deferred none)) (by simp;omega);have q0:=vO.cell 0;refine⟨.pointer none,?_,rfl,?_⟩
  ·simp[results,Tryz.f108,go_sem,q0]
  ·have u1:Touch [] w W:=Touch.dh hB [];exact((u1.setCell (.inr (by simp)) _).below (Nat.le_refl _) (by simp)).trans (belowK_b (w:=w) (Nat.le_refl _) _ D _ _ (by omega) hK' rfl rfl)
 case stop=>
  rintro D c pre W hD ⟨k,hk,rfl⟩ ⟨⟨x,e1,e2⟩,hB⟩ hK;obtain rfl:k=1:=by have:=congrArg List.length e1;rw[qG]at this;simpa using this
  obtain rfl:nth n 0=x:=by
   rw[show(1:Nat)=0+1 from rfl,kY]at e1;simpa[jR]using e1
  have e0:(nth n 0).1=n-1:=rfl;rw[e0]at e2;rcases e2 with⟨rfl,e3,cP⟩|⟨rfl,e3,cP⟩
  ·rw[if_pos ⟨by omega,e3⟩]at hR;subst hR;gi_wp2_with fail
   refine⟨by simp,.inl ⟨_,_,rfl,run_takeDeferred hK,?_⟩⟩;have WW:=cP.lt;have vO:=cP.grown (grownBy_putObj' _ D (.deferred none)) (by simp;omega);have q0:=vO.cell 0;refine⟨.pointer (some ⟨g,(n-1)*6,none⟩),?_,rfl,?_⟩
   ·simp[results,Tryz.f108,go_sem,q0]
   ·exact hB.trans (belowK_b (w:=w) (Nat.le_refl _) W D _ _ (by omega) hK rfl rfl)
  ·rw[if_neg (fun h=>e3 h.2)]at hR;subst hR;have p0:=cP.frozen 0;have p1:=cP.cell 0;have WW:=cP.lt;gi_wp2_with fail
   have bz:=cP.bJ 0 (.pointer none);have hK':=(KeepsOthers.setCell W ⟨w.heap.size+1,0,none⟩ (.pointer none)).same D _ hK rfl;refine⟨by simp,.inl ⟨_,_,rfl,run_takeDeferred hK',?_⟩⟩;have vO:=bz.grown (grownBy_putObj' _ D (.deferred none)) (by simp;omega);have q0:=vO.cell 0;refine⟨.pointer none,?_,rfl,?_⟩
   ·simp[results,Tryz.f108,go_sem,q0]
   ·have u1:Touch [] w W:=Touch.dh hB [];exact((u1.setCell (.inr (by simp)) _).below (Nat.le_refl _) (by simp)).trans (belowK_b (w:=w) (Nat.le_refl _) _ D _ _ (by omega) hK' rfl rfl)
end En
end
section
open Go.RowKit Go.Shelf
namespace En
theorem je(Q:List Fr)(f:Fr):aU (Q++[f])=f:=by simp[aU]
theorem aP.parts{w:World}{b:Nat}{F:List Nat}{L:List Fr}(h:aP w b F L):∃g cap a,w.cell? ⟨b,0,none⟩=some (.slice a L.length cap)∧(L.length≠0→a=some ⟨g,0,none⟩)∧g<w.heap.size∧b<w.heap.size∧
 (∀i,i<L.length→w.cell? ⟨g,i*6,none⟩=some (.int .i64 (L.getD i .none).k))∧(L.length≠0→∃Q,kN w b (.slice (some ⟨g,0,none⟩) L.length cap) Q∧L=Q.map (·.f)∧b∈F∧g∈F∧(∀x∈eP Q,x∈F)):=by
 obtain⟨v,Q,hR,rfl,hF,hl⟩:=h;rw[List.length_map];have hr:=hR.row;rcases Go.Joins.ownsRow_forms hr with⟨rfl,h0⟩|⟨g,cap,rfl⟩
 ·have c0:=hR.blk.cell 0;rw[h0];exact⟨b,0,none,c0,fun h=>absurd rfl h,hR.blk.lt,hR.blk.lt,fun i hi=>absurd hi (Nat.not_lt_zero _),fun h=>absurd rfl h⟩
 ·refine⟨g,cap,some ⟨g,0,none⟩,hR.blk.cell 0,fun _=>rfl,fG hr (by simp[rowOf]),hR.blk.lt,fun i hi=> ?_,fun _=>⟨Q,hR,rfl,hF b (by simp),hF g (by simp[rowOf]),fun x hx=>hF x (by simp[hx])⟩⟩;have h1:=(oz hr (List.getElem?_eq_getElem hi)).1;rw[h1,List.getD_eq_getElem?_getD,List.getElem?_map,List.getElem?_eq_getElem hi];rfl
theorem Sm(w:World)(b:Nat)(F:List Nat)(Q:List Fr)(f:Fr)(h:aP w b F (Q++[f]))(hQ:Q.length<1000){g cap:Nat}(hc:w.cell? ⟨b,0,none⟩=some (.slice (some ⟨g,0,none⟩) (Q.length+1) cap)):
 Calls prog 108 #[.pointer (some ⟨b,0,none⟩),.int .i64 f.k] w fun e w'=>e=.returned (.pointer (some ⟨g,Q.length*6,none⟩))∧Touch [] w w':=by
 have hlen:(Q++[f]).length=Q.length+1:=by simp
 obtain⟨g',cap',a,c0,ha,hg,hb,hk,_⟩:=h.parts;rw[hlen]at c0 ha hk;obtain rfl:=ha (by omega);rw[hc]at c0;injection c0 with c0;injection c0 with e1 e2 e3;injection e1 with e1;injection e1 with e1;subst e1 e3;refine DJ w b g (Q.length+1) cap _ (fun i=>((Q++[f]).getD i .none).k) hb hc (fun _=>rfl) hg (by omega) hk f.k _ ?_;rw[if_pos ⟨by omega,by simp[List.getD_eq_getElem?_getD]⟩];rfl
theorem Y5(w:World)(b:Nat)(F:List Nat)(L:List Fr)(h:aP w b F L)(hL:L.length≤1000)(kind:Int)(hk:L=[]∨(aU L).k≠kind):
 Calls prog 108 #[.pointer (some ⟨b,0,none⟩),.int .i64 kind] w fun e w'=>e=.returned (.pointer none)∧Touch [] w w':=by
 obtain⟨g',cap',a,c0,ha,hg,hb,sN,_⟩:=h.parts;refine DJ w b g' L.length cap' a (fun i=>(L.getD i .none).k) hb c0 ha hg hL sN kind _ ?_;rw[if_neg];rintro⟨h1,h2⟩;rcases hk with rfl|hk
 ·exact h1 rfl
 ·refine hk ?_;rw[←h2];obtain⟨Q,f,rfl⟩:∃Q f,L=Q++[f]:=⟨L.dropLast,L.getLast (by intro e;rw[e]at h1;exact h1 rfl),(List.dropLast_concat_getLast (by intro e;rw[e]at h1;exact h1 rfl)).symm⟩;rw[je];simp[List.getD_eq_getElem?_getD]
theorem MI(w:World)(b:Nat)(F:List Nat)(L:List Fr)(h:aP w b F L)(hL:L.length≤1000)(kind:Int)(hk:L=[]∨(aU L).k≠kind):
 Calls prog 72 #[.pointer (some ⟨b,0,none⟩),.int .i64 kind] w fun e w'=>e=.returned (.tuple #[.agg (uJ Fr.none),.int .i64 (-6)])∧Touch [] w w':=by
 have tw:=(tR w).alloc (.cells #[.int .i64 0,.int .i64 0,.int .i64 0,.int .i64 0,.int .i64 0,.slice none 0 0] 45);have hU:=Y5 _ b F L (h.touch tw (by simp)) hL kind hk;have bR:=aF.new w 45 #[.int .i64 0,.int .i64 0,.int .i64 0,.int .i64 0,.int .i64 0,.slice none 0 0];clear h;unfold uJ Fr.none;go_enter func72,ntmps72;go_wp2_with fail;refine hU.mono ?_;rintro _ w2 ⟨rfl,t2⟩;have NS:=tw.trans t2 (by simp);have mJ:=bR.touch t2 (by simp);clear hU bR tw t2;obtain⟨z,hz⟩:∃z,w.heap.size=z:=⟨_,rfl⟩;rw[hz]at mJ⊢;have f0:=mJ.frozen 0;have f1:=mJ.frozen 1;have f2:=mJ.frozen 2;have f3:=mJ.frozen 3;have f4:=mJ.frozen 4;have f5:=mJ.frozen 5;have c0:=mJ.cell 0;have c1:=mJ.cell 1;have c2:=mJ.cell 2;have c3:=mJ.cell 3;have c4:=mJ.cell 4;have c5:=mJ.cell 5;go_wp2_with fail;have bS:=nZ mJ (.int .i64 0) (.int .i64 0) (.int .i64 0) (.int .i64 0) (.int .i64 0) (.slice none 0 0);have r0:=bS.cell 0;have r1:=bS.cell 1;have r2:=bS.cell 2;have r3:=bS.cell 3;have r4:=bS.cell 4;have r5:=bS.cell 5;refine bodyPost_ret (by simp[results,results72,go_sem,r0,r1,r2,r3,r4,r5];try rfl) rfl ?_;exact⟨rfl,gB NS (.inr (by omega)) _ _ _ _ _ _⟩
theorem GV(w:World)(b:Nat)(F:List Nat)(Q:List Fr)(f:Fr)(h:aP w b F (Q++[f]))(hQ:Q.length<1000):
 Calls prog 72 #[.pointer (some ⟨b,0,none⟩),.int .i64 f.k] w fun e w'=>(∃v',e=.returned (.tuple #[.agg #[.int .i64 f.k,.int .i64 f.a,.int .i64 f.b,.int .i64 f.x,.int .i64 f.y,v'],.int .i64 0])∧(∃a n c,v'=.slice a n c)∧(f.k≠4→v'=.slice none 0 0))∧aP w' b F Q∧Touch F w w':=by
 have tw:=(tR w).alloc (.cells #[.int .i64 0,.int .i64 0,.int .i64 0,.int .i64 0,.int .i64 0,.slice none 0 0] 45);have hA:=h.touch tw (by simp);have bR:=aF.new w 45 #[.int .i64 0,.int .i64 0,.int .i64 0,.int .i64 0,.int .i64 0,.slice none 0 0];obtain⟨z,hz⟩:∃z,w.heap.size=z:=⟨_,rfl⟩;rw[hz]at bR;have Ex:∀x∈F,x<z:=fun x hx=>hz▸h.lt x hx;generalize Gf:w.alloc (.cells #[.int .i64 0,.int .i64 0,.int .i64 0,.int .i64 0,.int .i64 0,.slice none 0 0] 45)=wA at*;have hlen:(Q++[f]).length=Q.length+1:=by simp
 obtain⟨g,cap,a,c0,ha,hg,yO,hk,uD⟩:=hA.parts;rw[hlen]at c0 ha hk uD;obtain rfl:=ha (by omega);obtain⟨R,hR,WX,_,_,_⟩:=uD (by omega);obtain⟨R0,q,rfl,V7,WY⟩:=EN WX;have hb:=hR.blk;have hr:=hR.row;have hq:=hR.ok q (by simp);have hU:=Sm wA b F Q f hA hQ c0;obtain⟨n,hn⟩:∃n,Q.length=n:=⟨_,rfl⟩;have Cq:R0.length=n:=by rw[←hn,V7,List.length_map]
 have qF:(R0++[q])[n]? =some q:=by rw[←Cq];simp
 have QY:(Q++[f]).take n=Q:=by rw[←hn];simp
 rw[show(R0++[q]).length=n+1 by simp[Cq]]at hr;rw[hn]at hr hb c0 hU hQ;obtain⟨qf,qv⟩:=q;dsimp only at WY
 subst WY;obtain⟨fa,fc,hqv⟩:∃a c,qv=.slice a qf.l.length c:=hq.form;subst hqv;obtain⟨fl,Jy⟩:∃fl,qf.l.length=fl:=⟨_,rfl⟩;rw[Jy]at hq hr qF;have fK:=hid (fun W (t:Touch [] wA W)=>R9 (hq.touch t (by simp)));have hw:IntKind.i64.wrap (n:Int)=(n:Int):=by rw[IntKind.wrap_i64];omega
 have HAA:=hid hA;have V8:=hid hr;have HT:=hid QY;have HG:=hid qF;have HL:=hid hlen;have HN:=hid hn;have HB:=hid hb;clear h hA hk uD ha hr qF QY hlen hn c0 hb hq hR WX V7 Cq Jy;generalize qf=f at*;go_enter func72,ntmps72;go_upto_region 1 with(fail);go_wp2_with fail;refine hU.mono ?_;rintro _ w2 ⟨rfl,t2⟩;have NS:=tw.trans t2 (by simp);have mJ:=bR.touch t2 (by simp);have H2:=hid (HAA.out.touch t2 (by simp));obtain⟨e0,e1,e2,e3,e4,e5⟩:=oz (aj V8.out t2 (by simp)) HG.out;dsimp only at e0 e1 e2 e3 e4 e5
 have Ob:=hid t2;clear hU bR;go_upto_region 6 with(fail);go_upto_region 7 with(go_at_call 42;refine(fK.out _ Ob.out).mono ?_;rintro _ w3 ⟨v3,rfl,zg,_,t3⟩;obtain⟨qa,qc,rfl⟩:∃a c,v3=.slice a f.l.length c:=zg.form;obtain⟨ln,qm⟩:∃ln,f.l.length=ln:=⟨_,rfl⟩;rw[qm]at zg;rw[qm];have HO:=hid (show f.k≠4→Value.slice qa ln qc=.slice none 0 0 from fun h=>(zg.1 h).2);clear zg qm);have pH:=NS.trans t3 (by simp);have H3:=hid (H2.out.touch t3 (by simp));have EE:=mJ.touch t3 (by simp);have hz3:z<w3.heap.size:=EE.lt;have EQ:w.heap.size≤w3.heap.size:=pH.size;obtain⟨y,hy⟩:∃y,w3.heap.size=y:=⟨_,rfl⟩;rw[hy]at hz3 EQ⊢;have bY6:=aF.dG (n:=y) w3 hy 45 #[.int .i64 f.k,.int .i64 f.a,.int .i64 f.b,.int .i64 f.x,.int .i64 f.y,.slice qa ln qc];have t36:=(tR w3).alloc (.cells #[.int .i64 f.k,.int .i64 f.a,.int .i64 f.b,.int .i64 f.x,.int .i64 f.y,.slice qa ln qc] 45);have c4:=(((HB.out.touch t2 (by simp)).touch t3 (by simp)).touch t36 (by simp)).cell 0;generalize w3.alloc (.cells #[.int .i64 f.k,.int .i64 f.a,.int .i64 f.b,.int .i64 f.x,.int .i64 f.y,.slice qa ln qc] 45)=w4 at*;have tw4:=pH.trans t36 (by simp);have H4:=hid (H3.out.touch t36 (by simp));have bR4:=EE.touch t36 (by simp);have hC:=vN w4 b F _ H4.out (by rw[HL.out,HN.out];omega) n;rw[show((n:Int)).toNat=n by omega,HT.out]at hC;clear e0 e1 e2 e3 e4 e5 mJ EE t3 t2 t36 fK;go_upto_region 8 with(go_at_call 77;refine hC.mono ?_;rintro _ w5 ⟨rfl,h5,t5⟩);have xO:=bR4.touch t5 (fun hz'=>by have:=Ex _ hz';omega);have ll:=bY6.touch t5 (fun hz'=>by have:=Ex _ hz';omega);have k0:=ll.cell 0;have k1:=ll.cell 1;have k2:=ll.cell 2;have k3:=ll.cell 3;have k4:=ll.cell 4;have k5:=ll.cell 5;have f0:=xO.frozen 0;have f1:=xO.frozen 1;have f2:=xO.frozen 2;have f3:=xO.frozen 3;have f4:=xO.frozen 4;have f5:=xO.frozen 5;have j0:=xO.cell 0;have j1:=xO.cell 1;have j2:=xO.cell 2;have j3:=xO.cell 3;have j4:=xO.cell 4;have j5:=xO.cell 5;go_wp2_with fail;have bS:=nZ xO (.int .i64 f.k) (.int .i64 f.a) (.int .i64 f.b) (.int .i64 f.x) (.int .i64 f.y) (.slice qa ln qc);have r0:=bS.cell 0;have r1:=bS.cell 1;have r2:=bS.cell 2;have r3:=bS.cell 3;have r4:=bS.cell 4;have r5:=bS.cell 5;refine bodyPost_ret (by simp[results,results72,go_sem,r0,r1,r2,r3,r4,r5];try rfl) rfl ?_;have t6:=gB (Touch.refl [z] w5) (b:=z) (.inl (by simp)) (.int .i64 f.k) (.int .i64 f.a) (.int .i64 f.b) (.int .i64 f.x) (.int .i64 f.y) (.slice qa ln qc);refine⟨⟨_,rfl,⟨_,_,_,rfl⟩,HO.out⟩,h5.touch t6 (fun x hx hxz=>by have:=Ex x hx;simp at hxz;omega),?_⟩;exact gB ((tw4.mono (G:=F) (by simp)).trans t5 (fun x hx=>.inl hx)) (.inr (by omega)) _ _ _ _ _ _
theorem GX(w:World)(b:Nat)(F:List Nat)(Q:List Fr)(f:Fr)(h:aP w b F (Q++[f]))(hQ:Q.length<1000)(hk:f.k≠4):
 Calls prog 72 #[.pointer (some ⟨b,0,none⟩),.int .i64 f.k] w fun e w'=>e=.returned (.tuple #[.agg (uJ f),.int .i64 0])∧aP w' b F Q∧Touch F w w':=by
 refine(GV w b F Q f h hQ).mono ?_;rintro _ w' ⟨⟨v',rfl,_,hv⟩,h2,h3⟩;rw[hv hk];exact⟨rfl,h2,h3⟩
end En
end
section
open Go.RowKit Go.Shelf
namespace En
theorem Sn{w:World}{g cap n:Nat}{Q:List Fq}{f:Fr}{v:Value}(hn:Q.length=n)(h:w.ownsRow 0 45 6 (.slice (some ⟨g,0,none⟩) (n+1) cap) (n+1) ((Q++[Fq.mk f v]).flatMap dO))(x:Int):
 (w.setCell ⟨g,n*6+3,none⟩ (.int .i64 x)).ownsRow 0 45 6 (.slice (some ⟨g,0,none⟩) (n+1) cap) (n+1) ((Q++[Fq.mk {f with x:=x} v]).flatMap dO):=by
 subst hn;have hl:=xM Q;obtain⟨h1,h2⟩:=h;rcases h2 with⟨h0,_⟩|⟨g',cap',cur,hv,hg,hh,Mf,oJ,hsz,qU⟩
 ·cases h0
 ·cases hv;have hb:aF w g 45 cur:=hh;refine⟨by rw[xM];simp,.inr ⟨g,cap,cur.setIfInBounds (Q.length*6+3) (.int .i64 x),rfl,hg,hb.bJ (Q.length*6+3) _,Mf,oJ,by rw[Array.size_setIfInBounds];exact hsz,?_⟩⟩;rw[Array.toList_setIfInBounds,List.take_set,qU,List.flatMap_append,List.flatMap_append,List.set_append_right _ _ (by omega),hl,show Q.length*6+3-Q.length*6=3 by omega];rfl
theorem Sr{w:World}{b g cap n:Nat}{R0:List Fq}{f:Fr}{v:Value}{F:List Nat}(hR:kN w b (.slice (some ⟨g,0,none⟩) (n+1) cap) (R0++[⟨f,v⟩]))(hn:R0.length=n)(hF:∀x,x∈b::(rowOf (.slice (some ⟨g,0,none⟩) (n+1) cap)++eP (R0++[⟨f,v⟩]))→x∈F)(hl:∀x∈F,x<w.heap.size)(x:Int):
 aP (w.setCell ⟨g,n*6+3,none⟩ (.int .i64 x)) b F (R0.map (·.f)++[{f with x:=x}]):=by
 have t:Touch [g] w (w.setCell ⟨g,n*6+3,none⟩ (.int .i64 x)):=(Touch.refl [g] w).setCell (by simp) _;have hbg:b≠g:=fun e=>hR.Mw (by simp[rowOf,e]);have Rc:eP (R0++[⟨{f with x:=x},v⟩])=eP (R0++[⟨f,v⟩]):=by simp[eP]
 have hlen:(R0++[(⟨{f with x:=x},v⟩:Fq)]).length=n+1:=by simp[hn]
 have hr:=hR.row;rw[show(R0++[(⟨f,v⟩:Fq)]).length=n+1 by simp[hn]]at hr;refine⟨.slice (some ⟨g,0,none⟩) (n+1) cap,R0++[⟨{f with x:=x},v⟩],⟨hR.blk.far hbg _,?_,?_,?_⟩,by simp,?_,fun y hy=>Nat.lt_of_lt_of_le (hl y hy) t.size⟩
 ·rw[hlen];exact Sn hn hr x
 ·have key:∀q:Fq,q∈R0++[⟨f,v⟩]→q.ok (w.setCell ⟨g,n*6+3,none⟩ (.int .i64 x)):=fun q hq=>(hR.ok q hq).touch t (fun y hy pL=>by
   rw[List.mem_singleton.1 pL]at hy;exact hR.zJ g (by simp[rowOf]) (jP.2 ⟨q,hq,hy⟩))
  intro q hq;rcases List.mem_append.1 hq with hq|hq
  ·exact key q (List.mem_append_left _ hq)
  ·rw[List.mem_singleton.1 hq];exact key ⟨f,v⟩ (by simp)
 ·rw[Rc];exact hR.nd
 ·rw[Rc];exact hF
theorem Sv(w:World)(b:Nat)(F:List Nat)(L:List Fr)(h:aP w b F L)(hL:L.length≤1000)(nU:Int)(hk:L=[]∨(aU L).k≠3):
 Calls prog 111 #[.pointer (some ⟨b,0,none⟩),.int .i64 nU] w fun e w'=>e=.returned (.tuple #[.bool false,.int .i64 (-26)])∧Touch [] w w':=by
 have hU:=Y5 _ b F L h hL 3 hk;clear h;go_enter func111,ntmps111;go_wp2_with fail;refine hU.mono ?_;rintro _ w2 ⟨rfl,t2⟩;go_wp2_with fail;go_ret2;exact⟨rfl,t2⟩
theorem Oc(w:World)(b:Nat)(F:List Nat)(Q:List Fr)(f:Fr)(h:aP w b F (Q++[f]))(hQ:Q.length<1000)(hf:f.k=3)(nU:Int)(p q r:Bool)(hp:p=decide (wrap64 (f.x-f.y)<0))(hq:q=decide (nU≥0))(hr:r=decide (wrap64 (wrap64 (f.x-f.y)+nU)<0))(res:Bool)(hres:res=((p==q)&&(p != r)))(L':List Fr)(E0:L'=if res=true then Q else Q++[{f with x:=wrap64 (f.x+nU)}]):
 Calls prog 111 #[.pointer (some ⟨b,0,none⟩),.int .i64 nU] w fun e w'=>e=.returned (.tuple #[.bool res,.int .i64 0])∧aP w' b F L'∧Touch F w w':=by
 have hlen:(Q++[f]).length=Q.length+1:=by simp
 obtain⟨lf,E1⟩:∃lf,wrap64 (f.x-f.y)=lf:=⟨_,rfl⟩;obtain⟨nx,Gg⟩:∃nx,wrap64 (f.x+nU)=nx:=⟨_,rfl⟩;rw[E1]at hp hr;obtain⟨sm,hsm⟩:∃sm,wrap64 (lf+nU)=sm:=⟨_,rfl⟩;rw[hsm]at hr;rw[Gg]at E0;have el:IntKind.i64.wrap (f.x-f.y)=lf:=by rw[←E1,IntKind.wrap_i64];unfold wrap64;omega
 have en:IntKind.i64.wrap (f.x+nU)=nx:=by rw[←Gg,IntKind.wrap_i64];unfold wrap64;omega
 have es:IntKind.i64.wrap (lf+nU)=sm:=by rw[←hsm,IntKind.wrap_i64];unfold wrap64;omega
 clear E1 Gg hsm;obtain⟨g,cap,a,c0,ha,hg,yO,hk,uD⟩:=h.parts;rw[hlen]at c0 ha hk uD;obtain rfl:=ha (by omega);obtain⟨R,hR,WX,qV,pM,Rg⟩:=uD (by omega);obtain⟨R0,q,rfl,V7,WY⟩:=EN WX;obtain⟨qf,qv⟩:=q;dsimp only at WY
 subst WY;have hU:=Sm w b F Q qf h hQ c0;rw[hf]at hU;have hb:=hR.blk;have jk:=hR.row;obtain⟨n,hn⟩:∃n,Q.length=n:=⟨_,rfl⟩;have Cq:R0.length=n:=by rw[←hn,V7,List.length_map]
 rw[show(R0++[(⟨qf,qv⟩:Fq)]).length=n+1 by simp[Cq]]at jk;have iN:=h.lt;rw[hn]at hR hb c0 hU hQ hlen jk;have HE:=hid (fun(W:World) (t:Touch [] w W)=>(by
  have h1:=Sr (F:=F) (hR.touch t (by simp)) Cq (fun x hx=>by
   rcases List.mem_cons.1 hx with hx|hx
   ·rw[hx];exact qV
   ·rcases List.mem_append.1 hx with hx|hx
    ·simp[rowOf]at hx;rw[hx];exact pM
    ·exact Rg x hx) (fun x hx=>Nat.lt_of_lt_of_le (iN x hx) t.size) nx
  rw[←V7]at h1;exact h1:aP (W.setCell ⟨g,n*6+3,none⟩ (.int .i64 (nx))) b F (Q++[{qf with x:=nx}])))
 have HT:=hid (fun(W:World) (t:Touch [] w W)=>((t.mono (G:=F) (by simp)).setCell (p:=⟨g,n*6+3,none⟩) (.inl pM) (.int .i64 (nx))));have QY:∀u:Fr,(Q++[u]).take n=Q:=fun u=>by rw[←hn];simp
 have qF:(R0++[(⟨qf,qv⟩:Fq)])[n]? =some ⟨qf,qv⟩:=by rw[←Cq];simp
 have hq:=hR.ok ⟨qf,qv⟩ (by simp);generalize qf=f at*;have hw:IntKind.i64.wrap (n:Int)=(n:Int):=by rw[IntKind.wrap_i64];omega
 have V8:=hid jk;have HK:=hid QY;have HG:=hid qF;have HB:=hid hb;have HN:=hid hn;clear hk uD ha jk qF QY hlen hn c0 hb h yO hg hf hR V7 Cq WX iN qV pM Rg hq;go_enter func111,ntmps111;go_upto_region 1 with(fail);go_wp2_with fail;refine hU.mono ?_;rintro _ w2 ⟨rfl,t2⟩;obtain⟨e0,e1,e2,e3,e4,e5⟩:=oz (aj V8.out t2 (by simp)) HG.out;have fz:w2.frozen? ⟨g,n*6+3,none⟩=false:=by
  obtain⟨cur,E2⟩:∃cur,aF w2 g 45 cur:=by
   rcases(aj V8.out t2 (by simp)).2 with⟨h0,_⟩|⟨g',cap',cur,hv,_,hh,_⟩
   ·cases h0
   ·cases hv;exact⟨cur,hh⟩
  exact E2.frozen _
 have RM:=hid (fun k=>HE.out (w2.drewN k) (t2.drewN k));have Ob:=hid (fun k=>HT.out (w2.drewN k) (t2.drewN k));have c0:=(HB.out.touch t2 (by simp)).cell 0;have hC:=hid (fun k=>vN _ b F _ (RM.out k) (by rw[List.length_append,HN.out];simp;omega) n);go_upto_region 6 with(fail);go_quiet (fail)
 have h1:=hp.symm;have h2:=hq.symm;have h3:=hr.symm;clear hp hq hr;have htn:((n:Int)).toNat=n:=by omega
 have HL':=hid E0;clear E0;cases p<;>cases q<;>cases r
 all_goals simp only[decide_eq_true_eq,decide_eq_false_iff_not]at h1 h2 h3
 all_goals simp at hres
 all_goals subst hres
 all_goals go_wp2_with (go_at_call 77;refine(hC.out _).mono ?_;rintro _ w5 ⟨rfl,h5,t5⟩)
 all_goals go_ret2
 all_goals have RR:=HL'.out
 all_goals simp at RR
 all_goals subst RR
 all_goals first
  |(refine⟨rfl,?_,Ob.out _⟩;exact RM.out _)
  |(rw[htn,HK.out]at h5;exact⟨rfl,h5,(Ob.out _).trans t5 (fun x hx=>.inl hx)⟩)
end En
end
end Go.Proofs.YtdokeddjcpnmiaaGreatDoor
