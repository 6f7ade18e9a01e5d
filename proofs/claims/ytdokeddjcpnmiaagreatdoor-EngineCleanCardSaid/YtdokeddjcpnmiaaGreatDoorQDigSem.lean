/- Of EngineClean: DigSem. -/
import Derived.Test.YtdokeddjcpnmiaaGreatDoorQDigT
set_option maxRecDepth 100000
set_option maxHeartbeats 200000
namespace Go.Proofs.YtdokeddjcpnmiaaGreatDoor
open Go.RowKit Go.Proofs.Tryz
def Jq(all:Bool)(l:List Int)(S:PS):(List Int×Int)×PS:=
 if¬(2≤S.base∧S.base≤36)then(([l.getD 0 0,l.getD 1 0],-40),S)
 else if all=true then
  if S.made.length+(oU S.base.toNat (kG (l.getD 0 0,l.getD 1 0))).length≤200 then(([0,0],0),{S with made:=S.made++oU S.base.toNat (kG (l.getD 0 0,l.getD 1 0))})
  else(([pl (kG (l.getD 0 0,l.getD 1 0) / S.base.toNat^(200-S.made.length+1)),ph (kG (l.getD 0 0,l.getD 1 0) / S.base.toNat^(200-S.made.length+1))],-17),S)
 else if S.made.length<200 then(([pl (kG (l.getD 0 0,l.getD 1 0) / S.base.toNat),ph (kG (l.getD 0 0,l.getD 1 0) / S.base.toNat)],0),{S with made:=S.made++[(((ng (kG (l.getD 0 0,l.getD 1 0)%S.base.toNat)).toNat:Nat):Int)]})
 else(([pl (kG (l.getD 0 0,l.getD 1 0) / S.base.toNat),ph (kG (l.getD 0 0,l.getD 1 0) / S.base.toNat)],-17),S)
theorem YO(W:World)(s g1 g2 ad c:Nat)(all:Bool)(x y:Int)(hx:au x)(hy:au y)(F:List Nat)(S:PS)(hS:aC W s F S)(bW:S.ok)
 (hg1:g1∉F) (hg2:g2∉F) (b1:aF W g1 37 #[.pointer (some ⟨s,0,none⟩)]) (b2:aF W g2 4 #[.bool all]) (h0:W.cell? ⟨ad,0,none⟩=some (.int .i64 x)) (h1:W.cell? ⟨ad,1,none⟩=some (.int .i64 y)):
 Calls prog 295 #[.slice (some ⟨ad,0,none⟩) 2 c,.pointer (some ⟨g1,0,none⟩),.pointer (some ⟨g2,0,none⟩)] W (aR W s F S (Jq all [x,y] S)):=by
 have hn:=FJ (x,y);have e0:pl (kG (x,y))=x:=M8 (x,y) hx;have e1:ph (kG (x,y))=y:=M9 (x,y) hy;have hm:S.made.length≤200:=bW.2.1;unfold Jq;simp only[List.getD_cons_zero,List.getD_cons_succ];by_cases hb:2≤S.base∧S.base≤36
 ·rw[if_neg (fun h=>h hb)];have hB:S.base=(S.base.toNat:Int):=by omega
  generalize S.base.toNat=B at hB⊢;generalize kG (x,y)=n at hn e0 e1⊢;have V9:W.cell? ⟨ad,0,none⟩=some (.int .i64 (pl n)):=by rw[e0];exact h0
  have cg:W.cell? ⟨ad,1,none⟩=some (.int .i64 (ph n)):=by rw[e1];exact h1
  cases all with
  |true=>
   rw[if_pos rfl];by_cases hr:S.made.length+(oU B n).length≤200
   ·rw[if_pos hr];exact IX W s g1 g2 ad c n B F S hS bW hB (by omega) (by omega) hn hr hg1 hg2 b1 b2 V9 cg
   ·rw[if_neg hr];exact sj W s g1 g2 ad c true n B F S hS bW hB (by omega) (by omega) hn _ (.inr (.inr ⟨rfl,by omega,200-S.made.length,by omega,rfl⟩)) hg1 hg2 b1 b2 V9 cg
  |false=>
   rw[if_neg (by simp)];by_cases hr:S.made.length<200
   ·rw[if_pos hr];exact sj W s g1 g2 ad c false n B F S hS bW hB (by omega) (by omega) hn _ (.inl ⟨rfl,hr,rfl⟩) hg1 hg2 b1 b2 V9 cg
   ·rw[if_neg hr];exact sj W s g1 g2 ad c false n B F S hS bW hB (by omega) (by omega) hn _ (.inr (.inl ⟨rfl,hr,rfl⟩)) hg1 hg2 b1 b2 V9 cg
 ·rw[if_pos hb];exact L9 W s g1 g2 ad c all x y F S hS bW hb hg1 hg2 b1 b2 h0 h1
theorem Nq(op:Int)(all:Bool)(h1:fE op=0)(h2:eD op=0)(hP:∀B b s v W,qC B b s (iH op) v W→iR B s all v W):cu op 2 (fun l _=>iX l) (Jq all):=by
 intro W B' s F S t f first cap l lv bW hS hF eO;obtain⟨b,C,hC,hb,hA,hB⟩:=dQ eO h1 h2;obtain⟨g1,g2,k1,k2,b1,b2,e⟩:=hP _ _ _ _ _ hA;injection e with e;injection e with e;injection e with e1 e;injection e1 with _ e1;injection e with e2 _;injection e2 with e2 e3 e4;injection e2 with e2;subst e1 e2 e3 e4;refine⟨rfl,enters_of func295 (by kernel_rfl) rfl,fun hl bG hc=>aR.post ?_⟩;obtain⟨ad,c,x,y,rfl,rfl,cx,cy⟩:=hc.two hl;exact YO W s g1 g2 ad c all x y (bG x (by simp)) (bG y (by simp)) F S hS bW (fun hm=>by have:=hF _ hm;omega) (fun hm=>by have:=hF _ hm;omega) b1 b2 cx cy
end Go.Proofs.YtdokeddjcpnmiaaGreatDoor
