/- Of EngineClean: NumsA SaysT SaysT2. -/
import Derived.Test.YtdokeddjcpnmiaaGreatDoorQPairOps
set_option maxRecDepth 100000
set_option maxHeartbeats 1000000
namespace Go.Proofs.YtdokeddjcpnmiaaGreatDoor
open Go.RowKit Go.Proofs.Tryz
open Go.Lib(hid)
section
variable {w w':World} {s:Nat} {S:PS}
end
def qX(l:List Int)(S:PS):(List Int×Int)×PS:=if l.getD 0 0<0 then(if S.made.length<200 then(([],0),{S with made:=S.made++[45]})else(([],-17),S))else(([],0),S)
theorem VJ:cu 106 1 (fun _ _=>True) qX:=by
 intro W B s F S t f first cap l lv bW hS hF eO;obtain⟨b,C,hC,hb,hA,hB⟩:=dQ eO rfl rfl;obtain⟨g,_,hg,rfl,rfl,rfl,rfl⟩:=aW (hA:aQ C 1 281 132 (.func (.func 242) #[] #[.pointer (some ⟨b,0,none⟩)]) _ W) (Nat.zero_le _);refine⟨rfl,enters_of func281 (by kernel_rfl) rfl,fun hl bG hc=> ?_⟩;obtain⟨ad,c,q,e,rfl,cq⟩:=hc.one hl;subst e;have b0:=hB.cell 0;have HH:=hid (And.intro hS hB);by_cases qZ:q<0
 ·have key:∀(x:Int) (T:PS),(Calls prog 241 #[.pointer (some ⟨s,0,none⟩),.int .u8 45] W fun e w'=>e=.returned (.int .i64 x)∧Done W s F S T w')→Calls prog 242 (#[]++ #[.slice (some ⟨ad,0,none⟩) 1 c]++ #[.pointer (some ⟨b,0,none⟩)]) W fun e w'=>e=.returned (.int .i64 x)∧Done W s F S T w':=by
   intro x T hH;clear hS hB hA hg eO hc hF;show Calls prog 242 #[.slice (some ⟨ad,0,none⟩) 1 c,.pointer (some ⟨b,0,none⟩)] W _;go_enter func242,ntmps242;go_wp2_with fail;refine hH.mono ?_;rintro _ w1 ⟨rfl,hd⟩;have HD:=hid hd;clear hd hH;go_wp2_with fail;go_ret;exact⟨rfl,HD.out⟩
  by_cases hlt:S.made.length<200
  ·have e:qX [q] S=(([],0),{S with made:=S.made++[45]}):=by unfold qX;rw[List.getD_cons_zero,if_pos qZ,if_pos hlt]
   rw[e];exact aR.post (bU hg (enters_of func242 (by kernel_rfl) rfl) (key 0 _ (wG hS hlt 45 (by decide))))
  ·have e:qX [q] S=(([],-17),S):=by unfold qX;rw[List.getD_cons_zero,if_pos qZ,if_neg hlt]
   rw[e];refine aR.post (bU hg (enters_of func242 (by kernel_rfl) rfl) (key (-17) _ ((tH hS hlt 45).mono ?_)));rintro _ _ ⟨rfl,rfl⟩;exact⟨rfl,Done.self hS (Touch.refl _ _)⟩
 ·have e:qX [q] S=(([],0),S):=by unfold qX;rw[List.getD_cons_zero,if_neg qZ]
  rw[e];have HD:=hid (Done.self hS (tR W));refine aR.post (bU hg (enters_of func242 (by kernel_rfl) rfl) ?_);clear hS hB hA hg eO hc hF e;show Calls prog 242 #[.slice (some ⟨ad,0,none⟩) 1 c,.pointer (some ⟨b,0,none⟩)] W _;go_enter func242,ntmps242;go_wp2_with fail;go_ret;exact⟨rfl,HD.out⟩
def QD(B n:Nat):ByteArray:=⟨(nu B n).toArray⟩++⟨#[32]⟩
theorem FW(B n:Nat)(hB:2≤B)(hn:n<340282366920938463463374607431768211456):(⟨(nu B n).toArray⟩:ByteArray).size≤129:=by
 unfold nu;split
 ·have h:=uZ B ((340282366920938463463374607431768211456-n)%340282366920938463463374607431768211456) hB (Nat.mod_lt _ (by decide));simp only[ByteArray.size,List.size_toArray,List.length_cons]at h⊢;omega
 ·have h:=uZ B n hB hn;omega
theorem LY{w:World}{s:Nat}{F:List Nat}{S:PS}(h:aC w s F S)(bW:S.ok)(n B:Nat)(hn:n<340282366920938463463374607431768211456)(hB:S.base=B)(h2:2≤B)(h36:B≤36):
 Calls prog 234 #[.pointer (some ⟨s,0,none⟩),.agg (two n)] w fun e w'=>e=.returned (.int .i64 0)∧Done w s F S {S with out:=iy S.out (QD B n)} w':=by
 have hS:=fun W=>Yl n B hn h2 h36 W;have hsz:=FW B n h2 hn;unfold QD;obtain⟨T,hT⟩:∃T:ByteArray,⟨(nu B n).toArray⟩=T:=⟨_,rfl⟩;rw[hT]at hS hsz⊢;clear hT;unfold two at hS⊢;obtain⟨lo,h1⟩:∃c:Int,pl n=c:=⟨_,rfl⟩;obtain⟨hi,h3⟩:∃c:Int,ph n=c:=⟨_,rfl⟩;rw[h1,h3]at hS⊢;clear h1 h3;have bP:=aF.new w 213 #[.int .i64 lo,.int .i64 hi];have tP:=(tR w).alloc (.cells #[.int .i64 lo,.int .i64 hi] 213);have zS:=zO (h.quiet tP) bW.2.2.1 (by omega);rw[hB]at zS;have HH:=hid (And.intro h (And.intro bW (And.intro bP tP)));clear h bW bP tP hB;go_enter func234,ntmps234;go_wp2_with fail;refine zS.mono ?_;rintro _ w1 ⟨rfl,t1⟩;have b1:=HH.out.2.2.1.touch t1 (by simp);have T1:=HH.out.2.2.2.trans t1 (by simp);have p0:=b1.cell 0;have p1:=b1.cell 1;have H1:=hid T1;clear zS t1 b1 T1;go_wp2_with fail;refine(hS _).mono ?_;rintro _ w2 ⟨rfl,t2⟩;have T2:=H1.out.trans t2 (by simp);have Ce:=wz (HH.out.1.quiet T2) HH.out.2.1.1 (T++⟨#[32]⟩);have H2:=hid T2;clear hS t2 T2 p0 p1;go_wp2_with fail;refine Ce.mono ?_;rintro _ w3 ⟨F',rfl,k1,k2,k3⟩;have HD:Hid (Done w s F S {S with out:=iy S.out (T++⟨#[32]⟩)} w3):=⟨F',k1,⟨rfl,rfl,rfl,rfl,rfl,rfl⟩,(H2.out.mono (by simp)).trans k2 (fun g hg=>.inl hg),k3.lower H2.out.size⟩;clear Ce k1 k2 k3;go_wp2_with fail;go_ret;exact⟨rfl,HD.out⟩
theorem Jm{w:World}{s:Nat}{F:List Nat}{S:PS}(h:aC w s F S)(bW:S.ok)(lo hi:Int)(hB:¬(2≤S.base∧S.base≤36)):
 Calls prog 234 #[.pointer (some ⟨s,0,none⟩),.agg #[.int .i64 lo,.int .i64 hi]] w fun e w'=>e=.returned (.int .i64 (-40))∧Touch [] w w':=by
 have tP:=(tR w).alloc (.cells #[.int .i64 lo,.int .i64 hi] 213);have zS:=Bu (h.quiet tP) bW.2.2.1 hB;have HT:=hid tP;clear h bW tP hB;go_enter func234,ntmps234;go_wp2_with fail;refine zS.mono ?_;rintro _ w1 ⟨rfl,t1⟩;clear zS;go_wp2_with fail;go_ret;exact⟨rfl,HT.out.trans t1 (by simp)⟩

theorem jo.own{w0 w w':World}{s b:Nat}{S:PS}{K:List Nat}(h:jo w0 w s S K)(hb:b∈K)(hW:w0.heap.size≤b)(t:Touch [b] w w'):jo w0 w' s S K:=by
 obtain⟨F,h1,h2,h3,h4⟩:=h;refine⟨F,?_,h2,h3.trans t (fun g hg=>.inr (by rw[List.mem_singleton.1 hg];exact hW)),fun x hx=>⟨(h4 x hx).1,Nat.lt_of_lt_of_le (h4 x hx).2 t.size⟩⟩;obtain⟨FS,ov,mv,hp,rfl⟩:=h1;exact⟨FS,ov,mv,hp.quiet t (fun x hx hm=>(h4 b hb).1 (by rw[←List.mem_singleton.1 hm];exact hx)),rfl⟩
section
variable {s:Nat} {S:PS}
end

def gX(p:Int×Int)(S:PS):Int×PS:=if 2≤S.base∧S.base≤36 then(0,{S with out:=iy S.out (QD S.lZ (kG p))})else(-40,S)
theorem qR{w:World}{s:Nat}{F:List Nat}{S:PS}(h:aC w s F S)(bW:S.ok)(p:Int×Int)(h1:au p.1)(h2:au p.2):
 Calls prog 234 #[.pointer (some ⟨s,0,none⟩),aN p] w fun e w'=>e=.returned (.int .i64 (gX p S).1)∧Done w s F S (gX p S).2 w':=by
 unfold gX;by_cases hb:2≤S.base∧S.base≤36
 ·rw[if_pos hb];have hN:=LY h bW (kG p) S.lZ (FJ p) (by unfold PS.lZ;omega) (by unfold PS.lZ;omega) (by unfold PS.lZ;omega);rw[IU p h1 h2]at hN;exact hN
 ·rw[if_neg hb];refine(Jm h bW p.1 p.2 hb).mono ?_;rintro _ w' ⟨rfl,t⟩;exact⟨rfl,Done.self h t⟩
theorem Done.behind{W w w':World}{s:Nat}{F:List Nat}{S S':PS}(t:Touch [] W w)(h:Done w s F S S' w'):Done W s F S S' w':=by
 obtain⟨F',h1,h2,h3,h4⟩:=h;exact⟨F',h1,h2,(t.mono (by simp)).trans h3 (fun g hg=>.inl hg),h4.lower t.size⟩
theorem wQ(x:Int)(h:au x):au (fq x).1∧au (fq x).2:=by unfold fq au at*;omega
theorem QE:au 0:=by unfold au;decide
theorem YK:cu 91 1 (fun l _=>iX l) (fun l S=>(([],(gX (fq (l.getD 0 0)) S).1),(gX (fq (l.getD 0 0)) S).2)):=by
 intro W B s F S t f first cap l lv bW hS hF eO;obtain⟨b,C,hC,hb,hA,hB⟩:=dQ eO rfl rfl;obtain⟨g,_,hg,rfl,rfl,rfl,rfl⟩:=aW (hA:aQ C 1 281 132 (.func (.func 233) #[] #[.pointer (some ⟨b,0,none⟩)]) _ W) (Nat.zero_le _);refine⟨rfl,enters_of func281 (by kernel_rfl) rfl,fun hl bG hc=>aR.post (bU hg (enters_of func233 (by kernel_rfl) rfl) ?_)⟩;obtain⟨ad,c,x,rfl,rfl,hx⟩:=hc.one hl;simp only[List.getD_cons_zero];have Dt:=bG x (by simp);have hO:=fun w=>iA x w;have hN:=fun w (h:aC w s F S)=>qR h bW (fq x) (wQ x Dt).1 (wQ x Dt).2;obtain⟨⟨r,T⟩,hr⟩:∃r,gX (fq x) S=r:=⟨_,rfl⟩;rw[hr]at hN⊢;clear hr;obtain⟨⟨lo,hi⟩,hp⟩:∃p,fq x=p:=⟨_,rfl⟩;rw[hp]at hO hN;clear hp;unfold aN at hO hN;have b0:=(hB.touch ((tR W).drew) (by simp)).cell 0;have x0:=ah ((tR W).drew) hx;have HH:=hid (And.intro hS hB);clear hS hB hA hg eO hc hx hF bG Dt;show Calls prog 233 #[.slice (some ⟨ad,0,none⟩) 1 c,.pointer (some ⟨b,0,none⟩)] W _;go_enter func233,ntmps233;go_upto_region 1 with fail;go_region_with (first|(go_at_call 160;refine(hO _).mono ?_;rintro _ w1 ⟨rfl,t1⟩;have c1:=(HH.out.2.touch t1.aO (by simp)).cell 0;have T1:=hid t1.aO;clear t1)|(go_at_call 234;refine(hN _ (HH.out.1.quiet T1.out)).mono ?_;rintro _ w2 ⟨rfl,hd⟩;have HD:Hid (Done W s F S T w2):=hd.behind T1.out;clear hd))
 all_goals go_wp2_with fail
 all_goals go_ret
 all_goals exact⟨rfl,HD.out⟩
theorem VK:cu 92 1 (fun l _=>iX l) (fun l S=>(([],(gX (l.getD 0 0,0) S).1),(gX (l.getD 0 0,0) S).2)):=by
 intro W B s F S t f first cap l lv bW hS hF eO;obtain⟨b,C,hC,hb,hA,hB⟩:=dQ eO rfl rfl;obtain⟨g,_,hg,rfl,rfl,rfl,rfl⟩:=aW (hA:aQ C 1 281 132 (.func (.func 235) #[] #[.pointer (some ⟨b,0,none⟩)]) _ W) (Nat.zero_le _);refine⟨rfl,enters_of func281 (by kernel_rfl) rfl,fun hl bG hc=>aR.post (bU hg (enters_of func235 (by kernel_rfl) rfl) ?_)⟩;obtain⟨ad,c,x,rfl,rfl,hx⟩:=hc.one hl;simp only[List.getD_cons_zero];have Dt:=bG x (by simp);have hN:=fun w (h:aC w s F S)=>qR h bW (x,0) Dt QE;obtain⟨⟨r,T⟩,hr⟩:∃r,gX (x,0) S=r:=⟨_,rfl⟩;rw[hr]at hN⊢;clear hr;unfold aN at hN;have b0:=(hB.touch ((tR W).drew) (by simp)).cell 0;have x0:=ah ((tR W).drew) hx;have HH:=hid hS;clear hS hB hA hg eO hc hx hF bG Dt;show Calls prog 235 #[.slice (some ⟨ad,0,none⟩) 1 c,.pointer (some ⟨b,0,none⟩)] W _;go_enter func235,ntmps235;go_upto_region 1 with fail;go_region_with (go_at_call 234;refine(hN _ (HH.out.quiet ((tR W).drew))).mono ?_;rintro _ w2 ⟨rfl,hd⟩;have HD:Hid (Done W s F S T w2):=hd.behind ((tR W).drew);clear hd)
 all_goals go_wp2_with fail
 all_goals go_ret
 all_goals exact⟨rfl,HD.out⟩
theorem VL:cu 93 2 (fun l _=>iX l) (fun l S=>(([],(gX (l.getD 0 0,l.getD 1 0) S).1),(gX (l.getD 0 0,l.getD 1 0) S).2)):=by
 intro W B s F S t f first cap l lv bW hS hF eO;obtain⟨b,C,hC,hb,hA,hB⟩:=dQ eO rfl rfl;obtain⟨g,_,hg,rfl,rfl,rfl,rfl⟩:=aW (hA:aQ C 2 281 132 (.func (.func 236) #[] #[.pointer (some ⟨b,0,none⟩)]) _ W) (Nat.zero_le _);refine⟨rfl,enters_of func281 (by kernel_rfl) rfl,fun hl bG hc=>aR.post (bU hg (enters_of func236 (by kernel_rfl) rfl) ?_)⟩;obtain⟨ad,c,x,y,rfl,rfl,cx,cy⟩:=hc.two hl;show Calls prog _ _ W fun e w'=>e=.returned (.int .i64 (gX (x,y) S).1)∧Done W s F S (gX (x,y) S).2 w';have hN:=fun w (h:aC w s F S)=>qR h bW (x,y) (bG x (by simp)) (bG y (by simp));obtain⟨⟨r,T⟩,hr⟩:∃r,gX (x,y) S=r:=⟨_,rfl⟩;rw[hr]at hN⊢;clear hr;unfold aN at hN;have hA:=fun w (t:Touch [] W w)=>mO ad 2 c x y w (Nat.le_refl _) (ah t cx) (ah t cy);have b0:=(hB.touch ((tR W).drew) (by simp)).cell 0;have HH:=hid (And.intro hS hB);clear hS hB hg eO hc hF bG;show Calls prog 236 #[.slice (some ⟨ad,0,none⟩) 2 c,.pointer (some ⟨b,0,none⟩)] W _;go_enter func236,ntmps236;go_upto_region 1 with fail;go_region_with (first|(go_at_call 163;refine(hA _ ((tR W).drew)).mono ?_;rintro _ w1 ⟨rfl,t1⟩;have c1:=(HH.out.2.touch t1.aO (by simp)).cell 0;have T1:=hid t1.aO;clear t1)|(go_at_call 234;refine(hN _ (HH.out.1.quiet T1.out)).mono ?_;rintro _ w2 ⟨rfl,hd⟩;have HD:Hid (Done W s F S T w2):=hd.behind T1.out;clear hd))
 all_goals go_wp2_with fail
 all_goals go_ret
 all_goals exact⟨rfl,HD.out⟩
theorem VN:cu 98 2 (fun _ _=>True) (fun l S=>(([],lC S.n (l.getD 0 0) (l.getD 1 0)),{S with out:=iy S.out (Cc S.bs S.n (l.getD 0 0) (l.getD 1 0))})):=by
 intro W B s F S t f first cap l lv bW hS hF eO;obtain⟨b,C,hC,hb,hA,hB⟩:=dQ eO rfl rfl;obtain⟨g,_,hg,rfl,rfl,rfl,rfl⟩:=aW (hA:aQ C 2 281 132 (.func (.func 231) #[] #[.pointer (some ⟨b,0,none⟩)]) _ W) (Nat.zero_le _);refine⟨rfl,enters_of func281 (by kernel_rfl) rfl,fun hl bG hc=>aR.post (bU hg (enters_of func231 (by kernel_rfl) rfl) ?_)⟩;obtain⟨ad,c,p,k,rfl,rfl,hx,hy⟩:=hc.two hl;show Calls prog _ _ W fun e w'=>e=.returned (.int .i64 (lC S.n p k))∧Done W s F S {S with out:=iy S.out (Cc S.bs S.n p k)} w';have hT:Calls prog 232 #[.pointer (some ⟨S.m,0,none⟩),.int .i64 p,.int .i64 k] W.drew fun e w'=>e=.returned (.tuple #[.string (Cc S.bs S.n p k),.int .i64 (lC S.n p k)])∧Touch [] W.drew w':=by
  obtain⟨FS,ov,mv,hp,_⟩:=hS;exact Vy (hp.mem.touch ((tR W).drew) (by simp) (by simp)) p k
 have Ce:=fun w (h:aC w s F S)=>wz h bW.1 (Cc S.bs S.n p k);obtain⟨tx,PW⟩:∃z,Cc S.bs S.n p k=z:=⟨_,rfl⟩;obtain⟨ee,hee⟩:∃z,lC S.n p k=z:=⟨_,rfl⟩;rw[PW]at hT Ce⊢;rw[hee]at hT⊢;clear PW hee;have s2:W.drew.cell? ⟨s,2,none⟩=some (.pointer (some ⟨S.m,0,none⟩)):=by
  obtain⟨FS,ov,mv,hp,_⟩:=hS;exact(hp.blk.touch ((tR W).drew) (by simp)).cell 2
 have b0:=(hB.touch ((tR W).drew) (by simp)).cell 0;have x0:=ah ((tR W).drew) hx;have y0:=ah ((tR W).drew) hy;have HH:=hid (And.intro hS hB);clear hS hB hA hg eO hc hx hy hF;show Calls prog 231 #[.slice (some ⟨ad,0,none⟩) 2 c,.pointer (some ⟨b,0,none⟩)] W _;go_enter func231,ntmps231;go_upto_region 1 with fail;go_cut [4,5]from 6 to 19 (fun tv ev wx=>tv=.string tx∧ev=.int .i64 ee∧Touch [] W wx)
 case first=>
  go_region_with (go_at_call 232;refine hT.mono ?_;rintro _ w1 ⟨rfl,t1⟩)
  all_goals(go_wp2_with fail;go_meet;exact⟨rfl,rfl,t1.aO⟩)
 case rest=>
  obtain⟨rfl,rfl,t1⟩:=hcut;clear hT b0 x0 y0 s2;have b0:=(HH.out.2.touch t1 (by simp)).cell 0;have Ce:=Ce _ (HH.out.1.quiet t1);have T1:=hid t1;clear t1;go_wp2_with fail;refine Ce.mono ?_;rintro _ w2 ⟨F',rfl,k1,k2,k3⟩;have HD:Hid (Done W s F S {S with out:=iy S.out tx} w2):=⟨F',k1,⟨rfl,rfl,rfl,rfl,rfl,rfl⟩,(T1.out.mono (by simp)).trans k2 (fun g hg=>.inl hg),k3.lower T1.out.size⟩;clear Ce k1 k2 k3;go_wp2_with fail;go_ret;exact⟨rfl,HD.out⟩
theorem j7:cu 95 0 (fun _ _=>True) (fun _ S=>(([],0),{S with out:=iy S.out ⟨#[10]⟩})):=by
 intro W B s F S t f first cap l lv bW hS hF eO;obtain⟨b,C,hC,hb,hA,hB⟩:=dQ eO rfl rfl;obtain⟨g,hg0,hg,hA⟩:=(hA:fH C 0 b (.func (.func 227) #[] #[]) _ W);obtain⟨g2,_,hg2,rfl,rfl,rfl,rfl⟩:=aW hA (Nat.zero_le _);refine⟨rfl,enters_of func281 (by kernel_rfl) rfl,fun hl bG hc=>aR.post (bU hg2 (enters_of func220 (by kernel_rfl) rfl) (Bw hS bW hB hg (enters_of func227 (by kernel_rfl) rfl) ?_))⟩;clear hS hB hA hg eO hc hF hg2 hg0;show Calls prog 227 #[lv] W.drew _;go_enter func227,ntmps227;go_wp2_with fail;go_ret;exact⟨rfl,Touch.refl [] _⟩
theorem QF:cu 96 0 (fun _ _=>True) (fun _ S=>(([],0),{S with out:=iy S.out ⟨#[32]⟩})):=by
 intro W B s F S t f first cap l lv bW hS hF eO;obtain⟨b,C,hC,hb,hA,hB⟩:=dQ eO rfl rfl;obtain⟨g,hg0,hg,hA⟩:=(hA:fH C 0 b (.func (.func 228) #[] #[]) _ W);obtain⟨g2,_,hg2,rfl,rfl,rfl,rfl⟩:=aW hA (Nat.zero_le _);refine⟨rfl,enters_of func281 (by kernel_rfl) rfl,fun hl bG hc=>aR.post (bU hg2 (enters_of func220 (by kernel_rfl) rfl) (Bw hS bW hB hg (enters_of func228 (by kernel_rfl) rfl) ?_))⟩;clear hS hB hA hg eO hc hF hg2 hg0;show Calls prog 228 #[lv] W.drew _;go_enter func228,ntmps228;go_wp2_with fail;go_ret;exact⟨rfl,Touch.refl [] _⟩
theorem VO:cu 90 1 (fun _ _=>True) (fun l S=>(([],0),{S with out:=iy S.out (strOfNums [l.getD 0 0%256])})):=by
 intro W B s F S t f first cap l lv bW hS hF eO;obtain⟨b,C,hC,hb,hA,hB⟩:=dQ eO rfl rfl;obtain⟨g,hg0,hg,hA⟩:=(hA:fH C 1 b (.func (.func 224) #[] #[]) _ W);obtain⟨g2,_,hg2,rfl,rfl,rfl,rfl⟩:=aW hA (Nat.zero_le _);refine⟨rfl,enters_of func281 (by kernel_rfl) rfl,fun hl bG hc=>aR.post (bU hg2 (enters_of func220 (by kernel_rfl) rfl) (Bw hS bW hB hg (enters_of func224 (by kernel_rfl) rfl) ?_))⟩;obtain⟨ad,c,x,rfl,rfl,hx⟩:=hc.one hl;simp only[List.getD_cons_zero];have x0:=ah ((tR W).drew) hx;have bN:=(aF.new W 5 #[.int .u8 (x%256)]).drew;have hcv:(convert 90 9 (.slice (some ⟨W.heap.size,0,none⟩) 1 1)).run prog ((W.alloc (.cells #[.int .u8 (x%256)] 5)).drew)=.ok (.string (strOfNums [x%256])) ((W.alloc (.cells #[.int .u8 (x%256)] 5)).drew):=
  run_convert_bytes_arg (P:=prog) _ _ _ underlying90 underlying5 W.heap.size 0 1 1 [x%256] rfl (fun i hi=>by
   obtain rfl:i=0:=by simpa using hi
   exact bN.cell 0) _ underlying9
 clear hS hB hA hg eO hc hx hF hg2 hg0 bN;show Calls prog 224 #[.slice (some ⟨ad,0,none⟩) 1 c] W.drew _;go_enter func224,ntmps224;go_wp2_with fail;go_ret;have tt:=((tR W).alloc (.cells #[.int .u8 (x%256)] 5)).drew;exact⟨rfl,⟨tt.os,tt.tape,tt.output,tt.size,tt.block⟩⟩
theorem aC.two{w:World}{s:Nat}{F:List Nat}{S:PS}(h:aC w s F S):w.cell? ⟨s,2,none⟩=some (.pointer (some ⟨S.m,0,none⟩)):=by
 obtain⟨FS,ov,mv,hp,_⟩:=h;exact hp.blk.cell 2
theorem Jo(op n:Int)(h1:fE op=0)(h2:eD op=0)(hP:∀B b s v W,qC B b s (iH op) v W→fQ B n b v W):cu op 0 (fun _ _=>True) (fun _ S=>(([],eU S.n 0),{S with bs:=nT S.bs S.n 0 n})):=by
 intro W B s F S t f first cap l lv bW hS hF eO;obtain⟨b,C,hC,hb,hA,hB⟩:=dQ eO h1 h2;obtain⟨g,hg0,hg,hA⟩:=hP _ _ _ _ _ hA;obtain⟨g2,_,hg2,rfl,rfl,rfl,rfl⟩:=aW hA (Nat.zero_le _);refine⟨rfl,enters_of func281 (by kernel_rfl) rfl,fun hl bG hc=>aR.post (bU hg2 (enters_of func223 (by kernel_rfl) rfl) ?_)⟩;show Calls prog _ _ W fun e w'=>e=.returned (.int .i64 (eU S.n 0))∧Done W s F S {S with bs:=nT S.bs S.n 0 n} w';have hG:=wP (hS.mem.quiet ((tR W).drew)) 0 n;obtain⟨ee,he⟩:∃z,eU S.n 0=z:=⟨_,rfl⟩;rw[he]at hG⊢;clear he;have b0:=(hB.touch ((tR W).drew) (by simp)).cell 0;have g0:=(hg.touch ((tR W).drew) (by simp)).cell 0;have s2:=ah ((tR W).drew) hS.two;have HH:=hid hS;clear hS hB hA hg hg2 eO hc hF bW hb hg0;show Calls prog 223 #[lv,.pointer (some ⟨b,0,none⟩),.pointer (some ⟨g,0,none⟩)] W _;go_enter func223,ntmps223;go_upto_region 1 with fail;go_region_with (go_at_call 90;refine hG.mono ?_;rintro _ w1 ⟨rfl,hm,t1⟩;have HD:Hid (Done W s F S _ w1):=Done.mem HH.out hm t1.aO;clear hm t1)
 all_goals go_wp2_with fail
 all_goals go_ret
 all_goals exact⟨rfl,HD.out⟩
end Go.Proofs.YtdokeddjcpnmiaaGreatDoor
