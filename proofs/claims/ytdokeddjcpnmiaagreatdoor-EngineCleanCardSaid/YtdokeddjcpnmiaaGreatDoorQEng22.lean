/- Of EngineClean: Eng21 Eng22 Eng23 Eng24 Eng25. -/
import Derived.Test.YtdokeddjcpnmiaaGreatDoorQEng18
set_option maxRecDepth 100000
set_option maxHeartbeats 3200000
namespace Go.Proofs.YtdokeddjcpnmiaaGreatDoor
open Go.RowKit Go.Proofs.Tryz
open Go.Lib(hid)
namespace En
theorem E5{w:World}{ev:Value}{L:List Int}(h:w.ownsRow 0 3 1 ev L.length (cells L)){j:Nat}(hj:j<L.length):∃b c,ev=.slice (some ⟨b,0,none⟩) L.length c∧w.cell? ⟨b,j,none⟩=some (.int .i64 (L.getD j 0)):=by
 rcases Go.Joins.ownsRow_forms h with⟨_,h0⟩|⟨b,c,rfl⟩
 ·omega
 ·refine⟨b,c,rfl,?_⟩;have:=h.cells (g:=b) rfl j _ (eH L j hj);rw[gG,Nat.zero_add]at this;exact this
theorem SL{w:World}{cv:Value}{L:List Int}(h:w.ownsRow 0 33 1 cv L.length (cells L)){j:Nat}(hj:j<L.length):∃b c,cv=.slice (some ⟨b,0,none⟩) L.length c∧∀i,i<L.length→w.cell? ⟨b,i,none⟩=some (.int .i64 (L.getD i 0)):=by
 rcases Go.Joins.ownsRow_forms h with⟨_,h0⟩|⟨b,c,rfl⟩
 ·omega
 ·refine⟨b,c,rfl,fun i hi=> ?_⟩;have:=h.cells (g:=b) rfl i _ (eH L i hi);rw[gG,Nat.zero_add]at this;exact this
theorem bk(y:Int):bits .and .i64 y 255%256=y%256:=by
 have h1:bits .and .i64 y 255=IntKind.i64.wrap (((BitVec.ofInt 64 y&&& BitVec.ofInt 64 255).toNat:Nat):Int):=rfl;have h2:(BitVec.ofInt 64 y&&& BitVec.ofInt 64 255).toNat=(y%18446744073709551616).toNat%256:=by
  rw[BitVec.toNat_and,BitVec.toNat_ofInt,BitVec.toNat_ofInt];have:((255:Int)%((2^64:Nat):Int)).toNat=2^8-1:=by decide
  rw[this,Nat.and_two_pow_sub_one_eq_mod];rfl
 rw[h1,h2,IntKind.wrap_i64];omega
section
variable {w:World} {g:Nat} {p:Lay} {F:List Nat} {m:M}
theorem pQ(h:ak w g p F m)(hf:dH m)(n:Int)(h1:1≤n)(h2:n≤m.ends.length):Calls prog 74 #[.pointer (some ⟨g,0,none⟩),.int .i64 n] w fun e w'=>e=.returned (.int .i64 (m.dU n))∧w'=w:=by
 obtain⟨cv,ev,wv,Ff,FS,FI,h,rfl⟩:=h;by_cases hn:n=1
 ·subst hn;unfold M.dU;rw[if_pos rfl];clear h hf h1 h2;go_enter func74,ntmps74;go_wp2_with fail;go_ret;exact⟨rfl,rfl⟩
 ·obtain⟨k,rfl⟩:∃k:Nat,n=k+2:=⟨(n-2).toNat,by omega⟩;have c1:=h.blk.cell 1;obtain⟨b,c,rfl,hc⟩:=E5 h.ends (j:=k) (by omega);have hne:((k:Int)+2==1)=false:=by simpa using hn
  have e1:m.dU ((k:Int)+2)=(m.ends.getD k 0).toNat:=by
   unfold M.dU;rw[if_neg hn,show((k:Int)+2-2).toNat=k by omega]
  have qY:=hf.ends (m.ends.getD k 0) (by rw[List.getD_eq_getElem?_getD,List.getElem?_eq_getElem (show k<m.ends.length by omega)];exact List.getElem_mem _);have hx:((m.dU ((k:Int)+2):Nat):Int)=m.ends.getD k 0:=by rw[e1];omega
  rw[hx];have hle:=hf.CG;obtain⟨len,hlen⟩:∃len,m.ends.length=len:=⟨_,rfl⟩;rw[hlen]at c1 h2 hle;obtain⟨x,S6⟩:∃x,m.ends.getD k 0=x:=⟨_,rfl⟩;rw[S6]at hc⊢;have hk2:(k:Int)+2≤len:=h2;have ew:IntKind.i64.wrap ((k:Int)+2-2)=k:=by rw[IntKind.wrap_i64];omega
  have e0:(0:Int)≤k:=by omega
  have ek:(k:Int)<len:=by omega
  have hEW:=ew;clear h hf h1 h2 e1 qY hx hlen S6 hn;go_enter func74,ntmps74;go_wp2_with fail;go_ret;exact⟨rfl,rfl⟩
theorem bm(h0:ak w g p F m)(hf:dH m)(k i:Nat)(hk:k<m.ends.length)(q:Int)(hq:q=(m.ends.getD k 0-m.dU ((k:Int)+1)).tdiv 2)(hi:(i:Int)<q):Calls prog 47 #[.pointer (some ⟨g,0,none⟩),.int .i64 ((k:Int)+1),.int .i64 i] w fun e w'=>e=.returned (.tuple #[.agg #[.int .u8 ((m.code.getD (m.dU ((k:Int)+1)+2*i) 0)%256),.int .i64 ((m.code.getD (m.dU ((k:Int)+1)+2*i) 0) / 256),.int .i64 (m.code.getD (m.dU ((k:Int)+1)+2*i+1) 0)],.bool true])∧Touch [] w w':=by
 have tZ:=(tR w).alloc (.cells #[.int .u8 0,.int .i64 0,.int .i64 0] 56);have hE:=h0.touch tZ (by simp);have bZ:=aF.new w 56 #[.int .u8 0,.int .i64 0,.int .i64 0];obtain⟨z,hz⟩:∃z,w.heap.size=z:=⟨_,rfl⟩;have JA:=hid (show w.heap.size≤z by omega);rw[hz]at bZ;have Q6:=fun W (t:Touch [] (w.alloc (.cells #[.int .u8 0,.int .i64 0,.int .i64 0] 56)) W)=>pQ (hE.touch t (by simp)) hf ((k:Int)+1) (by omega) (by omega);have hB:=fun n=>pQ (hE.touch ((tR _).drewN n) (by simp)) hf ((k:Int)+1) (by omega) (by omega);obtain⟨cv,ev,wv,Ff,FS,FI,h,rfl⟩:=hE;obtain⟨b,c,rfl,hc⟩:=E5 h.ends hk;have c0:=h.blk.cell 0;have c1:=h.blk.cell 1;simp only[List.getElem?_toArray,List.getElem?_cons_succ,List.getElem?_cons_zero]at c0 c1;have qY:=hf.ends (m.ends.getD k 0) (by rw[List.getD_eq_getElem?_getD,List.getElem?_eq_getElem hk];exact List.getElem_mem _);have kM:=hf.code;have hle:=hf.CG;have hbl:m.dU ((k:Int)+1)≤10000000:=by
  unfold M.dU;split
  ·omega
  ·rcases Nat.lt_or_ge (((k:Int)+1)-2).toNat m.ends.length with hlt|ql
   ·have:=hf.ends (m.ends.getD (((k:Int)+1)-2).toNat 0) (by rw[List.getD_eq_getElem?_getD,List.getElem?_eq_getElem hlt];exact List.getElem_mem _);omega
   ·rw[List.getD_eq_getElem?_getD,List.getElem?_eq_none ql];decide
 obtain⟨bg,hbg⟩:∃bg,m.dU ((k:Int)+1)=bg:=⟨_,rfl⟩;rw[hbg]at Q6 hB hq hbl⊢;obtain⟨x,hx⟩:∃x,m.ends.getD k 0=x:=⟨_,rfl⟩;rw[hx]at hc qY hq;have hroom:bg+2*i+2≤m.code.length:=by
  have h1:(x-bg).tdiv 2=(x-bg) / 2∨x-bg<0:=by
   rcases Int.lt_or_le (x-bg) 0 with h|h
   ·exact .inr h
   ·exact .inl (Int.tdiv_eq_ediv_of_nonneg h)
  rcases h1 with h1|h1
  ·omega
  ·have:(x-(bg:Int)).tdiv 2≤0:=by rw[show x-(bg:Int)= -(bg-x) by omega,Int.neg_tdiv,Int.tdiv_eq_ediv_of_nonneg (by omega)];omega
   omega
 obtain⟨cb,cc,rfl,SN⟩:=SL h.code (j:=0) (by omega);have oJ:=zH h.code;have i0:=SN (bg+2*i) (by omega);have i1:=SN (bg+2*i+1) (by omega);have Wi:(0:Int)≤x∧x≤10000000:=by omega
 obtain⟨len,hlen⟩:∃len,m.ends.length=len:=⟨_,rfl⟩;rw[hlen]at c1 hk hle;obtain⟨cl,ri⟩:∃cl,m.code.length=cl:=⟨_,rfl⟩;rw[ri]at c0 hroom oJ kM;obtain⟨y,hy⟩:∃y,m.code.getD (bg+2*i) 0=y:=⟨_,rfl⟩;obtain⟨y',hy'⟩:∃y',m.code.getD (bg+2*i+1) 0=y':=⟨_,rfl⟩;rw[hy]at i0⊢;rw[hy']at i1⊢;have d1:decide ((k:Int)+1<1)=false:=by simp;omega
 have d2:decide ((k:Int)+1>(len:Int))=false:=by simp;omega
 have d3:decide ((i:Int)<0)=false:=by simp
 have e1:IntKind.i64.wrap ((k:Int)+1-1)=k:=by rw[IntKind.wrap_i64];omega
 have e2:decide (wrap64 ((wrap64 (x-bg)).tdiv 2)≤(i:Int))=false:=by
  have w1:wrap64 (x-bg)=x-bg:=by unfold wrap64;omega
  have w2:wrap64 ((x-bg).tdiv 2)=(x-(bg:Int)).tdiv 2:=by
   have h1:(x-(bg:Int)).tdiv 2≤100000000∧-100000000≤(x-(bg:Int)).tdiv 2:=by
    rcases Int.lt_or_le (x-bg) 0 with h|h
    ·rw[show x-(bg:Int)= -(bg-x) by omega,Int.neg_tdiv,Int.tdiv_eq_ediv_of_nonneg (by omega)];omega
    ·rw[Int.tdiv_eq_ediv_of_nonneg h];omega
   unfold wrap64;omega
  rw[w1,w2];simp;omega
 have e3:decide ((x-(bg:Int)).tdiv 2≤(i:Int))=false:=by simp;omega
 obtain⟨o,ho⟩:∃o,bg+2*i=o:=⟨_,rfl⟩;have s1:IntKind.i64.wrap ((bg:Int)+IntKind.i64.wrap (2*(i:Int)))=(o:Int):=by
  have h2:IntKind.i64.wrap (2*(i:Int))=2*i:=by rw[IntKind.wrap_i64];omega
  rw[h2,IntKind.wrap_i64];omega
 rw[ho]at i0 i1 hroom;have hne:¬cc=o:=by omega
 have YT:(o:Int)≤(cl:Int):=by omega
 have hl2:2≤cc-o:=by omega
 have hl3:(2:Int)≤((cc-o:Nat):Int):=by omega
 have G0:∀w:World,(Instr.arrayAt 139 (.slice (some ⟨cb,o,none⟩) 2 (cc-o))).run prog w=.ok (.pointer (some ⟨cb,o,none⟩)) w:=fun _=>rfl;have HQ:=hid (And.intro hq (And.intro hi (And.intro qY ho)));clear h hf hbg hx hlen h0 SN hy hy' ri hq hi qY ho;go_enter func47,ntmps47;go_upto_region 1 with fail;clear hz;generalize w.alloc (.cells #[.int .u8 0,.int .i64 0,.int .i64 0] 56)=W0 at*;go_quiet ((go_at_call 74;exact Calls.quiet_of_same (hB _)))
 have tW:=(tR W0).drewN nq;have tZ:=tZ.drewN nq;have bZ:=bZ.drewN nq;have c0:(W0.drewN nq).cell? ⟨g,0,none⟩=_:=c0;have i0:(W0.drewN nq).cell? ⟨cb,o,none⟩=_:=i0;have i1:(W0.drewN nq).cell? ⟨cb,o+1,none⟩=_:=i1;change Exit.then _ _ Exit.normal _ (W0.drewN nq)
 clear hB hc c1;generalize W0.drewN nq=W1 at*;have tA:=tW.drew;have tB:=fun ob=>(tW.alloc ob).drew;have A0:=fun ob=>ah ((tR W1).alloc ob) c0;have A1:=fun ob=>ah ((tR W1).alloc ob) i0;have A2:=fun ob=>ah ((tR W1).alloc ob) i1;have HZ:=hid (And.intro tZ bZ);have HBT:=hid Q6;have HTA:=hid tA;have Xj:=hid tB;clear tW tZ bZ Q6 tA tB;go_upto_region 3 with fail;go_region_law (first
  |(go_simp;go_at_call 74;refine Calls.mono (HBT.out _ (by first|with_reducible exact HTA.out|with_reducible exact Xj.out _)) ?_;rintro _ _ ⟨rfl,rfl⟩))
 all_goals(change Exit.then _ _ Exit.normal _ (W1.alloc (.cells #[.int .i64 y,.int .i64 y'] 139)).drew)
 all_goals clear c0 A0 A1 A2 i0 i1 e1 e2 e3 s1 G0 d1 d2 d3 hne YT hl2 hl3
 all_goals have t2:=((tR W1).alloc (.cells #[.int .i64 y,.int .i64 y'] 139)).drew
 all_goals have bQ:=(aF.new W1 139 #[.int .i64 y,.int .i64 y']).drew
 all_goals have bZ:=HZ.out.2.touch t2 (by simp)
 all_goals have tZ:=HZ.out.1.trans t2 (by simp)
 all_goals generalize (W1.alloc (.cells #[.int .i64 y,.int .i64 y'] 139)).drew=W2 at*
 all_goals generalize W1.heap.size=q2 at*
 all_goals have j0:=bQ.cell 0
 all_goals have j1:=bQ.cell 1
 all_goals have z0:=bZ.cell 0
 all_goals have z1:=bZ.cell 1
 all_goals have z2:=bZ.cell 2
 all_goals have f0:=bZ.frozen 0
 all_goals have f1:=bZ.frozen 1
 all_goals have f2:=bZ.frozen 2
 all_goals go_wp2_with fail
 all_goals have bS:=bZ.three (.int .u8 (bits .and .i64 y 255%256)) (.int .i64 (y / 256)) (.int .i64 y')
 all_goals have r0:=bS.cell 0
 all_goals have r1:=bS.cell 1
 all_goals have r2:=bS.cell 2
 all_goals refine bodyPost_ret (by simp[results,results47,go_sem,r0,r1,r2];try rfl) rfl ?_
 all_goals exact⟨by simp only[bk],((tZ.setCell (.inr JA.out) _).setCell (.inr JA.out) _).setCell (.inr JA.out) _⟩
theorem rj(h0:ak w g p F m)(hf:dH m)(n i:Int)(hno:m.at_ n i=none):Calls prog 47 #[.pointer (some ⟨g,0,none⟩),.int .i64 n,.int .i64 i] w fun e w'=>e=.returned (.tuple #[.agg #[.int .u8 0,.int .i64 0,.int .i64 0],.bool false])∧Touch [] w w':=by
 have tZ:=(tR w).alloc (.cells #[.int .u8 0,.int .i64 0,.int .i64 0] 56);have hE:=h0.touch tZ (by simp);have bZ:=aF.new w 56 #[.int .u8 0,.int .i64 0,.int .i64 0];obtain⟨z,hz⟩:∃z,w.heap.size=z:=⟨_,rfl⟩;have JA:=hid (show w.heap.size≤z by omega);rw[hz]at bZ;have hno:n<1∨(m.ends.length:Int)<n∨i<0∨((m.ends.getD (n-1).toNat 0)-m.dU n).tdiv 2≤i:=by
  unfold M.at_ at hno;by_cases hc:n<1∨(m.ends.length:Int)<n∨i<0∨((m.ends.getD (n-1).toNat 0)-m.dU n).tdiv 2≤i
  ·exact hc
  ·rw[if_neg hc]at hno;cases hno
 have Q6:=fun(h1:1≤n) (h2:n≤m.ends.length) W (t:Touch [] (w.alloc (.cells #[.int .u8 0,.int .i64 0,.int .i64 0] 56)) W)=>pQ (hE.touch t (by simp)) hf n h1 h2;have hle:=hf.CG;obtain⟨cv,ev,wv,Ff,FS,FI,h,rfl⟩:=hE;have c1:=h.blk.cell 1;obtain⟨ea,ec,Gh⟩:=bn h.ends;rw[Gh]at c1;simp only[List.getElem?_toArray,List.getElem?_cons_succ,List.getElem?_cons_zero]at c1;by_cases h1:n<1
 ·have d1:decide (n<1)=true:=by simpa using h1
  clear h hf h0 Q6 hno Gh c1 h1;go_enter func47,ntmps47;go_upto_region 1 with fail;clear hz;generalize w.alloc (.cells #[.int .u8 0,.int .i64 0,.int .i64 0] 56)=W0 at*;go_quiet (fail)
  have tZ:=tZ.drewN nq;have bZ:=bZ.drewN nq;change Exit.then _ _ Exit.normal _ (W0.drewN nq)
  generalize W0.drewN nq=W1 at*;have z0:=bZ.cell 0;have z1:=bZ.cell 1;have z2:=bZ.cell 2;have f0:=bZ.frozen 0;have f1:=bZ.frozen 1;have f2:=bZ.frozen 2;go_wp2_with fail;have bS:=bZ.three (.int .u8 0) (.int .i64 0) (.int .i64 0);have r0:=bS.cell 0;have r1:=bS.cell 1;have r2:=bS.cell 2;refine bodyPost_ret (by simp[results,results47,go_sem,r0,r1,r2];try rfl) rfl ?_;exact⟨rfl,((tZ.setCell (.inr JA.out) _).setCell (.inr JA.out) _).setCell (.inr JA.out) _⟩
 obtain⟨len,hlen⟩:∃len,m.ends.length=len:=⟨_,rfl⟩;rw[hlen]at c1 hle;have d1:decide (n<1)=false:=by simpa using h1
 by_cases h2:(len:Int)<n
 ·have d2:decide (n>(len:Int))=true:=by simpa using h2
  clear h hf h0 Q6 hno Gh h1 h2 hlen;go_enter func47,ntmps47;go_upto_region 1 with fail;clear hz;generalize w.alloc (.cells #[.int .u8 0,.int .i64 0,.int .i64 0] 56)=W0 at*;go_quiet (fail)
  have tZ:=tZ.drewN nq;have bZ:=bZ.drewN nq;change Exit.then _ _ Exit.normal _ (W0.drewN nq)
  generalize W0.drewN nq=W1 at*;have z0:=bZ.cell 0;have z1:=bZ.cell 1;have z2:=bZ.cell 2;have f0:=bZ.frozen 0;have f1:=bZ.frozen 1;have f2:=bZ.frozen 2;go_wp2_with fail;have bS:=bZ.three (.int .u8 0) (.int .i64 0) (.int .i64 0);have r0:=bS.cell 0;have r1:=bS.cell 1;have r2:=bS.cell 2;refine bodyPost_ret (by simp[results,results47,go_sem,r0,r1,r2];try rfl) rfl ?_;exact⟨rfl,((tZ.setCell (.inr JA.out) _).setCell (.inr JA.out) _).setCell (.inr JA.out) _⟩
 have d2:decide (n>(len:Int))=false:=by simpa using h2
 by_cases h3:i<0
 ·have d3:decide (i<0)=true:=by simpa using h3
  clear h hf h0 Q6 hno Gh h1 h2 hlen h3;go_enter func47,ntmps47;go_upto_region 1 with fail;clear hz;generalize w.alloc (.cells #[.int .u8 0,.int .i64 0,.int .i64 0] 56)=W0 at*;go_quiet (fail)
  have tZ:=tZ.drewN nq;have bZ:=bZ.drewN nq;change Exit.then _ _ Exit.normal _ (W0.drewN nq)
  generalize W0.drewN nq=W1 at*;have z0:=bZ.cell 0;have z1:=bZ.cell 1;have z2:=bZ.cell 2;have f0:=bZ.frozen 0;have f1:=bZ.frozen 1;have f2:=bZ.frozen 2;go_wp2_with fail;have bS:=bZ.three (.int .u8 0) (.int .i64 0) (.int .i64 0);have r0:=bS.cell 0;have r1:=bS.cell 1;have r2:=bS.cell 2;refine bodyPost_ret (by simp[results,results47,go_sem,r0,r1,r2];try rfl) rfl ?_;exact⟨rfl,((tZ.setCell (.inr JA.out) _).setCell (.inr JA.out) _).setCell (.inr JA.out) _⟩
 have d3:decide (i<0)=false:=by simpa using h3
 have hq:((m.ends.getD (n-1).toNat 0)-m.dU n).tdiv 2≤i:=by
  rcases hno with h|h|h|h
  ·exact absurd h h1
  ·rw[hlen]at h;exact absurd h h2
  ·exact absurd h h3
  ·exact h
 have Q6:=Q6 (by omega) (by rw[hlen];omega);obtain⟨k,rfl⟩:∃k:Nat,n=(k:Int)+1:=⟨(n-1).toNat,by omega⟩;have hk:k<m.ends.length:=by omega
 obtain⟨b,c,rfl,hc⟩:=E5 h.ends hk;injection Gh with G1 _ G2;subst G1;have qY:=hf.ends (m.ends.getD k 0) (by rw[List.getD_eq_getElem?_getD,List.getElem?_eq_getElem hk];exact List.getElem_mem _);have kM:=hf.code;have hbl:m.dU ((k:Int)+1)≤10000000:=by
  unfold M.dU;split
  ·omega
  ·rcases Nat.lt_or_ge (((k:Int)+1)-2).toNat m.ends.length with hlt|ql
   ·have:=hf.ends (m.ends.getD (((k:Int)+1)-2).toNat 0) (by rw[List.getD_eq_getElem?_getD,List.getElem?_eq_getElem hlt];exact List.getElem_mem _);omega
   ·rw[List.getD_eq_getElem?_getD,List.getElem?_eq_none ql];decide
 rw[show((k:Int)+1-1).toNat=k by omega]at hq;obtain⟨bg,hbg⟩:∃bg,m.dU ((k:Int)+1)=bg:=⟨_,rfl⟩;rw[hbg]at Q6 hq hbl;obtain⟨x,hx⟩:∃x,m.ends.getD k 0=x:=⟨_,rfl⟩;rw[hx]at hc qY hq;have Wi:(0:Int)≤x∧x≤10000000:=by omega
 rw[hlen]at hk;have e1:IntKind.i64.wrap ((k:Int)+1-1)=k:=by rw[IntKind.wrap_i64];omega
 have e2:decide (wrap64 ((wrap64 (x-bg)).tdiv 2)≤i)=true:=by
  have w1:wrap64 (x-bg)=x-bg:=by unfold wrap64;omega
  have w2:wrap64 ((x-bg).tdiv 2)=(x-(bg:Int)).tdiv 2:=by
   have h1:(x-(bg:Int)).tdiv 2≤100000000∧-100000000≤(x-(bg:Int)).tdiv 2:=by
    rcases Int.lt_or_le (x-bg) 0 with h|h
    ·rw[show x-(bg:Int)= -(bg-x) by omega,Int.neg_tdiv,Int.tdiv_eq_ediv_of_nonneg (by omega)];omega
    ·rw[Int.tdiv_eq_ediv_of_nonneg h];omega
   unfold wrap64;omega
  rw[w1,w2];simpa using hq
 have e3:decide ((x-(bg:Int)).tdiv 2≤i)=true:=by simpa using hq
 have hB:=fun n=>Q6 _ ((tR _).drewN n);clear h hf h0 Q6 hno h1 h2 hlen h3 hbg hx hq qY G2;go_enter func47,ntmps47;go_upto_region 1 with fail;clear hz;generalize w.alloc (.cells #[.int .u8 0,.int .i64 0,.int .i64 0] 56)=W0 at*;go_quiet ((go_at_call 74;exact Calls.quiet_of_same (hB _)))
 have tZ:=tZ.drewN nq;have bZ:=bZ.drewN nq;change Exit.then _ _ Exit.normal _ (W0.drewN nq)
 generalize W0.drewN nq=W1 at*;have z0:=bZ.cell 0;have z1:=bZ.cell 1;have z2:=bZ.cell 2;have f0:=bZ.frozen 0;have f1:=bZ.frozen 1;have f2:=bZ.frozen 2;go_wp2_with fail;have bS:=bZ.three (.int .u8 0) (.int .i64 0) (.int .i64 0);have r0:=bS.cell 0;have r1:=bS.cell 1;have r2:=bS.cell 2;refine bodyPost_ret (by simp[results,results47,go_sem,r0,r1,r2];try rfl) rfl ?_;exact⟨rfl,((tZ.setCell (.inr JA.out) _).setCell (.inr JA.out) _).setCell (.inr JA.out) _⟩
end
theorem CQ{w:World}{g:Nat}{p:Lay}{F:List Nat}{m:M}(h:ak w g p F m)(hf:dH m)(xt:Int)(hw:m.word xt=none):Calls prog 45 #[.pointer (some ⟨g,0,none⟩),.int .i64 xt] w fun R w'=>R=.returned (jK (m.throw (-9)).1)∧Keep w g p F (m.throw (-9)).2 w':=by
 obtain⟨z,hz⟩:∃z,w.heap.size=z:=⟨_,rfl⟩;have HS:=hid (Start.zu w h);have bq:=h.touch HS.out.1.t (by simp);rw[hz]at HS;have hF:=iC bq hf.words xt;unfold iJ at hF;rw[hw]at hF;have iN:=bq.lt;have b0:=HS.out.2.at_ (Touch.refl F _);have HT:=hid (fun(W:World) F1 (hW:ak W g p F1 m)=>gD hW hf (-9));obtain⟨⟨⟨sa,sb,sc⟩,m'⟩,hq⟩:∃q,m.throw (-9)=q:=⟨_,rfl⟩;rw[hq]at HT⊢;clear hq h hf hw;go_enter func45,ntmps45;go_upto_region 1 with fail;clear hz;generalize (w.alloc (.cells #[.pointer (some ⟨g,0,none⟩)] 27)).alloc (.cells #[.int .i64 0,.int .i64 0,.int .i64 0] 48)=W0 at*;go_wp2_with fail;refine hF.mono ?_;rintro _ _ ⟨_,rfl,rfl,rfl⟩;have hT:=HT.out _ _ bq;clear hF bq;go_wp2_with fail;refine hT.mono ?_;rintro _ w1 ⟨rfl,k1⟩;have hb:=HS.out.1.blk k1;obtain⟨⟨e0,e1,e2⟩,g0,g1,g2⟩:=aH hb;obtain⟨r0,r1,r2⟩:=aA hb (.int .i64 sa) (.int .i64 sb) (.int .i64 sc);have HK:=hid (HS.out.1.end_ k1 (.int .i64 sa) (.int .i64 sb) (.int .i64 sc));clear k1 hb hT b0;go_wp2_with fail;refine bodyPost_ret (by simp[results,results45,go_sem,r0,r1,r2];try rfl) rfl ?_;exact⟨rfl,HK.out⟩
theorem CS{w:World}{g:Nat}{p:Lay}{F:List Nat}{m:M}(h:ak w g p F m)(hf:dH m)(xt n v:Int)(hw:m.word xt=some (5,n,v)):Calls prog 45 #[.pointer (some ⟨g,0,none⟩),.int .i64 xt] w fun R w'=>R=.returned (jK (M.done (m.call n)).1)∧Keep w g p F (M.done (m.call n)).2 w':=by
 obtain⟨z,hz⟩:∃z,w.heap.size=z:=⟨_,rfl⟩;have HS:=hid (Start.zu w h);have bq:=h.touch HS.out.1.t (by simp);rw[hz]at HS;have hF:=iC bq hf.words xt;unfold iJ at hF;rw[hw]at hF;have iN:=bq.lt;have b0:=HS.out.2.at_ (Touch.refl F _);have HA:=hid (fun(W:World) F1 (hW:ak W g p F1 m)=>G5 hW n);have fU:=hf.call n;obtain⟨⟨pe,pm⟩,hp⟩:∃q,m.call n=q:=⟨_,rfl⟩;rw[hp]at HA fU⊢;dsimp only at fU
 have HD:=hid (fun(W:World) F1 (hW:ak W g p F1 pm)=>dK hW fU pe);obtain⟨⟨⟨sa,sb,sc⟩,m'⟩,hq⟩:∃q,M.done (pe,pm)=q:=⟨_,rfl⟩;rw[hq]at HD⊢;clear hq hp fU h hf hw;go_enter func45,ntmps45;go_upto_region 1 with fail;clear hz;generalize (w.alloc (.cells #[.pointer (some ⟨g,0,none⟩)] 27)).alloc (.cells #[.int .i64 0,.int .i64 0,.int .i64 0] 48)=W0 at*;go_wp2_with fail;refine hF.mono ?_;rintro _ _ ⟨_,rfl,rfl,b,i,rfl,qV,zI,k0,k1,k2⟩;clear zI;have tY:=(tR W0).alloc (.cells #[.int .i64 5,.int .i64 n,.int .i64 v] 35);have bY:=aF.new W0 35 #[.int .i64 5,.int .i64 n,.int .i64 v];have oC:=bq.touch tY (by simp);have HB:=hid (show Cap (W0.alloc (.cells #[.int .i64 5,.int .i64 n,.int .i64 v] 35)) F z g from⟨HS.out.2.blk.alloc _,HS.out.2.off⟩);obtain⟨y,hy⟩:∃y,W0.heap.size=y:=⟨_,rfl⟩;have l9:y∉F:=fun hx=>by have:=iN y hx;omega
 rw[hy]at bY;have HC:=hid (show vS (W0.alloc (.cells #[.int .i64 5,.int .i64 n,.int .i64 v] 35)) F y 5 n v from⟨bY,l9⟩);clear hF bq l9 iN qV;go_upto_region 5 with fail;clear hy;generalize W0.alloc (.cells #[.int .i64 5,.int .i64 n,.int .i64 v] 35)=W1 at*;have y0:=bY.cell 0;have y1:=bY.cell 1;have y2:=bY.cell 2;have b1:=HB.out.at_ (Touch.refl F _);have HT:=hid tY;clear tY bY k0 k1 k2 b0;go_upto_region 10 with fail;have HE:=hid (oC.touch (tR W1).drew (by simp));clear oC;go_region_law (first
  |(go_simp;go_at_call 65;refine Calls.mono (HA.out _ _ HE.out) ?_;rintro _ w5 ⟨rfl,k5⟩;have k5:=k5.pre (tR W1).drew;have b5:w5.cell? ⟨z,0,none⟩=some (.pointer (some ⟨g,0,none⟩)):=(by obtain⟨_,_,t5,_⟩:=k5;exact HB.out.at_ t5);obtain⟨F5,h5,n5⟩:=k5.open;have H5:=hid h5;clear h5 k5)
  |(go_simp;go_at_call 63;refine Calls.mono (HD.out _ _ H5.out) ?_;rintro _ w6 ⟨rfl,k6⟩;have k6:=(n5.out _ _ k6).pre HT.out;have hb:=HS.out.1.blk k6;obtain⟨⟨e0,e1,e2⟩,g0,g1,g2⟩:=aH hb;have hr:=aA hb (.int .i64 sa) (.int .i64 sb) (.int .i64 sc);have HK:=hid (And.intro hr (HS.out.1.end_ k6 (.int .i64 sa) (.int .i64 sb) (.int .i64 sc)));clear hr hb k6))
 all_goals obtain⟨⟨r0,r1,r2⟩,hK⟩:=HK.out
 all_goals have HK:=hid hK
 all_goals clear hK
 all_goals go_wp2_with fail
 all_goals refine bodyPost_ret (by simp[results,results45,go_sem,r0,r1,r2];try rfl) rfl ?_
 all_goals exact⟨rfl,HK.out⟩
theorem CU{w:World}{g:Nat}{p:Lay}{F:List Nat}{m:M}(h:ak w g p F m)(hf:dH m)(xt n v:Int)(hw:m.word xt=some (6,n,v)):Calls prog 45 #[.pointer (some ⟨g,0,none⟩),.int .i64 xt] w fun R w'=>R=.returned (jK (M.done (m.push v)).1)∧Keep w g p F (M.done (m.push v)).2 w':=by
 obtain⟨z,hz⟩:∃z,w.heap.size=z:=⟨_,rfl⟩;have HS:=hid (Start.zu w h);have bq:=h.touch HS.out.1.t (by simp);rw[hz]at HS;have hF:=iC bq hf.words xt;unfold iJ at hF;rw[hw]at hF;have iN:=bq.lt;have b0:=HS.out.2.at_ (Touch.refl F _);have HA:=hid (fun(W:World) F1 (hW:ak W g p F1 m)=>jy hW hf.st v);have fU:=hf.push v;obtain⟨⟨pe,pm⟩,hp⟩:∃q,m.push v=q:=⟨_,rfl⟩;rw[hp]at HA fU⊢;dsimp only at fU
 have HD:=hid (fun(W:World) F1 (hW:ak W g p F1 pm)=>dK hW fU pe);obtain⟨⟨⟨sa,sb,sc⟩,m'⟩,hq⟩:∃q,M.done (pe,pm)=q:=⟨_,rfl⟩;rw[hq]at HD⊢;clear hq hp fU h hf hw;go_enter func45,ntmps45;go_upto_region 1 with fail;clear hz;generalize (w.alloc (.cells #[.pointer (some ⟨g,0,none⟩)] 27)).alloc (.cells #[.int .i64 0,.int .i64 0,.int .i64 0] 48)=W0 at*;go_wp2_with fail;refine hF.mono ?_;rintro _ _ ⟨_,rfl,rfl,b,i,rfl,qV,zI,k0,k1,k2⟩;clear zI;have tY:=(tR W0).alloc (.cells #[.int .i64 6,.int .i64 n,.int .i64 v] 35);have bY:=aF.new W0 35 #[.int .i64 6,.int .i64 n,.int .i64 v];have oC:=bq.touch tY (by simp);have HB:=hid (show Cap (W0.alloc (.cells #[.int .i64 6,.int .i64 n,.int .i64 v] 35)) F z g from⟨HS.out.2.blk.alloc _,HS.out.2.off⟩);obtain⟨y,hy⟩:∃y,W0.heap.size=y:=⟨_,rfl⟩;have l9:y∉F:=fun hx=>by have:=iN y hx;omega
 rw[hy]at bY;have HC:=hid (show vS (W0.alloc (.cells #[.int .i64 6,.int .i64 n,.int .i64 v] 35)) F y 6 n v from⟨bY,l9⟩);clear hF bq l9 iN qV;go_upto_region 5 with fail;clear hy;generalize W0.alloc (.cells #[.int .i64 6,.int .i64 n,.int .i64 v] 35)=W1 at*;have y0:=bY.cell 0;have y1:=bY.cell 1;have y2:=bY.cell 2;have b1:=HB.out.at_ (Touch.refl F _);have HT:=hid tY;clear tY bY k0 k1 k2 b0;go_upto_region 13 with fail;have HE:=hid (oC.touch (tR W1).drew (by simp));clear oC;go_region_law (first
  |(go_simp;go_at_call 66;refine Calls.mono (HA.out _ _ HE.out) ?_;rintro _ w5 ⟨rfl,k5⟩;have k5:=k5.pre (tR W1).drew;have b5:w5.cell? ⟨z,0,none⟩=some (.pointer (some ⟨g,0,none⟩)):=(by obtain⟨_,_,t5,_⟩:=k5;exact HB.out.at_ t5);obtain⟨F5,h5,n5⟩:=k5.open;have H5:=hid h5;clear h5 k5)
  |(go_simp;go_at_call 63;refine Calls.mono (HD.out _ _ H5.out) ?_;rintro _ w6 ⟨rfl,k6⟩;have k6:=(n5.out _ _ k6).pre HT.out;have hb:=HS.out.1.blk k6;obtain⟨⟨e0,e1,e2⟩,g0,g1,g2⟩:=aH hb;have hr:=aA hb (.int .i64 sa) (.int .i64 sb) (.int .i64 sc);have HK:=hid (And.intro hr (HS.out.1.end_ k6 (.int .i64 sa) (.int .i64 sb) (.int .i64 sc)));clear hr hb k6))
 all_goals obtain⟨⟨r0,r1,r2⟩,hK⟩:=HK.out
 all_goals have HK:=hid hK
 all_goals clear hK
 all_goals go_wp2_with fail
 all_goals refine bodyPost_ret (by simp[results,results45,go_sem,r0,r1,r2];try rfl) rfl ?_
 all_goals exact⟨rfl,HK.out⟩
theorem AU{w:World}{g:Nat}{p:Lay}{F:List Nat}{m:M}(h:ak w g p F m)(hf:dH m)(xt n v:Int)(hw:m.word xt=some (9,n,v)):Calls prog 45 #[.pointer (some ⟨g,0,none⟩),.int .i64 xt] w fun R w'=>R=.returned (jK (M.done (m.push v)).1)∧Keep w g p F (M.done (m.push v)).2 w':=by
 obtain⟨z,hz⟩:∃z,w.heap.size=z:=⟨_,rfl⟩;have HS:=hid (Start.zu w h);have bq:=h.touch HS.out.1.t (by simp);rw[hz]at HS;have hF:=iC bq hf.words xt;unfold iJ at hF;rw[hw]at hF;have iN:=bq.lt;have b0:=HS.out.2.at_ (Touch.refl F _);have HA:=hid (fun(W:World) F1 (hW:ak W g p F1 m)=>jy hW hf.st v);have fU:=hf.push v;obtain⟨⟨pe,pm⟩,hp⟩:∃q,m.push v=q:=⟨_,rfl⟩;rw[hp]at HA fU⊢;dsimp only at fU
 have HD:=hid (fun(W:World) F1 (hW:ak W g p F1 pm)=>dK hW fU pe);obtain⟨⟨⟨sa,sb,sc⟩,m'⟩,hq⟩:∃q,M.done (pe,pm)=q:=⟨_,rfl⟩;rw[hq]at HD⊢;clear hq hp fU h hf hw;go_enter func45,ntmps45;go_upto_region 1 with fail;clear hz;generalize (w.alloc (.cells #[.pointer (some ⟨g,0,none⟩)] 27)).alloc (.cells #[.int .i64 0,.int .i64 0,.int .i64 0] 48)=W0 at*;go_wp2_with fail;refine hF.mono ?_;rintro _ _ ⟨_,rfl,rfl,b,i,rfl,qV,zI,k0,k1,k2⟩;clear zI;have tY:=(tR W0).alloc (.cells #[.int .i64 9,.int .i64 n,.int .i64 v] 35);have bY:=aF.new W0 35 #[.int .i64 9,.int .i64 n,.int .i64 v];have oC:=bq.touch tY (by simp);have HB:=hid (show Cap (W0.alloc (.cells #[.int .i64 9,.int .i64 n,.int .i64 v] 35)) F z g from⟨HS.out.2.blk.alloc _,HS.out.2.off⟩);obtain⟨y,hy⟩:∃y,W0.heap.size=y:=⟨_,rfl⟩;have l9:y∉F:=fun hx=>by have:=iN y hx;omega
 rw[hy]at bY;have HC:=hid (show vS (W0.alloc (.cells #[.int .i64 9,.int .i64 n,.int .i64 v] 35)) F y 9 n v from⟨bY,l9⟩);clear hF bq l9 iN qV;go_upto_region 5 with fail;clear hy;generalize W0.alloc (.cells #[.int .i64 9,.int .i64 n,.int .i64 v] 35)=W1 at*;have y0:=bY.cell 0;have y1:=bY.cell 1;have y2:=bY.cell 2;have b1:=HB.out.at_ (Touch.refl F _);have HT:=hid tY;clear tY bY k0 k1 k2 b0;go_upto_region 13 with fail;have HE:=hid (oC.touch (tR W1).drew (by simp));clear oC;go_region_law (first
  |(go_simp;go_at_call 66;refine Calls.mono (HA.out _ _ HE.out) ?_;rintro _ w5 ⟨rfl,k5⟩;have k5:=k5.pre (tR W1).drew;have b5:w5.cell? ⟨z,0,none⟩=some (.pointer (some ⟨g,0,none⟩)):=(by obtain⟨_,_,t5,_⟩:=k5;exact HB.out.at_ t5);obtain⟨F5,h5,n5⟩:=k5.open;have H5:=hid h5;clear h5 k5)
  |(go_simp;go_at_call 63;refine Calls.mono (HD.out _ _ H5.out) ?_;rintro _ w6 ⟨rfl,k6⟩;have k6:=(n5.out _ _ k6).pre HT.out;have hb:=HS.out.1.blk k6;obtain⟨⟨e0,e1,e2⟩,g0,g1,g2⟩:=aH hb;have hr:=aA hb (.int .i64 sa) (.int .i64 sb) (.int .i64 sc);have HK:=hid (And.intro hr (HS.out.1.end_ k6 (.int .i64 sa) (.int .i64 sb) (.int .i64 sc)));clear hr hb k6))
 all_goals obtain⟨⟨r0,r1,r2⟩,hK⟩:=HK.out
 all_goals have HK:=hid hK
 all_goals clear hK
 all_goals go_wp2_with fail
 all_goals refine bodyPost_ret (by simp[results,results45,go_sem,r0,r1,r2];try rfl) rfl ?_
 all_goals exact⟨rfl,HK.out⟩
def Oz(wB:World)(D:Int→PS→Int×PS)(s:Nat)(S:PS)(op:Int):Prop:=∀W F',aC W s F' S→(∀x∈F',wB.heap.size≤x)→Touch [] wB W→
 Calls prog 64 #[.pointer (some ⟨s,0,none⟩),.int .i64 op] W fun e w'=>∃lO,e=.returned (.int .i64 (D op S).1)∧aC w' s lO (D op S).2∧Touch F' W w'∧Sub W F' lO
theorem bp{wB w:World}{g:Nat}{p:Lay}{F:List Nat}{m:M}(h:ak w g p F m)(hF:∀x∈F,wB.heap.size≤x)(t:Touch [] wB w){D:Int→PS→Int×PS}{op:Int}(hD:Oz wB D p.s m.S op):
 Calls prog 64 #[.pointer (some ⟨p.s,0,none⟩),.int .i64 op] w fun e w'=>e=.returned (.int .i64 (D op m.S).1)∧Keep w g p F {m with S:=(D op m.S).2} w':=by
 obtain⟨cv,ev,wv,Ff,FS,FI,h,rfl⟩:=h;refine(hD w FS h.st (fun x hx=>hF x (fA.2 (by simp[hx]))) t).mono ?_;rintro _ w1 ⟨F',rfl,h1,t1,s1⟩;exact⟨rfl,h.Ss h1 t1 s1⟩
theorem CV{w:World}{g:Nat}{p:Lay}{F:List Nat}{m:M}(h:ak w g p F m)(hf:dH m)(xt n v:Int)(hw:m.word xt=some (1,n,v)){wB:World}(nV:∀x∈F,wB.heap.size≤x)(tB:Touch [] wB w){D:Int→PS→Int×PS}(SQ:pK PS.ok D)(hD:Oz wB D p.s m.S n):Calls prog 45 #[.pointer (some ⟨g,0,none⟩),.int .i64 xt] w fun R w'=>R=.returned (jK (M.done ((D n m.S).1,{m with S:=(D n m.S).2})).1)∧Keep w g p F (M.done ((D n m.S).1,{m with S:=(D n m.S).2})).2 w':=by
 obtain⟨z,hz⟩:∃z,w.heap.size=z:=⟨_,rfl⟩;have HS:=hid (Start.zu w h);have bq:=h.touch HS.out.1.t (by simp);rw[hz]at HS;have hF:=iC bq hf.words xt;unfold iJ at hF;rw[hw]at hF;have iN:=bq.lt;have b0:=HS.out.2.at_ (Touch.refl F _);have HA:=hid (fun(W:World) (hW:ak W g p F m) (t:Touch [] wB W)=>bp hW nV t hD);have Xj:=hid (tB.trans HS.out.1.t (by simp));have fU:dH {m with S:=(D n m.S).2}:=by
  obtain⟨d1,d2⟩:=SQ n m.S hf.st hf.ok;exact hf.turn d1 d2 hf.fr rfl rfl rfl rfl
 obtain⟨pe,rk⟩:∃q,(D n m.S).1=q:=⟨_,rfl⟩;obtain⟨pm,AO⟩:∃q:M,{m with S:=(D n m.S).2}=q:=⟨_,rfl⟩;rw[rk,AO]at HA⊢;rw[AO]at fU;have HD:=hid (fun(W:World) F1 (hW:ak W g p F1 pm)=>dK hW fU pe);obtain⟨⟨⟨sa,sb,sc⟩,m'⟩,hq⟩:∃q,M.done (pe,pm)=q:=⟨_,rfl⟩;rw[hq]at HD⊢;clear hq rk AO fU h hf hw nV tB SQ hD;go_enter func45,ntmps45;go_upto_region 1 with fail;clear hz;generalize (w.alloc (.cells #[.pointer (some ⟨g,0,none⟩)] 27)).alloc (.cells #[.int .i64 0,.int .i64 0,.int .i64 0] 48)=W0 at*;go_wp2_with fail;refine hF.mono ?_;rintro _ _ ⟨_,rfl,rfl,b,i,rfl,qV,zI,k0,k1,k2⟩;clear zI;have tY:=(tR W0).alloc (.cells #[.int .i64 1,.int .i64 n,.int .i64 v] 35);have bY:=aF.new W0 35 #[.int .i64 1,.int .i64 n,.int .i64 v];have oC:=bq.touch tY (by simp);have HB:=hid (show Cap (W0.alloc (.cells #[.int .i64 1,.int .i64 n,.int .i64 v] 35)) F z g from⟨HS.out.2.blk.alloc _,HS.out.2.off⟩);obtain⟨y,hy⟩:∃y,W0.heap.size=y:=⟨_,rfl⟩;have l9:y∉F:=fun hx=>by have:=iN y hx;omega
 rw[hy]at bY;have HC:=hid (show vS (W0.alloc (.cells #[.int .i64 1,.int .i64 n,.int .i64 v] 35)) F y 1 n v from⟨bY,l9⟩);clear hF bq l9 iN qV;go_upto_region 5 with fail;clear hy;generalize W0.alloc (.cells #[.int .i64 1,.int .i64 n,.int .i64 v] 35)=W1 at*;have y0:=bY.cell 0;have y1:=bY.cell 1;have y2:=bY.cell 2;have b1:=HB.out.at_ (Touch.refl F _);have HT:=hid tY;clear tY bY k0 k1 k2 b0;have c7:=oC.c7;go_upto_region 8 with fail;have HE:=hid (oC.touch (tR W1).drew (by simp));clear oC;go_region_law (first
  |(go_simp;go_at_call 64;refine Calls.mono (HA.out _ HE.out (Xj.out.trans (HT.out.trans (tR W1).drew (by simp)) (by simp))) ?_;rintro _ w5 ⟨rfl,k5⟩;have k5:=k5.pre (tR W1).drew;have b5:w5.cell? ⟨z,0,none⟩=some (.pointer (some ⟨g,0,none⟩)):=(by obtain⟨_,_,t5,_⟩:=k5;exact HB.out.at_ t5);obtain⟨F5,h5,n5⟩:=k5.open;have H5:=hid h5;clear h5 k5)
  |(go_simp;go_at_call 63;refine Calls.mono (HD.out _ _ H5.out) ?_;rintro _ w6 ⟨rfl,k6⟩;have k6:=(n5.out _ _ k6).pre HT.out;have hb:=HS.out.1.blk k6;obtain⟨⟨e0,e1,e2⟩,g0,g1,g2⟩:=aH hb;have hr:=aA hb (.int .i64 sa) (.int .i64 sb) (.int .i64 sc);have HK:=hid (And.intro hr (HS.out.1.end_ k6 (.int .i64 sa) (.int .i64 sb) (.int .i64 sc)));clear hr hb k6))
 all_goals obtain⟨⟨r0,r1,r2⟩,hK⟩:=HK.out
 all_goals have HK:=hid hK
 all_goals clear hK
 all_goals go_wp2_with fail
 all_goals refine bodyPost_ret (by simp[results,results45,go_sem,r0,r1,r2];try rfl) rfl ?_
 all_goals exact⟨rfl,HK.out⟩
theorem br{g:Nat}{p:Lay}{m:M}(hf:dH m)(n:Int)(h1:1≤n)(h2:n≤9):∃cf,atKey (rh g) n=some (.func (.func cf) #[.pointer (some ⟨g,0,none⟩)] #[])∧Enters prog cf∧∀W F1,ak W g p F1 m→Calls prog cf #[.pointer (some ⟨g,0,none⟩)] W fun R w'=>R=.returned (jK (m.control n).1)∧Keep W g p F1 (m.control n).2 w':=by
 rcases(by omega:n=1∨n=2∨n=3∨n=4∨n=5∨n=6∨n=7∨n=8∨n=9)with rfl|rfl|rfl|rfl|rfl|rfl|rfl|rfl|rfl
 ·exact⟨99,rfl,enters_of func99 (by kernel_rfl) rfl,fun W F1 hW=>Xf hW hf⟩
 ·exact⟨100,rfl,enters_of func100 (by kernel_rfl) rfl,fun W F1 hW=>Ow hW hf⟩
 ·exact⟨101,rfl,enters_of func101 (by kernel_rfl) rfl,fun W F1 hW=>Ov hW hf⟩
 ·exact⟨102,rfl,enters_of func102 (by kernel_rfl) rfl,fun W F1 hW=>Ot hW hf⟩
 ·exact⟨103,rfl,enters_of func103 (by kernel_rfl) rfl,fun W F1 hW=>Ou hW hf⟩
 ·exact⟨104,rfl,enters_of func104 (by kernel_rfl) rfl,fun W F1 hW=>Kq hW hf⟩
 ·exact⟨105,rfl,enters_of func105 (by kernel_rfl) rfl,fun W F1 hW=>ET hW hf⟩
 ·exact⟨106,rfl,enters_of func106 (by kernel_rfl) rfl,fun W F1 hW=>G9 hW hf⟩
 ·exact⟨107,rfl,enters_of func107 (by kernel_rfl) rfl,fun W F1 hW=>Kr hW hf⟩
theorem E8{w:World}{g:Nat}{p:Lay}{F:List Nat}{m:M}(h:ak w g p F m)(hf:dH m)(xt n v:Int)(hw:m.word xt=some (2,n,v))(h1:1≤n)(h2:n≤9):Calls prog 45 #[.pointer (some ⟨g,0,none⟩),.int .i64 xt] w fun R w'=>R=.returned (jK (m.control n).1)∧Keep w g p F (m.control n).2 w':=by
 obtain⟨z,hz⟩:∃z,w.heap.size=z:=⟨_,rfl⟩;have HS:=hid (Start.zu w h);have bq:=h.touch HS.out.1.t (by simp);rw[hz]at HS;have hF:=iC bq hf.words xt;unfold iJ at hF;rw[hw]at hF;have iN:=bq.lt;have b0:=HS.out.2.at_ (Touch.refl F _);obtain⟨cf,hat,EL,hC⟩:=br (g:=g) (p:=p) hf n h1 h2;have HC:=hid hC;obtain⟨⟨⟨sa,sb,sc⟩,m'⟩,hq⟩:∃q,m.control n=q:=⟨_,rfl⟩;rw[hq]at HC⊢;have rq:=hid hat;have mV:∀(args:Array Value) (w:World),(callFunc cf args).run prog w=.ok (.enter cf args) w:=EL;clear hq hC hat EL h hf hw h1 h2;go_enter func45,ntmps45;go_upto_region 1 with fail;clear hz;generalize (w.alloc (.cells #[.pointer (some ⟨g,0,none⟩)] 27)).alloc (.cells #[.int .i64 0,.int .i64 0,.int .i64 0] 48)=W0 at*;go_wp2_with fail;refine hF.mono ?_;rintro _ _ ⟨_,rfl,rfl,b,i,rfl,qV,zI,k0,k1,k2⟩;clear zI;have tY:=(tR W0).alloc (.cells #[.int .i64 2,.int .i64 n,.int .i64 v] 35);have bY:=aF.new W0 35 #[.int .i64 2,.int .i64 n,.int .i64 v];have oC:=bq.touch tY (by simp);have HB:=hid (show Cap (W0.alloc (.cells #[.int .i64 2,.int .i64 n,.int .i64 v] 35)) F z g from⟨HS.out.2.blk.alloc _,HS.out.2.off⟩);obtain⟨y,hy⟩:∃y,W0.heap.size=y:=⟨_,rfl⟩;have l9:y∉F:=fun hx=>by have:=iN y hx;omega
 rw[hy]at bY;have HCW:=hid (show vS (W0.alloc (.cells #[.int .i64 2,.int .i64 n,.int .i64 v] 35)) F y 2 n v from⟨bY,l9⟩);clear hF bq l9 iN qV;go_upto_region 5 with fail;clear hy;generalize W0.alloc (.cells #[.int .i64 2,.int .i64 n,.int .i64 v] 35)=W1 at*;have y0:=bY.cell 0;have y1:=bY.cell 1;have y2:=bY.cell 2;have b1:=HB.out.at_ (Touch.refl F _);have HT:=hid tY;clear tY bY k0 k1 k2 b0;go_upto_region 22 with fail;have HE:=hid oC;have HY:=hid y1;clear oC;go_region_law (first
  |(go_simp;go_at_call 71;refine Calls.mono (EX _ g) ?_;rintro _ w5 ⟨mb,rfl,hM,t5⟩;have t5:=t5.aO;have hlk:=(hM.lookup (P:=prog) underlying133 underlying3 rq.out).1;have yy5:w5.cell? ⟨y,1,none⟩=some (.int .i64 n):=ah t5 HY.out;have H5:=hid (And.intro (HE.out.touch t5 (by simp)) t5);clear hM t5)
  |(go_simp;refine Calls.mono (HC.out _ _ H5.out.1) ?_;rintro _ w6 ⟨rfl,k6⟩;have k6:=(k6.pre H5.out.2).pre HT.out;have hb:=HS.out.1.blk k6;obtain⟨⟨e0,e1,e2⟩,g0,g1,g2⟩:=aH hb;have hr:=aA hb (.int .i64 sa) (.int .i64 sb) (.int .i64 sc);have HK:=hid (And.intro hr (HS.out.1.end_ k6 (.int .i64 sa) (.int .i64 sb) (.int .i64 sc)));clear hr hb k6))
 all_goals obtain⟨⟨r0,r1,r2⟩,hK⟩:=HK.out
 all_goals have HK:=hid hK
 all_goals clear hK
 all_goals go_wp2_with fail
 all_goals refine bodyPost_ret (by simp[results,results45,go_sem,r0,r1,r2];try rfl) rfl ?_
 all_goals exact⟨rfl,HK.out⟩
theorem AV{w:World}{g:Nat}{p:Lay}{F:List Nat}{m:M}(h:ak w g p F m)(hf:dH m)(xt n v:Int)(hw:m.word xt=some (8,n,v)):Calls prog 45 #[.pointer (some ⟨g,0,none⟩),.int .i64 xt] w fun R w'=>R=.returned (jK (m.deferred n).1)∧Keep w g p F (m.deferred n).2 w':=by
 obtain⟨z,hz⟩:∃z,w.heap.size=z:=⟨_,rfl⟩;have HS:=hid (Start.zu w h);have bq:=h.touch HS.out.1.t (by simp);rw[hz]at HS;have hF:=iC bq hf.words xt;unfold iJ at hF;rw[hw]at hF;have iN:=bq.lt;have b0:=HS.out.2.at_ (Touch.refl F _);have HA:=hid (fun(W:World) F1 (hW:ak W g p F1 m)=>EU hW hf n);obtain⟨⟨⟨sa,sb,sc⟩,m'⟩,hq⟩:∃q,m.deferred n=q:=⟨_,rfl⟩;rw[hq]at HA⊢;clear hq h hf hw;go_enter func45,ntmps45;go_upto_region 1 with fail;clear hz;generalize (w.alloc (.cells #[.pointer (some ⟨g,0,none⟩)] 27)).alloc (.cells #[.int .i64 0,.int .i64 0,.int .i64 0] 48)=W0 at*;go_wp2_with fail;refine hF.mono ?_;rintro _ _ ⟨_,rfl,rfl,b,i,rfl,qV,zI,k0,k1,k2⟩;clear zI;have tY:=(tR W0).alloc (.cells #[.int .i64 8,.int .i64 n,.int .i64 v] 35);have bY:=aF.new W0 35 #[.int .i64 8,.int .i64 n,.int .i64 v];have oC:=bq.touch tY (by simp);have HB:=hid (show Cap (W0.alloc (.cells #[.int .i64 8,.int .i64 n,.int .i64 v] 35)) F z g from⟨HS.out.2.blk.alloc _,HS.out.2.off⟩);obtain⟨y,hy⟩:∃y,W0.heap.size=y:=⟨_,rfl⟩;have l9:y∉F:=fun hx=>by have:=iN y hx;omega
 rw[hy]at bY;have HC:=hid (show vS (W0.alloc (.cells #[.int .i64 8,.int .i64 n,.int .i64 v] 35)) F y 8 n v from⟨bY,l9⟩);clear hF bq l9 iN qV;go_upto_region 5 with fail;clear hy;generalize W0.alloc (.cells #[.int .i64 8,.int .i64 n,.int .i64 v] 35)=W1 at*;have y0:=bY.cell 0;have y1:=bY.cell 1;have y2:=bY.cell 2;have b1:=HB.out.at_ (Touch.refl F _);have HT:=hid tY;clear tY bY k0 k1 k2 b0;have hA:=HA.out _ _ oC;clear oC;go_wp2_with fail;refine hA.mono ?_;rintro _ w2 ⟨rfl,k2⟩;have k2:=k2.pre HT.out;have hb:=HS.out.1.blk k2;obtain⟨⟨e0,e1,e2⟩,g0,g1,g2⟩:=aH hb;obtain⟨r0,r1,r2⟩:=aA hb (.int .i64 sa) (.int .i64 sb) (.int .i64 sc);have HK:=hid (HS.out.1.end_ k2 (.int .i64 sa) (.int .i64 sb) (.int .i64 sc));clear k2 hb hA;go_wp2_with fail;refine bodyPost_ret (by simp[results,results45,go_sem,r0,r1,r2];try rfl) rfl ?_;exact⟨rfl,HK.out⟩
theorem CW{w:World}{g:Nat}{p:Lay}{F:List Nat}{m:M}(h:ak w g p F m)(hf:dH m)(xt k n v:Int)(hw:m.word xt=some (k,n,v))(hk:(k==1)=false∧(k==5)=false∧(k==6)=false∧(k==9)=false∧(k==7)=false∧(k==8)=false∧(k==2)=false):Calls prog 45 #[.pointer (some ⟨g,0,none⟩),.int .i64 xt] w fun R w'=>R=.returned (jK (((2,k,n),m)).1)∧Keep w g p F (((2,k,n),m)).2 w':=by
 obtain⟨z,hz⟩:∃z,w.heap.size=z:=⟨_,rfl⟩;have HS:=hid (Start.zu w h);have bq:=h.touch HS.out.1.t (by simp);rw[hz]at HS;have hF:=iC bq hf.words xt;unfold iJ at hF;rw[hw]at hF;have iN:=bq.lt;have b0:=HS.out.2.at_ (Touch.refl F _);obtain⟨q1,q5,q6,q9,q7,q8,q2⟩:=hk;clear h hf hw;go_enter func45,ntmps45;go_upto_region 1 with fail;clear hz;generalize (w.alloc (.cells #[.pointer (some ⟨g,0,none⟩)] 27)).alloc (.cells #[.int .i64 0,.int .i64 0,.int .i64 0] 48)=W0 at*;go_wp2_with fail;refine hF.mono ?_;rintro _ _ ⟨_,rfl,rfl,b,i,rfl,qV,zI,k0,k1,k2⟩;clear zI;have tY:=(tR W0).alloc (.cells #[.int .i64 k,.int .i64 n,.int .i64 v] 35);have bY:=aF.new W0 35 #[.int .i64 k,.int .i64 n,.int .i64 v];have oC:=bq.touch tY (by simp);have HB:=hid (show Cap (W0.alloc (.cells #[.int .i64 k,.int .i64 n,.int .i64 v] 35)) F z g from⟨HS.out.2.blk.alloc _,HS.out.2.off⟩);obtain⟨y,hy⟩:∃y,W0.heap.size=y:=⟨_,rfl⟩;have l9:y∉F:=fun hx=>by have:=iN y hx;omega
 rw[hy]at bY;have HC:=hid (show vS (W0.alloc (.cells #[.int .i64 k,.int .i64 n,.int .i64 v] 35)) F y k n v from⟨bY,l9⟩);clear hF bq l9 iN qV;go_upto_region 5 with fail;clear hy;generalize W0.alloc (.cells #[.int .i64 k,.int .i64 n,.int .i64 v] 35)=W1 at*;have y0:=bY.cell 0;have y1:=bY.cell 1;have y2:=bY.cell 2;have b1:=HB.out.at_ (Touch.refl F _);have HT:=hid tY;clear tY bY k0 k1 k2 b0;have k2:=(Keep.refl oC).pre HT.out;have hb:=HS.out.1.blk k2;obtain⟨⟨e0,e1,e2⟩,g0,g1,g2⟩:=aH hb;obtain⟨r0,r1,r2⟩:=aA hb (.int .i64 2) (.int .i64 k) (.int .i64 n);have HK:=hid (HS.out.1.end_ k2 (.int .i64 2) (.int .i64 k) (.int .i64 n));clear k2 hb oC;go_wp2_with fail;refine bodyPost_ret (by simp[results,results45,go_sem,r0,r1,r2];try rfl) rfl ?_;exact⟨rfl,HK.out⟩
theorem OA(m:M)(n:Int):m.aM 0 (ku n)=if(m.call n).1=0 then(ran,(m.call n).2)else({(m.call n).2 with S:={(m.call n).2.S with st:=(m.call n).2.S.st.dropLast}}:M).throw (m.call n).1:=by
 have h:=MK (m:=m) (n:=0) (Nat.zero_le _) (ku n);have et:m.taken 0=m:=by unfold M.taken;rw[Nat.sub_zero,List.take_length]
 have e0:m.top 0=[]:=by unfold M.top;rw[Nat.sub_zero,List.drop_length]
 rw[et,e0]at h;refine h.trans ?_;unfold ku;dsimp only
 by_cases hq:(m.call n).1=0
 ·rw[if_pos hq,if_pos hq,if_pos hq]
 ·rw[if_neg hq,if_neg hq,if_neg hq];split<;>simp
theorem SS{m:M}{x:Int}(h:(m.push x).1≠0):(m.push x).2=m:=by
 unfold M.push iL at h⊢;by_cases hl:m.S.st.length<128
 ·rw[if_pos hl]at h;exact absurd rfl h
 ·rw[if_neg hl]
theorem Xk{m:M}{x:Int}(h:(m.push x).1=0):(m.push x).2.S.st≠[]:=by
 unfold M.push iL at h⊢;by_cases hl:m.S.st.length<128
 ·rw[if_pos hl];simp
 ·rw[if_neg hl]at h;exact absurd h (by show¬((-3:Int)=0);decide)
theorem CX{w:World}{g:Nat}{p:Lay}{F:List Nat}{m:M}(h:ak w g p F m)(hf:dH m)(xt n v:Int)(hw:m.word xt=some (7,n,v)):Calls prog 45 #[.pointer (some ⟨g,0,none⟩),.int .i64 xt] w fun R w'=>R=.returned (jK ((if(m.push v).1≠0 then m.throw (m.push v).1 else(m.push v).2.aM 0 (ku n))).1)∧Keep w g p F ((if(m.push v).1≠0 then m.throw (m.push v).1 else(m.push v).2.aM 0 (ku n))).2 w':=by
 obtain⟨z,hz⟩:∃z,w.heap.size=z:=⟨_,rfl⟩;have HS:=hid (Start.zu w h);have bq:=h.touch HS.out.1.t (by simp);rw[hz]at HS;have hF:=iC bq hf.words xt;unfold iJ at hF;rw[hw]at hF;have iN:=bq.lt;have b0:=HS.out.2.at_ (Touch.refl F _);have HA:=hid (fun(W:World) F1 (hW:ak W g p F1 m)=>jy hW hf.st v);by_cases h0:(m.push v).1=0
 ·rw[if_neg (by simpa using h0)];rw[h0]at HA;have hne:=Xk h0;have fU:=hf.push v;obtain⟨pm,AO⟩:∃q,(m.push v).2=q:=⟨_,rfl⟩;rw[AO]at HA hne fU⊢;have SV:dH (ku n (pm.top 0) (pm.taken 0)).2:=by
   have et:pm.taken 0=pm:=by unfold M.taken;rw[Nat.sub_zero,List.take_length]
   rw[et];unfold ku;dsimp only
   split
   ·exact fU.call n
   ·exact(fU.call n).iO (fT _ (fU.call n).st)
  have HW:=hid (fun(W:World) F1 b bw (hW:ak W g p F1 pm) (hb:Cap W F1 b g) (hx:vS W F1 bw 7 n v)=>iD hW fU 0 (by decide) 68 #[] #[.pointer (some ⟨b,0,none⟩),.pointer (some ⟨bw,0,none⟩)] (ku n) (enters_of func68 (by kernel_rfl) rfl) (Oy hb hx fU.st hne) (fun _=>SV) (fun _ _=>SV.st));rw[show((0:Nat):Int)=0 from rfl]at HW;obtain⟨⟨⟨sa,sb,sc⟩,m'⟩,hq⟩:∃q,pm.aM 0 (ku n)=q:=⟨_,rfl⟩;rw[hq]at HW⊢;clear hq AO hne SV fU h0 h hf hw;go_enter func45,ntmps45;go_upto_region 1 with fail;clear hz;generalize (w.alloc (.cells #[.pointer (some ⟨g,0,none⟩)] 27)).alloc (.cells #[.int .i64 0,.int .i64 0,.int .i64 0] 48)=W0 at*;go_wp2_with fail;refine hF.mono ?_;rintro _ _ ⟨_,rfl,rfl,b,i,rfl,qV,zI,k0,k1,k2⟩;clear zI;have tY:=(tR W0).alloc (.cells #[.int .i64 7,.int .i64 n,.int .i64 v] 35);have bY:=aF.new W0 35 #[.int .i64 7,.int .i64 n,.int .i64 v];have oC:=bq.touch tY (by simp);have HB:=hid (show Cap (W0.alloc (.cells #[.int .i64 7,.int .i64 n,.int .i64 v] 35)) F z g from⟨HS.out.2.blk.alloc _,HS.out.2.off⟩);obtain⟨y,hy⟩:∃y,W0.heap.size=y:=⟨_,rfl⟩;have l9:y∉F:=fun hx=>by have:=iN y hx;omega
  rw[hy]at bY;have HC:=hid (show vS (W0.alloc (.cells #[.int .i64 7,.int .i64 n,.int .i64 v] 35)) F y 7 n v from⟨bY,l9⟩);clear hF bq l9 iN qV;go_upto_region 5 with fail;clear hy;generalize W0.alloc (.cells #[.int .i64 7,.int .i64 n,.int .i64 v] 35)=W1 at*;have y0:=bY.cell 0;have y1:=bY.cell 1;have y2:=bY.cell 2;have b1:=HB.out.at_ (Touch.refl F _);have HT:=hid tY;clear tY bY k0 k1 k2 b0;have hA:=HA.out _ _ oC;have hlt:=oC.lt;clear oC;go_wp2_with fail;refine hA.mono ?_;rintro _ w2 ⟨rfl,k2⟩;obtain⟨F2,h2,t2,s2⟩:=k2;have hb2:Cap w2 F2 z g:=⟨HB.out.blk.touch t2 HB.out.off,fun hx=>(s2 z hx).elim HB.out.off (fun hh=>by have:=HB.out.blk.lt;omega)⟩;have hx2:vS w2 F2 y 7 n v:=⟨HC.out.blk.touch t2 HC.out.off,fun hx=>(s2 y hx).elim HC.out.off (fun hh=>by have:=HC.out.blk.lt;omega)⟩;have hW:=HW.out w2 F2 z y h2 hb2 hx2;have b2:=hb2.at_ (Touch.refl F2 _);have HN:=hid (fun(m3:M) (W3:World) (k:Keep w2 g p F2 m3 W3)=>(Keep.trans t2 s2 k).pre HT.out);have F9:∀(fn:Fn) (first cap:Array Value) (w:World),(Instr.makeFunc fn first cap).run prog w=.ok (.func fn first cap) w:=fun _ _ _ _=>rfl;clear hA h2 t2 s2 hb2 hx2 hlt y0 y1 y2 b1;go_wp2_with fail;refine hW.mono ?_;rintro _ w3 ⟨rfl,k3⟩;have k3:=HN.out _ _ k3;have hb:=HS.out.1.blk k3;obtain⟨⟨e0,e1,e2⟩,g0,g1,g2⟩:=aH hb;obtain⟨r0,r1,r2⟩:=aA hb (.int .i64 sa) (.int .i64 sb) (.int .i64 sc);have HK:=hid (HS.out.1.end_ k3 (.int .i64 sa) (.int .i64 sb) (.int .i64 sc));clear k3 hb hW b2 F9;go_wp2_with fail;refine bodyPost_ret (by simp[results,results45,go_sem,r0,r1,r2];try rfl) rfl ?_;exact⟨rfl,HK.out⟩
 ·rw[if_pos h0];have he:=SS h0;rw[he]at HA;obtain⟨pe,rk⟩:∃q,(m.push v).1=q:=⟨_,rfl⟩;rw[rk]at HA h0⊢;have V9:(pe==0)=false:=by simpa using h0
  have Ob:=hid (fun(W:World) F1 (hW:ak W g p F1 m)=>gD hW hf (pe));obtain⟨⟨⟨sa,sb,sc⟩,m'⟩,hq⟩:∃q,m.throw (pe)=q:=⟨_,rfl⟩;rw[hq]at Ob⊢;clear hq he rk h0 h hf hw;go_enter func45,ntmps45;go_upto_region 1 with fail;clear hz;generalize (w.alloc (.cells #[.pointer (some ⟨g,0,none⟩)] 27)).alloc (.cells #[.int .i64 0,.int .i64 0,.int .i64 0] 48)=W0 at*;go_wp2_with fail;refine hF.mono ?_;rintro _ _ ⟨_,rfl,rfl,b,i,rfl,qV,zI,k0,k1,k2⟩;clear zI;have tY:=(tR W0).alloc (.cells #[.int .i64 7,.int .i64 n,.int .i64 v] 35);have bY:=aF.new W0 35 #[.int .i64 7,.int .i64 n,.int .i64 v];have oC:=bq.touch tY (by simp);have HB:=hid (show Cap (W0.alloc (.cells #[.int .i64 7,.int .i64 n,.int .i64 v] 35)) F z g from⟨HS.out.2.blk.alloc _,HS.out.2.off⟩);obtain⟨y,hy⟩:∃y,W0.heap.size=y:=⟨_,rfl⟩;have l9:y∉F:=fun hx=>by have:=iN y hx;omega
  rw[hy]at bY;have HC:=hid (show vS (W0.alloc (.cells #[.int .i64 7,.int .i64 n,.int .i64 v] 35)) F y 7 n v from⟨bY,l9⟩);clear hF bq l9 iN qV;go_upto_region 5 with fail;clear hy;generalize W0.alloc (.cells #[.int .i64 7,.int .i64 n,.int .i64 v] 35)=W1 at*;have y0:=bY.cell 0;have y1:=bY.cell 1;have y2:=bY.cell 2;have b1:=HB.out.at_ (Touch.refl F _);have HT:=hid tY;clear tY bY k0 k1 k2 b0;have hA:=HA.out _ _ oC;clear oC;go_wp2_with fail;refine hA.mono ?_;rintro _ w2 ⟨rfl,k2⟩;have b2:w2.cell? ⟨z,0,none⟩=some (.pointer (some ⟨g,0,none⟩)):=by obtain⟨_,_,t5,_⟩:=k2;exact HB.out.at_ t5
  obtain⟨F2,h2,n2⟩:=k2.open;have hT:=Ob.out _ _ h2;clear hA k2 h2 y0 y1 y2 b1;go_wp2_with fail;refine hT.mono ?_;rintro _ w3 ⟨rfl,k3⟩;have k3:=(n2.out _ _ k3).pre HT.out;have hb:=HS.out.1.blk k3;obtain⟨⟨e0,e1,e2⟩,g0,g1,g2⟩:=aH hb;obtain⟨r0,r1,r2⟩:=aA hb (.int .i64 sa) (.int .i64 sb) (.int .i64 sc);have HK:=hid (HS.out.1.end_ k3 (.int .i64 sa) (.int .i64 sb) (.int .i64 sc));clear k3 hb hT b2;go_wp2_with fail;refine bodyPost_ret (by simp[results,results45,go_sem,r0,r1,r2];try rfl) rfl ?_;exact⟨rfl,HK.out⟩
theorem yS{w:World}{g:Nat}{p:Lay}{F:List Nat}{m:M}(h:ak w g p F m)(hf:dH m)(xt:Int){wB:World}(nV:∀x∈F,wB.heap.size≤x)(tB:Touch [] wB w){D:Int→PS→Int×PS}(SQ:pK PS.ok D)
 (hD:∀n v,m.word xt=some (1,n,v)→Oz wB D p.s m.S n) (E9:∀n v,m.word xt=some (2,n,v)→1≤n∧n≤9):
 Calls prog 45 #[.pointer (some ⟨g,0,none⟩),.int .i64 xt] w fun R w'=>R=.returned (jK (m.execute D xt).1)∧Keep w g p F (m.execute D xt).2 w':=by
 cases hw:m.word xt with
 |none=>
  rw[show m.execute D xt=m.throw (-9) by unfold M.execute;rw[hw]];exact CQ h hf xt hw
 |some u=>
  obtain⟨k,n,v⟩:=u;by_cases h1:k=1
  ·subst h1;rw[show m.execute D xt=M.done ((D n m.S).1,{m with S:=(D n m.S).2}) by unfold M.execute;rw[hw];rfl];exact CV h hf xt n v hw nV tB SQ (hD n v hw)
  by_cases h5:k=5
  ·subst h5;rw[show m.execute D xt=M.done (m.call n) by unfold M.execute;rw[hw];rfl];exact CS h hf xt n v hw
  by_cases h6:k=6
  ·subst h6;rw[show m.execute D xt=M.done (m.push v) by unfold M.execute;rw[hw];rfl];exact CU h hf xt n v hw
  by_cases h9:k=9
  ·subst h9;rw[show m.execute D xt=M.done (m.push v) by unfold M.execute;rw[hw];rfl];exact AU h hf xt n v hw
  by_cases h7:k=7
  ·subst h7;rw[show m.execute D xt=(if(m.push v).1≠0 then m.throw (m.push v).1 else(m.push v).2.aM 0 (ku n)) by unfold M.execute;rw[hw,OA];rfl];exact CX h hf xt n v hw
  by_cases h8:k=8
  ·subst h8;rw[show m.execute D xt=m.deferred n by unfold M.execute;rw[hw];rfl];exact AV h hf xt n v hw
  by_cases h2:k=2
  ·subst h2;rw[show m.execute D xt=m.control n by unfold M.execute;rw[hw];rfl];exact E8 h hf xt n v hw (E9 n v hw).1 (E9 n v hw).2
  ·rw[show m.execute D xt=((2,k,n),m) by
    unfold M.execute;rw[hw];dsimp only
    rw[if_neg h1,if_neg h5,if_neg (by omega),if_neg h7,if_neg h8,if_neg h2]]
   exact CW h hf xt k n v hw (by simp[h1,h5,h6,h9,h7,h8,h2])
theorem CY{w:World}{g:Nat}{p:Lay}{F:List Nat}{m:M}(h:ak w g p F m)(a v:Int)(q:St×M)(hX:∀W,Touch [] w W→ak W g p F m→Calls prog 45 #[.pointer (some ⟨g,0,none⟩),.int .i64 a] W fun R w'=>R=.returned (jK q.1)∧Keep W g p F q.2 w'):Calls prog 49 #[.pointer (some ⟨g,0,none⟩),.agg #[.int .u8 2,.int .i64 a,.int .i64 v]] w fun R w'=>R=.returned (jK q.1)∧Keep w g p F q.2 w':=by
 obtain⟨z,hz⟩:∃z,w.heap.size=z:=⟨_,rfl⟩;have HS:=hid (Start.uh w h 2 a v);have bq:=h.touch HS.out.1.t (by simp);rw[hz]at HS;have b0:=HS.out.2.1.at_ (Touch.refl F _);obtain⟨q0,q1,q2⟩:=HS.out.2.2.at_ (Touch.refl F _);have hT:=hX _ HS.out.1.t bq;obtain⟨⟨sa,sb,sc⟩,m'⟩:=q;dsimp only at hT⊢
 clear hX bq h;go_enter func49,ntmps49;go_upto_region 1 with fail;clear hz;generalize ((w.alloc (.cells #[.pointer (some ⟨g,0,none⟩)] 27)).alloc (.cells #[.int .u8 2,.int .i64 a,.int .i64 v] 56)).alloc (.cells #[.int .i64 0,.int .i64 0,.int .i64 0] 48)=W0 at*;go_wp2_with fail;refine hT.mono ?_;rintro _ w1 ⟨rfl,k1⟩;have hb:=HS.out.1.blk k1;obtain⟨⟨e0,e1,e2⟩,g0,g1,g2⟩:=aH hb;obtain⟨r0,r1,r2⟩:=aA hb (.int .i64 sa) (.int .i64 sb) (.int .i64 sc);have HK:=hid (HS.out.1.end_ k1 (.int .i64 sa) (.int .i64 sb) (.int .i64 sc));clear k1 hb hT b0 q0 q1 q2;go_wp2_with fail;refine bodyPost_ret (by simp[results,results49,go_sem,r0,r1,r2];try rfl) rfl ?_;exact⟨rfl,HK.out⟩
theorem CZ{w:World}{g:Nat}{p:Lay}{F:List Nat}{m:M}(h:ak w g p F m)(op a v:Int)(hop:(op==1)=false∧(op==2)=false∧(op==3)=false∧(op==4)=false∧(op==5)=false∧(op==6)=false∧(op==7)=false∧(op==8)=false∧(op==10)=false)(q:St×M)(hX:∀W,ak W g p F m→Calls prog 87 #[.pointer (some ⟨g,0,none⟩),.agg #[.int .u8 op,.int .i64 a,.int .i64 v]] W fun R w'=>R=.returned (jK q.1)∧Keep W g p F q.2 w'):Calls prog 49 #[.pointer (some ⟨g,0,none⟩),.agg #[.int .u8 op,.int .i64 a,.int .i64 v]] w fun R w'=>R=.returned (jK q.1)∧Keep w g p F q.2 w':=by
 obtain⟨z,hz⟩:∃z,w.heap.size=z:=⟨_,rfl⟩;have HS:=hid (Start.uh w h op a v);have bq:=h.touch HS.out.1.t (by simp);rw[hz]at HS;have b0:=HS.out.2.1.at_ (Touch.refl F _);obtain⟨q0,q1,q2⟩:=HS.out.2.2.at_ (Touch.refl F _);have hT:=hX _ bq;obtain⟨o1,o2,o3,o4,o5,o6,o7,o8,o10⟩:=hop;obtain⟨⟨sa,sb,sc⟩,m'⟩:=q;dsimp only at hT⊢
 clear hX bq h;go_enter func49,ntmps49;go_upto_region 1 with fail;clear hz;generalize ((w.alloc (.cells #[.pointer (some ⟨g,0,none⟩)] 27)).alloc (.cells #[.int .u8 op,.int .i64 a,.int .i64 v] 56)).alloc (.cells #[.int .i64 0,.int .i64 0,.int .i64 0] 48)=W0 at*;go_wp2_with fail;refine hT.mono ?_;rintro _ w1 ⟨rfl,k1⟩;have hb:=HS.out.1.blk k1;obtain⟨⟨e0,e1,e2⟩,g0,g1,g2⟩:=aH hb;obtain⟨r0,r1,r2⟩:=aA hb (.int .i64 sa) (.int .i64 sb) (.int .i64 sc);have HK:=hid (HS.out.1.end_ k1 (.int .i64 sa) (.int .i64 sb) (.int .i64 sc));clear k1 hb hT b0 q0 q1 q2;go_wp2_with fail;refine bodyPost_ret (by simp[results,results49,go_sem,r0,r1,r2];try rfl) rfl ?_;exact⟨rfl,HK.out⟩
theorem SX{w:World}{g:Nat}{p:Lay}{F:List Nat}{m:M}(h:ak w g p F m)(hf:dH m)(op a v:Int){wB:World}(nV:∀x∈F,wB.heap.size≤x)(tB:Touch [] wB w){D:Int→PS→Int×PS}(SQ:pK PS.ok D)
 (hD:∀n v,op=2→m.word a=some (1,n,v)→Oz wB D p.s m.S n) (E9:∀n v,m.word a=some (2,n,v)→1≤n∧n≤9)
 (hL:(op=12∨op=13∨op=14)→∀W,ak W g p F m→Calls prog 87 #[.pointer (some ⟨g,0,none⟩),.agg #[.int .u8 op,.int .i64 a,.int .i64 v]] W fun R w'=>R=.returned (jK (m.does D op a v).1)∧Keep W g p F (m.does D op a v).2 w'):
 Calls prog 49 #[.pointer (some ⟨g,0,none⟩),.agg #[.int .u8 op,.int .i64 a,.int .i64 v]] w fun R w'=>R=.returned (jK (m.does D op a v).1)∧Keep w g p F (m.does D op a v).2 w':=by
 by_cases h1:op=1
 ·subst h1;exact EY h hf a v
 by_cases h2:op=2
 ·subst h2;exact CY h a v (m.does D 2 a v) (fun W t hW=>yS hW hf a nV (tB.trans t (by simp)) SQ (fun n v hw=>hD n v rfl hw) E9)
 by_cases h3:op=3
 ·subst h3;exact CJ h hf a v
 by_cases h4:op=4
 ·subst h4;exact CO h hf a v
 by_cases h5:op=5
 ·subst h5;exact Hf h hf a v
 by_cases h6:op=6
 ·subst h6;exact EZ h hf a v
 by_cases h7:op=7
 ·subst h7;exact CK h hf a v
 by_cases h8:op=8
 ·subst h8;exact CP h hf a v
 by_cases h10:op=10
 ·subst h10;exact Hg h hf a v
 refine CZ h op a v (by simp[h1,h2,h3,h4,h5,h6,h7,h8,h10]) (m.does D op a v) (fun W hW=> ?_);by_cases h9:op=9
 ·subst h9;exact zw hW hf a v
 by_cases h11:op=11
 ·subst h11;exact AP hW hf a v
 by_cases hl:op=12∨op=13∨op=14
 ·exact hL hl W hW
 ·have e:m.does D op a v=M.done (0,{m with fr:=if(aU m.fr).k=4 then m.fr.dropLast else m.fr,df:=0,on:=0}):=by
   unfold M.does;rw[if_neg h1,if_neg h2,if_neg h3,if_neg h4,if_neg h5,if_neg h6,if_neg h7,if_neg h8,if_neg h9,if_neg h10,if_neg h11,if_neg (by omega),if_neg (by omega),if_neg (by omega)];rfl
  rw[e];have Ct:¬op=12:=by omega
  have Wd:¬op=13:=by omega
  have Wh:¬op=14:=by omega
  exact AQ hW hf a v op (by simp[h9,h11,Ct,Wd,Wh])
theorem MN{w:World}{g:Nat}{p:Lay}{F:List Nat}{m:M}(h:ak w g p F m)(hf:dH m){n i op a v:Int}(ha:m.at_ n i=some (op,a,v)):
 (0≤i∧i≤10000000)∧(0≤op∧op<256)∧Calls prog 47 #[.pointer (some ⟨g,0,none⟩),.int .i64 n,.int .i64 i] w fun e w'=>e=.returned (.tuple #[.agg #[.int .u8 op,.int .i64 a,.int .i64 v],.bool true])∧Touch [] w w':=by
 unfold M.at_ at ha;by_cases hc:n<1∨(m.ends.length:Int)<n∨i<0∨((m.ends.getD (n-1).toNat 0)-m.dU n).tdiv 2≤i
 ·rw[if_pos hc]at ha;cases ha
 ·rw[if_neg hc]at ha;obtain⟨k,rfl⟩:∃k:Nat,n=(k:Int)+1:=⟨(n-1).toNat,by omega⟩;obtain⟨i,rfl⟩:∃j:Nat,i=(j:Int):=⟨i.toNat,by omega⟩;have hk:k<m.ends.length:=by omega
  have e1:((k:Int)+1-1).toNat=k:=by omega
  rw[e1]at hc;dsimp only at ha
  rw[Int.toNat_natCast]at ha;injection ha with ha;injection ha with ha1 ha2;injection ha2 with ha2 ha3;have qY:=hf.ends (m.ends.getD k 0) (by rw[List.getD_eq_getElem?_getD,List.getElem?_eq_getElem hk];exact List.getElem_mem _);have kM:=hf.code;have hi:(i:Int)<(m.ends.getD k 0-m.dU ((k:Int)+1)).tdiv 2:=by omega
  have hy:=bm h hf k i hk _ rfl hi;refine⟨⟨by omega,?_⟩,⟨by omega,by omega⟩,?_⟩
  ·rcases Int.lt_or_le (m.ends.getD k 0-(m.dU ((k:Int)+1):Nat)) 0 with hh|hh
   ·rw[show m.ends.getD k 0-((m.dU ((k:Int)+1):Nat):Int)= -((m.dU ((k:Int)+1):Nat)-m.ends.getD k 0) by omega,Int.neg_tdiv,Int.tdiv_eq_ediv_of_nonneg (by omega)]at hi;omega
   ·rw[Int.tdiv_eq_ediv_of_nonneg hh]at hi;omega
  ·rw[ha1,ha2,ha3]at hy;exact hy
theorem C8{w:World}{g:Nat}{p:Lay}{F:List Nat}{m:M}(h:ak w g p F m)(hn:m.nx≠0)(q:St×M)(hX:∀W F1,ak W g p F1 {m with nx:=0}→Keep w g p F {m with nx:=0} W→Sub w F F1→Calls prog 45 #[.pointer (some ⟨g,0,none⟩),.int .i64 m.nx] W fun R w'=>R=.returned (jK q.1)∧Keep W g p F1 q.2 w'):
 Calls prog 27 #[.pointer (some ⟨g,0,none⟩)] w fun R w'=>R=.returned (jK q.1)∧Keep w g p F q.2 w':=by
 obtain⟨z,hz⟩:∃z,w.heap.size=z:=⟨_,rfl⟩;have HS:=hid (Start.box0 w h);have bq:=h.touch HS.out.1.t (by simp);rw[hz]at HS;have c6:=bq.c6;have f6:=bq.z 6;have hk:=bq.sO 0;obtain⟨nx,Gg⟩:∃nx,m.nx=nx:=⟨_,rfl⟩;rw[Gg]at c6 hX hn;have Mf:(nx==0)=false:=by simpa using hn
 have HX:=hid hX;have HE:=hid bq;obtain⟨⟨sa,sb,sc⟩,m'⟩:=q;dsimp only at HX⊢
 clear hX bq h hn Gg;go_enter func27,ntmps27;go_upto_region 1 with fail;clear hz;generalize w.alloc (.cells #[.int .i64 0,.int .i64 0,.int .i64 0] 48)=W0 at*;go_upto_region 6 with fail;have tk:Touch F W0 (W0.setCell ⟨g,6,none⟩ (.int .i64 0)):=(Touch.refl F W0).setCell (.inl HE.out.EP) _;generalize W0.setCell ⟨g,6,none⟩ (.int .i64 0)=w1 at*;obtain⟨F1,h1,t1,s1⟩:=hk;have hT:=HX.out w1 F1 h1 ⟨F1,h1,(HS.out.1.t.mono (by simp)).trans t1 (fun x hx=>.inl hx),fun x hx=>(s1 x hx).imp id (Nat.le_trans HS.out.1.t.size)⟩ (fun x hx=>(s1 x hx).imp id (Nat.le_trans HS.out.1.t.size));have HN:=hid (fun(m2:M) (W2:World) (k:Keep w1 g p F1 m2 W2)=>Keep.trans t1 s1 k);clear h1 t1 s1 c6 f6 tk;go_wp2_with fail;refine hT.mono ?_;rintro _ w2 ⟨rfl,k2⟩;have k2:=HN.out _ _ k2;have hb:=HS.out.1.blk k2;obtain⟨⟨e0,e1,e2⟩,g0,g1,g2⟩:=aH hb;obtain⟨r0,r1,r2⟩:=aA hb (.int .i64 sa) (.int .i64 sb) (.int .i64 sc);have HK:=hid (HS.out.1.end_ k2 (.int .i64 sa) (.int .i64 sb) (.int .i64 sc));clear k2 hb hT Mf;go_wp2_with fail;refine bodyPost_ret (by simp[results,results27,go_sem,r0,r1,r2];try rfl) rfl ?_;exact⟨rfl,HK.out⟩
theorem C9{w:World}{g:Nat}{p:Lay}{F:List Nat}{m:M}(h:ak w g p F m)(hf:dH m)(hn:m.nx=0)(Wj:(aU m.fr).k=6∨(aU m.fr).k=7):
 Calls prog 27 #[.pointer (some ⟨g,0,none⟩)] w fun R w'=>R=.returned (jK (3,(aU m.fr).k,0))∧Keep w g p F m w':=by
 obtain⟨z,hz⟩:∃z,w.heap.size=z:=⟨_,rfl⟩;have HS:=hid (Start.box0 w h);have bq:=h.touch HS.out.1.t (by simp);rw[hz]at HS;have c6:=bq.c6;rw[hn]at c6;have c3:=bq.c3;have lS:=pO bq hf.fr;obtain⟨f,ef⟩:∃f,aU m.fr=f:=⟨_,rfl⟩;rw[ef]at lS Wj⊢;obtain⟨ok,bW⟩:∃ok,decide (m.fr≠[])=ok:=⟨_,rfl⟩;rw[bW]at lS;clear bq h hf hn bW ef;rcases Wj with h6|h6
 ·obtain⟨fk,fa,fb,fx,fy,fl⟩:=f;dsimp only at h6 lS
  subst h6;go_enter func27,ntmps27;go_upto_region 1 with fail;clear hz;generalize w.alloc (.cells #[.int .i64 0,.int .i64 0,.int .i64 0] 48)=W0 at*;go_wp2_with fail;refine lS.mono ?_;rintro _ w1 ⟨ta,tn,tc,rfl,k1⟩;have tY:=(tR w1).alloc (.cells #[.int .i64 6,.int .i64 fa,.int .i64 fb,.int .i64 fx,.int .i64 fy,.slice ta tn tc] 45);have bY:=aF.new w1 45 #[.int .i64 6,.int .i64 fa,.int .i64 fb,.int .i64 fx,.int .i64 fy,.slice ta tn tc];obtain⟨y,hy⟩:∃y,w1.heap.size=y:=⟨_,rfl⟩;rw[hy]at bY;obtain⟨F1,h1,n1⟩:=k1.open;have l9:y∉F1:=fun hx=>by have:=h1.lt y hx;omega
  have h2:=h1.touch tY (by simp);have HN:=hid (fun(m2:M) (W2:World) (k:Keep (w1.alloc (.cells #[.int .i64 6,.int .i64 fa,.int .i64 fb,.int .i64 fx,.int .i64 fy,.slice ta tn tc] 45)) g p F1 m2 W2)=>n1.out _ _ (k.pre tY));clear lS k1 h1 n1 tY c3 c6;go_upto_region 8 with fail;clear hy;generalize w1.alloc (.cells #[.int .i64 6,.int .i64 fa,.int .i64 fb,.int .i64 fx,.int .i64 fy,.slice ta tn tc] 45)=w2 at*;have y0:=bY.cell 0;have y1:=bY.cell 1;have y2:=bY.cell 2;have y3:=bY.cell 3;have k3:=HN.out _ _ (Keep.refl h2);have hb:=HS.out.1.blk k3;obtain⟨⟨e0,e1,e2⟩,g0,g1,g2⟩:=aH hb;obtain⟨r0,r1,r2⟩:=aA hb (.int .i64 3) (.int .i64 6) (.int .i64 0);have HK:=hid (HS.out.1.end_ k3 (.int .i64 3) (.int .i64 6) (.int .i64 0));clear k3 hb h2 bY;go_wp2_with fail;refine bodyPost_ret (by simp[results,results27,go_sem,r0,r1,r2];try rfl) rfl ?_;exact⟨rfl,HK.out⟩
 ·obtain⟨fk,fa,fb,fx,fy,fl⟩:=f;dsimp only at h6 lS
  subst h6;go_enter func27,ntmps27;go_upto_region 1 with fail;clear hz;generalize w.alloc (.cells #[.int .i64 0,.int .i64 0,.int .i64 0] 48)=W0 at*;go_wp2_with fail;refine lS.mono ?_;rintro _ w1 ⟨ta,tn,tc,rfl,k1⟩;have tY:=(tR w1).alloc (.cells #[.int .i64 7,.int .i64 fa,.int .i64 fb,.int .i64 fx,.int .i64 fy,.slice ta tn tc] 45);have bY:=aF.new w1 45 #[.int .i64 7,.int .i64 fa,.int .i64 fb,.int .i64 fx,.int .i64 fy,.slice ta tn tc];obtain⟨y,hy⟩:∃y,w1.heap.size=y:=⟨_,rfl⟩;rw[hy]at bY;obtain⟨F1,h1,n1⟩:=k1.open;have l9:y∉F1:=fun hx=>by have:=h1.lt y hx;omega
  have h2:=h1.touch tY (by simp);have HN:=hid (fun(m2:M) (W2:World) (k:Keep (w1.alloc (.cells #[.int .i64 7,.int .i64 fa,.int .i64 fb,.int .i64 fx,.int .i64 fy,.slice ta tn tc] 45)) g p F1 m2 W2)=>n1.out _ _ (k.pre tY));clear lS k1 h1 n1 tY c3 c6;go_upto_region 8 with fail;clear hy;generalize w1.alloc (.cells #[.int .i64 7,.int .i64 fa,.int .i64 fb,.int .i64 fx,.int .i64 fy,.slice ta tn tc] 45)=w2 at*;have y0:=bY.cell 0;have y1:=bY.cell 1;have y2:=bY.cell 2;have y3:=bY.cell 3;have k3:=HN.out _ _ (Keep.refl h2);have hb:=HS.out.1.blk k3;obtain⟨⟨e0,e1,e2⟩,g0,g1,g2⟩:=aH hb;obtain⟨r0,r1,r2⟩:=aA hb (.int .i64 3) (.int .i64 7) (.int .i64 0);have HK:=hid (HS.out.1.end_ k3 (.int .i64 3) (.int .i64 7) (.int .i64 0));clear k3 hb h2 bY;go_wp2_with fail;refine bodyPost_ret (by simp[results,results27,go_sem,r0,r1,r2];try rfl) rfl ?_;exact⟨rfl,HK.out⟩
end En
end Go.Proofs.YtdokeddjcpnmiaaGreatDoor
