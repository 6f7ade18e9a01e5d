/- Of EngineClean: TotOps2. -/
import Derived.Test.YtdokeddjcpnmiaaGreatDoorQRealOps
set_option maxRecDepth 100000
set_option maxHeartbeats 2000000
namespace Go.Proofs.YtdokeddjcpnmiaaGreatDoor
open Go.RowKit Go.Proofs.Tryz
open Go.Lib(hid)
theorem Jl{bs:List Int}{n:Nat}{p x:Int}(h:¬eU n p=0):nT bs n p x=bs:=by
 unfold nT;unfold eU at h;split
 ·rename_i hk;rw[if_pos hk]at h;exact absurd rfl h
 ·rfl
def NF(bs:List Int)(n:Nat)(p:Int):Int:=if eU n p=0 then ny bs n (IntKind.i64.wrap (p+8))else 0
def NL(bs:List Int)(n:Nat)(p:Int):Int:=if eU n p=0 then ny bs n p else 0
def xl(n:Nat)(p:Int):Int:=if eU n p=0 then eU n (IntKind.i64.wrap (p+8))else eU n p
def xm(n:Nat)(p:Int):Int:=if eU n p=0 then(if eU n (IntKind.i64.wrap (p+8))=0 then eU n p else eU n (IntKind.i64.wrap (p+8)))else eU n p
def NN(bs:List Int)(n:Nat)(p x y:Int):List Int:=if eU n p=0 then(if eU n (IntKind.i64.wrap (p+8))=0 then nT (nT bs n (IntKind.i64.wrap (p+8)) x) n p y else bs)else bs
theorem QC:cu 77 2 (fun _ _=>True) (fun l S=>(([],eU S.n (l.getD 1 0)),{S with bs:=nT S.bs S.n (l.getD 1 0) (IntKind.i64.wrap (ny S.bs S.n (l.getD 1 0)+l.getD 0 0))})):=by
 intro W B s F S t f first cap l lv bW hS hF eO;obtain⟨b,C,hC,hb,hA,hB⟩:=dA eO rfl rfl;obtain⟨g,_,hg,rfl,rfl,rfl,rfl⟩:=aW (hA:aQ C 2 281 132 (.func (.func 202) #[] #[.pointer (some ⟨b,0,none⟩)]) _ W) (Nat.zero_le _);refine⟨rfl,enters_of func281 (by kernel_rfl) rfl,fun hl bG hc=>aR.post (bU hg (enters_of func202 (by kernel_rfl) rfl) ?_)⟩;obtain⟨ad,c,q0,q1,e,rfl,mg,wH⟩:=hc.two hl;subst e;show Calls prog _ _ W fun e w'=>e=.returned (.int .i64 (eU S.n q1))∧Done W s F S {S with bs:=nT S.bs S.n q1 (IntKind.i64.wrap (ny S.bs S.n q1+q0))} w';have hG:=wO (hS.mem.quiet ((tR W).drew)) q1;have hP:=fun w (h:aY w S.m S.g S.n S.bs S.here)=>wP h q1 (IntKind.i64.wrap (ny S.bs S.n q1+q0));have yx:¬eU S.n q1=0→nT S.bs S.n q1 (IntKind.i64.wrap (ny S.bs S.n q1+q0))=S.bs:=fun h=>Jl h;obtain⟨y,hy⟩:∃z,ny S.bs S.n q1=z:=⟨_,rfl⟩;rw[hy]at hG hP yx⊢;obtain⟨nb,jG⟩:∃z,nT S.bs S.n q1 (IntKind.i64.wrap (y+q0))=z:=⟨_,rfl⟩;rw[jG]at hP yx⊢;obtain⟨ee,he⟩:∃z,eU S.n q1=z:=⟨_,rfl⟩;rw[he]at hG hP yx⊢;clear hy he jG;have HH:=hid (And.intro hS hB);have b0:=(hB.touch ((tR W).drew) (by simp)).cell 0;have x0:=ah ((tR W).drew) mg;have x1:=ah ((tR W).drew) wH;clear hS hB hA hg eO hF bW hl bG hc;show Calls prog 202 #[.slice (some ⟨ad,0,none⟩) 2 c,.pointer (some ⟨b,0,none⟩)] W _;go_enter func202,ntmps202;go_upto_region 1 with fail;go_cut [4,5]from 6 to 13 (fun xv ev wx=>xv=.int .i64 y∧ev=.int .i64 ee∧Touch [] W wx)
 case first=>
  go_region_with (go_at_call 195;refine hG.mono ?_;rintro _ w1 ⟨rfl,t1⟩)
  all_goals(go_wp2_with fail;go_meet;exact⟨rfl,rfl,t1.aO⟩)
 case rest=>
  obtain⟨rfl,rfl,t1⟩:=hcut;clear hG b0 x0 x1;by_cases he:ee=0
  ·clear yx;have b0:=(HH.out.2.touch t1.drew (by simp)).cell 0;have x0:=ah t1.drew mg;have x1:=ah t1.drew wH;have hP:=hP _ (HH.out.1.mem.quiet t1.drew);subst he;have T1:=hid t1.drew;clear t1 mg wH;go_upto_region 4 with fail;go_region_with (go_at_call 90;refine hP.mono ?_;rintro _ w2 ⟨rfl,hm,t2⟩;have HD:Hid (Done W s F S _ w2):=Done.mem HH.out.1 hm ((T1.out.mono (by simp)).trans t2 (fun g hg=>.inl hg));clear hm t2)
   all_goals go_wp2_with fail
   all_goals go_ret
   all_goals exact⟨rfl,HD.out⟩
  ·have e:=yx he;subst e;have HD:Hid (Done W s F S S wc):=Done.self HH.out.1 t1;clear hP yx t1 mg wH;go_wp2_with fail;go_ret;exact⟨rfl,HD.out⟩
theorem VG:cu 78 1 (fun _ _=>True) (fun l S=>(([NF S.bs S.n (l.getD 0 0),NL S.bs S.n (l.getD 0 0)],xl S.n (l.getD 0 0)),S)):=by
 intro W B s F S t f first cap l lv bW hS hF eO;obtain⟨b,C,hC,hb,hA,hB⟩:=dA eO rfl rfl;obtain⟨g,_,hg,rfl,rfl,rfl,rfl⟩:=aW (hA:aQ C 1 278 215 (.func (.func 203) #[] #[.pointer (some ⟨b,0,none⟩)]) _ W) (Nat.zero_le _);refine⟨rfl,enters_of func278 (by kernel_rfl) rfl,fun hl bG hc=>aR.post (rR hg (enters_of func203 (by kernel_rfl) rfl) ?_)⟩;obtain⟨ad,c,q0,e,rfl,mg⟩:=hc.one hl;subst e;show Calls prog _ _ W fun e w'=>e=.returned (.tuple #[.int .i64 (NF S.bs S.n q0),.int .i64 (NL S.bs S.n q0),.int .i64 (xl S.n q0)])∧Done W s F S S w';have hG:=wO (hS.mem.quiet ((tR W).drew)) q0;have hP:=fun w (h:aY w S.m S.g S.n S.bs S.here)=>wO h (IntKind.i64.wrap (q0+8));have gx:NF S.bs S.n q0=if eU S.n q0=0 then ny S.bs S.n (IntKind.i64.wrap (q0+8))else 0:=rfl
 have gy:NL S.bs S.n q0=if eU S.n q0=0 then ny S.bs S.n q0 else 0:=rfl
 have ge:xl S.n q0=if eU S.n q0=0 then eU S.n (IntKind.i64.wrap (q0+8))else eU S.n q0:=rfl
 rw[gx,gy,ge];clear gx gy ge;obtain⟨y,hy⟩:∃z,ny S.bs S.n q0=z:=⟨_,rfl⟩;rw[hy]at hG⊢;obtain⟨ee,he⟩:∃z,eU S.n q0=z:=⟨_,rfl⟩;rw[he]at hG⊢;obtain⟨y2,hy2⟩:∃z,ny S.bs S.n (IntKind.i64.wrap (q0+8))=z:=⟨_,rfl⟩;rw[hy2]at hP⊢;obtain⟨VH,U4⟩:∃z,eU S.n (IntKind.i64.wrap (q0+8))=z:=⟨_,rfl⟩;rw[U4]at hP⊢;clear hy he hy2 U4;obtain⟨rx,fX⟩:∃z,(if ee=0 then y2 else 0)=z:=⟨_,rfl⟩;obtain⟨ry,CA⟩:∃z,(if ee=0 then y else 0)=z:=⟨_,rfl⟩;obtain⟨re,Wq⟩:∃z,(if ee=0 then VH else ee)=z:=⟨_,rfl⟩;rw[fX,CA,Wq];have HQ:Hid ((ee=0→rx=y2∧ry=y∧re=VH)∧(¬ee=0→rx=0∧ry=0∧re=ee)):=⟨fun h=>⟨by rw[←fX,if_pos h],by rw[←CA,if_pos h],by rw[←Wq,if_pos h]⟩,fun h=>⟨by rw[←fX,if_neg h],by rw[←CA,if_neg h],by rw[←Wq,if_neg h]⟩⟩;clear fX CA Wq;have HH:=hid (And.intro hS hB);have b0:=(hB.touch ((tR W).drew) (by simp)).cell 0;have x0:=ah ((tR W).drew) mg;clear hS hB hA hg eO hF bW hl bG hc;show Calls prog 203 #[.slice (some ⟨ad,0,none⟩) 1 c,.pointer (some ⟨b,0,none⟩)] W _;go_enter func203,ntmps203;go_upto_region 1 with fail;go_cut [6,7]from 9 to 16 (fun xv ev wx=>xv=.int .i64 y∧ev=.int .i64 ee∧Touch [] W wx)
 case first=>
  go_region_with (go_at_call 195;refine hG.mono ?_;rintro _ w1 ⟨rfl,t1⟩)
  all_goals(go_wp2_with fail;go_meet;exact⟨rfl,rfl,t1.aO⟩)
 case rest=>
  obtain⟨rfl,rfl,t1⟩:=hcut;clear hG b0 x0;by_cases he:ee=0
  ·have HX:=hid (HQ.out.1 he);clear HQ;subst he;have b0:=(HH.out.2.touch t1.drew (by simp)).cell 0;have x0:=ah t1.drew mg;have hP:=hP _ (HH.out.1.mem.quiet t1.drew);have T1:=hid t1.drew;clear t1 mg;go_upto_region 4 with fail;go_region_with (go_at_call 195;refine hP.mono ?_;rintro _ w2 ⟨rfl,t2⟩;have HD:Hid (Done W s F S S w2):=Done.self HH.out.1 (T1.out.trans t2 (by simp));clear t2)
   all_goals go_wp2_with fail
   all_goals go_ret3
   all_goals exact⟨by rw[HX.out.1,HX.out.2.1,HX.out.2.2];rfl,HD.out⟩
  ·have HX:=hid (HQ.out.2 he);clear HQ;have HD:Hid (Done W s F S S wc):=Done.self HH.out.1 t1;clear hP t1 mg;go_wp2_with fail;go_ret3;exact⟨by rw[HX.out.1,HX.out.2.1,HX.out.2.2];rfl,HD.out⟩
theorem VI:cu 79 3 (fun _ _=>True) (fun l S=>(([],xm S.n (l.getD 2 0)),{S with bs:=NN S.bs S.n (l.getD 2 0) (l.getD 0 0) (l.getD 1 0)})):=by
 intro W B s F S t f first cap l lv bW hS hF eO;obtain⟨b,C,hC,hb,hA,hB⟩:=dA eO rfl rfl;obtain⟨g,_,hg,rfl,rfl,rfl,rfl⟩:=aW (hA:aQ C 3 281 132 (.func (.func 204) #[.pointer (some ⟨s,0,none⟩)] #[]) _ W) (Nat.zero_le _);refine⟨rfl,enters_of func281 (by kernel_rfl) rfl,fun hl bG hc=>aR.post (bU hg (enters_of func204 (by kernel_rfl) rfl) ?_)⟩;obtain⟨ad,c,q0,q1,q2,e,rfl,mg,wH,Rj⟩:=hc.three hl;subst e;show Calls prog _ _ W fun e w'=>e=.returned (.int .i64 (xm S.n q2))∧Done W s F S {S with bs:=NN S.bs S.n q2 q0 q1} w';have hsm:=hS.mem.small;have hn:=bW.2.2.1;have s2:W.cell? ⟨s,2,none⟩=some (.pointer (some ⟨S.m,0,none⟩)):=by
  obtain⟨FS,ov,mv,hp,_⟩:=hS;exact hp.blk.cell 2
 have z2:=ah ((tR W).drew) s2;have hne:ad∉[S.m,S.g]:=by
  intro hm;simp only[List.mem_cons,List.not_mem_nil,or_false]at hm;rcases hm with rfl|rfl
  ·have h0:=hS.mem.blk.cell 0;rw[mg]at h0;simp at h0
  ·have h0:=hS.mem.cell (i:=0) (by omega);rw[mg]at h0;simp at h0
 have hns:s∉[S.m,S.g]:=by
  obtain⟨FS,ov,mv,hp,_⟩:=hS;intro hm;simp only[List.mem_cons,List.not_mem_nil,or_false]at hm;rcases hm with rfl|rfl
  ·exact hp.blk.ty.ne hp.mem.blk.ty (by decide) rfl
  ·exact hp.blk.ty.ne hp.mem.row.ty (by decide) rfl
 have hG:=wO (hS.mem.quiet ((tR W).drew)) q2;have hP:=fun w (h:aY w S.m S.g S.n S.bs S.here)=>wP h (IntKind.i64.wrap (q2+8)) q0;have hR:=fun w (h:aY w S.m S.g S.n (nT S.bs S.n (IntKind.i64.wrap (q2+8)) q0) S.here)=>wP h q2 q1;have ge:xm S.n q2=if eU S.n q2=0 then(if eU S.n (IntKind.i64.wrap (q2+8))=0 then eU S.n q2 else eU S.n (IntKind.i64.wrap (q2+8)))else eU S.n q2:=rfl
 have gb:NN S.bs S.n q2 q0 q1=if eU S.n q2=0 then(if eU S.n (IntKind.i64.wrap (q2+8))=0 then nT (nT S.bs S.n (IntKind.i64.wrap (q2+8)) q0) S.n q2 q1 else S.bs)else S.bs:=rfl
 have yx:¬eU S.n (IntKind.i64.wrap (q2+8))=0→nT S.bs S.n (IntKind.i64.wrap (q2+8)) q0=S.bs:=fun h=>Jl h;rw[ge,gb];clear ge gb;obtain⟨nb,jG⟩:∃z,nT S.bs S.n (IntKind.i64.wrap (q2+8)) q0=z:=⟨_,rfl⟩;rw[jG]at hP hR yx⊢;obtain⟨nc,WK⟩:∃z,nT nb S.n q2 q1=z:=⟨_,rfl⟩;rw[WK]at hR⊢;obtain⟨ee,he⟩:∃z,eU S.n q2=z:=⟨_,rfl⟩;rw[he]at hG hR⊢;obtain⟨VH,U4⟩:∃z,eU S.n (IntKind.i64.wrap (q2+8))=z:=⟨_,rfl⟩;rw[U4]at hP yx⊢;rw[show ny S.bs S.n q2=ny S.bs S.n q2 from rfl]at hG;obtain⟨y,hy⟩:∃z,ny S.bs S.n q2=z:=⟨_,rfl⟩;rw[hy]at hG;clear hy he U4 jG WK;obtain⟨re,Wq⟩:∃z,(if ee=0 then(if VH=0 then ee else VH)else ee)=z:=⟨_,rfl⟩;obtain⟨rb,xn⟩:∃z,(if ee=0 then(if VH=0 then nc else S.bs)else S.bs)=z:=⟨_,rfl⟩;rw[Wq,xn];have HQ:Hid ((¬ee=0→re=ee∧rb=S.bs)∧(ee=0→¬VH=0→re=VH∧rb=S.bs)∧(ee=0→VH=0→re=ee∧rb=nc)):=⟨fun h=>⟨by rw[←Wq,if_neg h],by rw[←xn,if_neg h]⟩,fun h k=>⟨by rw[←Wq,if_pos h,if_neg k],by rw[←xn,if_pos h,if_neg k]⟩,fun h k=>⟨by rw[←Wq,if_pos h,if_pos k],by rw[←xn,if_pos h,if_pos k]⟩⟩;clear Wq xn;have HH:=hid (And.intro hS hB);have b0:=(hB.touch ((tR W).drew) (by simp)).cell 0;have x0:=ah ((tR W).drew) mg;have x1:=ah ((tR W).drew) wH;have x2:=ah ((tR W).drew) Rj;clear hS hB hA hg eO hF bW hl bG hc;show Calls prog 204 #[.pointer (some ⟨s,0,none⟩),.slice (some ⟨ad,0,none⟩) 3 c] W _;go_enter func204,ntmps204;go_upto_region 1 with fail;go_cut [5,6]from 8 to 18 (fun xv ev wx=>xv=.int .i64 y∧ev=.int .i64 ee∧Touch [] W wx)
 case first=>
  go_region_with (go_at_call 195;refine hG.mono ?_;rintro _ w1 ⟨rfl,t1⟩)
  all_goals(go_wp2_with fail;go_meet;exact⟨rfl,rfl,t1.aO⟩)
 case rest=>
  obtain⟨rfl,rfl,t1⟩:=hcut;clear hG x0 x1 x2 z2;by_cases he:ee=0;rotate_left
  ·obtain⟨q1,q2⟩:=HQ.out.1 he;subst q1 q2;clear HQ;have HD:Hid (Done W s F S S wc):=Done.self HH.out.1 t1;clear hP hR yx t1 mg wH Rj s2;go_wp2_with fail;go_ret;exact⟨rfl,HD.out⟩
  have HQ:=hid (HQ.out.2);subst he;have x0:=ah t1.drew mg;have x1:=ah t1.drew wH;have x2:=ah t1.drew Rj;have z2:=ah t1.drew s2;have hP:=hP _ (HH.out.1.mem.quiet t1.drew);have T1:=hid t1.drew;clear t1;go_upto_region 4 with fail;go_cut [7]from 22 to 33 (fun ev wy=>ev=.int .i64 VH∧aY wy S.m S.g S.n nb S.here∧Touch [S.m,S.g] W wy)
  case first=>
   go_region_with (go_at_call 90;refine hP.mono ?_;rintro _ w2 ⟨rfl,hm,t2⟩)
   all_goals(go_wp2_with fail;go_meet;exact⟨rfl,hm,(T1.out.mono (by simp)).trans t2 (fun g hg=>.inl hg)⟩)
  case rest=>
   obtain⟨rfl,hm,t2⟩:=hcut;clear hP x0 x1 x2 z2;by_cases he:VH=0;rotate_left
   ·obtain⟨q1,q2⟩:=HQ.out.1 rfl he;subst q1 q2;clear HQ;rw[yx he]at hm;have HD:Hid (Done W s F S S wc):=Done.mem HH.out.1 hm t2;clear hR yx t2 mg wH Rj s2 hm;go_wp2_with fail;go_ret;exact⟨rfl,HD.out⟩
   obtain⟨q1,q2⟩:=HQ.out.2 rfl he;clear HQ yx;subst q1 q2 he;have x0:=iG t2.drew mg hne;have x1:=iG t2.drew wH hne;have x2:=iG t2.drew Rj hne;have z2:=iG t2.drew s2 hns;have hR:=hR _ (hm.quiet (tR _).drew);have T2:=hid t2.drew;clear t2 hm mg wH Rj s2;go_upto_region 7 with fail;go_region_with (go_at_call 90;refine hR.mono ?_;rintro _ w3 ⟨rfl,hm,t3⟩;have HD:Hid (Done W s F S _ w3):=Done.mem HH.out.1 hm (T2.out.trans t3 (fun g hg=>.inl hg));clear hm t3)
   all_goals go_wp2_with fail
   all_goals go_ret
   all_goals exact⟨rfl,HD.out⟩
end Go.Proofs.YtdokeddjcpnmiaaGreatDoor
