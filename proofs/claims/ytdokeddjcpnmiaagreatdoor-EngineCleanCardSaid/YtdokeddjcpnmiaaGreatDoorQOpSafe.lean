/- Of EngineClean: OpSafe. -/
import Derived.Test.YtdokeddjcpnmiaaGreatDoorQDigSem
import Derived.Test.YtdokeddjcpnmiaaGreatDoorQEnC64
import Derived.Test.YtdokeddjcpnmiaaGreatDoorQPDoT
import Derived.Test.YtdokeddjcpnmiaaGreatDoorQPairSems
import Derived.Test.YtdokeddjcpnmiaaGreatDoorQTotOps
import Derived.Test.YtdokeddjcpnmiaaGreatDoorQTotOps2
set_option maxRecDepth 100000
set_option maxHeartbeats 4000000
namespace Go.Proofs.YtdokeddjcpnmiaaGreatDoor
open Go.RowKit Go.Proofs.Tryz
section
open En (All64 c64_0)
theorem su{n:Nat}(h:n<18446744073709551616):au (cellOf n):=by unfold au cellOf;split<;>omega
theorem yB{x:Nat}(h:x<18446744073709551616):au (Rl.madeOf x):=by
 unfold Rl.madeOf;split
 ·exact⟨by decide,by decide⟩
 ·exact su h
def P3(r:(Int×Int)×Int):Prop:=au r.2∧au r.1.1∧au r.1.2
theorem P3.bad(e:Int)(h: -4095≤e∧e≤4095):P3 ((0,0),e):=⟨jS h,c64_0,c64_0⟩
theorem zU(p:Int×Int)(b:Int):P3 (gW p b):=by
 have hb:=oQ b;have h2:=oQ p.1;unfold gW;split
 ·exact P3.bad _ (by decide)
 ·split
  ·exact P3.bad _ (by decide)
  ·rename_i h0 h;have hp:0<jv b:=by omega
   refine⟨c64_0,su (Nat.lt_trans (Nat.mod_lt _ hp) hb),su ((Nat.div_lt_iff_lt_mul hp).2 ?_)⟩;unfold kG;omega
theorem ite_fst{c:Prop} [Decidable c]{a b:Int×Int}(ha:au a.1)(hb:au b.1):au (if c then a else b).1:=by split<;>assumption
theorem ite_P3{c:Prop} [Decidable c]{a b:(Int×Int)×Int}(ha:P3 a)(hb:P3 b):P3 (if c then a else b):=by split<;>assumption
theorem Jr(p:Int×Int)(b:Int):P3 (mH p b):=by
 have hu:=zU (dL p) (dL (fq b)).1;unfold mH;generalize gW (dL p) (dL (fq b)).1=u at*;exact ite_P3 ⟨hu.1,c64_0,c64_0⟩ (ite_P3 ⟨c64_0,fP (aV _) hu.2.1,ite_fst (tJ _).1 hu.2.2⟩ (P3.bad _ (by decide)))
theorem qj(p:Int×Int)(b:Int):P3 (gq p b):=by
 have hu:=zU (dL p) (dL (fq b)).1;unfold gq;generalize gW (dL p) (dL (fq b)).1=u at*;exact ite_P3 ⟨hu.1,c64_0,c64_0⟩ (ite_P3 ⟨c64_0,fP (aV _) (fP (aV _) hu.2.1),ite_fst (aV _) (ite_fst (tJ _).1 hu.2.2)⟩ (P3.bad _ (by decide)))
theorem Ch(op:Int){a b:Int}(ha:au a)(hb:au b):au (rz op a b).2∧au (rz op a b).1:=by
 unfold rz;split
 ·exact⟨jS (by decide),c64_0⟩
 ·exact⟨c64_0,Px _ _ _ ha hb⟩
theorem xx(a:Int):au (Rl.Ri a).2∧au (Rl.Ri a).1:=by
 unfold Rl.Ri;split
 ·rename_i h;exact⟨c64_0,h.2.1,by have:=h.2.2;show Rl.mP _≤_;omega⟩
 ·exact⟨jS (by decide),c64_0⟩
theorem vo(n:Nat)(p:Int):au (eU n p):=by
 unfold eU;repeat' split
 all_goals exact jS (by decide)
theorem Ci(n:Nat)(p k:Int):au (lC n p k):=by unfold lC;split<;>exact jS (by decide)
theorem FX(n here:Nat)(k:Int):au (rY n here k):=by unfold rY;split<;>exact jS (by decide)
theorem ke(n:Nat)(p q k:Int):au (zC n p q k):=by unfold zC;split<;>exact jS (by decide)
theorem kf(n here:Nat):au (zD n here):=by unfold zD;split;exact FX _ _ _;exact jS (by decide)
theorem xy(n:Nat)(p:Int):au (xl n p):=by unfold xl;split<;>exact vo _ _
theorem xF(n:Nat)(p:Int):au (xm n p):=by
 unfold xm;repeat' split
 all_goals exact vo _ _
theorem Ma(bs:List Int)(n:Nat)(p:Int):au (ny bs n p):=by
 unfold ny;split
 ·show au (yq bs p.toNat (7+1));rw[yq];exact jV _ _ _
 ·exact c64_0
theorem ZF{bs:List Int}(h:Bytes bs)(n:Nat)(p:Int):au (Qt bs n p):=by
 unfold Qt;split
 ·rw[List.getD_eq_getElem?_getD];cases e:bs[p.toNat]? with
  |none=>exact c64_0
  |some x=>
   have:=h x (List.mem_of_getElem? e);exact jS (by show -4095≤x∧x≤4095;omega)
 ·exact c64_0
theorem kh(w0:World)(k a b:Int):au (Cb k a b):=by
 have ar:∀op:BinOp,op=.add∨op=.sub∨op=.mul∨op=.quo→au (Rl.kI (floatBits op .f64 (bitsOf a) (bitsOf b))):=fun op h=>by
  obtain⟨v,_,_,_,hv,hlt⟩:=Rl.qg (P:=prog) op h 206 (bitsOf a) (bitsOf b) w0;rw[←hv];exact yB hlt
 have tr:∀c:Bool,au (Rl.vg c):=fun c=>by unfold Rl.vg;cases c<;>exact jS (by decide)
 unfold Cb;refine fP (ar _ (by simp)) (fP (ar _ (by simp)) (fP (ar _ (by simp)) (fP (ar _ (by simp)) (fP ?_ (fP ?_ (fP (tr _) (tr _)))))))
 ·obtain⟨v,_,_,_,hv,hlt⟩:=Rl.Nh (P:=prog) #[] 206 (bitsOf a) (bitsOf b) (eX a) (eX b) w0;rw[←hv];exact yB hlt
 ·obtain⟨v,_,_,_,hv,hlt⟩:=Rl.Ni (P:=prog) #[] 206 (bitsOf a) (bitsOf b) (eX a) (eX b) w0;rw[←hv];exact yB hlt
theorem ZG(all:Bool):Safe (Jq all):=by
 have hp:∀n,au (pl n):=fun n=>su (Nat.mod_lt _ (by decide));have hh:∀n,au (ph n):=fun n=>su (Nat.mod_lt _ (by decide));refine⟨fun l S=> ?_,fun l S=> ?_,fun l S h=> ?_,fun l S hl _ _ _=> ?_⟩
 ·unfold Jq;repeat' split
  all_goals rfl
 ·unfold Jq;repeat' split
  all_goals rfl
 ·unfold Jq;repeat' split
  ·exact h
  ·exact⟨h.1,by show(_++_:List Int).length≤200;rw[List.length_append];assumption⟩
  ·exact h
  ·exact⟨h.1,by show(_++[_]:List Int).length≤200;rw[List.length_append];show _+1≤200;omega⟩
  ·exact h
 ·unfold Jq;repeat' split
  ·exact⟨jS (x:= -40) (by decide),jm ⟨hl.getD 0,hl.getD 1⟩⟩
  ·exact⟨c64_0,jm ⟨c64_0,c64_0⟩⟩
  ·exact⟨jS (x:= -17) (by decide),jm ⟨hp _,hh _⟩⟩
  ·exact⟨c64_0,jm ⟨hp _,hh _⟩⟩
  ·exact⟨jS (x:= -17) (by decide),jm ⟨hp _,hh _⟩⟩
theorem ki:Safe uH:=by
 refine⟨fun l S=> ?_,fun l S=> ?_,fun l S h=> ?_,fun l S _ _ _ _=> ?_⟩
 ·unfold uH;split<;>rfl
 ·unfold uH;split<;>rfl
 ·unfold uH;split
  ·exact⟨h.1,by show(_++[_]:List Int).length≤200;rw[List.length_append];show _+1≤200;omega⟩
  ·exact h
 ·unfold uH;split
  ·exact⟨c64_0,jl⟩
  ·exact⟨jS (x:= -17) (by decide),jl⟩
theorem kj:Safe qX:=by
 refine⟨fun l S=> ?_,fun l S=> ?_,fun l S h=> ?_,fun l S _ _ _ _=> ?_⟩
 ·unfold qX;repeat' split
  all_goals rfl
 ·unfold qX;repeat' split
  all_goals rfl
 ·unfold qX;repeat' split
  ·exact⟨h.1,by show(_++[_]:List Int).length≤200;rw[List.length_append];show _+1≤200;omega⟩
  ·exact h
  ·exact h
 ·unfold qX;repeat' split
  ·exact⟨c64_0,jl⟩
  ·exact⟨jS (x:= -17) (by decide),jl⟩
  ·exact⟨c64_0,jl⟩
theorem Mc(p:List Int→Int×Int):Safe (fun l S=>(([],(gX (p l) S).1),(gX (p l) S).2)):=by
 refine⟨fun l S=> ?_,fun l S=> ?_,fun l S h=> ?_,fun l S _ _ _ _=> ?_⟩
 ·show(gX (p l) S).2.st=_;unfold gX;split<;>rfl
 ·show(gX (p l) S).2.n=_;unfold gX;split<;>rfl
 ·show(gX (p l) S).2.out.length≤4000∧(gX (p l) S).2.made.length≤200;unfold gX;split
  ·exact⟨wo h.1 _,h.2⟩
  ·exact h
 ·show au (gX (p l) S).1∧_;refine⟨?_,jl⟩;unfold gX;split
  ·exact c64_0
  ·exact jS (x:= -40) (by decide)
theorem km:Safe ZA:=by
 refine⟨fun _ _=>rfl,fun _ _=>rfl,fun l S h=> ?_,fun l S _ _ _ _=>⟨fP c64_0 (jS (by decide)),jl⟩⟩;refine⟨?_,h.2⟩;show(if _ then _ else _:List Int).length≤4000;split
 ·exact Jp _ _ _ (wo h.1 _)
 ·exact h.1
theorem xN(w0:World)(hT:zF w0)(op:Int)(h:(1≤op∧op≤27)∨(43≤op∧op≤107)):Pt w0 op:=by
 have tt:∀(l:List Int) (S:PS),S.n=1024→All64 l→True:=fun _ _ _ _=>trivial;have aa:∀(l:List Int) (S:PS),S.n=1024→All64 l→iX l:=fun _ _ _ h=>h;rcases h with h|h
 ·by_cases h1:op≤10
  ·have he:∀a,(wZ op a).2=0:=by
    intro a;rcases(by omega:op=1∨op=2∨op=3∨op=4∨op=5∨op=6∨op=7∨op=8∨op=9∨op=10)with rfl|rfl|rfl|rfl|rfl|rfl|rfl|rfl|rfl|rfl<;>rfl
   exact(Qc op (by unfold jh;rw[if_pos ⟨h.1,h1⟩])).Zl h.1 (by omega) (by decide) (cZ (fun l=>[(wZ op (l.getD 0 0)).1]) (fun l=>(wZ op (l.getD 0 0)).2) fun l hl=>⟨by rw[he];exact c64_0,All64.one (Ny op _ (hl.getD 0))⟩)
  ·exact(Qd op (by unfold jh;rw[if_neg (by omega),if_pos (by omega)])).Zl (by omega) h.2 (by decide) (cZ (fun l=>[(rz op (l.getD 0 0) (l.getD 1 0)).1]) (fun l=>(rz op (l.getD 0 0) (l.getD 1 0)).2) fun l hl=>⟨(Ch op (hl.getD 0) (hl.getD 1)).1,All64.one (Ch op (hl.getD 0) (hl.getD 1)).2⟩)
 ·by_cases hr:61≤op∧op≤70
  ·by_cases h1:op≤62
   ·exact(Qr op (by omega)).Zm hr.1 hr.2 (by decide) (cZ (fun l=>[Ev (op-60) (l.getD 0 0)]) (fun _=>0) fun l _=>yV (by
     unfold Ev;exact fP (yB (Rl.U7 _ (eX _))) (yB (Nat.lt_trans (Rl.Nk _) (by decide)))))
   ·exact(Qs op (by omega)).Zm hr.1 hr.2 (by decide) (cZ (fun l=>[Cb (op-60) (l.getD 0 0) (l.getD 1 0)]) (fun _=>0) fun l _=>yV (kh w0 _ _ _))
  rcases(by omega:op=43∨op=44∨op=45∨op=46∨op=47∨op=48∨op=49∨op=50∨op=51∨op=52∨op=53∨op=54∨op=55∨op=56∨op=57∨op=58∨op=59∨op=60∨op=71∨op=72∨op=73∨op=74∨op=75∨op=76∨op=77∨op=78∨op=79∨op=80∨op=81∨op=82∨op=83∨op=84∨op=85∨op=86∨op=87∨op=88∨op=89∨op=90∨op=91∨op=92∨op=93∨op=94∨op=95∨op=96∨op=97∨op=98∨op=99∨op=100∨op=101∨op=102∨op=103∨op=104∨op=105∨op=106∨op=107)with rfl|rfl|rfl|rfl|rfl|rfl|rfl|rfl|rfl|rfl|rfl|rfl|rfl|rfl|rfl|rfl|rfl|rfl|rfl|rfl|rfl|rfl|rfl|rfl|rfl|rfl|rfl|rfl|rfl|rfl|rfl|rfl|rfl|rfl|rfl|rfl|rfl|rfl|rfl|rfl|rfl|rfl|rfl|rfl|rfl|rfl|rfl|rfl|rfl|rfl|rfl|rfl|rfl|rfl|rfl
  ·exact gp.safe (by decide) (cZ (fun l=>[(Vm l).1,(Vm l).2]) (fun _=>0) fun l h=>⟨c64_0,jm (p9 _ (h.getD 0))⟩) aa
  ·exact gw.safe (by decide) (cZ (fun l=>[(Vn l).1,(Vn l).2]) (fun _=>0) fun l _=>⟨c64_0,jm ⟨aV _,aV _⟩⟩) aa
  ·exact gA.safe (by decide) (cZ (fun l=>[(Vo l).1,(Vo l).2]) (fun _=>0) fun l _=>⟨c64_0,jm ⟨aV _,aV _⟩⟩) aa
  ·exact gC.safe (by decide) (cZ (fun l=>[(Vp l).1,(Vp l).2]) (fun _=>0) fun l _=>⟨c64_0,jm ⟨aV _,aV _⟩⟩) aa
  ·exact gO.safe (by decide) (cZ (fun l=>[(Qo l).1,(Qo l).2]) (fun _=>0) fun l h=>⟨c64_0,jm (by
    unfold Qo;split
    ·exact tJ _
    ·exact⟨h.getD 0,h.getD 1⟩)⟩) aa
  ·exact gS.safe (by decide) (cZ (fun l=>[gR l]) (fun _=>0) fun l _=>yV (lJ _)) aa
  ·exact ic.safe (by decide) (cZ (fun l=>[ib l]) (fun _=>0) fun l _=>yV (lJ _)) aa
  ·exact ii.safe (by decide) (cZ (fun l=>[ie l]) (fun _=>0) fun l _=>yV (lJ _)) aa
  ·exact ij.safe (by decide) (cZ (fun l=>[(Vq l).1,(Vq l).2]) (fun _=>0) fun l _=>⟨c64_0,jm ⟨aV _,by
    show au (bits .or .i64 (wrap64 (l.getD 1 0*2)) (wrap64 (IntKind.u64.wrap (l.getD 0 0) / 9223372036854775808)));exact jV _ _ _⟩⟩) aa
  ·exact ik.safe (by decide) (cZ (fun l=>[(Vr l).1,(Vr l).2]) (fun _=>0) fun l h=>⟨c64_0,jm ⟨aV _,by
    have:=h.getD 1;show au (l.getD 1 0 / 2);unfold au at*;omega⟩⟩) aa
  ·exact il.safe (by decide) (cZ (fun l=>[(Vs l).1,(Vs l).2]) (fun _=>0) fun l _=>⟨c64_0,jm (yw _ _)⟩) aa
  ·exact iu.safe (by decide) (cZ (fun l=>[(Vt l).1,(Vt l).2]) (fun _=>0) fun l _=>⟨c64_0,jm ⟨aV _,aV _⟩⟩) aa
  ·exact ix.safe (by decide) (cZ (fun l=>[(LH l).1.1,(LH l).1.2]) (fun l=>(LH l).2) fun l _=>⟨(zU _ _).1,jm (zU _ _).2⟩) aa
  ·exact iz.safe (by decide) (cZ (fun l=>[(LJ l).1.1,(LJ l).1.2]) (fun l=>(LJ l).2) fun l _=>⟨(qj _ _).1,jm (qj _ _).2⟩) aa
  ·exact ja.safe (by decide) (cZ (fun l=>[(LK l).1.1,(LK l).1.2]) (fun l=>(LK l).2) fun l _=>⟨(Jr _ _).1,jm (Jr _ _).2⟩) aa
  ·exact jb.safe (by decide) (cZ (fun l=>[(Vu l).1]) (fun l=>(Vu l).2) fun l _=>⟨(qj _ _).1,All64.one (qj _ _).2.2⟩) aa
  ·exact jn.safe (by decide) (cZ (fun l=>[(LM l).1.1,(LM l).1.2]) (fun l=>(LM l).2) fun l _=>⟨(qj _ _).1,jm (qj _ _).2⟩) aa
  ·exact jt.safe (by decide) (cZ (fun l=>[(LP l).1.1,(LP l).1.2]) (fun l=>(LP l).2) fun l h=>⟨(Ch 14 (h.getD 0) (h.getD 1)).1,jm ⟨(Ch 15 (h.getD 0) (h.getD 1)).2,(Ch 14 (h.getD 0) (h.getD 1)).2⟩⟩) aa
  ·exact jx.safe (by decide) (cZ (fun l=>[ju l]) (fun _=>0) fun l _=>yV (yB (by have:=floatOfInt_wf .f64 (l.getD 0 0);simpa[Lit.wf]using this))) aa
  ·exact jz.safe (by decide) (cZ (fun l=>[(Vv l).1]) (fun l=>(Vv l).2) fun l _=>⟨(xx _).1,All64.one (xx _).2⟩) aa
  ·exact YI.safe (by decide) ⟨fun _ _=>rfl,fun _ _=>rfl,fun _ _ h=>h,fun _ _ _ _ _ _=>⟨vo _ _,All64.one (Ma _ _ _)⟩⟩ tt
  ·exact YJ.safe (by decide) ⟨fun _ _=>rfl,fun _ _=>rfl,fun _ _ h=>h,fun _ _ _ _ _ _=>⟨vo _ _,jl⟩⟩ tt
  ·exact VB.safe (by decide) ⟨fun _ _=>rfl,fun _ _=>rfl,fun _ _ h=>h,fun _ _ _ hb _ _=>⟨Ci _ _ _,All64.one (ZF hb _ _)⟩⟩ tt
  ·exact VD.safe (by decide) ⟨fun _ _=>rfl,fun _ _=>rfl,fun _ _ h=>h,fun _ _ _ _ _ _=>⟨Ci _ _ _,jl⟩⟩ tt
  ·exact QC.safe (by decide) ⟨fun _ _=>rfl,fun _ _=>rfl,fun _ _ h=>h,fun _ _ _ _ _ _=>⟨vo _ _,jl⟩⟩ tt
  ·exact VG.safe (by decide) ⟨fun _ _=>rfl,fun _ _=>rfl,fun _ _ h=>h,fun _ _ _ _ _ _=>⟨xy _ _,jm ⟨fP (Ma _ _ _) c64_0,fP (Ma _ _ _) c64_0⟩⟩⟩ tt
  ·exact VI.safe (by decide) ⟨fun _ _=>rfl,fun _ _=>rfl,fun _ _ h=>h,fun _ _ _ _ _ _=>⟨xF _ _,jl⟩⟩ tt
  ·exact VE.safe (by decide) ⟨fun _ _=>rfl,fun _ _=>rfl,fun _ _ h=>h,fun _ _ _ _ _ _=>⟨Ci _ _ _,jl⟩⟩ tt
  ·exact VF.safe (by decide) ⟨fun _ _=>rfl,fun _ _=>rfl,fun _ _ h=>h,fun _ _ _ _ _ _=>⟨ke _ _ _ _,jl⟩⟩ tt
  ·exact UL.safe (by decide) ⟨fun _ _=>rfl,fun _ _=>rfl,fun _ _ h=>h,fun _ S _ _ hk _=>⟨c64_0,All64.one (by show au (S.here:Int);unfold au;omega)⟩⟩ tt
  ·exact Qx.safe (by decide) ⟨fun _ _=>rfl,fun _ _=>rfl,fun _ _ h=>h,fun _ _ _ _ _ _=>⟨FX _ _ _,jl⟩⟩ tt
  ·exact Qy.safe (by decide) ⟨fun _ _=>rfl,fun _ _=>rfl,fun _ _ h=>h,fun _ _ _ _ _ _=>⟨kf _ _,jl⟩⟩ tt
  ·exact LX.safe (by decide) ⟨fun _ _=>rfl,fun _ _=>rfl,fun _ _ h=>h,fun _ _ _ _ _ _=>⟨FX _ _ _,jl⟩⟩ tt
  ·exact Qz.safe (by decide) ⟨fun _ _=>rfl,fun _ _=>rfl,fun _ _ h=>h,fun _ _ _ _ _ _=>⟨FX _ _ _,jl⟩⟩ tt
  ·exact Jk.safe (by decide) (cZ _ _ fun l _=>yV (jV _ _ _)) tt
  ·exact QA.safe (by decide) (cZ _ _ fun l _=>yV (aV _)) tt
  ·exact QB.safe (by decide) ⟨fun _ _=>rfl,fun _ _=>rfl,fun _ _ h=>h,fun _ _ _ hb _ _=>⟨Ci _ _ _,jm ⟨aV _,ZF hb _ _⟩⟩⟩ tt
  ·exact VO.safe (by decide) (pY _ _ fun _ _=>c64_0) tt
  ·exact YK.safe (by decide) (Mc fun l=>fq (l.getD 0 0)) aa
  ·exact VK.safe (by decide) (Mc fun l=>(l.getD 0 0,0)) aa
  ·exact VL.safe (by decide) (Mc fun l=>(l.getD 0 0,l.getD 1 0)) aa
  ·exact⟨1,_,_,pY _ _ fun _ _=>c64_0,fun _ _ _ _ _ _=>trivial,fun w s F S hS nV Zz bW hst bG=>Np w0 94 1 _ _ (QK w0 hT) (by decide) (by decide) (by decide) (by decide) w s F S hS nV Zz bW hst bG⟩
  ·exact j7.safe (by decide) (pY _ _ fun _ _=>c64_0) tt
  ·exact QF.safe (by decide) (pY _ _ fun _ _=>c64_0) tt
  ·exact Lg.safe (by decide) (pY _ _ fun _ _=>c64_0) tt
  ·exact VN.safe (by decide) (pY _ _ fun _ _=>Ci _ _ _) tt
  ·exact⟨0,fun _ S=>S.st.length≤128∧∀x∈S.st,au x,ZA,km,fun _ _ _ h k _=>⟨h,k⟩,fun w s F S hS nV Zz bW hst bG=>Np w0 99 0 _ _ (QL w0 hT) (by decide) (by decide) (by decide) (by decide) w s F S hS nV Zz bW hst bG⟩
  ·exact(Jo 100 10 rfl rfl (fun _ _ _ _ _ h=>h)).safe (by decide) ⟨fun _ _=>rfl,fun _ _=>rfl,fun _ _ h=>h,fun _ _ _ _ _ _=>⟨vo _ _,jl⟩⟩ tt
  ·exact(Jo 101 16 rfl rfl (fun _ _ _ _ _ h=>h)).safe (by decide) ⟨fun _ _=>rfl,fun _ _=>rfl,fun _ _ h=>h,fun _ _ _ _ _ _=>⟨vo _ _,jl⟩⟩ tt
  ·exact pQ.safe (by decide) ⟨fun _ _=>rfl,fun _ _=>rfl,fun _ _ h=>⟨h.1,Nat.zero_le _⟩,fun _ _ _ _ _ _=>⟨c64_0,jl⟩⟩ tt
  ·exact(Nq 103 false rfl rfl (fun _ _ _ _ _ h=>h)).safe (by decide) (ZG false) aa
  ·exact(Nq 104 true rfl rfl (fun _ _ _ _ _ h=>h)).safe (by decide) (ZG true) aa
  ·exact UO.safe (by decide) ki tt
  ·exact VJ.safe (by decide) kj tt
  ·exact Yq.safe (by decide) ⟨fun _ _=>rfl,fun _ _=>rfl,fun _ _ h=>h,fun _ S _ _ _ hm=>⟨c64_0,jm ⟨jS (by show -4095≤((768-S.made.length:Nat):Int)∧((768-S.made.length:Nat):Int)≤4095;omega),jS (by show -4095≤(S.made.length:Int)∧(S.made.length:Int)≤4095;omega)⟩⟩⟩ (fun _ _ h _=>h)
theorem kn(op:Int)(st:List Int)(hs:st.length≤128):(All64 st→All64 (um op st).2)∧(um op st).2.length≤128:=by
 unfold um;split
 ·exact⟨fun h=>h,hs⟩
 rename_i hne;have h0:¬st.length=0:=fun e=>hne (.inl e);simp only;split
 ·refine⟨fun h=>(h.take _).app (.one (h.getD _)),?_⟩;simp;omega
 ·refine⟨fun h=>(((h.take _).take _).app ((h.take _).drop _)).app (.one (h.getD _)),?_⟩;simp;omega
theorem ZH(op:Int)(st:List Int)(hs:st.length≤128):(All64 st→All64 (Pn op st).2)∧(Pn op st).2.length≤128:=by
 unfold Pn;split
 ·exact kn op st hs
 split
 ·split
  ·exact⟨fun h=>h,hs⟩
  ·refine⟨fun h=>h.app (.one ?_),by simp;omega⟩;unfold au;omega
 simp only;split
 ·exact⟨fun h=>h,hs⟩
 split
 ·exact⟨fun h=>h,hs⟩
 split
 ·exact⟨fun h=>h,hs⟩
 ·refine⟨fun h=>(h.take _).app (fun x hx=> ?_),?_⟩
  ·obtain⟨i,_,rfl⟩:=List.mem_map.1 hx;exact(h.drop _).getD i
  ·rw[List.length_append,List.length_take,List.length_map];omega
theorem ZI(w0:World)(hT:zF w0)(op:Int):∃d,eE w0 op d:=by
 by_cases h1:(1≤op∧op≤27)∨(43≤op∧op≤107)
 ·exact(xN w0 hT op h1).fn
 by_cases h2:28≤op∧op≤42
 ·refine⟨fun S=>((Pn op S.st).1,{S with st:=(Pn op S.st).2}),fun S hl bW=>⟨(ZH op S.st hl).2,bW⟩,fun S hs hl _ _ _=>⟨?_,(ZH op S.st hl).1 hs⟩,fun _=>rfl,fun w s F S hS _ _ _ _ hl hs=> ?_⟩
  ·show au (Pn op S.st).1;rcases X8 op S.st with h|⟨h|h,_⟩<;>rw[h]<;>exact jS (by decide)
  ·refine(fg hS h2.1 h2.2 fun FS hk=>eC w S.k FS S.st hk op h2.1 h2.2 hl hs).mono ?_;rintro _ w' ⟨rfl,F',k1,k2,k3⟩;exact⟨F',rfl,k1,k2,k3⟩
 ·refine⟨fun S=>(1,S),fun S hl bW=>⟨hl,bW⟩,fun S hs _ _ _ _=>⟨show au 1 from⟨by decide,by decide⟩,hs⟩,fun _=>rfl,fun w s F S hS _ _ _ _ _ _=> ?_⟩;refine(YP w s S.m op (by omega) hS.two).mono ?_;rintro _ w' ⟨rfl,t⟩;exact⟨F,rfl,hS.quiet t,t.mono (by simp),Sub.refl _ _⟩
noncomputable def aD(w0:World)(hT:zF w0):Int→PS→Int×PS:=fun op=>Classical.choose (ZI w0 hT op)
theorem Js(w0:World)(hT:zF w0)(op:Int):eE w0 op (aD w0 hT op):=Classical.choose_spec (ZI w0 hT op)
end
end Go.Proofs.YtdokeddjcpnmiaaGreatDoor
