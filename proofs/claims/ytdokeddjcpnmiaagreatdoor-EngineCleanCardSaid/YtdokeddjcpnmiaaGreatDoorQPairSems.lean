/- Of EngineClean: PairSems. -/
import Derived.Test.YtdokeddjcpnmiaaGreatDoorQPairOps2
set_option maxRecDepth 100000
set_option maxHeartbeats 200000
namespace Go.Proofs.YtdokeddjcpnmiaaGreatDoor
open Go.RowKit Go.Proofs.Tryz
theorem dW.four{w:World}{lv:Value}{l:List Int}(h:dW w lv l)(hl:l.length=4):∃g c x y z u,l=[x,y,z,u]∧lv=.slice (some ⟨g,0,none⟩) 4 c∧w.cell? ⟨g,0,none⟩=some (.int .i64 x)∧w.cell? ⟨g,1,none⟩=some (.int .i64 y)∧w.cell? ⟨g,2,none⟩=some (.int .i64 z)∧w.cell? ⟨g,3,none⟩=some (.int .i64 u):=by
 obtain⟨x,y,z,u,rfl⟩:∃x y z u,l=[x,y,z,u]:=by
  match l,hl with
  |[x,y,z,u],_=>exact⟨x,y,z,u,rfl⟩
 obtain⟨g,c,e,h⟩:=h.get (by simp);exact⟨g,c,x,y,z,u,rfl,e,h 0 (by simp),h 1 (by simp),h 2 (by simp),h 3 (by simp)⟩
def Vm(l:List Int):Int×Int:=fq (l.getD 0 0)
theorem gp:cu 43 1 (fun l _=>iX l) (fun l S=>(([(Vm l).1,(Vm l).2],0),S)):=
 jg 43 1 159 (enters_of func159 (by kernel_rfl) rfl) rfl rfl Vm (fun _ _ _ _ h=>h) (fun W l lv _ hl hc=>by
  obtain⟨ad,c,q0,rfl,rfl,c0⟩:=hc.one hl;exact ps2 W ad c q0 c0)
def Vn(l:List Int):Int×Int:=zA (l.getD 0 0,l.getD 1 0) (l.getD 2 0,l.getD 3 0)
theorem gw:cu 44 4 (fun l _=>iX l) (fun l S=>(([(Vn l).1,(Vn l).2],0),S)):=
 jg 44 4 161 (enters_of func161 (by kernel_rfl) rfl) rfl rfl Vn (fun _ _ _ _ h=>h) (fun W l lv _ hl hc=>by
  obtain⟨ad,c,q0,q1,q2,q3,rfl,rfl,c0,c1,c2,c3⟩:=hc.four hl;exact ps3 W ad c q0 q1 q2 q3 c0 c1 c2 c3)
def Vo(l:List Int):Int×Int:=zA (l.getD 0 0,l.getD 1 0) (nS (l.getD 2 0,l.getD 3 0))
theorem gA:cu 45 4 (fun l _=>iX l) (fun l S=>(([(Vo l).1,(Vo l).2],0),S)):=
 jg 45 4 165 (enters_of func165 (by kernel_rfl) rfl) rfl rfl Vo (fun _ _ _ _ h=>h) (fun W l lv _ hl hc=>by
  obtain⟨ad,c,q0,q1,q2,q3,rfl,rfl,c0,c1,c2,c3⟩:=hc.four hl;exact ps4 W ad c q0 q1 q2 q3 c0 c1 c2 c3)
def Vp(l:List Int):Int×Int:=nS (l.getD 0 0,l.getD 1 0)
theorem gC:cu 46 2 (fun l _=>iX l) (fun l S=>(([(Vp l).1,(Vp l).2],0),S)):=
 jg 46 2 167 (enters_of func167 (by kernel_rfl) rfl) rfl rfl Vp (fun _ _ _ _ h=>h) (fun W l lv _ hl hc=>by
  obtain⟨ad,c,q0,q1,rfl,rfl,c0,c1⟩:=hc.two hl;exact ps5 W ad c q0 q1 c0 c1)
def Qo(l:List Int):Int×Int:=if l.getD 1 0<0 then nS (l.getD 0 0,l.getD 1 0)else(l.getD 0 0,l.getD 1 0)
theorem gO:cu 47 2 (fun l _=>iX l) (fun l S=>(([(Qo l).1,(Qo l).2],0),S)):=
 jg 47 2 175 (enters_of func175 (by kernel_rfl) rfl) rfl rfl Qo (fun _ _ _ _ h=>h) (fun W l lv _ hl hc=>by
  obtain⟨ad,c,q0,q1,rfl,rfl,c0,c1⟩:=hc.two hl;exact Mm W ad c q0 q1 c0 c1)
def gR(l:List Int):Int:=dZ (BK (l.getD 0 0,l.getD 1 0) (l.getD 2 0,l.getD 3 0))
theorem gS:cu 48 4 (fun l _=>iX l) (fun l S=>(([gR l],0),S)):=
 qO 48 4 177 (enters_of func177 (by kernel_rfl) rfl) rfl rfl gR (fun _ _ _ _ h=>h) (fun W l lv _ hl hc=>by
  obtain⟨ad,c,q0,q1,q2,q3,rfl,rfl,c0,c1,c2,c3⟩:=hc.four hl;exact L4 W ad c q0 q1 q2 q3 c0 c1 c2 c3)
def ib(l:List Int):Int:=dZ (BL (l.getD 0 0,l.getD 1 0) (l.getD 2 0,l.getD 3 0))
theorem ic:cu 49 4 (fun l _=>iX l) (fun l S=>(([ib l],0),S)):=
 qO 49 4 179 (enters_of func179 (by kernel_rfl) rfl) rfl rfl ib (fun _ _ _ _ h=>h) (fun W l lv _ hl hc=>by
  obtain⟨ad,c,q0,q1,q2,q3,rfl,rfl,c0,c1,c2,c3⟩:=hc.four hl;exact L5 W ad c q0 q1 q2 q3 c0 c1 c2 c3)
def ie(l:List Int):Int:=dZ (l.getD 0 0==l.getD 2 0&&l.getD 1 0==l.getD 3 0)
theorem ii:cu 50 4 (fun l _=>iX l) (fun l S=>(([ie l],0),S)):=
 qO 50 4 181 (enters_of func181 (by kernel_rfl) rfl) rfl rfl ie (fun _ _ _ _ h=>h) (fun W l lv _ hl hc=>by
  obtain⟨ad,c,q0,q1,q2,q3,rfl,rfl,c0,c1,c2,c3⟩:=hc.four hl;exact Mb W ad c q0 q1 q2 q3 c0 c1 c2 c3)
def Vq(l:List Int):Int×Int:=BJ (l.getD 0 0,l.getD 1 0)
theorem ij:cu 51 2 (fun l _=>iX l) (fun l S=>(([(Vq l).1,(Vq l).2],0),S)):=
 jg 51 2 168 (enters_of func168 (by kernel_rfl) rfl) rfl rfl Vq (fun _ _ _ _ h=>h) (fun W l lv _ hl hc=>by
  obtain⟨ad,c,q0,q1,rfl,rfl,c0,c1⟩:=hc.two hl;exact ps6 W ad c q0 q1 c0 c1)
def Vr(l:List Int):Int×Int:=IV (l.getD 0 0,l.getD 1 0)
theorem ik:cu 52 2 (fun l _=>iX l) (fun l S=>(([(Vr l).1,(Vr l).2],0),S)):=
 jg 52 2 170 (enters_of func170 (by kernel_rfl) rfl) rfl rfl Vr (fun _ _ _ _ h=>h) (fun W l lv _ hl hc=>by
  obtain⟨ad,c,q0,q1,rfl,rfl,c0,c1⟩:=hc.two hl;exact ps7 W ad c q0 q1 c0 c1)
def Vs(l:List Int):Int×Int:=qN (l.getD 0 0) (l.getD 1 0)
theorem il:cu 53 2 (fun l _=>iX l) (fun l S=>(([(Vs l).1,(Vs l).2],0),S)):=
 jg 53 2 172 (enters_of func172 (by kernel_rfl) rfl) rfl rfl Vs (fun _ _ _ _ h=>h) (fun W l lv _ hl hc=>by
  obtain⟨ad,c,q0,q1,rfl,rfl,c0,c1⟩:=hc.two hl;exact ps8 W ad c q0 q1 c0 c1)
def Vt(l:List Int):Int×Int:=ze (l.getD 0 0) (l.getD 1 0)
theorem iu:cu 54 2 (fun l _=>iX l) (fun l S=>(([(Vt l).1,(Vt l).2],0),S)):=
 jg 54 2 173 (enters_of func173 (by kernel_rfl) rfl) rfl rfl Vt (fun _ _ _ _ h=>h) (fun W l lv _ hl hc=>by
  obtain⟨ad,c,q0,q1,rfl,rfl,c0,c1⟩:=hc.two hl;exact ps9 W ad c q0 q1 c0 c1)
def LH(l:List Int):(Int×Int)×Int:=gW (l.getD 0 0,l.getD 1 0) (l.getD 2 0)
theorem ix:cu 55 3 (fun l _=>iX l) (fun l S=>(([(LH l).1.1,(LH l).1.2],(LH l).2),S)):=
 kH 55 3 183 (enters_of func183 (by kernel_rfl) rfl) rfl rfl LH (fun _ _ _ _ h=>h) (fun W l lv hA hl hc=>by
  obtain⟨ad,c,q0,q1,q2,rfl,rfl,c0,c1,c2⟩:=hc.three hl;exact MD W ad c q0 q1 q2 c0 c1 c2 (hA q0 (by simp)) (hA q1 (by simp)) (hA q2 (by simp)))
def LJ(l:List Int):(Int×Int)×Int:=gq (l.getD 0 0,l.getD 1 0) (l.getD 2 0)
theorem iz:cu 56 3 (fun l _=>iX l) (fun l S=>(([(LJ l).1.1,(LJ l).1.2],(LJ l).2),S)):=
 kH 56 3 185 (enters_of func185 (by kernel_rfl) rfl) rfl rfl LJ (fun _ _ _ _ h=>h) (fun W l lv hA hl hc=>by
  obtain⟨ad,c,q0,q1,q2,rfl,rfl,c0,c1,c2⟩:=hc.three hl;exact MT W ad c q0 q1 q2 c0 c1 c2 (hA q0 (by simp)) (hA q1 (by simp)) (hA q2 (by simp)))
def LK(l:List Int):(Int×Int)×Int:=mH (l.getD 0 0,l.getD 1 0) (l.getD 2 0)
theorem ja:cu 57 3 (fun l _=>iX l) (fun l S=>(([(LK l).1.1,(LK l).1.2],(LK l).2),S)):=
 kH 57 3 186 (enters_of func186 (by kernel_rfl) rfl) rfl rfl LK (fun _ _ _ _ h=>h) (fun W l lv hA hl hc=>by
  obtain⟨ad,c,q0,q1,q2,rfl,rfl,c0,c1,c2⟩:=hc.three hl;exact M3 W ad c q0 q1 q2 c0 c1 c2 (hA q0 (by simp)) (hA q1 (by simp)) (hA q2 (by simp)))
def Vu(l:List Int):Int×Int:=((gq (qN (l.getD 0 0) (l.getD 1 0)) (l.getD 2 0)).1.2,(gq (qN (l.getD 0 0) (l.getD 1 0)) (l.getD 2 0)).2)
theorem jb:cu 58 3 (fun l _=>iX l) (fun l S=>(([(Vu l).1],(Vu l).2),S)):=
 PZ 58 3 188 (enters_of func188 (by kernel_rfl) rfl) rfl rfl Vu (fun _ _ _ _ h=>h) (fun W l lv b hA hl hc hB=>by
  obtain⟨ad,c,q0,q1,q2,rfl,rfl,c0,c1,c2⟩:=hc.three hl;exact NE W ad b c q0 q1 q2 c0 c1 c2 (hA q2 (by simp)) hB)
def LM(l:List Int):(Int×Int)×Int:=gq (qN (l.getD 0 0) (l.getD 1 0)) (l.getD 2 0)
theorem jn:cu 59 3 (fun l _=>iX l) (fun l S=>(([(LM l).1.1,(LM l).1.2],(LM l).2),S)):=
 kH 59 3 155 (enters_of func155 (by kernel_rfl) rfl) rfl rfl LM (fun _ _ _ _ h=>h) (fun W l lv hA hl hc=>by
  obtain⟨ad,c,q0,q1,q2,rfl,rfl,c0,c1,c2⟩:=hc.three hl;exact ps1 W ad c q0 q1 q2 c0 c1 c2 (hA q2 (by simp)))
def LP(l:List Int):(Int×Int)×Int:=wN (l.getD 0 0) (l.getD 1 0)
theorem jt:cu 60 2 (fun l _=>iX l) (fun l S=>(([(LP l).1.1,(LP l).1.2],(LP l).2),S)):=
 kH 60 2 189 (enters_of func189 (by kernel_rfl) rfl) rfl rfl LP (fun _ _ _ _ h=>h) (fun W l lv _ hl hc=>by
  obtain⟨ad,c,q0,q1,rfl,rfl,c0,c1⟩:=hc.two hl;exact Nd W ad c q0 q1 c0 c1)
def ju(l:List Int):Int:=Rl.madeOf (floatOfInt .f64 (l.getD 0 0))
theorem jx:cu 71 1 (fun l _=>iX l) (fun l S=>(([ju l],0),S)):=
 qO 71 1 190 (enters_of func190 (by kernel_rfl) rfl) rfl rfl ju (fun _ _ _ _ h=>h) (fun W l lv _ hl hc=>by
  obtain⟨ad,c,q0,rfl,rfl,c0⟩:=hc.one hl;exact Nx W ad c q0 c0)
def Vv(l:List Int):Int×Int:=Rl.Ri (l.getD 0 0)
theorem jz:cu 72 1 (fun l _=>iX l) (fun l S=>(([(Vv l).1],(Vv l).2),S)):=
 UY 72 1 192 (enters_of func192 (by kernel_rfl) rfl) rfl rfl Vv (fun _ _ _ _ h=>h) (fun W l lv _ hl hc=>by
  obtain⟨ad,c,q0,rfl,rfl,c0⟩:=hc.one hl;exact NB W ad c q0 c0)
end Go.Proofs.YtdokeddjcpnmiaaGreatDoor
