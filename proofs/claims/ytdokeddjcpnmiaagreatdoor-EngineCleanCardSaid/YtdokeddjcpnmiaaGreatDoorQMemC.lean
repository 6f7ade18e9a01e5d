/- Of EngineClean: Cell Mem1. -/
import Derived.Test.YtdokeddjcpnmiaaGreatDoorQStkCut
import Derived.OpenShut
set_option maxRecDepth 100000
set_option maxHeartbeats 1000000
namespace Go.Proofs.YtdokeddjcpnmiaaGreatDoor
open Go.RowKit Go.Proofs.Tryz
open Go.Lib(hid)
def au(x:Int):Prop:= -9223372036854775808≤x∧x≤9223372036854775807
theorem aV(x:Int):au (wrap64 x):=by unfold au wrap64;omega
theorem jV(op:BinOp)(x y:Int):au (bits op .i64 x y):=bounds_i64 (wf_bits op .i64 x y)
def dZ(b:Bool):Int:=if b then -1 else 0
theorem lJ(b:Bool):au (dZ b):=by unfold au dZ;cases b<;>decide
def jh(op:Int):Nat:=if 1≤op∧op≤10 then 1 else if 11≤op∧op≤27 then 2 else 0
theorem gQ(b:Bool)(w:World):Calls prog 150 #[.bool b] w fun e w'=>e=.returned (.int .i64 (dZ b))∧w=w':=by
 cases b
 all_goals go_enter func150,ntmps150
 all_goals go_wp2
 all_goals go_ret
 all_goals exact⟨rfl,rfl⟩
theorem zW(op:Int)(w:World):Calls prog 123 #[.int .i64 op] w fun e w'=>e=.returned (.int .i64 (jh op))∧w=w':=by
 have H:=hid (rfl:jh op=jh op);generalize hn:jh op=n at H⊢;have H2:=hid hn;clear hn H;go_enter func123,ntmps123;go_wp2
 all_goals go_ret
 all_goals refine⟨?_,rfl⟩
 all_goals have h:=H2.out
 all_goals unfold jh at h
 all_goals first|(rw[if_pos (by omega)]at h;subst h;rfl)|(rw[if_neg (by omega),if_pos (by omega)]at h;subst h;rfl)|(rw[if_neg (by omega),if_neg (by omega)]at h;subst h;rfl)
def wZ(op a:Int):Int×Int:=
 if op=1 then(wrap64 (-a),0)
 else if op=2 then(if a<0 then wrap64 (-a)else a,0)
 else if op=3 then(bits .xor .i64 (-1) a,0)
 else if op=4 then(wrap64 (a+1),0)
 else if op=5 then(wrap64 (a-1),0)
 else if op=6 then(wrap64 (a*2),0)
 else if op=7 then(a / 2,0)
 else if op=8 then(dZ (decide (a=0)),0)
 else if op=9 then(dZ (decide (a<0)),0)
 else if op=10 then(dZ (!decide (a=0)),0)
 else(0,1)
theorem Ny(op a:Int)(h:au a):au (wZ op a).1:=by
 have h7:au (a / 2):=by unfold au at*;omega
 have h0:au 0:=by unfold au;decide
 have h2:au (if a<0 then wrap64 (-a)else a):=by
  by_cases hn:a<0
  ·rw[if_pos hn];exact aV _
  ·rw[if_neg hn];exact h
 have t:=lJ;have wr:=aV;have bi:=jV;unfold wZ;generalize (if a<0 then wrap64 (-a)else a)=x2 at*;repeat' split
 all_goals simp only[]
 all_goals first|assumption|apply wr|apply t|apply bi
def dY(op a:Int)(r:Int×Int)(w:World):Prop:=
 Calls prog 126 #[.int .i64 op,.int .i64 a] w fun e w'=>e=.returned (.tuple #[.int .i64 r.1,.int .i64 r.2])∧w=w'
theorem oa(a:Int)(w:World):dY 1 a (wrap64 (-a),0) w:=by
 unfold dY;go_enter func126,ntmps126;go_wp2;go_ret2;exact⟨rfl,rfl⟩
theorem oc(a:Int)(w:World):dY 3 a (bits .xor .i64 (-1) a,0) w:=by
 unfold dY;go_enter func126,ntmps126;go_wp2;go_ret2;exact⟨rfl,rfl⟩
theorem od(a:Int)(w:World):dY 4 a (wrap64 (a+1),0) w:=by
 unfold dY;go_enter func126,ntmps126;go_wp2;go_ret2;exact⟨rfl,rfl⟩
theorem ot(a:Int)(w:World):dY 5 a (wrap64 (a-1),0) w:=by
 unfold dY;go_enter func126,ntmps126;go_wp2;go_ret2;exact⟨rfl,rfl⟩
theorem oA(a:Int)(w:World):dY 6 a (wrap64 (a*2),0) w:=by
 unfold dY;go_enter func126,ntmps126;go_wp2;go_ret2;exact⟨rfl,rfl⟩
theorem oB(a:Int)(w:World):dY 7 a (a / 2,0) w:=by
 unfold dY;go_enter func126,ntmps126;go_wp2;go_ret2;exact⟨rfl,rfl⟩
theorem oT(a:Int)(w:World):dY 2 a (if a<0 then wrap64 (-a)else a,0) w:=by
 unfold dY;by_cases h:a<0
 ·rw[if_pos h];go_enter func126,ntmps126;go_wp2;go_ret2;exact⟨rfl,rfl⟩
 ·rw[if_neg h];go_enter func126,ntmps126;go_wp2;go_ret2;exact⟨rfl,rfl⟩
theorem oX(a:Int)(w:World):dY 8 a (dZ (decide (a=0)),0) w:=by
 unfold dY;have hT:=fun b w=>gQ b w;go_enter func126,ntmps126;go_wp2_with fail;refine(hT _ _).mono ?_;rintro _ _ ⟨rfl,rfl⟩;go_wp2;go_ret2;exact⟨rfl,rfl⟩
theorem oY(a:Int)(w:World):dY 9 a (dZ (decide (a<0)),0) w:=by
 unfold dY;have hT:=fun b w=>gQ b w;go_enter func126,ntmps126;go_wp2_with fail;refine(hT _ _).mono ?_;rintro _ _ ⟨rfl,rfl⟩;go_wp2;go_ret2;exact⟨rfl,rfl⟩
theorem ZO(a:Int)(w:World):dY 10 a (dZ (!decide (a=0)),0) w:=by
 unfold dY;have hT:=fun b w=>gQ b w;go_enter func126,ntmps126;go_wp2_with fail;refine(hT _ _).mono ?_;rintro _ _ ⟨rfl,rfl⟩;go_wp2;go_ret2;exact⟨rfl,rfl⟩
theorem Wz(op a:Int)(h:op<1∨10<op)(w:World):dY op a (0,1) w:=by
 unfold dY;have h1:¬op=1:=by omega
 have h2:¬op=2:=by omega
 have h3:¬op=3:=by omega
 have h4:¬op=4:=by omega
 have h5:¬op=5:=by omega
 have h6:¬op=6:=by omega
 have h7:¬op=7:=by omega
 have h8:¬op=8:=by omega
 have h9:¬op=9:=by omega
 have h10:¬op=10:=by omega
 clear h;go_enter func126,ntmps126;go_wp2;go_ret2;exact⟨rfl,rfl⟩
theorem WB(op a:Int)(w:World):dY op a (wZ op a) w:=by
 by_cases h:op<1∨10<op
 ·have e:wZ op a=(0,1):=by
   unfold wZ;rw[if_neg (by omega),if_neg (by omega),if_neg (by omega),if_neg (by omega),if_neg (by omega),if_neg (by omega),if_neg (by omega),if_neg (by omega),if_neg (by omega),if_neg (by omega)]
  rw[e];exact Wz op a h w
 ·obtain⟨k,hk,rfl⟩:∃k:Nat,k<10∧op=k+1:=⟨(op-1).toNat,by omega,by omega⟩;clear h;match k,hk with
  |0,_=>exact oa a w
  |1,_=>exact oT a w
  |2,_=>exact oc a w
  |3,_=>exact od a w
  |4,_=>exact ot a w
  |5,_=>exact oA a w
  |6,_=>exact oB a w
  |7,_=>exact oX a w
  |8,_=>exact oY a w
  |9,_=>exact ZO a w
def aL(bs:List Int):List Value:=bs.map (Value.int .u8)
def Bytes(bs:List Int):Prop:=∀x∈bs,0≤x∧x≤255
structure aY(w:World)(m g n:Nat)(bs:List Int)(here:Nat):Prop where
 blk:aF w m 144 #[.slice (some ⟨g,0,none⟩) n n,.int .i64 here]
 row:aF w g 5 (aL bs).toArray
 len:bs.length=n
 byte:Bytes bs
 small:n≤65536
 low:here≤n
section
variable {w w':World} {m g n here:Nat} {bs:List Int}
theorem aY.touch{F:List Nat}(h:aY w m g n bs here)(t:Touch F w w')(h1:m∉F)(h2:g∉F):aY w' m g n bs here:=⟨h.blk.touch t h1,h.row.touch t h2,h.len,h.byte,h.small,h.low⟩
theorem aY.ne(h:aY w m g n bs here):m≠g:=by
 intro e;have h1:=h.blk;have h2:=h.row;subst e;unfold aF at h1 h2;rw[h1]at h2;injection h2 with h2;injection h2 with _ h2 _;cases h2
theorem aY.cell(h:aY w m g n bs here){i:Nat}(hi:i<n):w.cell? ⟨g,i,none⟩=some (.int .u8 (bs.getD i 0)):=by
 rw[h.row.cell i];simp[aL,List.getD,List.getElem?_eq_getElem (show i<bs.length by rw[h.len];exact hi)]
theorem Bytes.getD(h:Bytes bs)(i:Nat):0≤bs.getD i 0∧bs.getD i 0≤255:=by
 rw[List.getD];cases e:bs[i]? with
 |none=>simp
 |some x=>exact h x (List.mem_of_getElem? e)
theorem zX(h:aY w m g n bs here):Calls prog 245 #[.pointer (some ⟨m,0,none⟩)] w fun e w'=>e=.returned (.int .i64 n)∧w=w':=by
 have c0:=h.blk.cell 0;clear h;go_enter func245,ntmps245;go_wp2;go_ret;exact⟨rfl,rfl⟩
theorem nE(h:aY w m g n bs here):Calls prog 88 #[.pointer (some ⟨m,0,none⟩)] w fun e w'=>e=.returned (.int .i64 here)∧w=w':=by
 have c0:=h.blk.cell 1;clear h;go_enter func88,ntmps88;go_wp2;go_ret;exact⟨rfl,rfl⟩
theorem jW(h:aY w m g n bs here)(p k:Nat)(hk:p+k≤n):Calls prog 144 #[.pointer (some ⟨m,0,none⟩),.int .i64 p,.int .i64 k] w fun e w'=>∃a,e=.returned (.tuple #[.slice (some a) k k,.int .i64 0])∧(0<k→a=⟨g,p,none⟩)∧Touch [] w w':=by
 have hS:=zX h;have c0:=h.blk.cell 0;have hs:=h.small;have e1:IntKind.i64.wrap ((n:Int)-p)=n-p:=by rw[IntKind.wrap_i64];omega
 have e2:IntKind.i64.wrap ((p:Int)+k)=(p+k:Nat):=by rw[IntKind.wrap_i64];omega
 have g1:¬(p:Int)<0:=by omega
 have g2:¬(p:Int)>n:=by omega
 have g3:¬(k:Int)<0:=by omega
 have g4:¬(k:Int)>n-p:=by omega
 clear h;go_enter func144,ntmps144;go_wp2_with fail;refine hS.mono ?_;rintro _ _ ⟨rfl,rfl⟩;clear hS;go_wp2_with fail
 all_goals go_ret2
 ·obtain rfl:k=0:=by omega
  exact⟨⟨g,0,none⟩,rfl,fun h=>by omega,Touch.refl _ _⟩
 ·exact⟨⟨g,p,none⟩,rfl,fun _=>rfl,Touch.refl _ _⟩
theorem nA(h:aY w m g n bs here)(p k:Int)(hk:p<0∨n<p∨k<0∨n-p<k):Calls prog 144 #[.pointer (some ⟨m,0,none⟩),.int .i64 p,.int .i64 k] w fun e w'=>e=.returned (.tuple #[.slice none 0 0,.int .i64 (-9)])∧Touch [] w w':=by
 have hS:=zX h;have c0:=h.blk.cell 0;have hs:=h.small;have nY:p<0∨(¬p<0∧p>n)∨(¬p<0∧¬p>n∧k<0)∨(¬p<0∧¬p>n∧¬k<0∧IntKind.i64.wrap ((n:Int)-p)=n-p∧k>n-p):=by
  by_cases h1:p<0
  ·exact .inl h1
  ·by_cases h2:p>n
   ·exact .inr (.inl ⟨h1,h2⟩)
   ·by_cases h3:k<0
    ·exact .inr (.inr (.inl ⟨h1,h2,h3⟩))
    ·exact .inr (.inr (.inr ⟨h1,h2,h3,by rw[IntKind.wrap_i64];omega,by omega⟩))
 clear h hk;rcases nY with h1|⟨h1,h2⟩|⟨h1,h2,h3⟩|⟨h1,h2,h3,h4,h5⟩
 all_goals
  go_enter func144,ntmps144;go_wp2_with fail;refine hS.mono ?_;rintro _ _ ⟨rfl,rfl⟩;go_wp2_with fail
  all_goals go_ret2
  all_goals exact⟨rfl,Touch.refl _ _⟩
theorem Mg(h:aY w m g n bs here)(p:Nat)(hp:p+8≤n)(ha:p%8=0):Calls prog 118 #[.pointer (some ⟨m,0,none⟩),.int .i64 p] w fun e w'=>e=.returned (.tuple #[.slice (some ⟨g,p,none⟩) 8 8,.int .i64 0])∧Touch [] w w':=by
 have hP:=jW h p 8 hp;have hs:=h.small;have e1:(p:Int).tmod 8=0:=by rw[Int.tmod_eq_emod_of_nonneg (by omega)];omega
 clear h;go_enter func118,ntmps118;go_wp2_with fail;refine hP.mono ?_;rintro _ w1 ⟨a,rfl,ha,t1⟩;obtain rfl:=ha (by decide);clear hP;go_wp2_with fail;go_ret2;exact⟨rfl,t1⟩
theorem Gr(h:aY w m g n bs here)(p:Int)(hp:¬(0≤p∧p+8≤n∧p%8=0)):Calls prog 118 #[.pointer (some ⟨m,0,none⟩),.int .i64 p] w fun e w'=>(∃c,e=.returned (.tuple #[.slice none 0 0,.int .i64 c])∧c=(if 0≤p∧p+8≤n then -23 else -9))∧Touch [] w w':=by
 by_cases qY:0≤p∧p+8≤n
 ·obtain⟨q,rfl⟩:∃q:Nat,p=q:=⟨p.toNat,by omega⟩;rw[if_pos qY];have hP:=jW h q 8 (by omega);have e1:¬(q:Int)%8=0:=by omega
  have PF:((q:Int)%8 != 0)=true:=by simpa using e1
  clear h qY hp;go_enter func118,ntmps118;go_wp2_with fail;refine hP.mono ?_;rintro _ w1 ⟨a,rfl,ha,t1⟩;clear hP ha;go_wp2_with fail;go_ret2;exact⟨⟨_,rfl,rfl⟩,t1⟩
 ·rw[if_neg qY];have hP:=nA h p 8 (by omega);clear h qY hp;go_enter func118,ntmps118;go_wp2_with fail;refine hP.mono ?_;rintro _ w1 ⟨rfl,t1⟩;clear hP;go_wp2_with fail;go_ret2;exact⟨⟨_,rfl,rfl⟩,t1⟩
def yq(bs:List Int)(p:Nat):Nat→Int
 |0=>0
 |i+1=>bits .or .i64 (yq bs p i) (wrap64 (bs.getD (p+i) 0*2^(8*i)))
def zY(bs:List Int)(p:Nat):Int:=yq bs p 8
theorem JF(h:aY w m g n bs here)(p:Nat)(hp:p+8≤n)(ha:p%8=0):Calls prog 195 #[.pointer (some ⟨m,0,none⟩),.int .i64 p] w fun e w'=>e=.returned (.tuple #[.int .i64 (zY bs p),.int .i64 0])∧Touch [] w w':=by
 have hC:=Mg h p hp ha;have H:=hid h;have hs:=h.small;clear h;go_enter func195,ntmps195;go_wp2_with fail;refine hC.mono ?_;rintro _ w1 ⟨rfl,t1⟩;clear hC;go_wp2_with fail;go_loopw [19,8] (fun i xv wr=>∃j:Nat,j≤8∧i=.int .i64 j∧xv=.int .i64 (yq bs p j)∧Touch [] w wr) (fun i _ _=>8-(intOf i).toNat)
 case atStart=>exact⟨0,Nat.zero_le _,rfl,rfl,t1⟩
 case round=>
  obtain⟨j,hj,rfl,rfl,t2⟩:=hrel;clear t1;by_cases hlt:j<8
  ·have xg:(j:Int)<8:=by omega
   have hc:=(H.out.touch t2 (by simp) (by simp)).cell (i:=p+j) (by omega);have hb:=H.out.byte.getD (p+j);obtain⟨c,hcc⟩:∃c,bs.getD (p+j) 0=c:=⟨_,rfl⟩;rw[hcc]at hc hb;have ek:IntKind.i64.wrap ((j:Int)+1)=(j+1:Nat):=by rw[IntKind.wrap_i64];omega
   have e8:IntKind.i64.wrap (8*(j:Int))=8*j:=by rw[IntKind.wrap_i64];omega
   have ec:IntKind.i64.wrap c=c:=by rw[IntKind.wrap_i64];omega
   have T2:=hid t2;have HC:=hid hcc;clear t2 hcc;go_wp2_with fail;go_roundw
   case rel=>exact⟨j+1,by omega,nW (by omega),by rw[yq,HC.out],T2.out⟩
   case measure=>simp only[intOf];omega
  ·obtain rfl:j=8:=by omega
   have T2:=hid t2;clear t2 hlt;go_wp2_with fail;go_ret2;exact⟨rfl,T2.out⟩
theorem WC(h:aY w m g n bs here)(p:Int)(hp:¬(0≤p∧p+8≤n∧p%8=0)):Calls prog 195 #[.pointer (some ⟨m,0,none⟩),.int .i64 p] w fun e w'=>e=.returned (.tuple #[.int .i64 0,.int .i64 (if 0≤p∧p+8≤n then -23 else -9)])∧Touch [] w w':=by
 have hC:=Gr h p hp;clear h hp;obtain⟨c,hc⟩:∃c:Int,(if 0≤p∧p+8≤(n:Int)then(-23:Int)else -9)=c:=⟨_,rfl⟩;rw[hc]at hC⊢;clear hc;go_enter func195,ntmps195;go_wp2_with fail;refine hC.mono ?_;rintro _ w1 ⟨⟨_,rfl,rfl⟩,t1⟩;clear hC;go_wp2_with fail;go_loopw [19,8] (fun i xv wr=>i=.int .i64 0∧xv=.int .i64 0∧Touch [] w wr) (fun i _ _=>8-(intOf i).toNat)
 case atStart=>exact⟨rfl,rfl,t1⟩
 case round=>
  obtain⟨rfl,rfl,t2⟩:=hrel;clear t1;go_wp2_with fail;go_ret2;exact⟨rfl,t2⟩
def vH(bs:List Int)(p:Nat)(x:Int):Nat→List Int
 |0=>bs
 |i+1=>(vH bs p x i).set (p+i) (x / 2^(8*i)%256)
theorem Ro(x:Int):0≤x%256∧x%256≤255:=by omega
theorem Bytes.set(h:Bytes bs)(i:Nat){x:Int}(hx:0≤x∧x≤255):Bytes (bs.set i x):=fun y hy=>by
 rcases List.mem_or_eq_of_mem_set hy with h1|h1
 ·exact h y h1
 ·rw[h1];exact hx
theorem aY.store(h:aY w m g n bs here)(i:Nat){x:Int}(hx:0≤x∧x≤255):aY (w.setCell ⟨g,i,none⟩ (.int .u8 x)) m g n (bs.set i x) here:=by
 refine⟨h.blk.far (fun e=>h.ne e) _,?_,by rw[List.length_set];exact h.len,h.byte.set i hx,h.small,h.low⟩;have h1:=h.row.bJ i (.int .u8 x);have e:(aL bs).toArray.setIfInBounds i (.int .u8 x)=(aL (bs.set i x)).toArray:=by
  simp[aL,List.setIfInBounds_toArray,List.map_set]
 rw[e]at h1;exact h1
theorem Mh(h:aY w m g n bs here)(p:Nat)(x:Int)(hp:p+8≤n)(ha:p%8=0):Calls prog 90 #[.pointer (some ⟨m,0,none⟩),.int .i64 p,.int .i64 x] w fun e w'=>e=.returned (.int .i64 0)∧aY w' m g n (vH bs p x 8) here∧Touch [g] w w':=by
 have hC:=Mg h p hp ha;have H:=hid h;have hs:=h.small;clear h;go_enter func90,ntmps90;go_wp2_with fail;refine hC.mono ?_;rintro _ w1 ⟨rfl,t1⟩;clear hC;go_wp2_with fail;go_loopw [18] (fun i wr=>∃j:Nat,j≤8∧i=.int .i64 j∧aY wr m g n (vH bs p x j) here∧Touch [g] w wr) (fun i _=>8-(intOf i).toNat)
 case atStart=>exact⟨0,Nat.zero_le _,rfl,H.out.touch t1 (by simp) (by simp),t1.mono (by simp)⟩
 case round=>
  obtain⟨j,hj,rfl,hM,t2⟩:=hrel;clear t1;by_cases hlt:j<8
  ·have xg:(j:Int)<8:=by omega
   have hc:=hM.cell (i:=p+j) (by omega);have hf:=hM.row.frozen (p+j);have PH:=hM.store (p+j) (Ro (x / 2^(8*j)));have t3:=t2.setCell (p:=⟨g,p+j,none⟩) (.inl (by simp)) (.int .u8 (x / 2^(8*j)%256));have ek:IntKind.i64.wrap ((j:Int)+1)=(j+1:Nat):=by rw[IntKind.wrap_i64];omega
   have e8:IntKind.i64.wrap (8*(j:Int))=8*j:=by rw[IntKind.wrap_i64];omega
   have HM:=hid (And.intro PH t3);clear hM t2 PH t3;go_wp2_with fail;go_roundw
   case rel=>exact⟨j+1,by omega,nW (by omega),HM.out.1,HM.out.2⟩
   case measure=>simp only[intOf];omega
  ·obtain rfl:j=8:=by omega
   have HM:=hid (And.intro hM t2);clear t2 hlt hM;go_wp2_with fail;go_ret;exact⟨rfl,HM.out.1,HM.out.2⟩
end
end Go.Proofs.YtdokeddjcpnmiaaGreatDoor
