/- Of EngineClean: SignA. -/
import Derived.Test.YtdokeddjcpnmiaaGreatDoorQRealOps
set_option maxRecDepth 100000
set_option maxHeartbeats 16000000
namespace Go.Proofs.YtdokeddjcpnmiaaGreatDoor
open Go.RowKit Go.Proofs.Tryz
open Go.Lib(hid)
structure p8(u a b m q r:Nat):Prop where
 sum:q*a+r=u
 ge:(u*4294967296+m) / (a*4294967296+b)≤q
 low:r<4294967296
 top:q≤4294967297
theorem za{u a b m:Nat}(ha:2147483648≤a)(ha2:a<4294967296)(hb:b<4294967296)(hm:m<4294967296)(hu:u<a*4294967296+b):p8 u a b m (u / a) (u%a):=by
 have ha0:0<a:=by omega
 have hlt:u%a<a:=Nat.mod_lt _ ha0;refine⟨by rw[Nat.mul_comm];exact Nat.div_add_mod u a,?_,by omega,?_⟩
 ·rw[Nat.le_div_iff_mul_le ha0];have h1:=Nat.div_mul_le_self (u*4294967296+m) (a*4294967296+b);generalize (u*4294967296+m) / (a*4294967296+b)=Q at*;have h2:Q*(a*4294967296+b)=Q*a*4294967296+Q*b:=by rw[Nat.mul_add,Nat.mul_assoc]
  omega
 ·have h3:u / a<4294967298:=by
   rw[Nat.div_lt_iff_lt_mul ha0];omega
  omega
theorem div_lt{u a b m:Nat}(hm:m<4294967296)(hu:u<a*4294967296+b):(u*4294967296+m) / (a*4294967296+b)<4294967296:=by
 rw[Nat.div_lt_iff_lt_mul (by omega)];omega
theorem oG{u a b m q r:Nat}(h:p8 u a b m q r)(h0:0<a)(hle:q*b≤4294967296*r+m):(u*4294967296+m) / (a*4294967296+b)=q:=by
 refine Nat.le_antisymm h.ge ?_;rw[Nat.le_div_iff_mul_le (by omega)];have h2:q*(a*4294967296+b)=q*a*4294967296+q*b:=by rw[Nat.mul_add,Nat.mul_assoc]
 have h3:=h.sum;omega
theorem uY{u a b m q r:Nat}(h:p8 u a b m q r)(hm:m<4294967296)(hu:u<a*4294967296+b)(Yj:4294967296≤q∨4294967296*r+m<q*b):1≤q∧(u*4294967296+m) / (a*4294967296+b)≤q-1∧(q-1)*a+(r+a)=u:=by
 have h3:=h.sum;have h4:=div_lt (a:=a) (b:=b) hm hu;have hq:(u*4294967296+m) / (a*4294967296+b)<q:=by
  rcases Yj with h1|h1
  ·omega
  ·rw[Nat.div_lt_iff_lt_mul (by omega)];have h2:q*(a*4294967296+b)=q*a*4294967296+q*b:=by rw[Nat.mul_add,Nat.mul_assoc]
   omega
 obtain⟨Q,hQ⟩:∃Q,(u*4294967296+m) / (a*4294967296+b)=Q:=⟨_,rfl⟩;rw[hQ]at hq h4⊢;have h5:(q-1)*a+a=q*a:=by
  obtain⟨k,rfl⟩:∃k,q=k+1:=⟨q-1,by omega⟩;rw[Nat.add_sub_cancel,Nat.succ_mul]
 exact⟨by omega,by omega,by omega⟩
theorem Uy{u a b m q r:Nat}(h:p8 u a b m q r)(hm:m<4294967296)(hu:u<a*4294967296+b)(Yj:4294967296≤q∨4294967296*r+m<q*b)(jX:r+a<4294967296):p8 u a b m (q-1) (r+a):=by
 obtain⟨h1,h2,h3⟩:=uY h hm hu Yj;exact⟨h3,h2,jX,by have:=h.top;omega⟩
theorem IK{u a b m q r:Nat}(h:p8 u a b m q r)(ha:0<a)(hb:b<4294967296)(hm:m<4294967296)(hu:u<a*4294967296+b)(Yj:4294967296≤q∨4294967296*r+m<q*b)(Fe:¬r+a<4294967296):(u*4294967296+m) / (a*4294967296+b)=q-1:=by
 obtain⟨h1,h2,h3⟩:=uY h hm hu Yj;refine Nat.le_antisymm h2 ?_;rw[Nat.le_div_iff_mul_le (by omega)];have h4:(q-1)*(a*4294967296+b)=(q-1)*a*4294967296+(q-1)*b:=by rw[Nat.mul_add,Nat.mul_assoc]
 have h5:(q-1)*b≤4294967296*4294967296:=Nat.mul_le_mul (by have:=h.top;omega) (by omega);omega
theorem PK(u m1 m0 Y:Nat)(hY:0<Y):
 ((u*4294967296+m1)%Y)<Y∧((u*4294967296+m1) / Y)*4294967296+((u*4294967296+m1)%Y*4294967296+m0) / Y=(u*18446744073709551616+(m1*4294967296+m0)) / Y∧
  ((u*4294967296+m1)%Y*4294967296+m0)%Y=(u*18446744073709551616+(m1*4294967296+m0))%Y:=by
 have h1:=Nat.div_add_mod (u*4294967296+m1) Y;have hr:=Nat.mod_lt (u*4294967296+m1) hY;obtain⟨q1,Xm⟩:∃q1,(u*4294967296+m1) / Y=q1:=⟨_,rfl⟩;obtain⟨r1,hr1⟩:∃r1,(u*4294967296+m1)%Y=r1:=⟨_,rfl⟩;rw[Xm,hr1]at h1;rw[hr1]at hr;rw[Xm,hr1];have e:u*18446744073709551616+(m1*4294967296+m0)=(r1*4294967296+m0)+Y*(q1*4294967296):=by
  have:Y*(q1*4294967296)=Y*q1*4294967296:=by rw[Nat.mul_assoc]
  omega
 refine⟨hr,?_,?_⟩
 ·rw[e,Nat.add_mul_div_left _ _ hY,Nat.add_comm]
 ·rw[e,Nat.add_mul_mod_self_left]
theorem PL(n y s:Nat):(n*2^s) / (y*2^s)=n / y:=Nat.mul_div_mul_right _ _ (Nat.two_pow_pos s)
theorem PN(n y s:Nat):(n*2^s)%(y*2^s) / 2^s=n%y:=by
 rw[Nat.mul_mod_mul_right,Nat.mul_div_cancel _ (Nat.two_pow_pos s)]
theorem uC(n:Nat):IntKind.u64.wrap (n:Int)=((n%18446744073709551616:Nat):Int):=by rw[IntKind.wrap_u64];omega
theorem Uz(a b:Nat):IntKind.u64.wrap ((a:Int)*(b:Int))=((a*b%18446744073709551616:Nat):Int):=by rw[←Int.natCast_mul,uC]
theorem eM(a s:Nat):IntKind.u64.wrap ((a:Int)*2^s)=((a*2^s%18446744073709551616:Nat):Int):=by
 rw[show((a:Int)*2^s)=((a*2^s:Nat):Int) by simp,uC]
theorem Zp(a:Nat)(ha:a<18446744073709551616):bits .and .u64 (a:Int) 4294967295=((a%4294967296:Nat):Int):=by
 have h:=bits_and_u64_nat a 4294967295 ha (by decide);rw[show(4294967295:Nat)=2^32-1 from rfl,Nat.and_two_pow_sub_one_eq_mod]at h;exact h
theorem eN{H L s:Nat}(hL:L<2^s)(h:H*2^s<18446744073709551616)(hs:s≤63):bits .or .u64 ((H*2^s:Nat):Int) (L:Int)=((H*2^s+L:Nat):Int):=by
 have h2:(2:Nat)^s≤2^63:=Nat.pow_le_pow_right (by decide) hs;rw[bits_or_u64_nat _ _ h (by omega)];congr 1;rw[Nat.mul_comm];exact(Nat.two_pow_add_eq_or_of_lt hL H).symm
theorem UA{h l p k V u T:Nat}(e:k*p=T)(hp:0<p)(hk:0<k)(hl:l<T)(hV:l*p%T=V)(hu:h*p+l / k=u):u*T+V=(h*T+l)*p∧l / k<p:=by
 have h1:l*p / T=l / k:=by rw[←e];exact Nat.mul_div_mul_right _ _ hp
 have h2:=Nat.div_add_mod (l*p) T;rw[h1,hV]at h2;refine⟨?_,?_⟩
 ·rw[←hu,Nat.add_mul,Nat.add_mul,←h2];have h3:h*p*T=h*T*p:=by rw[Nat.mul_assoc,Nat.mul_comm p,←Nat.mul_assoc]
  have h4:l / k*T=T*(l / k):=Nat.mul_comm _ _;omega
 ·rw[Nat.div_lt_iff_lt_mul hk,Nat.mul_comm,e];exact hl
theorem halves(h l s V u:Nat)(hl:l<18446744073709551616)(hs:s≤63)(hV:l*2^s%18446744073709551616=V)(hu:h*2^s+l / 2^(64-s)=u):u*18446744073709551616+V=(h*18446744073709551616+l)*2^s∧l / 2^(64-s)<2^s:=
 UA (by rw[←Nat.pow_add,show 64-s+s=64 by omega]) (Nat.two_pow_pos _) (Nat.two_pow_pos _) hl hV hu
def eQ(a b m1 m0 u Y R1:Nat):Prop:=2147483648≤a∧a<4294967296∧b<4294967296∧m1<4294967296∧m0<4294967296∧u<a*4294967296+b∧Y=a*4294967296+b∧R1<18446744073709551616
theorem ni{a b m1 m0 u Y R1 R2 U q x s:Nat}(hB:eQ a b m1 m0 u Y R1)(h:U<a*4294967296+b∧q*4294967296+(U*4294967296+m0) / Y=R1∧(U*4294967296+m0)%Y / 2^s=R2)(hQ:(U*4294967296+m0) / (a*4294967296+b)=x):
 ∃D1 D3 D4 D5 Z:Nat,IntKind.u64.wrap ((q:Int)*4294967296)=(D1:Int)∧IntKind.u64.wrap ((D1:Int)+x)=(R1:Int)∧IntKind.u64.wrap ((U:Int)*4294967296)=(D3:Int)∧IntKind.u64.wrap ((D3:Int)+m0)=(D4:Int)∧IntKind.u64.wrap ((x:Int)*Y)=(D5:Int)∧IntKind.u64.wrap ((D4:Int)-D5)=(Z:Int)∧(Z:Int) / 2^s=(R2:Int):=by
 obtain⟨ha1,ha2,hb2,nk,jU,BG,nR,jT⟩:=hB;rw[←nR]at hQ;obtain⟨hU3,hd1,hd2⟩:=h;rw[hQ]at hd1;have FC:=Nat.div_add_mod (U*4294967296+m0) Y;rw[hQ]at FC;obtain⟨Z,hZ⟩:∃Z,(U*4294967296+m0)%Y=Z:=⟨_,rfl⟩;have hZY:Z<Y:=by rw[←hZ];exact Nat.mod_lt _ (by omega)
 rw[hZ]at FC hd2;obtain⟨P0,hP0⟩:∃P0,Y*x=P0:=⟨_,rfl⟩;rw[hP0]at FC;obtain⟨D1,hD1⟩:∃D1,q*4294967296%18446744073709551616=D1:=⟨_,rfl⟩;obtain⟨D3,Zj⟩:∃D3,U*4294967296%18446744073709551616=D3:=⟨_,rfl⟩;obtain⟨D4,hD4⟩:∃D4,(D3+m0)%18446744073709551616=D4:=⟨_,rfl⟩;obtain⟨D5,hD5⟩:∃D5,P0%18446744073709551616=D5:=⟨_,rfl⟩;refine⟨D1,D3,D4,D5,Z,?_,?_,?_,?_,by rw[Uz,Nat.mul_comm,hP0,hD5],?_,by rw[←hd2];simp⟩<;>(rw[IntKind.wrap_u64];omega)
theorem FD{a b m1 m0 u Y R1 R2 q s:Nat}(hB:eQ a b m1 m0 u Y R1)(h:(u*4294967296+m1)%Y<Y∧(u*4294967296+m1) / Y*4294967296+((u*4294967296+m1)%Y*4294967296+m0) / Y=R1∧((u*4294967296+m1)%Y*4294967296+m0)%Y / 2^s=R2)
 (hQ:(u*4294967296+m1) / (a*4294967296+b)=q):∃U C1 C2 C3 q0 r0 P2:Nat,IntKind.u64.wrap ((u:Int)*4294967296)=(C1:Int)∧IntKind.u64.wrap ((C1:Int)+m1)=(C2:Int)∧IntKind.u64.wrap ((q:Int)*Y)=(C3:Int)∧IntKind.u64.wrap ((C2:Int)-C3)=(U:Int)∧(U:Int).tdiv a=(q0:Int)∧
 IntKind.u64.wrap (q0:Int)=(q0:Int)∧IntKind.u64.wrap ((q0:Int)*a)=(P2:Int)∧IntKind.u64.wrap ((U:Int)-P2)=(r0:Int)∧p8 U a b m0 q0 r0∧U<a*4294967296+b∧q*4294967296+(U*4294967296+m0) / Y=R1∧(U*4294967296+m0)%Y / 2^s=R2:=by
 obtain⟨ha1,ha2,hb2,nk,jU,BG,nR,jT⟩:=hB;rw[←nR]at hQ;obtain⟨u3,eR,u5⟩:=h;have FC:=Nat.div_add_mod (u*4294967296+m1) Y;rw[hQ]at FC eR;obtain⟨U,hU⟩:∃U,(u*4294967296+m1)%Y=U:=⟨_,rfl⟩;rw[hU]at FC u3 eR u5;have hU2:U<a*4294967296+b:=by rw[←nR];exact u3
 obtain⟨P1,hP1⟩:∃P1,Y*q=P1:=⟨_,rfl⟩;rw[hP1]at FC;obtain⟨C1,hC1⟩:∃C1,u*4294967296%18446744073709551616=C1:=⟨_,rfl⟩;obtain⟨C2,hC2⟩:∃C2,(C1+m1)%18446744073709551616=C2:=⟨_,rfl⟩;obtain⟨C3,hC3⟩:∃C3,P1%18446744073709551616=C3:=⟨_,rfl⟩;obtain⟨q0,dT⟩:∃q0,U / a=q0:=⟨_,rfl⟩;obtain⟨r0,jk⟩:∃r0,U%a=r0:=⟨_,rfl⟩;have FE:=za (m:=m0) ha1 ha2 hb2 jU hU2;rw[dT,jk]at FE;have u9:=FE.top;obtain⟨P2,hP2⟩:∃P2,q0*a=P2:=⟨_,rfl⟩;have Yk:=FE.sum;rw[hP2]at Yk;refine⟨U,C1,C2,C3,q0,r0,P2,?_,?_,by rw[Uz,Nat.mul_comm,hP1,hC3],?_,by rw[←dT];exact Int.ofNat_tdiv U a,?_,by rw[Uz,hP2,Nat.mod_eq_of_lt (by omega)],?_,FE,hU2,eR,u5⟩<;>(rw[IntKind.wrap_u64];omega)
theorem lY{u a b m q r:Nat}(hG:p8 u a b m q r)(h0:0<a)(h4:a<4294967296)(hb:b<4294967296)(hm:m<4294967296)(hu:u<a*4294967296+b)(Yj:4294967296≤q∨4294967296*r+m<q*b):
 ∃q2 r2:Nat,IntKind.u64.wrap ((q:Int)-1)=(q2:Int)∧IntKind.u64.wrap ((r:Int)+a)=(r2:Int)∧((¬(r2:Int)≥4294967296∧p8 u a b m q2 r2∧q2<q)∨((r2:Int)≥4294967296∧(u*4294967296+m) / (a*4294967296+b)=q2)):=by
 have Xm:=(uY hG hm hu Yj).1;have jX:=hG.low;have Fw:=hG.top;refine⟨q-1,r+a,by rw[IntKind.wrap_u64];omega,by rw[IntKind.wrap_u64];omega,?_⟩;by_cases hC:r+a<4294967296
 ·exact .inl ⟨by omega,Uy hG hm hu Yj hC,by omega⟩
 ·exact .inr ⟨by omega,IK hG h0 hb hm hu Yj hC⟩
theorem wD{q b r m:Nat}(hA:¬4294967296≤q)(hb:b<4294967296)(hr:r<4294967296)(hm:m<4294967296):∃P R S:Nat,IntKind.u64.wrap ((q:Int)*b)=(P:Int)∧IntKind.u64.wrap (4294967296*(r:Int))=(R:Int)∧IntKind.u64.wrap ((R:Int)+m)=(S:Int)∧P=q*b∧S=4294967296*r+m:=by
 have Lt:q*b<18446744073709551616:=Nat.lt_of_le_of_lt (Nat.mul_le_mul (show q≤4294967295 by omega) (show b≤4294967295 by omega)) (by decide);exact⟨q*b,4294967296*r,4294967296*r+m,by rw[Uz,Nat.mod_eq_of_lt Lt],by rw[IntKind.wrap_u64];omega,by rw[IntKind.wrap_u64];omega,rfl,rfl⟩
theorem Ld(h l y R1 R2:Nat)(hh:0<h)(hl:l<18446744073709551616)(hy:y<18446744073709551616)(B9:h<y)(Lz:(h*18446744073709551616+l) / y=R1)(qi:(h*18446744073709551616+l)%y=R2)(w:World):
 Calls prog 279 #[.int .u64 h,.int .u64 l,.int .u64 y] w fun e w'=>e=.returned (.tuple #[.int .u64 (R1:Nat),.int .u64 (R2:Nat)])∧Touch [] w w':=by
 have LI:=fun W=>Tryz.bits_LeadingZeros64 (y:Int) W (by omega) (by omega);obtain⟨hb1,hb2,hb3⟩:=Lib.bitLenAux_bounds 64 y (by omega) (by omega);have hle:=Lib.bitLen_le y 64 (by omega) (by omega);obtain⟨s,hs⟩:∃s,Lib.bitLen y+s=64:=⟨64-Lib.bitLen y,by omega⟩;rw[Int.toNat_natCast,show(64:Int)-(Lib.bitLen y:Int)=(s:Int) by omega]at LI;have hs1:1≤Lib.bitLen y:=hb1;have hb2:2^(Lib.bitLen y-1)≤y:=hb2;have hb3:y<2^Lib.bitLen y:=hb3;have es:(2:Nat)^Lib.bitLen y*2^s=18446744073709551616:=by rw[←Nat.pow_add,hs]
 have es2:(2:Nat)^(Lib.bitLen y-1)*2^s=9223372036854775808:=by rw[←Nat.pow_add,show Lib.bitLen y-1+s=63 by omega]
 have hp:0<2^s:=Nat.two_pow_pos s;have hY1:9223372036854775808≤y*2^s:=by rw[←es2];exact Nat.mul_le_mul_right _ hb2
 have LL:y*2^s<18446744073709551616:=by rw[←es];exact Nat.mul_lt_mul_of_pos_right hb3 hp
 have vd:s≤63:=by omega
 have ew:IntKind.u64.wrap (s:Int)=s:=by rw[IntKind.wrap_u64];omega
 clear hb1 hb2 hb3 hle es es2;have hH:h*2^s<y*2^s:=Nat.mul_lt_mul_of_pos_right B9 hp;have jT:R1<18446744073709551616:=by rw[←Lz,Nat.div_lt_iff_lt_mul (by omega)];omega
 obtain⟨Y,hY⟩:∃Y,y*2^s=Y:=⟨_,rfl⟩;obtain⟨V,hV⟩:∃V,l*2^s%18446744073709551616=V:=⟨_,rfl⟩;obtain⟨L,hL⟩:∃L,l / 2^(64-s)=L:=⟨_,rfl⟩;obtain⟨u,hu⟩:∃u,h*2^s+L=u:=⟨_,rfl⟩;obtain⟨hN,hL2⟩:=halves h l s V u hl vd hV (by rw[hL];exact hu);rw[hL]at hL2;have f1:IntKind.u64.wrap ((y:Int)*2^s)=(Y:Int):=by rw[eM,hY,Nat.mod_eq_of_lt (by omega)]
 have f4:IntKind.u64.wrap ((h:Int)*2^s)=((h*2^s:Nat):Int):=by rw[eM,Nat.mod_eq_of_lt (by omega)]
 have f5:(l:Int) / 2^(64-s)=(L:Int):=by rw[←hL];simp
 have f6:=eN (H:=h) hL2 (by omega) vd;rw[hu]at f6;have f7:IntKind.u64.wrap ((l:Int)*2^s)=(V:Int):=by rw[eM,hV]
 have Zq:(u*18446744073709551616+V) / Y=R1:=by rw[hN,←hY,PL,Lz]
 have Zr:(u*18446744073709551616+V)%Y / 2^s=R2:=by rw[hN,←hY,PN,qi]
 have huY:u<Y:=by
  have h1:u*18446744073709551616+V<Y*18446744073709551616:=by
   rw[hN,←hY];have h2:(h*18446744073709551616+l)*2^s<(y*18446744073709551616)*2^s:=Nat.mul_lt_mul_of_pos_right (by omega) hp;rw[show y*2^s*18446744073709551616=y*18446744073709551616*2^s by rw[Nat.mul_assoc,Nat.mul_comm (2^s),←Nat.mul_assoc]];exact h2
  omega
 obtain⟨H,hHH⟩:∃H,h*2^s=H:=⟨_,rfl⟩;rw[hHH]at f4 f6 hu;rw[hY]at hY1 LL;have hV2:V<18446744073709551616:=by rw[←hV];exact Nat.mod_lt _ (by decide)
 obtain⟨a,ha⟩:∃a,Y / 4294967296=a:=⟨_,rfl⟩;obtain⟨b,hb⟩:∃b,Y%4294967296=b:=⟨_,rfl⟩;obtain⟨m1,jC⟩:∃m,V / 4294967296=m:=⟨_,rfl⟩;obtain⟨m0,Rm⟩:∃m,V%4294967296=m:=⟨_,rfl⟩;have f2:(Y:Int) / 4294967296=(a:Int):=by omega
 have f3:bits .and .u64 (Y:Int) 4294967295=(b:Int):=by rw[Zp Y LL,hb]
 have f8:(V:Int) / 4294967296=(m1:Int):=by omega
 have f9:bits .and .u64 (V:Int) 4294967295=(m0:Int):=by rw[Zp V hV2,Rm]
 have nR:Y=a*4294967296+b:=by omega
 have hVm:V=m1*4294967296+m0:=by omega
 have ha1:2147483648≤a:=by omega
 have ha2:a<4294967296:=by omega
 have hb2:b<4294967296:=by omega
 have nk:m1<4294967296:=by omega
 have jU:m0<4294967296:=by omega
 have BG:u<a*4294967296+b:=by omega
 have hst:=PK u m1 m0 Y (by omega);rw[←hVm,Zq]at hst;have sR:Hid ((u*4294967296+m1)%Y<Y∧(u*4294967296+m1) / Y*4294967296+((u*4294967296+m1)%Y*4294967296+m0) / Y=R1∧((u*4294967296+m1)%Y*4294967296+m0)%Y / 2^s=R2):=⟨hst.1,hst.2.1,by rw[hst.2.2];exact Zr⟩;obtain⟨q9,LN⟩:∃q9,u / a=q9:=⟨_,rfl⟩;obtain⟨r9,hr9⟩:∃r9,u%a=r9:=⟨_,rfl⟩;have FE:=za (m:=m1) ha1 ha2 hb2 nk BG;rw[LN,hr9]at FE;have t1:(u:Int).tdiv a=(q9:Int):=by rw[←LN];exact Int.ofNat_tdiv u a
 have u9:=FE.top;have t2:IntKind.u64.wrap (q9:Int)=(q9:Int):=by rw[IntKind.wrap_u64];omega
 obtain⟨P9,LO⟩:∃P9,q9*a=P9:=⟨_,rfl⟩;have Yk:=FE.sum;rw[LO]at Yk;have t3:IntKind.u64.wrap ((q9:Int)*a)=(P9:Int):=by rw[Uz,LO,Nat.mod_eq_of_lt (by omega)]
 have t4:IntKind.u64.wrap ((u:Int)-P9)=(r9:Int):=by rw[IntKind.wrap_u64];omega
 have g1:((y:Int)==0)=false:=beq_eq_false_iff_ne.2 (by omega);have g2:¬(y:Int)≤h:=by omega
 have g3:((h:Int)==0)=false:=beq_eq_false_iff_ne.2 (by omega);have g5:¬a=0:=by omega
 have g4:((a:Int)==0)=false:=beq_eq_false_iff_ne.2 (by omega);have HGu:=hid FE;have HB:Hid (eQ a b m1 m0 u Y R1):=hid (And.intro ha1 (And.intro ha2 (And.intro hb2 (And.intro nk (And.intro jU (And.intro BG (And.intro nR jT)))))));clear Zq Zr hst FE u9 Yk LO LN hr9 hN hL2 hV hL hu hHH hH hY hY1 LL hV2 ha hb jC Rm hVm huY hp hs hs1 Lz qi hh hl hy B9 ha1 ha2 hb2 nk jU BG nR jT;go_enter func279,ntmps279;go_wp2_with fail;refine(LI _).mono ?_;clear LI;rintro _ w ⟨rfl,rfl⟩;go_wp2_with fail;go_loopw [15,16] (fun qv rv wr=>∃q r:Nat,qv=.int .u64 q∧rv=.int .u64 r∧p8 u a b m1 q r∧w=wr) (fun qv _ _=>(intOf qv).toNat)
 case atStart=>exact⟨_,_,rfl,rfl,HGu.out,rfl⟩
 case round=>
  obtain⟨q,r,rfl,rfl,hG,rfl⟩:=hrel;obtain⟨ha1,ha2,hb2,nk,jU,BG,nR,jT⟩:=HB.out;by_cases hA:4294967296≤q
  ·have cA:(q:Int)≥4294967296:=by omega
   obtain⟨q2,r2,kq,kr,h9⟩:=lY hG (by omega) ha2 hb2 nk BG (.inl hA);clear hG ha1 ha2 hb2 nk jU BG nR jT;rcases h9 with⟨cC,BH⟩|⟨cC,hQ⟩
   ·have wE:=hid BH;clear BH;go_wp2_with fail;refine⟨⟨q2,r2,rfl,rfl,wE.out.1,by first|trivial|rfl⟩,?_⟩;have h2:=wE.out.2;simp only[intOf];omega
   ·obtain⟨U,C1,C2,C3,q0,r0,P2,k1,k2,k3,k4,s1,s2,s3,s4,FE,hst⟩:=FD HB.out sR.out hQ;have ve:=hid FE;have HST:=hid hst;clear hQ FE hst;go_wp2_with fail;go_loopw [18,16] (fun qv rv wr=>∃e f:Nat,qv=.int .u64 e∧rv=.int .u64 f∧p8 U a b m0 e f∧w=wr) (fun qv _ _=>(intOf qv).toNat)
    case atStart=>exact⟨_,_,rfl,rfl,ve.out,rfl⟩
    case round=>
     obtain⟨e,f,rfl,rfl,hG,rfl⟩:=hrel;obtain⟨ha1,ha2,hb2,nk,jU,BG,nR,jT⟩:=HB.out;by_cases hA:4294967296≤e
     ·have cA:(e:Int)≥4294967296:=by omega
      obtain⟨e2,f2,kq,kr,h9⟩:=lY hG (by omega) ha2 hb2 jU HST.out.1 (.inl hA);clear hG ha1 ha2 hb2 nk jU BG nR jT;rcases h9 with⟨cC,BH⟩|⟨cC,hQ⟩
      ·have wE:=hid BH;clear BH;go_wp2_with fail;refine⟨⟨e2,f2,rfl,rfl,wE.out.1,by first|trivial|rfl⟩,?_⟩;have h2:=wE.out.2;simp only[intOf];omega
      ·obtain⟨D1,D3,D4,D5,Z,d1,d2,d3,d4,d5,d6,d7⟩:=ni HB.out HST.out hQ;clear hQ;go_wp2_with fail;go_ret2;exact⟨rfl,Touch.refl _ _⟩
     ·have cA:¬(e:Int)≥4294967296:=by omega
      obtain⟨Pe,Re,Se,kP,kR,kS,hP,hS⟩:=wD hA hb2 hG.low jU;by_cases hB:4294967296*f+m0<e*b
      ·have cB:(Pe:Int)>Se:=by omega
       clear hP hS;obtain⟨e2,f2,kq,kr,h9⟩:=lY hG (by omega) ha2 hb2 jU HST.out.1 (.inr hB);clear hG ha1 ha2 hb2 nk jU BG nR jT;rcases h9 with⟨cC,BH⟩|⟨cC,hQ⟩
       ·have wE:=hid BH;clear BH;go_wp2_with fail;refine⟨⟨e2,f2,rfl,rfl,wE.out.1,by first|trivial|rfl⟩,?_⟩;have h2:=wE.out.2;simp only[intOf];omega
       ·obtain⟨D1,D3,D4,D5,Z,d1,d2,d3,d4,d5,d6,d7⟩:=ni HB.out HST.out hQ;clear hQ;go_wp2_with fail;go_ret2;exact⟨rfl,Touch.refl _ _⟩
      ·have cB:¬(Pe:Int)>Se:=by omega
       have hQ:=oG hG (show 0<a by omega) (by omega);clear hG hP hS hA hB ha1 ha2 hb2 nk jU BG nR jT;obtain⟨D1,D3,D4,D5,Z,d1,d2,d3,d4,d5,d6,d7⟩:=ni HB.out HST.out hQ;clear hQ;go_wp2_with fail;go_ret2;exact⟨rfl,Touch.refl _ _⟩
  ·have cA:¬(q:Int)≥4294967296:=by omega
   obtain⟨Pq,Rq,Sq,kP,kR,kS,hP,hS⟩:=wD hA hb2 hG.low nk;by_cases hB:4294967296*r+m1<q*b
   ·have cB:(Pq:Int)>Sq:=by omega
    clear hP hS;obtain⟨q2,r2,kq,kr,h9⟩:=lY hG (by omega) ha2 hb2 nk BG (.inr hB);clear hG ha1 ha2 hb2 nk jU BG nR jT;rcases h9 with⟨cC,BH⟩|⟨cC,hQ⟩
    ·have wE:=hid BH;clear BH;go_wp2_with fail;refine⟨⟨q2,r2,rfl,rfl,wE.out.1,by first|trivial|rfl⟩,?_⟩;have h2:=wE.out.2;simp only[intOf];omega
    ·obtain⟨U,C1,C2,C3,q0,r0,P2,k1,k2,k3,k4,s1,s2,s3,s4,FE,hst⟩:=FD HB.out sR.out hQ;have ve:=hid FE;have HST:=hid hst;clear hQ FE hst;go_wp2_with fail;go_loopw [18,16] (fun qv rv wr=>∃e f:Nat,qv=.int .u64 e∧rv=.int .u64 f∧p8 U a b m0 e f∧w=wr) (fun qv _ _=>(intOf qv).toNat)
     case atStart=>exact⟨_,_,rfl,rfl,ve.out,rfl⟩
     case round=>
      obtain⟨e,f,rfl,rfl,hG,rfl⟩:=hrel;obtain⟨ha1,ha2,hb2,nk,jU,BG,nR,jT⟩:=HB.out;by_cases hA:4294967296≤e
      ·have cA:(e:Int)≥4294967296:=by omega
       obtain⟨e2,f2,kq,kr,h9⟩:=lY hG (by omega) ha2 hb2 jU HST.out.1 (.inl hA);clear hG ha1 ha2 hb2 nk jU BG nR jT;rcases h9 with⟨cC,BH⟩|⟨cC,hQ⟩
       ·have wE:=hid BH;clear BH;go_wp2_with fail;refine⟨⟨e2,f2,rfl,rfl,wE.out.1,by first|trivial|rfl⟩,?_⟩;have h2:=wE.out.2;simp only[intOf];omega
       ·obtain⟨D1,D3,D4,D5,Z,d1,d2,d3,d4,d5,d6,d7⟩:=ni HB.out HST.out hQ;clear hQ;go_wp2_with fail;go_ret2;exact⟨rfl,Touch.refl _ _⟩
      ·have cA:¬(e:Int)≥4294967296:=by omega
       obtain⟨Pe,Re,Se,kP,kR,kS,hP,hS⟩:=wD hA hb2 hG.low jU;by_cases hB:4294967296*f+m0<e*b
       ·have cB:(Pe:Int)>Se:=by omega
        clear hP hS;obtain⟨e2,f2,kq,kr,h9⟩:=lY hG (by omega) ha2 hb2 jU HST.out.1 (.inr hB);clear hG ha1 ha2 hb2 nk jU BG nR jT;rcases h9 with⟨cC,BH⟩|⟨cC,hQ⟩
        ·have wE:=hid BH;clear BH;go_wp2_with fail;refine⟨⟨e2,f2,rfl,rfl,wE.out.1,by first|trivial|rfl⟩,?_⟩;have h2:=wE.out.2;simp only[intOf];omega
        ·obtain⟨D1,D3,D4,D5,Z,d1,d2,d3,d4,d5,d6,d7⟩:=ni HB.out HST.out hQ;clear hQ;go_wp2_with fail;go_ret2;exact⟨rfl,Touch.refl _ _⟩
       ·have cB:¬(Pe:Int)>Se:=by omega
        have hQ:=oG hG (show 0<a by omega) (by omega);clear hG hP hS hA hB ha1 ha2 hb2 nk jU BG nR jT;obtain⟨D1,D3,D4,D5,Z,d1,d2,d3,d4,d5,d6,d7⟩:=ni HB.out HST.out hQ;clear hQ;go_wp2_with fail;go_ret2;exact⟨rfl,Touch.refl _ _⟩
   ·have cB:¬(Pq:Int)>Sq:=by omega
    have hQ:=oG hG (show 0<a by omega) (by omega);clear hG hP hS hA hB ha1 ha2 hb2 nk jU BG nR jT;obtain⟨U,C1,C2,C3,q0,r0,P2,k1,k2,k3,k4,s1,s2,s3,s4,FE,hst⟩:=FD HB.out sR.out hQ;have ve:=hid FE;have HST:=hid hst;clear hQ FE hst;go_wp2_with fail;go_loopw [18,16] (fun qv rv wr=>∃e f:Nat,qv=.int .u64 e∧rv=.int .u64 f∧p8 U a b m0 e f∧w=wr) (fun qv _ _=>(intOf qv).toNat)
    case atStart=>exact⟨_,_,rfl,rfl,ve.out,rfl⟩
    case round=>
     obtain⟨e,f,rfl,rfl,hG,rfl⟩:=hrel;obtain⟨ha1,ha2,hb2,nk,jU,BG,nR,jT⟩:=HB.out;by_cases hA:4294967296≤e
     ·have cA:(e:Int)≥4294967296:=by omega
      obtain⟨e2,f2,kq,kr,h9⟩:=lY hG (by omega) ha2 hb2 jU HST.out.1 (.inl hA);clear hG ha1 ha2 hb2 nk jU BG nR jT;rcases h9 with⟨cC,BH⟩|⟨cC,hQ⟩
      ·have wE:=hid BH;clear BH;go_wp2_with fail;refine⟨⟨e2,f2,rfl,rfl,wE.out.1,by first|trivial|rfl⟩,?_⟩;have h2:=wE.out.2;simp only[intOf];omega
      ·obtain⟨D1,D3,D4,D5,Z,d1,d2,d3,d4,d5,d6,d7⟩:=ni HB.out HST.out hQ;clear hQ;go_wp2_with fail;go_ret2;exact⟨rfl,Touch.refl _ _⟩
     ·have cA:¬(e:Int)≥4294967296:=by omega
      obtain⟨Pe,Re,Se,kP,kR,kS,hP,hS⟩:=wD hA hb2 hG.low jU;by_cases hB:4294967296*f+m0<e*b
      ·have cB:(Pe:Int)>Se:=by omega
       clear hP hS;obtain⟨e2,f2,kq,kr,h9⟩:=lY hG (by omega) ha2 hb2 jU HST.out.1 (.inr hB);clear hG ha1 ha2 hb2 nk jU BG nR jT;rcases h9 with⟨cC,BH⟩|⟨cC,hQ⟩
       ·have wE:=hid BH;clear BH;go_wp2_with fail;refine⟨⟨e2,f2,rfl,rfl,wE.out.1,by first|trivial|rfl⟩,?_⟩;have h2:=wE.out.2;simp only[intOf];omega
       ·obtain⟨D1,D3,D4,D5,Z,d1,d2,d3,d4,d5,d6,d7⟩:=ni HB.out HST.out hQ;clear hQ;go_wp2_with fail;go_ret2;exact⟨rfl,Touch.refl _ _⟩
      ·have cB:¬(Pe:Int)>Se:=by omega
       have hQ:=oG hG (show 0<a by omega) (by omega);clear hG hP hS hA hB ha1 ha2 hb2 nk jU BG nR jT;obtain⟨D1,D3,D4,D5,Z,d1,d2,d3,d4,d5,d6,d7⟩:=ni HB.out HST.out hQ;clear hQ;go_wp2_with fail;go_ret2;exact⟨rfl,Touch.refl _ _⟩
theorem PO(h l y:Nat)(hh:0<h)(hl:l<18446744073709551616)(hy:y<18446744073709551616)(B9:h<y)(w:World):
 Calls prog 279 #[.int .u64 h,.int .u64 l,.int .u64 y] w fun e w'=>e=.returned (.tuple #[.int .u64 ((h*18446744073709551616+l) / y:Nat),.int .u64 ((h*18446744073709551616+l)%y:Nat)])∧Touch [] w w':=Ld h l y _ _ hh hl hy B9 rfl rfl w
theorem Le(n B:Nat)(hn:n<18446744073709551616)(ru:0<B)(w:World):
 Calls prog 279 #[.int .u64 0,.int .u64 n,.int .u64 B] w fun e w'=>e=.returned (.tuple #[.int .u64 (n / B:Nat),.int .u64 (n%B:Nat)])∧Touch [] w w':=by
 have g1:¬(B:Int)≤0:=by omega
 have g2:((B:Int)==0)=false:=beq_eq_false_iff_ne.2 (by omega);have q1:(n:Int).tdiv B=(n / B:Nat):=Int.ofNat_tdiv n B;have q2:(n:Int).tmod B=(n%B:Nat):=by rw[Int.ofNat_tmod]
 have wq:∀q:Nat,q<18446744073709551616→IntKind.u64.wrap (q:Int)=q:=fun q h=>by rw[IntKind.wrap_u64];omega
 have w1:=wq (n / B) (Nat.lt_of_le_of_lt (Nat.div_le_self _ _) hn);have w2:=wq (n%B) (Nat.lt_of_le_of_lt (Nat.mod_le _ _) hn);obtain⟨q,hq⟩:∃q:Nat,n / B=q:=⟨_,rfl⟩;obtain⟨r,hr⟩:∃r:Nat,n%B=r:=⟨_,rfl⟩;rw[hq]at q1 w1⊢;rw[hr]at q2 w2⊢;clear wq hq hr;go_enter func279,ntmps279;go_wp2_with fail;go_quiet (fail)
 go_wp2;go_ret2;exact⟨rfl,((Touch.refl _ _).drewN _)⟩
theorem PU(n B:Nat)(hn:n<340282366920938463463374607431768211456)(hB:B<18446744073709551616)(hlt:n / 18446744073709551616<B)(w:World):
 Calls prog 279 #[.int .u64 (n / 18446744073709551616:Nat),.int .u64 (n%18446744073709551616:Nat),.int .u64 B] w fun e w'=>e=.returned (.tuple #[.int .u64 (n / B:Nat),.int .u64 (n%B:Nat)])∧Touch [] w w':=by
 rcases Nat.eq_zero_or_pos (n / 18446744073709551616)with h0|h0
 ·have hs:n%18446744073709551616=n:=by omega
  rw[h0,hs];exact Le n B (by omega) (by omega) w
 ·have e:n / 18446744073709551616*18446744073709551616+n%18446744073709551616=n:=by omega
  have h:=PO (n / 18446744073709551616) (n%18446744073709551616) B h0 (by omega) hB hlt w;rw[e]at h;exact h
theorem eV(n:Nat):IntKind.u64.wrap (pl n)=(n%18446744073709551616:Nat):=by unfold pl;rw[BA _ (by omega)]
theorem eW(n:Nat)(hn:n<340282366920938463463374607431768211456):IntKind.u64.wrap (ph n)=(n / 18446744073709551616:Nat):=by unfold ph;rw[BA _ (by omega)];omega
theorem UC(n B:Nat)(hn:n<340282366920938463463374607431768211456)(ru:0<B)(hB:B<18446744073709551616)(hlt:n / 18446744073709551616<B)(w:World):
 Calls prog 184 #[.agg (two n),.int .i64 (cellOf B)] w fun e w'=>e=.returned (.tuple #[.int .i64 (cellOf (n%B)),.int .i64 (cellOf (n / B)),.int .i64 0])∧Touch [] w w':=by
 have hD:=fun W=>PU n B hn hB hlt W;have vh:n / B<18446744073709551616:=by rw[Nat.div_lt_iff_lt_mul ru];omega
 have vn:n%B<18446744073709551616:=Nat.lt_trans (Nat.mod_lt _ ru) hB;have g2:(cellOf B==0)=false:=beq_eq_false_iff_ne.2 (by unfold cellOf;split<;>omega);have e1:=eV n;have e0:=eW n hn;have e2:=BA B hB;have e3:=II (n / B) vh;have e4:=II (n%B) vn;have g3:¬((n / 18446744073709551616:Nat):Int)≥B:=by omega
 unfold two;obtain⟨lo,h1⟩:∃c:Int,pl n=c:=⟨_,rfl⟩;obtain⟨hi,h2⟩:∃c:Int,ph n=c:=⟨_,rfl⟩;obtain⟨b,h3⟩:∃c:Int,cellOf B=c:=⟨_,rfl⟩;obtain⟨q,hq⟩:∃q:Nat,n / B=q:=⟨_,rfl⟩;obtain⟨r,hr⟩:∃r:Nat,n%B=r:=⟨_,rfl⟩;obtain⟨H,hH⟩:∃H:Nat,n / 18446744073709551616=H:=⟨_,rfl⟩;obtain⟨L,hL⟩:∃L:Nat,n%18446744073709551616=L:=⟨_,rfl⟩;rw[hq]at e3 hD⊢;rw[hr]at e4 hD⊢;rw[h1,hL]at e1;rw[h2,hH]at e0;rw[hH,hL]at hD;rw[hH]at g3;rw[h3]at e2 g2⊢;rw[h1,h2];clear h1 h2 h3 hq hr hH hL hn hlt vh vn hB ru;go_enter func184,ntmps184;go_wp2_with fail;refine(hD _).mono ?_;rintro _ w1 ⟨rfl,t1⟩;clear hD;go_wp2_with fail;go_ret3;exact⟨rfl,((tR w).alloc _).trans t1 (by simp)⟩
theorem UD(n B:Nat)(hn:n<340282366920938463463374607431768211456)(ru:2≤B)(hB:B≤36)(w:World):
 Calls prog 296 #[.agg (two n),.int .i64 (B:Int)] w fun e w'=>e=.returned (.tuple #[.agg (two (n / B)),.int .u8 (((ng (n%B)).toNat:Nat):Int)])∧Touch [] w w':=by
 obtain⟨l1,l2⟩:=Uv n B (by omega);have hr1:n / 18446744073709551616%B<B:=Nat.mod_lt _ (by omega);have hH:n / 18446744073709551616<18446744073709551616:=by omega
 have Xm:n / 18446744073709551616 / B<18446744073709551616:=Nat.lt_of_le_of_lt (Nat.div_le_self _ _) hH;have hr:=fun W=>uV (B:Int) (by omega) (by omega) W;have u1:=fun W=>UC (n / 18446744073709551616) B (by omega) (by omega) (by omega) (by rw[Nat.div_eq_of_lt hH];omega) W;obtain⟨m,hm⟩:∃m,n%18446744073709551616+18446744073709551616*(n / 18446744073709551616%B)=m:=⟨_,rfl⟩;rw[hm]at l1 l2;have Zt:m<340282366920938463463374607431768211456:=by
  rw[←hm];omega
 have u2:=fun W=>UC m B Zt (by omega) (by omega) (by omega) W;have Jz:m%B<B:=Nat.mod_lt _ (by omega);have hch:=fun W=>Uw (m%B) (by omega) W;have e1:two (n / 18446744073709551616)= #[.int .i64 (ph n),.int .i64 0]:=by
  unfold two pl ph;rw[Nat.div_eq_of_lt hH];rfl
 have e2:two m= #[.int .i64 (pl n),.int .i64 (cellOf (n / 18446744073709551616%B))]:=by
  unfold two pl ph;rw[show m%18446744073709551616=n%18446744073709551616 by omega,show m / 18446744073709551616%18446744073709551616=n / 18446744073709551616%B by omega]
 have Q7:m / B<18446744073709551616:=by rw[Nat.div_lt_iff_lt_mul (by omega)];omega
 have e3:two (n / B)= #[.int .i64 (cellOf (m / B)),.int .i64 (cellOf (n / 18446744073709551616 / B))]:=by
  have key:∀g t:Nat,t<18446744073709551616→(g*18446744073709551616+t)%18446744073709551616=t∧(g*18446744073709551616+t) / 18446744073709551616=g:=fun g t h=>by omega
  obtain⟨f1,f2⟩:=key (n / 18446744073709551616 / B) _ Q7;rw[←l1]at f1 f2;unfold two pl ph;rw[f1,f2,Nat.mod_eq_of_lt Xm]
 rw[e1]at u1;rw[e2]at u2;rw[e3,l2];rw[uU (m%B) (by omega)]at u2;have e4:two n= #[.int .i64 (pl n),.int .i64 (ph n)]:=rfl;have e5:cellOf B=(B:Int):=uU B (by omega);rw[e5]at u1 u2;rw[e4];obtain⟨lo,h1⟩:∃c:Int,pl n=c:=⟨_,rfl⟩;obtain⟨hi,h2⟩:∃c:Int,ph n=c:=⟨_,rfl⟩;obtain⟨q1,h3⟩:∃c:Int,cellOf (n / 18446744073709551616 / B)=c:=⟨_,rfl⟩;obtain⟨r1,h4⟩:∃c:Int,cellOf (n / 18446744073709551616%B)=c:=⟨_,rfl⟩;obtain⟨q2,h5⟩:∃c:Int,cellOf (m / B)=c:=⟨_,rfl⟩;obtain⟨d,h6⟩:∃d:Nat,m%B=d:=⟨_,rfl⟩;rw[h2,h3,h4]at u1;rw[h1,h4,h5,h6]at u2;rw[h6]at hch;rw[h1,h2,h3,h5,h6];clear h1 h2 h3 h4 h5 h6 e1 e2 e3 e4 e5 l1 l2 hr1 hH Xm Q7 hm Zt Jz hn;go_enter func296,ntmps296;go_wp2_with fail;refine(hr _).mono ?_;rintro _ _ ⟨rfl,rfl⟩;clear hr;have bP:=(aF.new w 213 #[.int .i64 lo,.int .i64 hi]).alloc (.cells #[.int .i64 0,.int .i64 0] 213);have bR:=aF.dG (n:=w.heap.size+1) (w.alloc (.cells #[.int .i64 lo,.int .i64 hi] 213)) (by simp) 213 #[.int .i64 0,.int .i64 0];have tt:=((tR w).alloc (.cells #[.int .i64 lo,.int .i64 hi] 213)).alloc (.cells #[.int .i64 0,.int .i64 0] 213);go_wp2_with fail;refine(u1 _).mono ?_;rintro _ w1 ⟨rfl,t1⟩;have bP:=bP.touch t1 (by simp);have bR:=bR.touch t1 (by simp);have tw:=tt.trans t1 (by simp);clear t1 u1 tt;have p0:=bP.cell 0;go_wp2_with fail;refine(u2 _).mono ?_;rintro _ w2 ⟨rfl,t2⟩;have bR:=bR.touch t2 (by simp);have tw:=tw.trans t2 (by simp);clear t2 u2 bP p0;have r0:=bR.cell 0;have r1':=bR.cell 1;have g0:=bR.frozen 0;have g1:=bR.frozen 1;go_wp2_with fail;refine(hch _).mono ?_;rintro _ _ ⟨rfl,rfl⟩;go_wp2_with fail;obtain⟨z0,z1⟩:=fI bR (.int .i64 q2) (.int .i64 q1);refine bodyPost_ret (by simp[results,results296,go_sem,z0,z1];try rfl) rfl ⟨rfl,?_⟩;exact(tw.setCell (.inr (by simp)) _).setCell (.inr (by simp)) _
structure wF(w0:World)(B n:Nat)(acc:List UInt8)(m:Nat)(more:Bool)(sv:Value)(wr:World):Prop where
 row:wr.ownsRow (w0.heap.size+1) 5 1 sv acc.length (aL (mM acc))
 pair:aF wr w0.heap.size 213 #[.int .i64 (pl m),.int .i64 (ph m)]
 t:Touch [] w0 wr
 small:m<2^(128-acc.length)
 short:acc.length≤128
 live:more=true→acc=[]∨m≠0
 text:kF B n=(if more then kF B m else [])++acc.reverse
theorem Zu(n B:Nat)(hn:n<340282366920938463463374607431768211456)(ru:2≤B)(hB:B≤36)(w:World):
 Calls prog 316 #[.agg #[.int .i64 (pl n),.int .i64 (ph n)],.int .i64 (B:Int)] w fun e w'=>e=.returned (.string ⟨(kF B n).toArray⟩)∧Touch [] w w':=by
 obtain⟨i0,hi,hz0,hz1,hz2⟩:=jO;have hrt:=fun W=>uV (B:Int) (by omega) (by omega) W;have hstep:=fun m (hm:m<340282366920938463463374607431768211456) W=>UD m B hm ru hB W;go_enter func316,ntmps316;go_wp2_with fail;refine(hrt _).mono ?_;rintro _ _ ⟨rfl,rfl⟩;have b0:=aF.new w 213 #[.int .i64 (pl n),.int .i64 (ph n)];have t0:=(tR w).alloc (.cells #[.int .i64 (pl n),.int .i64 (ph n)] 213);have HD:Hid (wF w B n [] n true (.slice none 0 0) (w.alloc (.cells #[.int .i64 (pl n),.int .i64 (ph n)] 213))):=⟨World.ownsRow_nil _ _ _ _,b0,t0,hn,by decide,fun _=>.inl rfl,by simp⟩;clear b0 t0;go_wp2_with fail;go_loopw [5,6] (fun sv mv wr=>∃acc m more,mv=.bool more∧wF w B n acc m more sv wr) (fun sv _ _=>match sv with| .slice _ k _=>129-k|_=>0)
 case atStart=>exact⟨[],n,true,rfl,HD.out⟩
 case round=>
  obtain⟨acc,m,more,rfl,hD⟩:=hrel;obtain⟨ra,rc,rfl⟩:=dD hD.row;cases more with
  |false=>
   have vp:=M7 wr (w.heap.size+1) _ (mM acc) (by rw[PI];exact hD.row);have HT:=hid (And.intro hD.text hD.t);have jX:=dF hD.row;have HL:=hid jX;clear hD hrt hstep jX;go_wp2_with fail;refine vp.mono ?_;rintro _ w1 ⟨rfl,hown,t1⟩;have hc:=Br (w:=w1) (v:=.slice ra acc.length rc) (l:=(mM acc).reverse) ⟨by rw[List.length_reverse];exact Mt hown,fun x hx=>IJ acc x (List.mem_reverse.1 hx)⟩;have tw:=HT.out.2.trans t1 (fun g hg=>.inr (by have:=HL.out g hg;omega));have HW:=hid tw;clear vp hown t1 tw;go_wp2_with fail;go_ret;refine⟨?_,HW.out⟩;have e1:(mM acc).reverse=mM acc.reverse:=by unfold mM;rw[List.map_reverse]
   have e2:=HT.out.1;rw[if_neg (by simp),List.nil_append]at e2;rw[e1,PG,e2];rfl
  |true=>
   have vq:m<340282366920938463463374607431768211456:=Nat.lt_of_lt_of_le hD.small (Nat.pow_le_pow_right (by decide) (by omega):2^(128-acc.length)≤2^128);have hs:=hstep m vq;obtain⟨c,hc⟩:∃c,ng (m%B)=c:=⟨_,rfl⟩;obtain⟨m2,vP⟩:∃m2,m / B=m2:=⟨_,rfl⟩;rw[hc,vP]at hs;have HC:=hid hc;have Cf:=hid vP;have qW:m2<340282366920938463463374607431768211456:=by rw[←vP];exact Nat.lt_of_le_of_lt (Nat.div_le_self _ _) vq
   have p0:=hD.pair.cell 0;have p1:=hD.pair.cell 1;have FH:=hid hD;clear hc vP hD hstep hrt;go_wp2_with fail;refine(hs _).mono ?_;rintro _ w1 ⟨rfl,t1⟩;have bP:=FH.out.pair.touch t1 (by simp);have LR:=aj FH.out.row t1 (by simp);have tw:=FH.out.t.trans t1 (by simp);clear t1 hs p0 p1;have p0:=bP.cell 0;have p1:=bP.cell 1;have g0:=bP.frozen 0;have g1:=bP.frozen 1;go_upto_region 9 with(fail);have zQ:=bP.jF (.int .i64 (pl m2)) (.int .i64 (ph m2));have NS:=(tw.setCell (p:=⟨w.heap.size,0,none⟩) (.inr (Nat.le_refl _)) (.int .i64 (pl m2))).setCell (p:=⟨w.heap.size,1,none⟩) (.inr (Nat.le_refl _)) (.int .i64 (ph m2));have jX:∀x∈rowOf (.slice ra acc.length rc),w.heap.size+1≤x:=dF LR;have rw2:=aj LR (F:=[w.heap.size]) (((Touch.refl _ w1).setCell (p:=⟨w.heap.size,0,none⟩) (by simp) (.int .i64 (pl m2))).setCell (p:=⟨w.heap.size,1,none⟩) (by simp) (.int .i64 (ph m2))) (fun x hx hm=>by have:=jX x hx;rw[List.mem_singleton.1 hm]at this;omega);clear p0 p1 g0 g1 bP tw LR;generalize (w1.setCell ⟨w.heap.size,0,none⟩ (.int .i64 (pl m2))).setCell ⟨w.heap.size,1,none⟩ (.int .i64 (ph m2))=w2 at*;have z2:=zQ.lt;have HP:=hid (And.intro zQ (And.intro NS jX));have LS:=FH.out.short;have HR:=hid rw2;clear zQ NS rw2 jX;go_wp2_with (at_builtin;refine wpList_append_own_at _ rfl _ _ 90 rfl (w.heap.size+1) 5 i0 (.int .u8 0) 1 1 underlying90 hi hz0 hz1 hz2 rfl (by decide) _ _ _ rfl (HR.out.alloc _) ⟨w2.heap.size,0,none⟩ 1 1 [.int .u8 (c.toNat:Int)] rfl rfl ?Gn ?Nt ?Nu ?Nw ?ZM ?_)
   case Gn=>
    intro j u hj;rw[gG,Nat.zero_add];exact((aF.new w2 5 #[.int .u8 (c.toNat:Int)]).cell j).trans (by simpa using hj)
   case Nt=>simp[Value.oneCell']
   case Nu=>unfold maxLen;omega
   case Nw=>omega
   case ZM=>simp;omega
   intro v' w3 hown hgr hnil hloc;obtain⟨a3,c3,rfl⟩:=dD hown;obtain⟨zQ,NS,jX⟩:=HP.out;have Dk:=(zQ.alloc (.cells #[.int .u8 (c.toNat:Int)] 5)).grown hgr (fun e=>by have:=jX w.heap.size (aB.2 e.symm);omega);have pH:Touch [] w w3:=(NS.alloc (.cells #[.int .u8 (c.toNat:Int)] 5)).grown hgr (fun k hk=>.inr (by have:=jX k (aB.2 hk);omega));have hrow:w3.ownsRow (w.heap.size+1) 5 1 (.slice a3 (acc.length+1) c3) (acc++[c]).length (aL (mM (acc++[c]))):=by
    have e:aL (mM (acc++[c]))=aL (mM acc)++[.int .u8 (c.toNat:Int)]:=by simp[aL,mM]
    rw[e,List.length_append];exact hown
   have p0:=Dk.cell 0;have p1:=Dk.cell 1;have heq:=fun W=>wC (pl m2) (ph m2) 0 0 W;rw[BF m2 qW]at heq;have hgd:=uW;have L1:0<B:=by omega
   have HB:=hid (And.intro Dk (And.intro pH hrow));clear zQ NS jX Dk pH hrow hown hgr hnil hloc;have vr:acc.length+1≤128:=by
    have h1:=FH.out.small;rcases Nat.lt_or_ge acc.length 128 with h|h
    ·exact h
    ·rw[show 128-acc.length=0 by omega,Nat.pow_zero]at h1;rcases FH.out.live rfl with h2|h2
     ·rw[h2]at h;simp at h
     ·omega
   by_cases hz:m2=0
   ·rw[decide_eq_true hz]at heq;have Jz:m<B:=by
     have:=Cf.out;rw[hz]at this;exact(Nat.div_eq_zero_iff_lt L1).1 this
    have HF:Hid (wF w B n (acc++[c]) m2 false (.slice a3 (acc.length+1) c3) w3):=by
     have ht:=FH.out.text;refine⟨HB.out.2.2,HB.out.1,HB.out.2.1,?_,by simpa using vr,fun h=>by simp at h,?_⟩
     ·rw[hz];exact Nat.two_pow_pos _
     ·rw[ht,if_pos rfl,qL B m Jz,if_neg (by simp),←HC.out,Nat.mod_eq_of_lt Jz];simp
    clear hz Jz HB;go_wp2_with fail;exact⟨⟨_,_,false,rfl,HF.out⟩,by show 129-(acc.length+1)<129-acc.length;omega⟩
   ·rw[decide_eq_false hz]at heq;have hBm:B≤m:=by
     rcases Nat.lt_or_ge m B with h|h
     ·exact absurd (by rw[←Cf.out,Nat.div_eq_of_lt h]) hz
     ·exact h
    have HF:Hid (wF w B n (acc++[c]) m2 true (.slice a3 (acc.length+1) c3) w3):=by
     have ht:=FH.out.text;have h1:=FH.out.small;refine⟨HB.out.2.2,HB.out.1,HB.out.2.1,?_,by simpa using vr,fun _=>.inr hz,?_⟩
     ·rw[List.length_append,List.length_singleton];rw[show 128-acc.length=(128-(acc.length+1))+1 by omega,Nat.pow_succ]at h1;rw[←Cf.out];have h2:m / B≤m / 2:=Nat.div_le_div_left ru (by omega);omega
     ·rw[ht,if_pos rfl,if_pos rfl,uX B m ru hBm,Cf.out,HC.out];simp
    clear hz hBm HB;go_wp2_with fail;exact⟨⟨_,_,true,rfl,HF.out⟩,by show 129-(acc.length+1)<129-acc.length;omega⟩
def aN(p:Int×Int):Value:=.agg #[.int .i64 p.1,.int .i64 p.2]
theorem Ed(x y c:Int)(hx:0≤x)(hy:0≤y)(hc0:0≤c)(hc:c≤1)(w:World):
 (callFunc 271 #[.int .u64 x,.int .u64 y,.int .u64 c]).run prog w=.ok (.value (.tuple #[.int .u64 ((x+y+c)%18446744073709551616),.int .u64 ((x+y+c) / 18446744073709551616)])) w:=by
 rw[run_callFunc_extern func271 (by kernel_rfl) (by kernel_rfl) (by kernel_rfl) (e:=add64Entry) (by kernel_rfl)];rw[run_add64 x y c hx hy hc0 hc w];rfl
def jv(a:Int):Nat:=(a%18446744073709551616).toNat
theorem oQ(a:Int):jv a<18446744073709551616:=by unfold jv;omega
theorem jB(a:Int):IntKind.u64.wrap a=(jv a:Int):=by rw[IntKind.wrap_u64];unfold jv;omega
theorem fJ(hi lo:Int)(w:World):Calls prog 272 #[.int .u64 hi,.int .u64 lo] w fun e w'=>e=.returned (aN (wrap64 lo,wrap64 hi))∧Touch [] w w':=by
 unfold aN;go_enter func272,ntmps272;go_wp2_with fail;go_returns
 exact⟨rfl,(Touch.refl _ _).alloc _⟩
def fq(a:Int):Int×Int:=(a,a / 9223372036854775808)
theorem iA(a:Int)(w:World):Calls prog 160 #[.int .i64 a] w fun e w'=>e=.returned (aN (fq a))∧Touch [] w w':=by
 unfold aN fq;go_enter func160,ntmps160;go_wp2_with fail;go_returns
 exact⟨rfl,(Touch.refl _ _).alloc _⟩
def ze(a b:Int):Int×Int:=(wrap64 ((jv a*jv b%18446744073709551616:Nat):Int),wrap64 ((jv a*jv b / 18446744073709551616:Nat):Int))
theorem IL(a b:Int)(w:World):Calls prog 174 #[.int .i64 a,.int .i64 b] w fun e w'=>e=.returned (aN (ze a b))∧Touch [] w w':=by
 have ha:=jB a;have hb:=jB b;have hmul:=fun w=>Tryz.bits_Mul64 (jv a) (jv b) (oQ a) (oQ b) w;unfold ze;obtain⟨s,hs⟩:∃s:Int,((jv a*jv b%18446744073709551616:Nat):Int)=s:=⟨_,rfl⟩;obtain⟨u,hu⟩:∃s:Int,((jv a*jv b / 18446744073709551616:Nat):Int)=s:=⟨_,rfl⟩;rw[hs,hu];simp only[hs,hu]at hmul;clear hs hu;unfold aN;go_enter func174,ntmps174;go_wp2_with (simp only[ha,hb]);refine(hmul _).mono ?_;rintro _ _ ⟨rfl,rfl⟩;go_wp2_with fail;refine(fJ _ _ _).mono ?_;rintro _ w1 ⟨rfl,t1⟩;have b4:=(aF.new w 213 #[.int .i64 0,.int .i64 0]).touch t1 (by simp);have t2:Touch [] w w1:=((tR w).alloc _).trans t1 (by simp);have e0:=b4.cell 0;have e1:=b4.cell 1;have f0:=b4.frozen 0;have f1:=b4.frozen 1;clear t1;unfold aN;go_wp2_with fail;obtain⟨z0,z1⟩:=fI b4 (.int .i64 (wrap64 s)) (.int .i64 (wrap64 u));refine bodyPost_ret (by simp[results,results174,go_sem,z0,z1];try rfl) rfl ⟨rfl,?_⟩;exact(t2.setCell (.inr (Nat.le_refl _)) _).setCell (.inr (Nat.le_refl _)) _
def zA(p q:Int×Int):Int×Int:=
 let s:Int:=(jv p.1:Int)+jv q.1
 (wrap64 (s%18446744073709551616),wrap64 (((jv p.2:Int)+jv q.2+s / 18446744073709551616)%18446744073709551616))
theorem zR(p q:Int×Int)(w:World):Calls prog 162 #[aN p,aN q] w fun e w'=>e=.returned (aN (zA p q))∧Touch [] w w':=by
 obtain⟨a,c⟩:=p;obtain⟨b,d⟩:=q;have ha:=jB a;have hb:=jB b;have hc:=jB c;have hd:=jB d;have la:=oQ a;have lb:=oQ b;have r1:=fun w=>Ed (jv a) (jv b) 0 (by omega) (by omega) (by omega) (by omega) w;obtain⟨k,hk,Wo,sI⟩:∃k:Int,((jv a:Int)+jv b+0) / 18446744073709551616=k∧0≤k∧k≤1:=⟨_,rfl,by omega,by omega⟩;have r2:=fun w=>Ed (jv c) (jv d) k (by omega) (by omega) Wo sI w;obtain⟨s,hs⟩:∃s:Int,((jv a:Int)+jv b+0)%18446744073709551616=s:=⟨_,rfl⟩;obtain⟨u,hu⟩:∃s:Int,((jv c:Int)+jv d+k)%18446744073709551616=s:=⟨_,rfl⟩;obtain⟨m,hm⟩:∃s:Int,((jv c:Int)+jv d+k) / 18446744073709551616=s:=⟨_,rfl⟩;have hr:zA (a,c) (b,d)=(wrap64 s,wrap64 u):=by
  rw[Int.add_zero]at hk hs;simp only[zA,hk,hs,hu]
 rw[hk,hs]at r1;rw[hu,hm]at r2;rw[hr];clear hr hk hs hu hm la lb;unfold aN;go_enter func162,ntmps162;go_wp2_with (simp only[ha,hb,hc,hd]);refine(fJ _ _ _).mono ?_;rintro _ w1 ⟨rfl,t1⟩;have b4:=(aF.EA t1 (n:=w.heap.size+2) (by simp));have t2:Touch [] w w1:=((((tR w).alloc _).alloc _).alloc _).trans t1 (by simp);have e0:=b4.cell 0;have e1:=b4.cell 1;have f0:=b4.frozen 0;have f1:=b4.frozen 1;clear t1;unfold aN;go_wp2_with fail;obtain⟨z0,z1⟩:=fI b4 (.int .i64 (wrap64 s)) (.int .i64 (wrap64 u));refine bodyPost_ret (by simp[results,results162,go_sem,z0,z1];try rfl) rfl ⟨rfl,?_⟩;exact(t2.setCell (.inr (by simp;omega)) _).setCell (.inr (by simp;omega)) _
theorem Ee(x y c:Nat)(hc:c≤1)(w:World):
 (callFunc 273 #[.int .u64 x,.int .u64 y,.int .u64 c]).run prog w=.ok (.value (.tuple #[.int .u64 (((x+18446744073709551616-y-c)%18446744073709551616:Nat):Int),.int .u64 ((if x<y+c then 1 else 0:Nat):Int)])) w:=by
 obtain⟨E,hE,hr⟩:∃E:Array Value→Sem Value,E=(fun args=>do
  let(x,y,b)←Extern.MathBitsCarry.three "Sub64" args
  pure (Extern.MathBitsCarry.pair ((x+Extern.MathBitsCarry.m64-y-b)%Extern.MathBitsCarry.m64) (if x<y+b then 1 else 0)))∧True:=⟨_,rfl,trivial⟩
 rw[run_callFunc_extern func273 (by kernel_rfl) (by kernel_rfl) (by kernel_rfl) (e:=E) (by subst hE;kernel_rfl)];subst hE;have:c=0∨c=1:=by omega
 rcases this with rfl|rfl<;>rfl
def nS(p:Int×Int):Int×Int:=
 let k:Nat:=if 0<jv p.1+0 then 1 else 0
 (wrap64 (((0+18446744073709551616-jv p.1-0)%18446744073709551616:Nat):Int),wrap64 (((0+18446744073709551616-jv p.2-k)%18446744073709551616:Nat):Int))
theorem qM(p:Int×Int)(w:World):Calls prog 166 #[aN p] w fun e w'=>e=.returned (aN (nS p))∧Touch [] w w':=by
 obtain⟨a,c⟩:=p;have ha:=jB a;have hc:=jB c;have r1:=fun w=>Ee 0 (jv a) 0 (by omega) w;obtain⟨k,hk,sI⟩:∃k:Nat,(if 0<jv a+0 then 1 else 0)=k∧k≤1:=⟨_,rfl,by split<;>omega⟩;have r2:=fun w=>Ee 0 (jv c) k sI w;obtain⟨s,hs⟩:∃s:Int,(((0+18446744073709551616-jv a-0)%18446744073709551616:Nat):Int)=s:=⟨_,rfl⟩;obtain⟨u,hu⟩:∃s:Int,(((0+18446744073709551616-jv c-k)%18446744073709551616:Nat):Int)=s:=⟨_,rfl⟩;obtain⟨m,hm⟩:∃s:Int,((if 0<jv c+k then 1 else 0:Nat):Int)=s:=⟨_,rfl⟩;have hr:nS (a,c)=(wrap64 s,wrap64 u):=by
  simp only[nS,hk,hs,hu]
 rw[hk,hs]at r1;rw[hu,hm]at r2;rw[hr];clear hr hk hs hu hm sI;have z0:((0:Nat):Int)=0:=rfl;rw[z0]at r1 r2;unfold aN;go_enter func166,ntmps166;go_wp2_with (simp only[ha,hc]);refine(fJ _ _ _).mono ?_;rintro _ w1 ⟨rfl,t1⟩;have b4:=(aF.EA t1 (n:=w.heap.size+1) (by simp));have t2:Touch [] w w1:=(((tR w).alloc _).alloc _).trans t1 (by simp);have e0:=b4.cell 0;have e1:=b4.cell 1;have f0:=b4.frozen 0;have f1:=b4.frozen 1;clear t1;unfold aN;go_wp2_with fail;obtain⟨z0,z1⟩:=fI b4 (.int .i64 (wrap64 s)) (.int .i64 (wrap64 u));refine bodyPost_ret (by simp[results,results166,go_sem,z0,z1];try rfl) rfl ⟨rfl,?_⟩;exact(t2.setCell (.inr (by simp)) _).setCell (.inr (by simp)) _
theorem Ef(B:Nat)(hB:2≤B):∀(k n:Nat),n<2^(k+1)→(kF B n).length≤k+1
 |0,n,h=>by
  rw[qL B n (by omega)];exact Nat.le_refl _
 |k+1,n,h=>by
  by_cases hn:n<B
  ·rw[qL B n hn];simp
  ·rw[uX B n hB (by omega),List.length_append,List.length_singleton];have h2:n / B≤n / 2:=Nat.div_le_div_left hB (by omega);have:=Ef B hB k (n / B) (by rw[Nat.pow_succ]at h;omega);omega
theorem uZ(B n:Nat)(hB:2≤B)(hn:n<340282366920938463463374607431768211456):(⟨(kF B n).toArray⟩:ByteArray).size≤128:=by
 have h:=Ef B hB 127 n hn;simpa[ByteArray.size]using h
def nu(B N:Nat):List UInt8:=if 170141183460469231731687303715884105728≤N then 45::kF B ((340282366920938463463374607431768211456-N)%340282366920938463463374607431768211456)else kF B N
theorem IQ(n:Nat)(h:n<18446744073709551616):wrap64 (n:Int)=cellOf n:=by unfold wrap64 cellOf;split<;>omega
theorem UE(n:Nat):jv (pl n)=n%18446744073709551616:=by unfold jv pl cellOf;split<;>omega
theorem UF(n:Nat)(hn:n<340282366920938463463374607431768211456):jv (ph n)=n / 18446744073709551616:=by unfold jv ph cellOf;split<;>omega
theorem UG(n:Nat)(hn:n<340282366920938463463374607431768211456):nS (pl n,ph n)=(pl ((340282366920938463463374607431768211456-n)%340282366920938463463374607431768211456),ph ((340282366920938463463374607431768211456-n)%340282366920938463463374607431768211456)):=by
 unfold nS;simp only[UE,UF n hn];obtain⟨L,hL⟩:∃L,n%18446744073709551616=L:=⟨_,rfl⟩;obtain⟨H,hH⟩:∃H,n / 18446744073709551616=H:=⟨_,rfl⟩;rw[hL,hH,IQ _ (Nat.mod_lt _ (by decide)),IQ _ (Nat.mod_lt _ (by decide))];unfold pl ph;obtain⟨r,hr⟩:∃r,(340282366920938463463374607431768211456-n)%340282366920938463463374607431768211456=r:=⟨_,rfl⟩;rw[hr];have e1:(0+18446744073709551616-L-0)%18446744073709551616=r%18446744073709551616:=by omega
 have e2:(0+18446744073709551616-H-if 0<L+0 then 1 else 0)%18446744073709551616=r / 18446744073709551616%18446744073709551616:=by split<;>omega
 rw[e1,e2]
theorem UH(n:Nat)(hn:n<340282366920938463463374607431768211456)(w:World):Calls prog 166 #[.agg (two n)] w fun e w'=>e=.returned (.agg (two ((340282366920938463463374607431768211456-n)%340282366920938463463374607431768211456)))∧Touch [] w w':=by
 have h:=qM (pl n,ph n) w;rw[UG n hn]at h;exact h
theorem Yl(N B:Nat)(hN:N<340282366920938463463374607431768211456)(ru:2≤B)(hB:B≤36)(w:World):
 Calls prog 294 #[.agg (two N),.int .i64 (B:Int)] w fun e w'=>e=.returned (.string ⟨(nu B N).toArray⟩)∧Touch [] w w':=by
 have hrt:=fun W=>uV (B:Int) (by omega) (by omega) W;have na:=eK N hN;have b0:=aF.new w 213 #[.int .i64 (pl N),.int .i64 (ph N)];have tw:=(tR w).alloc (.cells #[.int .i64 (pl N),.int .i64 (ph N)] 213);by_cases h:170141183460469231731687303715884105728≤N
 ·have hn:¬ph N≥0:=by have:=na.2 h;omega
  have qZ:=fun W=>UH N hN W;have PW:=fun W=>Zu ((340282366920938463463374607431768211456-N)%340282366920938463463374607431768211456) B (Nat.mod_lt _ (by omega)) ru hB W;have e:nu B N=45::kF B ((340282366920938463463374607431768211456-N)%340282366920938463463374607431768211456):=by unfold nu;rw[if_pos h]
  rw[e];have hlen:=uZ B ((340282366920938463463374607431768211456-N)%340282366920938463463374607431768211456) ru (Nat.mod_lt _ (by omega));obtain⟨R,hR⟩:∃R,(340282366920938463463374607431768211456-N)%340282366920938463463374607431768211456=R:=⟨_,rfl⟩;rw[hR]at qZ PW hlen⊢;have Sz:(⟨(45::kF B R).toArray⟩:ByteArray)=(⟨#[45]⟩:ByteArray)++⟨(kF B R).toArray⟩:=zG (by simp);rw[Sz];obtain⟨S,hS⟩:∃S:ByteArray,⟨(kF B R).toArray⟩=S:=⟨_,rfl⟩;rw[hS]at PW hlen⊢;unfold two at qZ⊢;clear hR e h na Sz hS;go_enter func294,ntmps294;go_wp2_with fail;refine(hrt _).mono ?_;rintro _ _ ⟨rfl,rfl⟩;go_wp2_with fail;refine(qZ _).mono ?_;rintro _ w1 ⟨rfl,t1⟩;have tw:=tw.trans t1 (by simp);go_wp2_with fail;refine(PW _).mono ?_;rintro _ w2 ⟨rfl,t2⟩;have tw:=tw.trans t2 (by simp);go_wp2_with fail;go_ret;exact⟨rfl,tw⟩
 ·have hn:ph N≥0:=by have:=fun h'=>h (na.1 h');omega
  have PW:=fun W=>Zu N B hN ru hB W;have e:nu B N=kF B N:=by unfold nu;rw[if_neg h]
  rw[e];unfold two;clear e h na hrt;go_enter func294,ntmps294;go_wp2_with fail;refine(PW _).mono ?_;rintro _ w2 ⟨rfl,t2⟩;have tw:=tw.trans t2 (by simp);go_wp2_with fail;go_ret;exact⟨rfl,by first|exact tw|exact(Touch.refl _ _).alloc _⟩
end Go.Proofs.YtdokeddjcpnmiaaGreatDoor
