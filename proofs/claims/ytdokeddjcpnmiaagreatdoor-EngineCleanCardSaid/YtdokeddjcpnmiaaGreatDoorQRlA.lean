/- Of EngineClean: RlA RlB. -/
import Derived.Test.YtdokeddjcpnmiaaGreatDoorQShelf8
import Derived.Test.YtdokeddjcpnmiaaGreatDoorQStkCut
import Derived.Laws.Bits64b
import Derived.Lib.TrailingZeros
import Derived.Laws.BitsAllLaws
import Derived.Lib.ItoaMem
import Derived.Lib.AppendIntMem
set_option maxRecDepth 100000
set_option maxHeartbeats 6400000
namespace Go.Proofs.YtdokeddjcpnmiaaGreatDoor.Rl
open Go.RowKit
theorem qP(n:Int)(w:World):(callFunc 267 #[.int .u64 n]).run Tryz.prog w=.ok (.value (.float .f64 n.toNat)) w:=by
 rw[run_callFunc_extern Tryz.func267 (by kernel_rfl) (by kernel_rfl) (by kernel_rfl) (e:=Extern.MathFloatBits.float64frombits) (by kernel_rfl)];rfl
theorem u7(n:Nat)(w:World):(callFunc 268 #[.float .f64 n]).run Tryz.prog w=.ok (.value (.int .u64 n)) w:=by
 rw[run_callFunc_extern Tryz.func268 (by kernel_rfl) (by kernel_rfl) (by kernel_rfl) (e:=Extern.MathFloatBits.float64bits) (by kernel_rfl)];rfl
theorem Ej(x:Nat)(h:Fl.fin x)(w:World):(callFunc 307 #[.float .f64 x]).run Tryz.prog w=.ok (.value (.float .f64 (FloatKind.f64.encode ((FloatKind.f64.decode x).integral .down)))) w:=by
 rw[run_callFunc_extern Tryz.func307 (by kernel_rfl) (by kernel_rfl) (by kernel_rfl) (e:=Extern.MathFloor.toIntegral "math.archFloor" .down) (by kernel_rfl)];have e:FloatKind.f64.decode x=.number (Fl.sg x) (Fl.M (Fl.rg x)) (-1074+(Fl.E (Fl.rg x):Int)):=Fl.qb h;obtain⟨F,hF⟩:∃F:Bool→Nat→Sem Value,Extern.MathFloor.toIntegral "math.archFloor" .down #[.float .f64 x]=(match FloatKind.f64.decode x with
  | .nan s t=>F s t
  |d=>pure (.float .f64 (FloatKind.f64.encode (d.integral .down)))):=⟨_,rfl⟩
 rw[hF,e];rfl
theorem dB(a:Int)(w:World):Calls Tryz.prog 152 #[.int .i64 a] w fun e w'=>e=.returned (.float .f64 (bitsOf a))∧w=w':=by
 have Cl:=qP (IntKind.u64.wrap a);have e:(IntKind.u64.wrap a).toNat=bitsOf a:=by rw[IntKind.wrap_u64];rfl
 rw[e]at Cl;clear e;go_enter Tryz.func152,Tryz.ntmps152;go_wp2;go_ret;exact⟨rfl,rfl⟩
theorem fR(x a:Nat)(hx:x<18446744073709551616)(jX:x&&& (18446744073709551616-x)=a):
 IntKind.u64.wrap (bits BinOp.and IntKind.u64 (x:Int) (IntKind.u64.wrap (-(x:Int)))*285870213051353865) / 288230376151711744=((a*285870213051353865%18446744073709551616 / 288230376151711744:Nat):Int):=by
 by_cases h0:x=0
 ·subst h0;have:a=0:=by rw[←jX];simp
  subst this;decide
 have e1:IntKind.u64.wrap (-(x:Int))=((18446744073709551616-x:Nat):Int):=by rw[IntKind.wrap_u64];omega
 rw[e1,bits_and_u64_nat x _ hx (by omega),jX,IntKind.wrap_u64];omega
def zh(w:World):Prop:=∀j,j<Lib.deBruijn64tab.length→w.cell? ⟨4,j,none⟩=some (.int .u8 (Lib.deBruijn64tab.getD j 0))
theorem fS(x:Nat)(hx:x<18446744073709551616)(h0:x≠0)(w:World)(hT:zh w):
 Calls Tryz.prog 309 #[.int .u64 x] w fun e w'=>e=.returned (.int .i64 (Lib.ctz 64 x))∧w=w':=by
 obtain⟨jX,hk⟩:=Lib.lowest_bit 64 x h0 hx;obtain⟨hi,Di⟩:=Lib.deBruijn64_at _ hk;have key:=fR x _ hx jX;have hc:=hT _ (show _<Lib.deBruijn64tab.length from hi);rw[Di]at hc;obtain⟨i,hie⟩:∃i,2^Lib.ctz 64 x*285870213051353865%18446744073709551616 / 288230376151711744=i:=⟨_,rfl⟩;rw[hie]at key hc hi;obtain⟨k,xb⟩:∃k,Lib.ctz 64 x=k:=⟨_,rfl⟩;rw[xb]at hc hk⊢;have hx0:((x:Int)==0)=false:=by rw[beq_eq_false_iff_ne];omega
 clear jX Di hie xb hT h0;go_enter Tryz.func309,Tryz.ntmps309;go_wp2_with (simp only[key]);go_ret;exact⟨rfl,rfl⟩
def uo(x:Nat):Prop:=9218868437227405312<Fl.rg x
instance(x:Nat):Decidable (uo x):=inferInstanceAs (Decidable (_<_))
def madeOf(x:Nat):Int:=if uo x then 9221120237041090560 else cellOf x
def kI:Option Nat→Int
 |none=>9221120237041090560
 |some r=>madeOf r
theorem BQ(x:Nat):Ieee.double.order x x=if uo x then none else some .eq:=by
 have hn:uo x↔9218868437227405312<Fl.rg x:=Iff.rfl;by_cases h1:Fl.rg x<9218868437227405312
 ·rw[if_neg (by rw[hn];omega),Fl.lu h1 h1,Int.compare_eq_eq.2 rfl]
 ·by_cases h2:Fl.rg x=9218868437227405312
  ·rw[if_neg (by rw[hn];omega)];unfold Ieee.Format.order;rw[Fl.BN h2];cases Fl.sg x<;>rfl
  ·rw[if_pos (by rw[hn];omega)];unfold Ieee.Format.order;rw[Fl.qd (by omega)];rfl
theorem fJ(x:Nat)(hx:x<18446744073709551616)(w:World):Calls Tryz.prog 153 #[.float .f64 x] w fun e w'=>e=.returned (.int .i64 (madeOf x))∧w=w':=by
 have h45:=u7 x;have ho:FloatKind.f64.format.order x x=_:=BQ x;have hc:IntKind.i64.wrap (x:Int)=cellOf x:=by
  rw[IntKind.wrap_i64];unfold cellOf;split<;>omega
 unfold madeOf;by_cases hn:uo x
 ·rw[if_pos hn]at ho⊢;have h1:(FloatKind.f64.format.order x x != some .eq)=true:=by rw[ho];rfl
  clear ho hn;go_enter Tryz.func153,Tryz.ntmps153;go_wp2;go_ret;exact⟨rfl,rfl⟩
 ·rw[if_neg hn]at ho⊢;have h1:(FloatKind.f64.format.order x x != some .eq)=false:=by rw[ho];rfl
  clear ho hn;go_enter Tryz.func153,Tryz.ntmps153;go_wp2_with (simp only[hc]);go_ret;exact⟨rfl,rfl⟩
theorem Ng(x y:Nat)(t:Nat):uo ((Question.nanBits .f64 x y).cut t)∧(Question.nanBits .f64 x y).cut t<18446744073709551616:=by
 unfold uo Fl.rg;show _<((t%2)*2^63+0x7ff0000000000000+1+(t / 2)%(2^52-1))%_∧(t%2)*2^63+0x7ff0000000000000+1+(t / 2)%(2^52-1)<_;have h1:t%2=0∨t%2=1:=by omega
 have h2:(t / 2)%(2^52-1)<2^52-1:=Nat.mod_lt _ (by decide);generalize t%2=a at h1⊢;generalize (t / 2)%(2^52-1)=b at h2⊢;rcases h1 with rfl|rfl<;>omega
theorem wK(b:Bool)(x y:Nat)(t:Nat):uo ((Question.nanMinMax .f64 b x y).cut t)∧(Question.nanMinMax .f64 b x y).cut t<18446744073709551616:=by
 unfold uo Fl.rg;show _<((t%2)*2^63+0x7ff0000000000000+1+(t / 2)%(2^52-1))%_∧(t%2)*2^63+0x7ff0000000000000+1+(t / 2)%(2^52-1)<_;have h1:t%2=0∨t%2=1:=by omega
 have h2:(t / 2)%(2^52-1)<2^52-1:=Nat.mod_lt _ (by decide);generalize t%2=a at h1⊢;generalize (t / 2)%(2^52-1)=b at h2⊢;rcases h1 with rfl|rfl<;>omega
theorem qg{P:Program}(op:BinOp)(hop:op=.add∨op=.sub∨op=.mul∨op=.quo)(t:TypeId)(x y:Nat)(w:World):
 ∃v w1,Touch [] w w1∧(binOp op t (.float .f64 x) (.float .f64 y)).run P w=.ok (.float .f64 v) w1∧madeOf v=kI (floatBits op .f64 x y)∧v<18446744073709551616:=by
 cases hr:floatBits op .f64 x y with
 |some r=>
  refine⟨r,w,Touch.refl _ _,run_float_arith w op t .f64 x y r hr,rfl,?_⟩;have:=floatBits_wf hr;simpa[Lit.wf]using this
 |none=>
  refine⟨(Question.nanBits .f64 x y).cut (w.tape w.drawn (.nanBits .f64 x y)),w.drew,(Touch.refl _ _).drew,?_,?_,(Ng _ _ _).2⟩
  ·rcases hop with rfl|rfl|rfl|rfl<;>
   ·simp only[floatBits]at hr;simp[binOp,Op.floatArith,hr];exact fun h=>by cases h
  ·unfold madeOf kI;rw[if_pos (Ng _ _ _).1]
def minOf(x y:Nat):Option Nat:=match Ieee.double.order x y with
 |none=>none
 |some .lt=>some x
 |some .gt=>some y
 |some .eq=>some (if Fl.sg x then x else y)
def maxOf(x y:Nat):Option Nat:=match Ieee.double.order x y with
 |none=>none
 |some .lt=>some y
 |some .gt=>some x
 |some .eq=>some (if Fl.sg x then y else x)
theorem I8(x:Nat):(FloatKind.f64.decode x).neg=Fl.sg x:=by
 change (Ieee.double.read x).neg=_
 by_cases h1:Fl.rg x<9218868437227405312
 ·rw[Fl.qb h1];rfl
 ·by_cases h2:Fl.rg x=9218868437227405312
  ·rw[Fl.BN h2];rfl
  ·rw[Fl.qd (by omega)];rfl
theorem Nh{P:Program}(ts:Array TypeId)(t:TypeId)(x y:Nat)(hx:x<18446744073709551616)(hy:y<18446744073709551616)(w:World):
 ∃v w1,Touch [] w w1∧(Builtin.min_ ts t #[.float .f64 x,.float .f64 y]).run P w=.ok (.float .f64 v) w1∧madeOf v=kI (minOf x y)∧v<18446744073709551616:=by
 unfold minOf;rcases ho:Ieee.double.order x y with _|o
 ·have ME:FloatKind.f64.format.order x y=none:=ho;refine⟨(Question.nanMinMax .f64 false x y).cut (w.tape w.drawn (.nanMinMax .f64 false x y)),w.drew,(Touch.refl _ _).drew,?_,?_,(wK _ _ _ _).2⟩
  ·simp[Builtin.min_,Builtin.min2,ME];exact fun h=>by cases h
  ·unfold madeOf kI;rw[if_pos (wK _ _ _ _).1]
 ·have ME:FloatKind.f64.format.order x y=some o:=ho;cases o
  ·exact⟨x,w,Touch.refl _ _,by simp[Builtin.min_,Builtin.min2,ME],rfl,hx⟩
  ·exact⟨if Fl.sg x then x else y,w,Touch.refl _ _,by simp[Builtin.min_,Builtin.min2,ME,I8],rfl,by split<;>assumption⟩
  ·exact⟨y,w,Touch.refl _ _,by simp[Builtin.min_,Builtin.min2,ME],rfl,hy⟩
theorem Ni{P:Program}(ts:Array TypeId)(t:TypeId)(x y:Nat)(hx:x<18446744073709551616)(hy:y<18446744073709551616)(w:World):
 ∃v w1,Touch [] w w1∧(Builtin.max_ ts t #[.float .f64 x,.float .f64 y]).run P w=.ok (.float .f64 v) w1∧madeOf v=kI (maxOf x y)∧v<18446744073709551616:=by
 unfold maxOf;rcases ho:Ieee.double.order x y with _|o
 ·have ME:FloatKind.f64.format.order x y=none:=ho;refine⟨(Question.nanMinMax .f64 true x y).cut (w.tape w.drawn (.nanMinMax .f64 true x y)),w.drew,(Touch.refl _ _).drew,?_,?_,(wK _ _ _ _).2⟩
  ·simp[Builtin.max_,Builtin.max2,ME];exact fun h=>by cases h
  ·unfold madeOf kI;rw[if_pos (wK _ _ _ _).1]
 ·have ME:FloatKind.f64.format.order x y=some o:=ho;cases o
  ·exact⟨y,w,Touch.refl _ _,by simp[Builtin.max_,Builtin.max2,ME],rfl,hy⟩
  ·exact⟨if Fl.sg x then y else x,w,Touch.refl _ _,by simp[Builtin.max_,Builtin.max2,ME,I8],rfl,by split<;>assumption⟩
  ·exact⟨x,w,Touch.refl _ _,by simp[Builtin.max_,Builtin.max2,ME],rfl,hx⟩
def vg(b:Bool):Int:=if b then -1 else 0
theorem El(b:Bool)(w:World):Calls Tryz.prog 150 #[.bool b] w fun e w'=>e=.returned (.int .i64 (vg b))∧w=w':=by
 cases b
 ·go_enter Tryz.func150,Tryz.ntmps150;go_wp2;go_ret;exact⟨rfl,rfl⟩
 ·go_enter Tryz.func150,Tryz.ntmps150;go_wp2;go_ret;exact⟨rfl,rfl⟩
theorem UK(n:Int)(w:World):Calls Tryz.prog 191 #[.int .i64 n] w fun e w'=>e=.returned (.int .i64 (madeOf (floatOfInt .f64 n)))∧w=w':=by
 have hb:floatOfInt .f64 n<18446744073709551616:=by
  have:=floatOfInt_wf .f64 n;simpa[Lit.wf]using this
 go_enter Tryz.func191,Tryz.ntmps191;go_wp2_with fail;refine(fJ _ hb _).mono ?_;rintro _ _ ⟨rfl,rfl⟩;go_wp2_with fail;go_ret;exact⟨rfl,rfl⟩
theorem Yx(a b:Int)(w:World):Calls Tryz.prog 132 #[.int .i64 3,.int .i64 a,.int .i64 b] w fun e w'=>e=.returned (.tuple #[.int .i64 (kI (floatBits .add .f64 (bitsOf a) (bitsOf b))),.int .i64 0])∧Touch [] w w':=by
 obtain⟨v,w1,ht,hrun,hv,hlt⟩:=qg (P:=Tryz.prog) .add (by simp) 206 (bitsOf a) (bitsOf b) w;rw[←hv];clear hv;go_enter Tryz.func132,Tryz.ntmps132;go_wp2_with fail;refine(dB a _).mono ?_;rintro _ _ ⟨rfl,rfl⟩;go_wp2_with fail;refine(dB b _).mono ?_;rintro _ _ ⟨rfl,rfl⟩;go_wp2_with fail;refine(fJ v hlt _).mono ?_;rintro _ _ ⟨rfl,rfl⟩;go_wp2_with fail;go_ret2;exact⟨rfl,ht⟩
theorem Yy(a b:Int)(w:World):Calls Tryz.prog 132 #[.int .i64 4,.int .i64 a,.int .i64 b] w fun e w'=>e=.returned (.tuple #[.int .i64 (kI (floatBits .sub .f64 (bitsOf a) (bitsOf b))),.int .i64 0])∧Touch [] w w':=by
 obtain⟨v,w1,ht,hrun,hv,hlt⟩:=qg (P:=Tryz.prog) .sub (by simp) 206 (bitsOf a) (bitsOf b) w;rw[←hv];clear hv;go_enter Tryz.func132,Tryz.ntmps132;go_wp2_with fail;refine(dB a _).mono ?_;rintro _ _ ⟨rfl,rfl⟩;go_wp2_with fail;refine(dB b _).mono ?_;rintro _ _ ⟨rfl,rfl⟩;go_wp2_with fail;refine(fJ v hlt _).mono ?_;rintro _ _ ⟨rfl,rfl⟩;go_wp2_with fail;go_ret2;exact⟨rfl,ht⟩
theorem two_mul(a b:Int)(w:World):Calls Tryz.prog 132 #[.int .i64 5,.int .i64 a,.int .i64 b] w fun e w'=>e=.returned (.tuple #[.int .i64 (kI (floatBits .mul .f64 (bitsOf a) (bitsOf b))),.int .i64 0])∧Touch [] w w':=by
 obtain⟨v,w1,ht,hrun,hv,hlt⟩:=qg (P:=Tryz.prog) .mul (by simp) 206 (bitsOf a) (bitsOf b) w;rw[←hv];clear hv;go_enter Tryz.func132,Tryz.ntmps132;go_wp2_with fail;refine(dB a _).mono ?_;rintro _ _ ⟨rfl,rfl⟩;go_wp2_with fail;refine(dB b _).mono ?_;rintro _ _ ⟨rfl,rfl⟩;go_wp2_with fail;refine(fJ v hlt _).mono ?_;rintro _ _ ⟨rfl,rfl⟩;go_wp2_with fail;go_ret2;exact⟨rfl,ht⟩
theorem Yz(a b:Int)(w:World):Calls Tryz.prog 132 #[.int .i64 6,.int .i64 a,.int .i64 b] w fun e w'=>e=.returned (.tuple #[.int .i64 (kI (floatBits .quo .f64 (bitsOf a) (bitsOf b))),.int .i64 0])∧Touch [] w w':=by
 obtain⟨v,w1,ht,hrun,hv,hlt⟩:=qg (P:=Tryz.prog) .quo (by simp) 206 (bitsOf a) (bitsOf b) w;rw[←hv];clear hv;go_enter Tryz.func132,Tryz.ntmps132;go_wp2_with fail;refine(dB a _).mono ?_;rintro _ _ ⟨rfl,rfl⟩;go_wp2_with fail;refine(dB b _).mono ?_;rintro _ _ ⟨rfl,rfl⟩;go_wp2_with fail;refine(fJ v hlt _).mono ?_;rintro _ _ ⟨rfl,rfl⟩;go_wp2_with fail;go_ret2;exact⟨rfl,ht⟩
theorem YA(a b:Int)(w:World):Calls Tryz.prog 132 #[.int .i64 7,.int .i64 a,.int .i64 b] w fun e w'=>e=.returned (.tuple #[.int .i64 (kI (minOf (bitsOf a) (bitsOf b))),.int .i64 0])∧Touch [] w w':=by
 obtain⟨v,w1,ht,hrun,hv,hlt⟩:=Nh (P:=Tryz.prog) #[206,206] 206 (bitsOf a) (bitsOf b) (eX a) (eX b) w;rw[←hv];clear hv;go_enter Tryz.func132,Tryz.ntmps132;go_wp2_with fail;refine(dB a _).mono ?_;rintro _ _ ⟨rfl,rfl⟩;go_wp2_with fail;refine(dB b _).mono ?_;rintro _ _ ⟨rfl,rfl⟩;go_wp2_with fail;refine(fJ v hlt _).mono ?_;rintro _ _ ⟨rfl,rfl⟩;go_wp2_with fail;go_ret2;exact⟨rfl,ht⟩
theorem YB(a b:Int)(w:World):Calls Tryz.prog 132 #[.int .i64 8,.int .i64 a,.int .i64 b] w fun e w'=>e=.returned (.tuple #[.int .i64 (kI (maxOf (bitsOf a) (bitsOf b))),.int .i64 0])∧Touch [] w w':=by
 obtain⟨v,w1,ht,hrun,hv,hlt⟩:=Ni (P:=Tryz.prog) #[206,206] 206 (bitsOf a) (bitsOf b) (eX a) (eX b) w;rw[←hv];clear hv;go_enter Tryz.func132,Tryz.ntmps132;go_wp2_with fail;refine(dB a _).mono ?_;rintro _ _ ⟨rfl,rfl⟩;go_wp2_with fail;refine(dB b _).mono ?_;rintro _ _ ⟨rfl,rfl⟩;go_wp2_with fail;refine(fJ v hlt _).mono ?_;rintro _ _ ⟨rfl,rfl⟩;go_wp2_with fail;go_ret2;exact⟨rfl,ht⟩
theorem U6(a b:Int)(w:World):Calls Tryz.prog 132 #[.int .i64 9,.int .i64 a,.int .i64 b] w fun e w'=>e=.returned (.tuple #[.int .i64 (vg (Ieee.double.order (bitsOf a) (bitsOf b)==some .lt)),.int .i64 0])∧w=w':=by
 go_enter Tryz.func132,Tryz.ntmps132;go_wp2_with fail;refine(dB a _).mono ?_;rintro _ _ ⟨rfl,rfl⟩;go_wp2_with fail;refine(dB b _).mono ?_;rintro _ _ ⟨rfl,rfl⟩;go_wp2_with fail;refine(El _ _).mono ?_;rintro _ _ ⟨rfl,rfl⟩;go_wp2_with fail;go_ret2;exact⟨rfl,rfl⟩
theorem Qf(a b:Int)(w:World):Calls Tryz.prog 132 #[.int .i64 10,.int .i64 a,.int .i64 b] w fun e w'=>e=.returned (.tuple #[.int .i64 (vg (Ieee.double.order (bitsOf a) (bitsOf b)==some .eq)),.int .i64 0])∧w=w':=by
 go_enter Tryz.func132,Tryz.ntmps132;go_wp2_with fail;refine(dB a _).mono ?_;rintro _ _ ⟨rfl,rfl⟩;go_wp2_with fail;refine(dB b _).mono ?_;rintro _ _ ⟨rfl,rfl⟩;go_wp2_with fail;refine(El _ _).mono ?_;rintro _ _ ⟨rfl,rfl⟩;go_wp2_with fail;go_ret2;exact⟨rfl,rfl⟩
theorem FP(x:Nat)(hx:x<18446744073709551616)(w:World):Calls Tryz.prog 154 #[.float .f64 x] w fun e w'=>e=.returned (.float .f64 (Fl.rg x))∧w=w':=by
 have h45:=u7 x;have Cl:=qP;have e1:bits BinOp.andNot IntKind.u64 (x:Int) 9223372036854775808=((Fl.rg x:Nat):Int):=by
  have:=Go.u64_andNot_nat x 9223372036854775808 hx (by omega);rw[show((9223372036854775808:Nat):Int)=9223372036854775808 from rfl]at this;rw[this,show(18446744073709551615-9223372036854775808:Nat)=2^63-1 from rfl,Nat.and_two_pow_sub_one_eq_mod];rfl
 have Cl:=qP (Fl.rg x);rw[Int.toNat_natCast]at Cl;go_enter Tryz.func154,Tryz.ntmps154;go_wp2_with (simp only[e1]);go_ret;exact⟨rfl,rfl⟩
theorem tK(x v:Nat)(w w1:World)(Mu:(callFunc 307 #[.float .f64 x]).run Tryz.prog w=.ok (.value (.float .f64 v)) w1):Calls Tryz.prog 280 #[.float .f64 x] w fun e w'=>e=.returned (.float .f64 v)∧w1=w':=by
 go_enter Tryz.func280,Tryz.ntmps280;go_wp2;go_ret;exact⟨rfl,rfl⟩
theorem oI(x:Nat)(hx:x<18446744073709551616)(w:World):Calls Tryz.prog 283 #[.float .f64 x] w fun e w'=>e=.returned (.bool (Fl.sg x))∧w=w':=by
 have h45:=u7 x;have h1:decide (wrap64 (x:Int)<0)=Fl.sg x:=by
  unfold Fl.sg wrap64;by_cases h:x<9223372036854775808
  ·have:x / 9223372036854775808=0:=by omega
   rw[this];simp;omega
  ·have:x / 9223372036854775808=1:=by omega
   rw[this];simp;omega
 go_enter Tryz.func283,Tryz.ntmps283;go_wp2_with (simp only[h1]);go_ret;exact⟨rfl,rfl⟩
def zk(x:Nat):Nat:=if x<9223372036854775808 then 9223372036854775808+x else x-9223372036854775808
theorem Nj(b:Nat)(h:b<2^63):b^^^2^63=2^63+b:=by
 have e:=Nat.two_pow_add_eq_or_of_lt h 1;rw[Nat.mul_one]at e;rw[e];apply Nat.eq_of_testBit_eq;intro i;rw[Nat.testBit_xor,Nat.testBit_or,Nat.testBit_two_pow];by_cases hi:63=i
 ·subst hi;rw[Nat.testBit_lt_two_pow h];rfl
 ·simp[hi]
theorem rX(x:Nat)(hx:x<18446744073709551616):Op.negFloat .f64 x=zk x:=by
 change x^^^2^63=_
 unfold zk;by_cases h:x<9223372036854775808
 ·rw[if_pos h,Nj x h]
 ·rw[if_neg h];have:=Nj (x-9223372036854775808) (by omega);have e:x=(x-9223372036854775808)^^^2^63:=by rw[this];omega
  rw[show x^^^2^63=((x-9223372036854775808)^^^2^63)^^^2^63 by rw[←e],Nat.xor_assoc,Nat.xor_self,Nat.xor_zero]
theorem U7(x:Nat)(hx:x<18446744073709551616):zk x<18446744073709551616:=by
 unfold zk;split<;>omega
theorem Nk(x:Nat):Fl.rg x<9223372036854775808:=Nat.mod_lt _ (by decide)
theorem xc(x:Nat):Fl.sg (Fl.rg x)=false:=by
 have:=Nk x;unfold Fl.sg;rw[show Fl.rg x / 9223372036854775808=0 by omega];rfl
theorem U8(x:Nat):Fl.rg (Fl.rg x)=Fl.rg x:=by
 have:=Nk x;unfold Fl.rg at*;omega
theorem Qg(x:Nat):(FloatKind.f64.format.order (Fl.rg x) 9218868437227405311==some .gt)=(Fl.rg x==9218868437227405312):=by
 change (Ieee.double.order (Fl.rg x) 9218868437227405311==some .gt)=_
 have hb:Fl.fin 9218868437227405311:=by unfold Fl.fin;decide
 by_cases h1:Fl.rg x<9218868437227405312
 ·have hf:Fl.fin (Fl.rg x):=by unfold Fl.fin;rw[U8];exact h1
  rw[Fl.lu hf hb];have e1:Fl.Zv (Fl.rg x)=Fl.Nv (Fl.rg x):=by unfold Fl.Zv;rw[xc,U8];rfl
  have e2:Fl.Zv 9218868437227405311=Fl.Nv 9218868437227405311:=by unfold Fl.Zv;rw[show Fl.sg 9218868437227405311=false by decide,show Fl.rg 9218868437227405311=9218868437227405311 by decide];rfl
  have hle:Fl.Nv (Fl.rg x)≤Fl.Nv 9218868437227405311:=by
   by_cases h2:Fl.rg x=9218868437227405311
   ·rw[h2];exact Nat.le_refl _
   ·exact Nat.le_of_lt (Fl.BO (by omega))
  rw[e1,e2,beq_eq_false_iff_ne.2 (show Fl.rg x≠9218868437227405312 by omega)];rcases Nat.lt_or_ge (Fl.Nv (Fl.rg x)) (Fl.Nv 9218868437227405311)with h|h
  ·rw[Int.compare_eq_lt.2 (by exact_mod_cast h)];rfl
  ·rw[show Fl.Nv (Fl.rg x)=Fl.Nv 9218868437227405311 from Nat.le_antisymm hle h,Int.compare_eq_eq.2 rfl];rfl
 ·by_cases h2:Fl.rg x=9218868437227405312
  ·rw[h2];decide
  ·rw[beq_eq_false_iff_ne.2 h2];unfold Ieee.Format.order;rw[Fl.qd (w:=Fl.rg x) (by rw[U8];omega)];rfl
theorem yh(x:Nat)(hx:x<18446744073709551616)(w:World):Calls Tryz.prog 284 #[.float .f64 x,.int .i64 0] w fun e w'=>e=.returned (.bool (Fl.rg x==9218868437227405312))∧w=w':=by
 have h1:=Qg x;go_enter Tryz.func284,Tryz.ntmps284;go_wp2_with fail;refine(FP x hx _).mono ?_;rintro _ _ ⟨rfl,rfl⟩;go_wp2_with fail;go_ret;exact⟨rfl,rfl⟩
theorem YC(a:Int)(w:World):Calls Tryz.prog 130 #[.int .i64 2,.int .i64 a] w fun e w'=>e=.returned (.tuple #[.int .i64 (madeOf (Fl.rg (bitsOf a))),.int .i64 0])∧w=w':=by
 go_enter Tryz.func130,Tryz.ntmps130;go_wp2_with fail;refine(dB a _).mono ?_;rintro _ _ ⟨rfl,rfl⟩;go_wp2_with fail;refine(FP _ (eX a) _).mono ?_;rintro _ _ ⟨rfl,rfl⟩;go_wp2_with fail;refine(fJ _ (Nat.lt_trans (Nk _) (by decide)) _).mono ?_;rintro _ _ ⟨rfl,rfl⟩;go_wp2_with fail;go_ret2;exact⟨rfl,rfl⟩
end Go.Proofs.YtdokeddjcpnmiaaGreatDoor.Rl
namespace Go.Proofs.YtdokeddjcpnmiaaGreatDoor.Rl
open Go.RowKit Go.Sort Go.Lib
theorem tO{r:Nat}(h:r<9218868437227405312):Fl.fin r:=by unfold Fl.fin Fl.rg;omega
def Je(q:Nat):Nat:=Ieee.double.write ((Ieee.double.read q).integral .down)
theorem Eo{q:Nat}(h:q<9218868437227405312):Je q<9218868437227405312∧Fl.Nv (Je q)=Fl.Iv q*Fl.U:=by
 obtain⟨p,hp,hv,he⟩:=Fl.Lv h;rw[Fl.iY,Fl.iY]at he;unfold Je;rw[he];exact⟨hp,hv⟩
theorem yt(q:Nat)(h:q<9218868437227405312)(w:World):Calls Tryz.prog 280 #[.float .f64 q] w fun e w'=>e=.returned (.float .f64 (Je q))∧w=w':=
 tK q _ w w (Ej q (tO h) w)
theorem tL{r q:Nat}(hr:r<9218868437227405312)(hq:q<9218868437227405312):FloatKind.f64.format.order r q=some (compare (Fl.Nv r) (Fl.Nv q)):=by
 have:=Fl.tL hr hq;rw[Fl.iY,Fl.iY]at this;exact this
theorem Ve{q:Nat}(h:q<9218868437227405312):(FloatKind.f64.format.order q (Je q) != some .eq)= !(Fl.Nv q%Fl.U==0):=by
 obtain⟨h1,h2⟩:=Eo h;rw[tL h h1,h2];have hd:=Nat.div_add_mod (Fl.Nv q) Fl.U;have he:Fl.Iv q*Fl.U=Fl.U*(Fl.Nv q / Fl.U):=by unfold Fl.Iv;exact Nat.mul_comm _ _
 by_cases h0:Fl.Nv q%Fl.U=0
 ·rw[h0,Nat.add_zero]at hd;rw[he,hd,Nat.compare_eq_eq.2 rfl,h0];rfl
 ·rw[beq_eq_false_iff_ne.2 h0,Nat.compare_eq_gt.2 (by rw[he];omega)];rfl
theorem Lx{q:Nat}(h:q<9218868437227405312)(h0:Fl.Nv q%Fl.U≠0):∃p,p<9218868437227405312∧Fl.Nv p=2*Fl.Nv q∧q<p∧floatBits .mul .f64 q 4611686018427387904=some p:=by
 have hE:=Fl.Nn h0;rw[Fl.Ja]at hE;obtain⟨p,hp,hv⟩:=Fl.Jd (r:=q) (by omega);have hm:=Fl.mul_two h hp hv;rw[Fl.iY,Fl.iY]at hm;refine⟨p,hp,hv,?_,hm⟩;rcases Nat.lt_trichotomy q p with h1|h1|h1
 ·exact h1
 ·subst h1;have:Fl.Nv q=0:=by omega
  rw[this,Nat.zero_mod]at h0;exact absurd rfl h0
 ·have:=Fl.BO h1;omega
theorem Qk{q:Nat}(h:q<9218868437227405312)(h0:9223372036854775808*Fl.U≤Fl.Nv q):∃p,p<9218868437227405312∧Fl.Nv q=2*Fl.Nv p∧p<q∧Fl.Nv p%Fl.U=0∧floatBits .quo .f64 q 4611686018427387904=some p:=by
 have hE:Fl.B+10<Fl.E q:=Fl.xe (by rw[show 53+(Fl.B+10)=63+Fl.B by omega,Nat.pow_add,←Fl.zB];exact h0);have hU:=Fl.Jb;obtain⟨p,hp,hv⟩:=Fl.Qi h (by omega);have hm:=Fl.Yw h hp hv;rw[Fl.iY,Fl.iY]at hm;refine⟨p,hp,hv,?_,?_,hm⟩
 ·rcases Nat.lt_trichotomy p q with h1|h1|h1
  ·exact h1
  ·subst h1;have:Fl.Nv p=0:=by omega
   omega
  ·have:=Fl.BO h1;omega
 ·obtain⟨k,hk⟩:∃k,Fl.E q=(Fl.B+k)+1:=⟨Fl.E q-Fl.B-1,by omega⟩;have e:Fl.Nv p=Fl.M q*2^k*Fl.U:=by
   have h2:2*Fl.Nv p=2*(Fl.M q*2^k*Fl.U):=by
    rw[←hv,Fl.Nv,hk,Nat.pow_succ,Nat.pow_add,←Fl.zB,Nat.mul_comm Fl.U,←Nat.mul_assoc,Nat.mul_comm _ 2,Nat.mul_assoc (Fl.M q)]
   omega
  rw[e,Nat.mul_mod_left]
theorem zT:(4890909195324358656:Nat)<9218868437227405312∧Fl.Nv 4890909195324358656=9223372036854775808*Fl.U:=by
 refine⟨by decide,?_⟩;have e1:Fl.M 4890909195324358656=4503599627370496:=by decide
 have e2:Fl.E 4890909195324358656=1085:=by decide
 rw[Fl.Nv,e1,e2,Fl.zB,show 1085=11+Fl.B by rw[Fl.Ja],Nat.pow_add,←Nat.mul_assoc]
theorem fW{q:Nat}(h:q<9218868437227405312):(FloatKind.f64.format.order q 4890909195324358656==some .gt||FloatKind.f64.format.order q 4890909195324358656==some .eq)=decide (9223372036854775808*Fl.U≤Fl.Nv q):=by
 rw[tL h zT.1,zT.2];rcases Nat.lt_trichotomy (Fl.Nv q) (9223372036854775808*Fl.U)with h1|h1|h1
 ·rw[Nat.compare_eq_lt.2 h1,decide_eq_false (by omega)];rfl
 ·rw[h1,Nat.compare_eq_eq.2 rfl,decide_eq_true (by omega)];rfl
 ·rw[Nat.compare_eq_gt.2 h1,decide_eq_true (by omega)];rfl
def Zy(r q a b:Nat):Prop:=q<9218868437227405312∧Fl.Nv q*2^a=Fl.Nv r*2^b∧0<q
theorem YE(r:Nat)(hr:r<9218868437227405312)(h0:0<r)(x:Nat)(hx:x<18446744073709551616)(fX:Fl.rg x=r)(w:World)(hT:zh w):
 Calls Tryz.prog 285 #[.float .f64 x] w fun e w'=>(∃m t:Nat,m%2=1∧Fl.Nv r=m*2^t∧m<9223372036854775808∧e=.returned (.tuple #[.int .u64 m,.int .i64 ((t:Int)-1074)]))∧w=w':=by
 have HT:=Lib.hid hT;clear hT;go_enter Tryz.func285,Tryz.ntmps285;go_wp2_with fail;refine(FP x hx _).mono ?_;rintro _ _ ⟨rfl,rfl⟩;rw[fX];clear fX hx;go_wp2_with fail;go_loop [0,4] (fun v i=>∃q b:Nat,v=.float .f64 q∧i=.int .i64 (-(b:Int))∧b≤1074∧Zy r q 0 b) (fun v _=>match v with| .float _ q=>9218868437227405312-q|_=>0)
 case atStart=>exact⟨r,0,rfl,rfl,by omega,hr,rfl,h0⟩
 case round=>
  obtain⟨q,b,rfl,rfl,hb,hO⟩:=hrel;have hw:=Ve hO.1;have hq:=hO.1;by_cases hz:Fl.Nv q%Fl.U=0
  ·rw[hz]at hw;have hw':(FloatKind.f64.format.order q (Je q) != some .eq)=false:=hw;clear hw;go_wp2_with fail;refine(yt q hq _).mono ?_;rintro _ _ ⟨rfl,rfl⟩;go_wp2_with fail;go_loop [0,4] (fun v i=>∃q a:Nat,v=.float .f64 q∧i=.int .i64 ((a:Int)-b)∧q+a≤9218868437227405312∧Fl.Nv q%Fl.U=0∧Zy r q a b) (fun v _=>match v with| .float _ q=>q|_=>0)
   case atStart=>exact⟨q,0,rfl,by simp,by omega,hz,hO⟩
   case round=>
    clear hz hO hq hw';obtain⟨q,a,rfl,rfl,ha,hz,hO⟩:=hrel;have hq:=hO.1;have hw:=fW hq;by_cases Fe:9223372036854775808*Fl.U≤Fl.Nv q
    ·obtain⟨p,hp,hv,hqp,hz2,hm⟩:=Qk hq Fe;have hrun:=fun W=>run_float_arith (P:=Tryz.prog) W .quo 206 .f64 q 4611686018427387904 p hm;rw[decide_eq_true Fe]at hw;clear Fe hm hz;go_wp2_with fail;refine⟨⟨p,a+1,rfl,?_,by omega,hz2,hp,?_,?_⟩,?_⟩
     ·go_num
     ·rw[Nat.pow_succ,←hO.2.1,hv,Nat.mul_comm 2 (Fl.Nv p),Nat.mul_assoc,Nat.mul_comm 2]
     ·have h1:=hO.2.2;rcases Nat.eq_zero_or_pos p with h2|h2
      ·subst h2;have h3:Fl.Nv 0=0:=by decide
       have h4:=Fl.BO h1;omega
      ·exact h2
     ·exact hqp
    ·rw[decide_eq_false Fe]at hw;obtain⟨m,hm⟩:∃m,Fl.Iv q=m:=⟨_,rfl⟩;have nh:Fl.Nv q=m*Fl.U:=by rw[←hm];exact(Fl.Jc _ _ hz).symm
     have xh:0<Fl.Nv q:=by
      have h3:Fl.Nv 0=0:=by decide
      have h4:=Fl.BO hO.2.2;omega
     have Rm:m≠0:=by
      intro h;rw[nh,h,Nat.zero_mul]at xh;omega
     have My:m<9223372036854775808:=by
      rw[nh]at Fe;exact Nat.lt_of_mul_lt_mul_right (Nat.lt_of_not_le Fe)
     have Ec:floatToIntVal .f64 q .u64=some (m:Int):=by
      have h1:(FloatKind.f64.decode q).toInt .zero=some (m:Int):=by
       have h2:=Fl.Em (tO hq);have e1:Fl.sg q=false:=by unfold Fl.sg;rw[show q / 9223372036854775808=0 by omega];rfl
       have e2:Fl.rg q=q:=by unfold Fl.rg;omega
       rw[e1,e2,hm]at h2;exact h2
      unfold floatToIntVal;rw[h1];have e3:IntKind.min .u64=0:=by decide
      have e4:IntKind.max .u64=18446744073709551615:=by decide
      dsimp only
      rw[e3,e4,if_pos (by omega)]
     have hc:=fun W=>run_convert_float_int (P:=Tryz.prog) W 206 195 .f64 .u64 q (m:Int) (by kernel_rfl) (by kernel_rfl) Ec;obtain⟨n,hn,hk⟩:=Lib.ctzFrom_spec 64 m (by omega) (by omega);have xi:Lib.ctz 64 m=Lib.ctzFrom 64 m:=by unfold Lib.ctz;rw[if_neg Rm]
     obtain⟨k,xb⟩:∃k,Lib.ctzFrom 64 m=k:=⟨_,rfl⟩;rw[xb]at hn hk xi;have HN:=Lib.hid hn;have HM:=Lib.hid nh;clear Ec xb Fe xh hn hm nh;go_wp2_with fail;refine(fS m (by omega) Rm _ HT.out).mono ?_;rintro _ _ ⟨rfl,rfl⟩;rw[xi];go_wp2_with fail;have hn:=HN.out;have nh:=HM.out;have h2:=hO.2.1;go_ret2;have hd:m / 2^k=2*n+1:=by rw[hn];exact Nat.mul_div_cancel_left _ (Nat.two_pow_pos k)
     refine⟨⟨2*n+1,k+1074+a-b,by omega,?_,?_,ZL (nW ?_) (nW (by omega))⟩,rfl⟩
     ·obtain⟨t,ht⟩:∃t,k+1074+a-b=t:=⟨_,rfl⟩;have Cp:k+Fl.B+a=t+b:=by rw[Fl.Ja];omega
      rw[ht];refine Nat.eq_of_mul_eq_mul_right (Nat.two_pow_pos b) ?_;rw[←h2,nh,hn,Fl.zB,Nat.mul_assoc,←Nat.pow_add,Nat.mul_assoc (2*n+1),←Nat.pow_add,←Cp,Nat.mul_comm (2^k),Nat.mul_assoc,←Nat.pow_add,Nat.add_assoc]
     ·rw[←hd];exact Nat.lt_of_le_of_lt (Nat.div_le_self _ _) My
     ·rw[←hd];exact(Int.natCast_ediv m (2^k)).symm
  ·have hlt:b<1074:=by
    rcases Nat.lt_or_ge b 1074 with h|h
    ·exact h
    ·exfalso;apply hz;have h2:=hO.2.1;rw[Nat.pow_zero,Nat.mul_one,show b=Fl.B by rw[Fl.Ja];omega,←Fl.zB]at h2;rw[h2,Nat.mul_mod_left]
   obtain⟨p,hp,hv,hqp,hm⟩:=Lx hq hz;have hrun:=fun W=>run_float_arith (P:=Tryz.prog) W .mul 206 .f64 q 4611686018427387904 p hm;rw[beq_eq_false_iff_ne.2 hz]at hw;have hw':(FloatKind.f64.format.order q (Je q) != some .eq)=true:=hw;clear hw hz hm;go_wp2_with fail;refine(yt q hq _).mono ?_;rintro _ _ ⟨rfl,rfl⟩;go_wp2_with fail;refine⟨⟨p,b+1,rfl,?_,by omega,hp,?_,by omega⟩,?_⟩
   ·go_num
   ·have h2:=hO.2.1;rw[Nat.pow_zero,Nat.mul_one]at h2⊢;rw[hv,h2,Nat.pow_succ,Nat.mul_comm 2,Nat.mul_assoc]
   ·show 9218868437227405312-p<9218868437227405312-q;omega
theorem Jf(w:World)(T:TypeId)(nd:Nat)(hs:nd≤24):Holds (fun(b:UInt8)=>Value.int .u8 (b.toNat:Int)) (w.alloc (.cells Lib.zeros24 T)) w.heap.size 0 (Array.replicate nd (0:UInt8)):=fun j hj=>by
 have hj':j<nd:=by simpa using hj
 refine⟨?_,World.frozen?_alloc_new _ _ _ _⟩;rw[World.cell?_alloc_new,zeros24_at _ (by omega),getElem!_pos _ j hj];simp
theorem Vf(w:World)(o:Obj)(dk:Array UInt8)(k:Nat):∃os,(putRow (fun(b:UInt8)=>Value.int .u8 (b.toNat:Int)) (w.alloc o) w.heap.size 0 dk).drewN k=grow (w.drewN k) os:=by
 rw[alloc_eq_grow];obtain⟨os',_,e⟩:=putRow_grow_new (fun(b:UInt8)=>Value.int .u8 (b.toNat:Int)) w #[o] w.heap.size 0 dk (Nat.le_refl _);exact⟨os',by rw[e];rfl⟩
def BU(w:World):Prop:=Lib.TabIs Tryz.prog w "internal/strconv.uint64pow10" .u64 Lib.pow10Tab
theorem Dp(u:Nat)(KZ:u<18446744073709551616)(w:World)(Di:BU w):
 Calls Tryz.prog 310 #[.int .u64 u,.int .i64 10] w fun e w'=>e=.returned (.string ⟨(Lib.decDigits u).toArray⟩)∧∃k os,w'=grow (w.drewN k) os:=by
 by_cases hs:u<100
 ·go_enter Tryz.func310,Tryz.ntmps310;go_wp2_with fail;refine(Tryz.internal_strconv_small u hs _).mono ?_;rintro _ _ ⟨rfl,rfl⟩;go_wp2_with fail;go_ret;exact⟨rfl,0,#[],by simp[World.drewN_zero]⟩
 ·have hu1:1≤u:=by omega
  have aax:Lib.nDigits u≤20:=by have:=Lib.numDigits_eq u hu1 KZ;split at this<;>omega
  have LS:Tryz.prog.arrayLen 287=24:=by kernel_rfl
  have adl:∀W,(Instr.sliceAt 287 (.pointer (some ⟨w.heap.size,0,none⟩)) none (some (.int .i64 (Lib.nDigits u:Int))) none).run Tryz.prog W=.ok (.slice (some ⟨w.heap.size,0,none⟩) (Lib.nDigits u) 24) W:=fun W=>by
   rw[run_sliceAt_array_h W 287 ⟨w.heap.size,0,none⟩ (by kernel_rfl) .i64 (Lib.nDigits u:Int) (by omega) (by rw[LS];omega)];go_simp
  have Mz:=Jf w 287 (Lib.nDigits u) (by omega);have xj:=Tryz.internal_strconv_formatBase10 w.heap.size 0 24 u (Array.replicate (Lib.nDigits u) 0) (w.alloc (.cells Lib.zeros24 287)) Mz (by rw[Array.size_replicate];exact Lib.lt_pow_nDigits u) KZ (by rw[Array.size_replicate];omega);rw[Array.size_replicate]at xj;have HH0:=Lib.hid Mz;clear Mz LS;go_enter Tryz.func310,Tryz.ntmps310;go_wp2_with fail;refine(Tryz.internal_strconv_numDigits u hu1 KZ _ (Lib.tabIs_alloc Di _)).mono ?_;rintro _ _ ⟨rfl,rfl⟩;go_wp2_with fail;refine xj.mono ?_;rintro e w' ⟨rfl,k,v',dk,rfl,hF⟩;have hcv:(convert 90 9 (.slice (some ⟨w.heap.size,0,none⟩) (Lib.nDigits u) 24)).run Tryz.prog ((putRow (fun(b:UInt8)=>Value.int .u8 (b.toNat:Int)) (w.alloc (.cells Lib.zeros24 287)) w.heap.size 0 dk).drewN k)=.ok (.string ⟨(Lib.decDigits u).toArray⟩) ((putRow (fun(b:UInt8)=>Value.int .u8 (b.toNat:Int)) (w.alloc (.cells Lib.zeros24 287)) w.heap.size 0 dk).drewN k):=by
   have h:=run_convert_bytes_back (P:=Tryz.prog) ((putRow (fun(b:UInt8)=>Value.int .u8 (b.toNat:Int)) (w.alloc (.cells Lib.zeros24 287)) w.heap.size 0 dk).drewN k) 90 9 5 ⟨w.heap.size,0,none⟩ 24 (Lib.decDigits u) (by kernel_rfl) (by kernel_rfl) (by kernel_rfl) (fun j hj=>by
    rw[Lib.row_is_numeral hF j hj,Lib.add_plain,World.cell?_drewN];exact cell?_putRow (fun(b:UInt8)=>Value.int .u8 (b.toNat:Int)) _ w.heap.size 0 _ dk HH0.out (by rw[hF.size,Array.size_replicate]) j (by rw[hF.size];rw[Lib.decDigits_length]at hj;exact hj))
   rw[Lib.decDigits_length]at h;exact h
  go_wp2;go_ret;obtain⟨os,eo⟩:=Vf w (.cells Lib.zeros24 287) dk k;exact⟨rfl,k,os,eo⟩
theorem Ep{name:String}{k:IntKind}{zs:List Int}{w w':World}(h:Lib.TabIs Tryz.prog w name k zs)(ht:Touch [] w w'):Lib.TabIs Tryz.prog w' name k zs:=by
 unfold Lib.TabIs World.var? at*;cases hg:Tryz.prog.globalNamed name with
 |none=>simp[hg]at h
 |some g=>
  simp only[hg,Option.bind_some]at h⊢;have hlt:g<w.heap.size:=by
   rcases Nat.lt_or_ge g w.heap.size with h'|h'
   ·exact h'
   ·rw[Array.getElem?_eq_none h']at h;simp at h
  rw[ht.block g hlt (by simp)];exact h
theorem vk(w:World)(k:Nat)(os:Array Obj):Touch [] w (grow (w.drewN k) os):=Touch.dh (Go.Lib.below_grow _ w (Nat.le_refl _) k os) _
theorem BX(u:Nat)(KZ:u<18446744073709551616)(w:World)(Di:BU w):
 Calls Tryz.prog 286 #[.int .u64 u,.int .i64 10] w fun e w'=>e=.returned (.string ⟨(Lib.decDigits u).toArray⟩)∧Touch [] w w':=by
 go_enter Tryz.func286,Tryz.ntmps286;go_wp2_with fail;refine(Dp u KZ _ Di).mono ?_;rintro _ w1 ⟨rfl,k,os,rfl⟩;go_wp2_with fail;go_ret;exact⟨rfl,vk _ _ _⟩
theorem YF{r m t:Nat}(hr:r<9218868437227405312)(hm:m%2=1)(h:Fl.Nv r=m*2^t):t<4000:=by
 have Rm:m≠0:=by omega
 have hE:=Fl.xd hr;rcases Fl.Va r with h0|h0
 ·rw[Fl.Nv,h0,Nat.zero_mul]at h;rcases Nat.mul_eq_zero.1 h.symm with h1|h1
  ·exact absurd h1 Rm
  ·exact absurd h1 (Nat.ne_of_gt (Nat.two_pow_pos _))
 ·have hM:Fl.M r≠0:=by
   intro h1;rw[Fl.Nv,h1,Nat.zero_mul]at h;rcases Nat.mul_eq_zero.1 h.symm with h1|h1
   ·exact absurd h1 Rm
   ·exact absurd h1 (Nat.ne_of_gt (Nat.two_pow_pos _))
  have e1:=Fl.gK (Fl.M r) (Fl.E r) hM;have e2:=Fl.gK m t Rm;rw[←h]at e2;rw[show Fl.M r*2^Fl.E r=Fl.Nv r from rfl]at e1;omega
theorem wL(m:Nat)(h:m<18446744073709551616):(⟨(Lib.decDigits m).toArray⟩:ByteArray).size≤20:=by
 show(Lib.decDigits m).toArray.size≤20;rw[List.size_toArray,Lib.decDigits_length];rcases Nat.eq_zero_or_pos m with h0|h0
 ·subst h0;decide+kernel
 ·have:=Lib.numDigits_eq m h0 h;split at this<;>omega
theorem yu(n:Int)(h0: -5000≤n)(h1:n≤5000):(⟨(Lib.itoa n).toArray⟩:ByteArray).size≤21:=by
 show(Lib.itoa n).toArray.size≤21;rw[List.size_toArray];rcases Int.lt_or_le n 0 with h|h
 ·obtain⟨u,rfl⟩:∃u:Nat,n= -(u:Int):=⟨n.natAbs,by omega⟩;have:=wL u (by omega);rw[Lib.itoa_neg u (by omega),List.length_cons];have e:(⟨(Lib.decDigits u).toArray⟩:ByteArray).size=(Lib.decDigits u).length:=by show(Lib.decDigits u).toArray.size=_;rw[List.size_toArray]
  omega
 ·obtain⟨u,rfl⟩:∃u:Nat,n=(u:Int):=⟨n.toNat,by omega⟩;have:=wL u (by omega);rw[Lib.itoa_nonneg];have e:(⟨(Lib.decDigits u).toArray⟩:ByteArray).size=(Lib.decDigits u).length:=by show(Lib.decDigits u).toArray.size=_;rw[List.size_toArray]
  omega
def Dq(x:Nat):ByteArray:=if Fl.sg x then⟨#[45]⟩else⟨#[]⟩
def mI(x:Nat)(s:ByteArray):Prop:=
 (uo x∧s=⟨#[110,97,110]⟩)∨(Fl.rg x=9218868437227405312∧s=Dq x++⟨#[105,110,102]⟩)∨(Fl.rg x=0∧s=Dq x++⟨#[48]⟩++⟨#[112]⟩++⟨#[48]⟩)∨
 (Fl.rg x<9218868437227405312∧∃m t:Nat,m%2=1∧Fl.Nv (Fl.rg x)=m*2^t∧m<9223372036854775808∧t<4000∧s=Dq x++⟨(Lib.decDigits m).toArray⟩++⟨#[112]⟩++⟨(Lib.itoa ((t:Int)-1074)).toArray⟩)
theorem Ql{x:Nat}(h:Fl.rg x<9218868437227405312):(FloatKind.f64.format.order x 0==some .eq)=(Fl.rg x==0):=by
 have h0:Fl.fin 0:=tO (by omega);have ho:FloatKind.f64.format.order x 0=_:=Fl.lu (x:=x) (y:=0) h h0;rw[ho,show Fl.Zv 0=0 by decide];by_cases hz:Fl.rg x=0
 ·have:Fl.Zv x=0:=by unfold Fl.Zv;rw[hz,show Fl.Nv 0=0 by decide];split<;>rfl
  rw[this,hz,Int.compare_eq_eq.2 rfl];rfl
 ·have hp:0<Fl.Nv (Fl.rg x):=by
   have:=Fl.BO (r:=0) (r':=Fl.rg x) (by omega);omega
  have hne:Fl.Zv x≠0:=by unfold Fl.Zv;split<;>omega
  rw[beq_eq_false_iff_ne.2 hz];rcases Int.lt_trichotomy (Fl.Zv x) 0 with h1|h1|h1
  ·rw[Int.compare_eq_lt.2 h1];rfl
  ·exact absurd h1 hne
  ·rw[Int.compare_eq_gt.2 h1];rfl
theorem Vg(a:Int)(w:World)(hT:zh w)(hP:BU w):
 Calls Tryz.prog 226 #[.int .i64 a] w fun e w'=>∃s,mI (bitsOf a) s∧e=.returned (.string s)∧Touch [] w w':=by
 obtain⟨x,hx⟩:∃x,bitsOf a=x:=⟨_,rfl⟩;have hlt:x<18446744073709551616:=by rw[←hx];exact eX a
 have hN:=dB a;rw[hx]at hN⊢;clear hx;have Wp:Dq x=if Fl.sg x then⟨#[45]⟩else⟨#[]⟩:=rfl
 have ho:=BQ x;have HT:=Lib.hid hT;have HP:=Lib.hid hP;have HX:=Lib.hid hlt;clear hT hP hlt;have nj:FloatKind.f64.format.order x x=Ieee.double.order x x:=rfl;obtain⟨sx,oW⟩:∃sx,Dq x=sx:=⟨_,rfl⟩;by_cases FQ:uo x
 ·rw[if_pos FQ]at ho;rw[ho]at nj;have hw:(FloatKind.f64.format.order x x != some .eq)=true:=by rw[nj];rfl
  have HR:Hid (mI x ⟨#[110,97,110]⟩):=.inl ⟨FQ,rfl⟩;clear ho nj FQ Wp oW;rcases hs:Fl.sg x with _|_
  all_goals
   go_enter Tryz.func226,Tryz.ntmps226;go_wp2_with fail;refine(hN _).mono ?_;rintro _ _ ⟨rfl,rfl⟩;go_wp2_with fail;refine(oI x HX.out _).mono ?_;rintro _ _ ⟨rfl,rfl⟩;go_wp2_with fail;go_ret;exact⟨_,HR.out,rfl,Touch.refl _ _⟩
 ·rw[if_neg FQ]at ho;rw[ho]at nj;have hw:(FloatKind.f64.format.order x x != some .eq)=false:=by rw[nj];rfl
  have hn2:Fl.rg x≤9218868437227405312:=by unfold uo at FQ;omega
  clear ho nj FQ;by_cases Vh:Fl.rg x=9218868437227405312
  ·have HR:Hid (mI x (sx++⟨#[105,110,102]⟩)):=.inr (.inl ⟨Vh,by rw[oW]⟩);have hi:(Fl.rg x==9218868437227405312)=true:=by rw[Vh];rfl
   clear Vh hn2;rcases hs:Fl.sg x with _|_
   all_goals
    rw[hs]at Wp;rw[oW]at Wp;have Vi:sx=_:=Wp;subst Vi;clear oW;go_enter Tryz.func226,Tryz.ntmps226;go_wp2_with fail;refine(hN _).mono ?_;rintro _ _ ⟨rfl,rfl⟩;go_wp2_with fail;refine(oI x HX.out _).mono ?_;rintro _ _ ⟨rfl,rfl⟩;go_wp2_with fail;refine(yh x HX.out _).mono ?_;rintro _ _ ⟨rfl,rfl⟩;go_wp2_with fail;go_ret;exact⟨_,HR.out,rfl,Touch.refl _ _⟩
  ·have hi:(Fl.rg x==9218868437227405312)=false:=beq_eq_false_iff_ne.2 Vh;have dw:Fl.rg x<9218868437227405312:=by omega
   have hz:=Ql dw;have HF:=Lib.hid dw;clear Vh hn2;by_cases hzero:Fl.rg x=0
   ·have HR:Hid (mI x (sx++⟨#[48]⟩++⟨#[112]⟩++⟨#[48]⟩)):=.inr (.inr (.inl ⟨hzero,by rw[oW]⟩));rw[hzero]at hz;have hz':(FloatKind.f64.format.order x 0==some .eq)=true:=hz;clear dw hzero hz;rcases hs:Fl.sg x with _|_
    all_goals
     rw[hs]at Wp;rw[oW]at Wp;have Vi:sx=_:=Wp;subst Vi;clear oW;go_enter Tryz.func226,Tryz.ntmps226;go_wp2_with fail;refine(hN _).mono ?_;rintro _ _ ⟨rfl,rfl⟩;go_wp2_with fail;refine(oI x HX.out _).mono ?_;rintro _ _ ⟨rfl,rfl⟩;go_wp2_with fail;refine(yh x HX.out _).mono ?_;rintro _ _ ⟨rfl,rfl⟩;go_wp2_with fail;go_ret;exact⟨_,HR.out,rfl,Touch.refl _ _⟩
   ·rw[beq_eq_false_iff_ne.2 hzero]at hz;have HR:Hid (∀m t:Nat,m%2=1→Fl.Nv (Fl.rg x)=m*2^t→m<9223372036854775808→t<4000→mI x (sx++⟨(Lib.decDigits m).toArray⟩++⟨#[112]⟩++⟨(Lib.itoa ((t:Int)-1074)).toArray⟩)):=
     fun m t h1 h2 h3 h4=>.inr (.inr (.inr ⟨dw,m,t,h1,h2,h3,h4,by rw[oW]⟩))
    have HO:Hid (0<Fl.rg x):=Nat.pos_of_ne_zero hzero;clear dw hzero;rcases hs:Fl.sg x with _|_
    all_goals
     rw[hs]at Wp;rw[oW]at Wp;have Vi:sx=_:=Wp;subst Vi;clear oW;go_enter Tryz.func226,Tryz.ntmps226;go_wp2_with fail;refine(hN _).mono ?_;rintro _ _ ⟨rfl,rfl⟩;go_wp2_with fail;refine(oI x HX.out _).mono ?_;rintro _ _ ⟨rfl,rfl⟩;go_wp2_with fail;refine(yh x HX.out _).mono ?_;rintro _ _ ⟨rfl,rfl⟩;go_wp2_with fail;refine(YE (Fl.rg x) HF.out HO.out x HX.out rfl _ HT.out).mono ?_;rintro _ _ ⟨⟨m,t,h1,h2,h3,rfl⟩,rfl⟩;have h4:=YF HF.out h1 h2;have KR:=HR.out m t h1 h2 h3 h4;have HU:=fun W=>BX m (by omega) W;have HI:=fun W=>Tryz.strconv_Itoa ((t:Int)-1074) (by omega) (by omega) W;have hz1:=wL m (by omega);have hz2:=yu ((t:Int)-1074) (by omega) (by omega);obtain⟨sm,hsm⟩:∃sm:ByteArray,⟨(Lib.decDigits m).toArray⟩=sm:=⟨_,rfl⟩;obtain⟨st,hst⟩:∃st:ByteArray,⟨(Lib.itoa ((t:Int)-1074)).toArray⟩=st:=⟨_,rfl⟩;simp only[hsm,hst]at KR hz1 hz2 HU HI;have HR3:=Lib.hid KR;clear h1 h2 HR KR hsm hst;go_wp2_with fail;refine(HU _ HP.out).mono ?_;rintro _ w1 ⟨rfl,YS⟩;go_wp2_with fail;refine(HI _ (Ep HP.out YS)).mono ?_;rintro _ _ ⟨rfl,k,os,rfl⟩;have Cp:=YS.trans (vk w1 k os) (by simp);obtain⟨w2,hw2⟩:∃w2,grow (w1.drewN k) os=w2:=⟨_,rfl⟩;rw[hw2]at Cp⊢;go_wp2_with fail;go_ret;exact⟨_,HR3.out,rfl,Cp⟩
theorem BZ:Fl.Zv 4890909195324358656=9223372036854775808*(Fl.U:Int)∧Fl.fin 4890909195324358656:=by
 have h:=zT;refine⟨?_,tO h.1⟩;unfold Fl.Zv;rw[show Fl.sg 4890909195324358656=false by decide,show Fl.rg 4890909195324358656=4890909195324358656 by decide,h.2];simp
theorem Er:Fl.Zv 14114281232179134464= -9223372036854775808*(Fl.U:Int)∧Fl.fin 14114281232179134464:=by
 have h:=zT;have e:Fl.rg 14114281232179134464=4890909195324358656:=by decide
 refine⟨?_,by unfold Fl.fin;rw[e];exact h.1⟩;unfold Fl.Zv;rw[show Fl.sg 14114281232179134464=true by decide,e,h.2];simp[Int.neg_mul]
theorem Es{y:Nat}(hy:Fl.fin y){v:Int}(h:Fl.Zv y=v*(Fl.U:Int)):(FloatKind.f64.format.order y 14114281232179134464==some .gt||FloatKind.f64.format.order y 14114281232179134464==some .eq)=decide (-9223372036854775808≤v):=by
 have ho:FloatKind.f64.format.order y 14114281232179134464=_:=Fl.lu hy Er.2;rw[ho,h,Er.1,Fl.rW _ _ _ (by exact_mod_cast Fl.Jb)];rcases Int.lt_trichotomy v (-9223372036854775808)with h1|h1|h1
 ·rw[Int.compare_eq_lt.2 h1,decide_eq_false (by omega)];rfl
 ·rw[h1,Int.compare_eq_eq.2 rfl];rfl
 ·rw[Int.compare_eq_gt.2 h1,decide_eq_true (by omega)];rfl
theorem Et{y:Nat}(hy:Fl.fin y){v:Int}(h:Fl.Zv y=v*(Fl.U:Int)):(FloatKind.f64.format.order y 4890909195324358656==some .lt)=decide (v<9223372036854775808):=by
 have ho:FloatKind.f64.format.order y 4890909195324358656=_:=Fl.lu hy BZ.2;rw[ho,h,BZ.1,Fl.rW _ _ _ (by exact_mod_cast Fl.Jb)];rcases Int.lt_trichotomy v 9223372036854775808 with h1|h1|h1
 ·rw[Int.compare_eq_lt.2 h1,decide_eq_true h1];rfl
 ·rw[h1,Int.compare_eq_eq.2 rfl];rfl
 ·rw[Int.compare_eq_gt.2 h1,decide_eq_false (by omega)];rfl
theorem Vj{y:Nat}{v:Int}(h:Fl.Zv y=v*(Fl.U:Int)):Fl.Iv (Fl.rg y)=v.natAbs:=by
 have h1:=Fl.Qj y;rw[h,Int.natAbs_mul,Int.natAbs_natCast]at h1;unfold Fl.Iv;rw[←h1,Nat.mul_div_cancel _ Fl.Jb]
theorem Ca{y:Nat}(hy:Fl.fin y){v:Int}(h:Fl.Zv y=v*(Fl.U:Int))(h0: -9223372036854775808≤v)(h1:v<9223372036854775808):floatToIntVal .f64 y .i64=some v:=by
 have hI:=Vj h;have na:(if Fl.sg y then -(Fl.Iv (Fl.rg y):Int)else(Fl.Iv (Fl.rg y):Int))=v:=by
  rw[hI];have hp:(0:Int)<(Fl.U:Int):=by exact_mod_cast Fl.Jb
  unfold Fl.Zv at h;cases hs:Fl.sg y
  ·rw[hs,if_neg (by simp)]at h;have hv:0≤v:=by
    rcases Int.lt_or_le v 0 with h2|h2
    ·have:=Int.mul_neg_of_neg_of_pos h2 hp;omega
    ·exact h2
   rw[if_neg (by simp)];omega
  ·rw[hs,if_pos rfl]at h;have hv:v≤0:=by
    rcases Int.lt_or_le 0 v with h2|h2
    ·have:=Int.mul_pos h2 hp;omega
    ·exact h2
   rw[if_pos rfl];omega
 have h2:(FloatKind.f64.decode y).toInt .zero=some v:=by
  have h3:=Fl.Em hy;rw[na]at h3;exact h3
 unfold floatToIntVal;rw[h2];have e3:IntKind.min .i64= -9223372036854775808:=by decide
 have e4:IntKind.max .i64=9223372036854775807:=by decide
 dsimp only
 rw[e3,e4,if_pos (by omega)]
theorem wM{P:Program}(W:World)(x:Nat):(Op.unary .neg (.float .f64 x)).run P W=.ok (.float .f64 (Op.negFloat .f64 x)) W:=rfl
def mP(x:Nat):Int:=if Fl.sg x then -(Fl.Iv (Fl.rg x):Int)else(Fl.Iv (Fl.rg x):Int)
def Dr(v:Int):Value:=if -9223372036854775808≤v∧v<9223372036854775808 then .tuple #[.int .i64 v,.int .i64 0]else .tuple #[.int .i64 0,.int .i64 (-43)]
theorem fY(a:Int)(hf:Fl.fin (bitsOf a))(w:World):Calls Tryz.prog 193 #[.int .i64 a] w fun e w'=>e=.returned (Dr (mP (bitsOf a)))∧w=w':=by
 obtain⟨x,hx⟩:∃x,bitsOf a=x:=⟨_,rfl⟩;have hlt:x<18446744073709551616:=by rw[←hx];exact eX a
 have hN:=dB a;rw[hx]at hN hf⊢;clear hx;have hr:Fl.rg x<9218868437227405312:=hf;obtain⟨hq,hv⟩:=Eo hr;obtain⟨q,MA⟩:∃q,Je (Fl.rg x)=q:=⟨_,rfl⟩;have iN:=fun W=>yt (Fl.rg x) hr W;rw[MA]at hq hv iN;have h0:Fl.fin 0:=tO (by omega);have ho:FloatKind.f64.format.order x 0=_:=Fl.lu (x:=x) (y:=0) hf h0;rw[show Fl.Zv 0=0 by decide]at ho;by_cases qZ:Fl.Zv x<0
 ·
  rw[Int.compare_eq_lt.2 qZ]at ho;have hl:(FloatKind.f64.format.order x 0==some .lt)=true:=by rw[ho];rfl
  have hs:Fl.sg x=true:=by
   cases h:Fl.sg x
   ·unfold Fl.Zv at qZ;rw[h,if_neg (by simp)]at qZ;omega
   ·rfl
  have Wi:9223372036854775808≤x:=by
   unfold Fl.sg at hs;rcases Nat.lt_or_ge x 9223372036854775808 with h|h
   ·rw[show x / 9223372036854775808=0 by omega]at hs;cases hs
   ·exact h
  have en:Op.negFloat .f64 x=Fl.rg x:=by rw[rX x hlt];unfold zk Fl.rg;rw[if_neg (by omega)];omega
  have hen:=fun W=>wM (P:=Tryz.prog) W x;rw[en]at hen;have B7:Op.negFloat .f64 q=9223372036854775808+q:=by rw[rX q (by omega)];unfold zk;rw[if_pos (by omega)]
  obtain⟨y,hy⟩:∃y,9223372036854775808+q=y:=⟨_,rfl⟩;have hyr:Fl.rg y=q:=by unfold Fl.rg;omega
  have YG:Fl.fin y:=by unfold Fl.fin;omega
  have np:Fl.sg y=true:=by unfold Fl.sg;rw[show y / 9223372036854775808=1 by omega];rfl
  have hz:Fl.Zv y=mP x*(Fl.U:Int):=by
   unfold Fl.Zv mP;rw[hyr,np,hs,if_pos rfl,if_pos rfl,hv,Int.natCast_mul,Int.neg_mul]
  have ql:=Es YG hz;have Qm:=Et YG hz;have hcv:=Ca YG hz;rw[hy]at B7;have gi:=fun W=>wM (P:=Tryz.prog) W q;rw[B7]at gi;obtain⟨v,nr⟩:∃v,mP x=v:=⟨_,rfl⟩;rw[nr]at ql Qm hcv⊢;have hv0:v≤0:=by rw[←nr];unfold mP;rw[hs,if_pos rfl];omega
  rw[decide_eq_true (show v<9223372036854775808 by omega)]at Qm;clear ho qZ hs Wi hy hyr YG np hz nr MA hv h0 hf;by_cases qY: -9223372036854775808≤v
  ·have hT:Dr v=.tuple #[.int .i64 v,.int .i64 0]:=by unfold Dr;rw[if_pos (by omega)]
   have hc:=fun W=>run_convert_float_int (P:=Tryz.prog) W 206 33 .f64 .i64 y v (by kernel_rfl) (by kernel_rfl) (hcv qY (by omega));rw[decide_eq_true qY]at ql;rw[hT];clear hT hcv;go_enter Tryz.func193,Tryz.ntmps193;go_wp2_with fail;refine(hN _).mono ?_;rintro _ _ ⟨rfl,rfl⟩;go_wp2_with fail;refine(iN _).mono ?_;rintro _ _ ⟨rfl,rfl⟩;go_wp2_with fail;go_ret2;exact⟨rfl,rfl⟩
  ·have hT:Dr v=.tuple #[.int .i64 0,.int .i64 (-43)]:=by unfold Dr;rw[if_neg (by omega)]
   rw[decide_eq_false qY]at ql;rw[hT];clear hT hcv;go_enter Tryz.func193,Tryz.ntmps193;go_wp2_with fail;refine(hN _).mono ?_;rintro _ _ ⟨rfl,rfl⟩;go_wp2_with fail;refine(iN _).mono ?_;rintro _ _ ⟨rfl,rfl⟩;go_wp2_with fail;go_ret2;exact⟨rfl,rfl⟩
 ·
  have hl:(FloatKind.f64.format.order x 0==some .lt)=false:=by
   rw[ho];rcases Int.lt_trichotomy (Fl.Zv x) 0 with h|h|h
   ·exact absurd h qZ
   ·rw[h,Int.compare_eq_eq.2 rfl];rfl
   ·rw[Int.compare_eq_gt.2 h];rfl
  obtain⟨y,YG,hz,Vk⟩:∃y,Fl.fin y∧Fl.Zv y=mP x*(Fl.U:Int)∧∀W,Calls Tryz.prog 280 #[.float .f64 x] W fun e w'=>e=.returned (.float .f64 y)∧W=w':=by
   cases hs:Fl.sg x
   ·have yz:Fl.rg x=x:=by
     unfold Fl.sg at hs;unfold Fl.rg;rcases Nat.lt_or_ge x 9223372036854775808 with h|h
     ·omega
     ·rw[show x / 9223372036854775808=1 by omega]at hs;cases hs
    refine⟨q,tO hq,?_,?_⟩
    ·have e1:Fl.sg q=false:=by unfold Fl.sg;rw[show q / 9223372036854775808=0 by omega];rfl
     have e2:Fl.rg q=q:=by unfold Fl.rg;omega
     unfold Fl.Zv mP;rw[hs,e1,e2,hv,if_neg (by simp),if_neg (by simp),Int.natCast_mul]
    ·rw[yz]at iN;exact iN
   ·have jk:Fl.rg x=0:=by
     rcases Nat.eq_zero_or_pos (Fl.rg x)with h|h
     ·exact h
     ·have:=Fl.BO h;exfalso;apply qZ;unfold Fl.Zv;rw[hs,if_pos rfl];omega
    have hx:x=9223372036854775808:=by
     unfold Fl.sg at hs;unfold Fl.rg at jk;rcases Nat.lt_or_ge x 9223372036854775808 with h|h
     ·rw[show x / 9223372036854775808=0 by omega]at hs;cases hs
     ·omega
    subst hx;refine⟨9223372036854775808,hf,by decide+kernel,fun W=> ?_⟩;have Mu:=Ej 9223372036854775808 hf W;rw[show FloatKind.f64.encode ((FloatKind.f64.decode 9223372036854775808).integral .down)=9223372036854775808 by decide+kernel]at Mu;exact tK _ _ _ _ Mu
  have ql:=Es YG hz;have Qm:=Et YG hz;have hcv:=Ca YG hz;have hv0:0≤mP x:=by
   unfold mP;cases hs:Fl.sg x
   ·rw[if_neg (by simp)];omega
   ·have:Fl.Iv (Fl.rg x)=0:=by
     have:Fl.Nv (Fl.rg x)=0:=by unfold Fl.Zv at qZ;rw[hs,if_pos rfl]at qZ;omega
     unfold Fl.Iv;rw[this,Nat.zero_div]
    rw[if_pos rfl,this];decide
  obtain⟨v,nr⟩:∃v,mP x=v:=⟨_,rfl⟩;rw[nr]at ql Qm hcv hv0⊢;rw[decide_eq_true (show -9223372036854775808≤v by omega)]at ql;clear ho qZ YG hz nr MA hv hq iN h0 hf;by_cases qY:v<9223372036854775808
  ·have hT:Dr v=.tuple #[.int .i64 v,.int .i64 0]:=by unfold Dr;rw[if_pos (by omega)]
   have hc:=fun W=>run_convert_float_int (P:=Tryz.prog) W 206 33 .f64 .i64 y v (by kernel_rfl) (by kernel_rfl) (hcv (by omega) qY);rw[decide_eq_true qY]at Qm;rw[hT];clear hT hcv;go_enter Tryz.func193,Tryz.ntmps193;go_wp2_with fail;refine(hN _).mono ?_;rintro _ _ ⟨rfl,rfl⟩;go_wp2_with fail;refine(Vk _).mono ?_;rintro _ _ ⟨rfl,rfl⟩;go_wp2_with fail;go_ret2;exact⟨rfl,rfl⟩
  ·have hT:Dr v=.tuple #[.int .i64 0,.int .i64 (-43)]:=by unfold Dr;rw[if_neg (by omega)]
   rw[decide_eq_false qY]at Qm;rw[hT];clear hT hcv;go_enter Tryz.func193,Tryz.ntmps193;go_wp2_with fail;refine(hN _).mono ?_;rintro _ _ ⟨rfl,rfl⟩;go_wp2_with fail;refine(Vk _).mono ?_;rintro _ _ ⟨rfl,rfl⟩;go_wp2_with fail;go_ret2;exact⟨rfl,rfl⟩
end Go.Proofs.YtdokeddjcpnmiaaGreatDoor.Rl
