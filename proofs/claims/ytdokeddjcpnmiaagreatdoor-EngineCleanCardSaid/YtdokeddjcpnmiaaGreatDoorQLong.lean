/- Of EngineClean: Cell2 Cell3 OneTwo Ops1 PairA PairB Long Long2 Step Dig1. -/
import Derived.Test.YtdokeddjcpnmiaaGreatDoorQTotMem
import Derived.Handy
set_option maxRecDepth 100000
set_option maxHeartbeats 4000000
namespace Go.Proofs.YtdokeddjcpnmiaaGreatDoor
open Go.RowKit Go.Proofs.Tryz
open Go.Lib(hid)
def gV(a b:Int):Int×Int:=
 if a.tmod b=0∨0≤bits .xor .i64 (a.tmod b) b then(wrap64 (a.tdiv b),a.tmod b)else(wrap64 (wrap64 (a.tdiv b)-1),wrap64 (a.tmod b+b))
theorem Pv(a b:Int)(h:au a):au (a.tmod b):=by
 unfold au at*;rcases Int.le_total 0 a with h0|h0
 ·have h1:=Int.tmod_nonneg (a:=a) b h0;have h2:a.tmod b≤a:=by
   have:=Int.natAbs_tmod a b;have h3:(a.tmod b).natAbs≤a.natAbs:=by rw[this];exact Nat.mod_le _ _
   omega
  omega
 ·have h3:(a.tmod b).natAbs≤a.natAbs:=by rw[Int.natAbs_tmod];exact Nat.mod_le _ _
  have h4:a.tmod b≤0:=by
   have:=Int.tmod_nonneg (a:= -a) b (by omega);rw[Int.neg_tmod]at this;omega
  omega
theorem Dj(a b:Int)(h:au a):au (gV a b).1∧au (gV a b).2:=by
 unfold gV;split
 ·exact⟨aV _,Pv a b h⟩
 ·exact⟨aV _,aV _⟩
theorem yY(a b:Int)(hb:¬b=0)(w:World):Calls prog 253 #[.int .i64 a,.int .i64 b] w fun e w'=>
 e=.returned (.tuple #[.int .i64 (gV a b).1,.int .i64 (gV a b).2])∧Touch [] w w':=by
 unfold gV;by_cases h1:a.tmod b=0
 ·rw[if_pos (.inl h1)];go_enter func253,ntmps253;go_wp2;go_quiet (fail)
  go_wp2
  all_goals go_ret2
  all_goals refine⟨?_,(Touch.refl _ _).drewN _⟩
  all_goals first|rfl|(rw[h1];rfl)
 have cg:(a.tmod b != 0)=true:=by simp[h1]
 by_cases h2:0≤bits .xor .i64 (a.tmod b) b
 ·rw[if_pos (.inr h2)];have px:¬bits .xor .i64 (a.tmod b) b<0:=by omega
  go_enter func253,ntmps253;go_wp2;go_quiet (fail)
  go_wp2
  all_goals go_ret2
  all_goals exact⟨rfl,(Touch.refl _ _).drewN _⟩
 ·rw[if_neg (by omega)];have px:bits .xor .i64 (a.tmod b) b<0:=by omega
  go_enter func253,ntmps253;go_wp2;go_quiet (fail)
  go_wp2
  all_goals go_ret2
  all_goals exact⟨rfl,(Touch.refl _ _).drewN _⟩
def eY(f:FuncId)(a b r:Int)(w:World):Prop:=Calls prog f #[.int .i64 a,.int .i64 b] w fun e w'=>e=.returned (.int .i64 r)∧Touch [] w w'
theorem D1(a b:Int)(w:World):eY 249 a b (wrap64 (a+b)) w:=by
 unfold eY;go_enter func249,ntmps249;go_wp2;go_ret;exact⟨rfl,Touch.refl _ _⟩
theorem D2(a b:Int)(w:World):eY 250 a b (wrap64 (a-b)) w:=by
 unfold eY;go_enter func250,ntmps250;go_wp2;go_ret;exact⟨rfl,Touch.refl _ _⟩
theorem D3(a b:Int)(w:World):eY 251 a b (wrap64 (a*b)) w:=by
 unfold eY;go_enter func251,ntmps251;go_wp2;go_ret;exact⟨rfl,Touch.refl _ _⟩
theorem D4(a b:Int)(hb:¬b=0)(w:World):eY 252 a b (gV a b).1 w:=by
 unfold eY;have hT:=fun w=>yY a b hb w;generalize gV a b=r at hT⊢;go_enter func252,ntmps252;go_wp2_with fail;refine(hT _).mono ?_;rintro _ w1 ⟨rfl,t1⟩;go_wp2;go_ret;exact⟨rfl,t1⟩
theorem D5(a b:Int)(hb:¬b=0)(w:World):eY 254 a b (gV a b).2 w:=by
 unfold eY;have hT:=fun w=>yY a b hb w;generalize gV a b=r at hT⊢;go_enter func254,ntmps254;go_wp2_with fail;refine(hT _).mono ?_;rintro _ w1 ⟨rfl,t1⟩;go_wp2;go_ret;exact⟨rfl,t1⟩
theorem D6(a b:Int)(w:World):eY 255 a b (bits .and .i64 a b) w:=by
 unfold eY;go_enter func255,ntmps255;go_wp2;go_ret;exact⟨rfl,Touch.refl _ _⟩
theorem D7(a b:Int)(w:World):eY 256 a b (bits .or .i64 a b) w:=by
 unfold eY;go_enter func256,ntmps256;go_wp2;go_ret;exact⟨rfl,Touch.refl _ _⟩
theorem D8(a b:Int)(w:World):eY 257 a b (bits .xor .i64 a b) w:=by
 unfold eY;go_enter func257,ntmps257;go_wp2;go_ret;exact⟨rfl,Touch.refl _ _⟩
theorem D9(a b:Int)(w:World):eY 258 a b (wrap64 (a*2^min (IntKind.u64.wrap b).toNat 64)) w:=by
 unfold eY;go_enter func258,ntmps258;go_wp2;go_ret;exact⟨rfl,Touch.refl _ _⟩
theorem D10(a b:Int)(w:World):eY 259 a b (wrap64 (IntKind.u64.wrap a / 2^min (IntKind.u64.wrap b).toNat 64)) w:=by
 unfold eY;go_enter func259,ntmps259;go_wp2;go_ret;exact⟨rfl,Touch.refl _ _⟩
theorem D11(a b:Int)(w:World):eY 260 a b (dZ (decide (a=b))) w:=by
 unfold eY;have hT:=fun b w=>gQ b w;go_enter func260,ntmps260;go_wp2_with fail;refine(hT _ _).mono ?_;rintro _ _ ⟨rfl,rfl⟩;go_wp2;go_ret;exact⟨rfl,Touch.refl _ _⟩
theorem D12(a b:Int)(w:World):eY 261 a b (dZ (!decide (a=b))) w:=by
 unfold eY;have hT:=fun b w=>gQ b w;go_enter func261,ntmps261;go_wp2_with fail;refine(hT _ _).mono ?_;rintro _ _ ⟨rfl,rfl⟩;go_wp2;go_ret;exact⟨rfl,Touch.refl _ _⟩
theorem D13(a b:Int)(w:World):eY 262 a b (dZ (decide (a<b))) w:=by
 unfold eY;have hT:=fun b w=>gQ b w;go_enter func262,ntmps262;go_wp2_with fail;refine(hT _ _).mono ?_;rintro _ _ ⟨rfl,rfl⟩;go_wp2;go_ret;exact⟨rfl,Touch.refl _ _⟩
theorem D14(a b:Int)(w:World):eY 263 a b (dZ (decide (b<a))) w:=by
 unfold eY;have hT:=fun b w=>gQ b w;go_enter func263,ntmps263;go_wp2_with fail;refine(hT _ _).mono ?_;rintro _ _ ⟨rfl,rfl⟩;go_wp2;go_ret;exact⟨rfl,Touch.refl _ _⟩
theorem D15(a b:Int)(w:World):eY 264 a b (dZ (decide (IntKind.u64.wrap a<IntKind.u64.wrap b))) w:=by
 unfold eY;have hT:=fun b w=>gQ b w;go_enter func264,ntmps264;go_wp2_with fail;refine(hT _ _).mono ?_;rintro _ _ ⟨rfl,rfl⟩;go_wp2;go_ret;exact⟨rfl,Touch.refl _ _⟩
theorem D16(a b:Int)(w:World):eY 265 a b (if a<b then a else b) w:=by
 unfold eY;go_enter func265,ntmps265;go_wp2
 all_goals go_ret
 all_goals refine⟨Wv (nW ?_),Touch.refl _ _⟩
 all_goals first|rfl|omega|(split<;>omega)
theorem D17(a b:Int)(w:World):eY 266 a b (if b<a then a else b) w:=by
 unfold eY;go_enter func266,ntmps266;go_wp2
 all_goals go_ret
 all_goals refine⟨Wv (nW ?_),Touch.refl _ _⟩
 all_goals first|rfl|omega|(split<;>omega)
def Pw(op a b:Int):Int:=
 if op=11 then wrap64 (a+b)
 else if op=12 then wrap64 (a-b)
 else if op=13 then wrap64 (a*b)
 else if op=14 then(gV a b).1
 else if op=15 then(gV a b).2
 else if op=16 then bits .and .i64 a b
 else if op=17 then bits .or .i64 a b
 else if op=18 then bits .xor .i64 a b
 else if op=19 then wrap64 (a*2^min (IntKind.u64.wrap b).toNat 64)
 else if op=20 then wrap64 (IntKind.u64.wrap a / 2^min (IntKind.u64.wrap b).toNat 64)
 else if op=21 then dZ (decide (a=b))
 else if op=22 then dZ (!decide (a=b))
 else if op=23 then dZ (decide (a<b))
 else if op=24 then dZ (decide (b<a))
 else if op=25 then dZ (decide (IntKind.u64.wrap a<IntKind.u64.wrap b))
 else if op=26 then(if a<b then a else b)
 else(if b<a then a else b)
theorem fP{p:Prop} [Decidable p]{x y:Int}(hx:au x)(hy:au y):au (if p then x else y):=by
 split
 ·exact hx
 ·exact hy
theorem Px(op a b:Int)(h:au a)(k:au b):au (Pw op a b):=by
 have f:=Dj a b h;have f1:=f.1;have f2:=f.2;have t:=lJ;have wr:=aV;have bi:=jV;clear f;unfold Pw;generalize gV a b=fl at*;repeat' first|assumption|apply wr|apply t|apply bi|apply fP
def fv(f:FuncId):Value:=.func (.func f) #[] #[]
def La(op:Nat):FuncId:=[249,250,251,252,254,255,256,257,258,259,260,261,262,263,264,265,266].getD (op-11) 0
def Zn:List (Int×Value):=[(11,fv 249),(12,fv 250),(13,fv 251),(14,fv 252),(15,fv 254),(16,fv 255),(17,fv 256),(18,fv 257),(19,fv 258),(20,fv 259),(21,fv 260),(22,fv 261),(23,fv 262),(24,fv 263),(25,fv 264),(26,fv 265),(27,fv 266)]
theorem Yf(op:Nat)(h:11≤op∧op≤27)(a b:Int)(hb:¬(b=0∧(op=14∨op=15)))(w:World):eY (La op) a b (Pw op a b) w:=by
 rcases(by omega:op=11∨op=12∨op=13∨op=14∨op=15∨op=16∨op=17∨op=18∨op=19∨op=20∨op=21∨op=22∨op=23∨op=24∨op=25∨op=26∨op=27)with rfl|rfl|rfl|rfl|rfl|rfl|rfl|rfl|rfl|rfl|rfl|rfl|rfl|rfl|rfl|rfl|rfl
 ·exact D1 a b w
 ·exact D2 a b w
 ·exact D3 a b w
 ·exact D4 a b (fun e=>hb ⟨e,by simp⟩) w
 ·exact D5 a b (fun e=>hb ⟨e,by simp⟩) w
 ·exact D6 a b w
 ·exact D7 a b w
 ·exact D8 a b w
 ·exact D9 a b w
 ·exact D10 a b w
 ·exact D11 a b w
 ·exact D12 a b w
 ·exact D13 a b w
 ·exact D14 a b w
 ·exact D15 a b w
 ·exact D16 a b w
 ·exact D17 a b w
theorem Iy(w:World):Calls prog 151 #[] w fun e w'=>∃b,e=.returned (.map (some b))∧eZ w' b Zn∧Touch [] w w':=by
 have oM:=(tR w).alloc (.map #[] 0);have i0:=eZ.new w;have JX:= @run_makeMap prog;go_enter func151,ntmps151;go_wp2_with (refine oh _ rfl _ _ _ 204 rfl _ _ underlying204 underlying3 w.heap.size _ rfl (by first|assumption|exact i0) _ rfl _ rfl ?_;intro wn hn tn;have oM:=oM.trans tn (by simp));clear JX;go_ret;refine⟨w.heap.size,rfl,?_,oM⟩;exact hn
theorem M5(op:Nat)(h:11≤op∧op≤27):atKey Zn op=some (fv (La op)):=by
 rcases(by omega:op=11∨op=12∨op=13∨op=14∨op=15∨op=16∨op=17∨op=18∨op=19∨op=20∨op=21∨op=22∨op=23∨op=24∨op=25∨op=26∨op=27)with rfl|rfl|rfl|rfl|rfl|rfl|rfl|rfl|rfl|rfl|rfl|rfl|rfl|rfl|rfl|rfl|rfl<;>rfl
theorem Py(op:Nat)(h:11≤op∧op≤27):Enters prog (La op):=by
 rcases(by omega:op=11∨op=12∨op=13∨op=14∨op=15∨op=16∨op=17∨op=18∨op=19∨op=20∨op=21∨op=22∨op=23∨op=24∨op=25∨op=26∨op=27)with rfl|rfl|rfl|rfl|rfl|rfl|rfl|rfl|rfl|rfl|rfl|rfl|rfl|rfl|rfl|rfl|rfl
 ·exact enters_of func249 (by kernel_rfl) rfl
 ·exact enters_of func250 (by kernel_rfl) rfl
 ·exact enters_of func251 (by kernel_rfl) rfl
 ·exact enters_of func252 (by kernel_rfl) rfl
 ·exact enters_of func254 (by kernel_rfl) rfl
 ·exact enters_of func255 (by kernel_rfl) rfl
 ·exact enters_of func256 (by kernel_rfl) rfl
 ·exact enters_of func257 (by kernel_rfl) rfl
 ·exact enters_of func258 (by kernel_rfl) rfl
 ·exact enters_of func259 (by kernel_rfl) rfl
 ·exact enters_of func260 (by kernel_rfl) rfl
 ·exact enters_of func261 (by kernel_rfl) rfl
 ·exact enters_of func262 (by kernel_rfl) rfl
 ·exact enters_of func263 (by kernel_rfl) rfl
 ·exact enters_of func264 (by kernel_rfl) rfl
 ·exact enters_of func265 (by kernel_rfl) rfl
 ·exact enters_of func266 (by kernel_rfl) rfl
theorem eI(op:Nat)(h:11≤op∧op≤27)(a b:Int)(hb:¬(b=0∧(op=14∨op=15)))(w:World):
 Calls prog 128 #[.int .i64 op,.int .i64 a,.int .i64 b] w fun e w'=>e=.returned (.tuple #[.int .i64 (Pw op a b),.int .i64 0])∧Touch [] w w':=by
 have hf:=fun w=>Yf op h a b hb w;have hat:=M5 op h;have mV:∀(args:Array Value) (w:World),(callFunc (La op) args).run prog w=.ok (.enter (La op) args) w:=Py op h;unfold eY at hf;unfold fv at hat;generalize La op=f at hf hat mV;generalize Pw op a b=r at hf⊢;have hD:=Iy w;obtain⟨z,hz⟩:∃z:Int,(op:Int)=z:=⟨_,rfl⟩;have Z3:¬(b=0∧(z=14∨z=15)):=by omega
 rw[hz]at hat⊢;clear hz h hb;by_cases hb0:b=0
 ·have z14:¬z=14:=by omega
  have z15:¬z=15:=by omega
  clear Z3;subst hb0;go_enter func128,ntmps128;go_wp2_with fail;refine hD.mono ?_;rintro _ w1 ⟨m,rfl,hm,t1⟩;have hlk:=(hm.lookup underlying204 underlying3 hat).2;clear hm hat hD;have ac0:(z==14)=false:=by simp[z14]
  have ac1:(z==15)=false:=by simp[z15]
  go_wp2_with fail;refine(hf _).mono ?_;rintro _ w2 ⟨rfl,t2⟩;go_wp2;go_ret2;exact⟨rfl,t1.trans t2 (by simp)⟩
 ·clear Z3;go_enter func128,ntmps128;go_wp2_with fail;refine hD.mono ?_;rintro _ w1 ⟨m,rfl,hm,t1⟩;have hlk:=(hm.lookup underlying204 underlying3 hat).2;clear hm hat hD;go_wp2_with fail;refine(hf _).mono ?_;rintro _ w2 ⟨rfl,t2⟩;go_wp2;go_ret2;exact⟨rfl,t1.trans t2 (by simp)⟩
theorem Uq(op:Nat)(h:op=14∨op=15)(a:Int)(w:World):
 Calls prog 128 #[.int .i64 op,.int .i64 a,.int .i64 0] w fun e w'=>e=.returned (.tuple #[.int .i64 0,.int .i64 (-10)])∧Touch [] w w':=by
 have hat:=M5 op (by omega);unfold fv at hat;generalize La op=f at hat;have hD:=Iy w;obtain⟨z,hz⟩:∃z:Int,(op:Int)=z:=⟨_,rfl⟩;have hz2:z=14∨z=15:=by omega
 rw[hz]at hat⊢;clear hz h;rcases hz2 with rfl|rfl
 all_goals go_enter func128,ntmps128
 all_goals go_wp2_with fail
 all_goals refine hD.mono ?_
 all_goals rintro _ w1 ⟨m,rfl,hm,t1⟩
 all_goals have hlk:=(hm.lookup underlying204 underlying3 hat).2
 all_goals clear hm hat hD
 all_goals go_wp2_with fail
 all_goals go_ret2
 all_goals exact⟨rfl,t1⟩
def Done(W:World)(s:Nat)(F:List Nat)(S S':PS)(w':World):Prop:=∃F',aC w' s F' S'∧PS.same S S'∧Touch F W w'∧Sub W F F'
theorem Done.alloc{W w:World}{s:Nat}{F:List Nat}{S S':PS}(h:Done W s F S S' w)(o:Obj):Done W s F S S' (w.alloc o):=by
 obtain⟨F',h1,h2,h3,h4⟩:=h;exact⟨F',h1.quiet ((tR w).alloc o),h2,h3.alloc o,h4⟩
theorem Done.on{W w w':World}{s:Nat}{F:List Nat}{S S':PS}(h:Done W s F S S' w)(t:Touch [] w w'):Done W s F S S' w':=by
 obtain⟨F',h1,h2,h3,h4⟩:=h;exact⟨F',h1.quiet t,h2,h3.trans t (by simp),h4⟩
theorem Done.self{W w':World}{s:Nat}{F:List Nat}{S:PS}(h:aC W s F S)(t:Touch [] W w'):Done W s F S S w':=⟨F,h.quiet t,⟨rfl,rfl,rfl,rfl,rfl,rfl⟩,t.mono (by simp),Sub.refl _ _⟩
theorem Done.out{W w':World}{s:Nat}{F:List Nat}{S S':PS}(h:Done W s F S S' w'):∃F',aC w' s F' S'∧PS.same S S'∧Touch F W w'∧Sub W F F':=h
def aR(W:World)(s:Nat)(F:List Nat)(S:PS)(r:(List Int×Int)×PS):Ending→World→Prop:=fun e w'=>∃ov,e=.returned (.tuple #[ov,.int .i64 r.1.2])∧bH w' ov r.1.1∧Done W s F S r.2 w'
theorem aR.post{P:Program}{f:FuncId}{args:Array Value}{W:World}{s:Nat}{F:List Nat}{S:PS}{r:(List Int×Int)×PS}(h:Calls P f args W (aR W s F S r)):
 Calls P f args W fun e w'=>∃ov F',e=.returned (.tuple #[ov,.int .i64 r.1.2])∧bH w' ov r.1.1∧aC w' s F' r.2∧PS.same S r.2∧Touch F W w'∧Sub W F F':=
 h.mono fun _ _ ⟨ov,h1,h2,F',h3⟩=>⟨ov,F',h1,h2,h3⟩
section
variable {W:World} {s:Nat} {F:List Nat} {S S':PS} {g:Nat} {fn:FuncId} {first cap:Array Value} {lv:Value} {x y z:Int}
theorem bU(hb:aF W g 132 #[.func (.func fn) first cap])(hE:Enters prog fn)
 (h:Calls prog fn (first++ #[lv]++cap) W fun e w'=>e=.returned (.int .i64 x)∧Done W s F S S' w'):Calls prog 281 (#[]++ #[lv]++ #[.pointer (some ⟨g,0,none⟩)]) W (aR W s F S (([],x),S')):=by
 have c0:=hb.cell 0;have mV:∀(args:Array Value) (w:World),(callFunc fn args).run prog w=.ok (.enter fn args) w:=hE;clear hb hE;show Calls prog 281 #[lv,.pointer (some ⟨g,0,none⟩)] W _;go_enter func281,ntmps281;go_wp2_with fail;refine h.mono ?_;rintro _ w1 ⟨rfl,hd⟩;have HD:=hid hd;clear h hd;go_wp2_with fail;go_ret2;exact⟨_,rfl,.inl ⟨rfl,rfl⟩,HD.out⟩
theorem tu(hb:aF W g 223 #[.func (.func fn) first cap])(hE:Enters prog fn)
 (h:Calls prog fn (first++ #[lv]++cap) W fun e w'=>e=.returned (.int .i64 x)∧Done W s F S S' w'):Calls prog 274 (#[]++ #[lv]++ #[.pointer (some ⟨g,0,none⟩)]) W (aR W s F S (([x],0),S')):=by
 have c0:=hb.cell 0;have mV:∀(args:Array Value) (w:World),(callFunc fn args).run prog w=.ok (.enter fn args) w:=hE;clear hb hE;show Calls prog 274 #[lv,.pointer (some ⟨g,0,none⟩)] W _;go_enter func274,ntmps274;go_wp2_with fail;refine h.mono ?_;rintro _ w1 ⟨rfl,hd⟩;have HD:=hid hd;clear h hd;go_wp2_with fail;go_ret2;exact⟨_,rfl,.inr ⟨_,_,rfl,fun j u hj=>by rw[gG,Nat.zero_add];exact((aF.new w1 _ _).cell j).trans (by simpa[cells]using hj)⟩,HD.out.alloc _⟩
theorem oF(hb:aF W g 182 #[.func (.func fn) first cap])(hE:Enters prog fn)
 (h:Calls prog fn (first++ #[lv]++cap) W fun e w'=>e=.returned (.tuple #[.int .i64 x,.int .i64 y])∧Done W s F S S' w'):Calls prog 149 (#[]++ #[lv]++ #[.pointer (some ⟨g,0,none⟩)]) W (aR W s F S (([x],y),S')):=by
 have c0:=hb.cell 0;have mV:∀(args:Array Value) (w:World),(callFunc fn args).run prog w=.ok (.enter fn args) w:=hE;clear hb hE;show Calls prog 149 #[lv,.pointer (some ⟨g,0,none⟩)] W _;go_enter func149,ntmps149;go_wp2_with fail;refine h.mono ?_;rintro _ w1 ⟨rfl,hd⟩;have HD:=hid hd;clear h hd;go_wp2_with fail;go_ret2;exact⟨_,rfl,.inr ⟨_,_,rfl,fun j u hj=>by rw[gG,Nat.zero_add];exact((aF.new w1 _ _).cell j).trans (by simpa[cells]using hj)⟩,HD.out.alloc _⟩
theorem rR(hb:aF W g 215 #[.func (.func fn) first cap])(hE:Enters prog fn)
 (h:Calls prog fn (first++ #[lv]++cap) W fun e w'=>e=.returned (.tuple #[.int .i64 x,.int .i64 z,.int .i64 y])∧Done W s F S S' w'):Calls prog 278 (#[]++ #[lv]++ #[.pointer (some ⟨g,0,none⟩)]) W (aR W s F S (([x,z],y),S')):=by
 have c0:=hb.cell 0;have mV:∀(args:Array Value) (w:World),(callFunc fn args).run prog w=.ok (.enter fn args) w:=hE;clear hb hE;show Calls prog 278 #[lv,.pointer (some ⟨g,0,none⟩)] W _;go_enter func278,ntmps278;go_wp2_with fail;refine h.mono ?_;rintro _ w1 ⟨rfl,hd⟩;have HD:=hid hd;clear h hd;go_wp2_with fail;go_ret2;exact⟨_,rfl,.inr ⟨_,_,rfl,fun j u hj=>by rw[gG,Nat.zero_add];exact((aF.new w1 _ _).cell j).trans (by simpa[cells]using hj)⟩,HD.out.alloc _⟩
end
theorem dQ{B s m:Nat}{op:Int}{v:Value}{W:World}(h:eF B s m op v W)(h1:fE op=0)(h2:eD op=0):∃b C,B≤C∧B≤b∧qC C b s (iH op) v W∧aF W b 37 #[.pointer (some ⟨s,0,none⟩)]:=by
 rcases h with⟨b,C,_,_,⟨h3,_⟩,_⟩|⟨b,C,_,_,⟨h3,_⟩,_⟩|⟨b,C,k1,k2,h3,h4⟩
 ·exact absurd h1 h3
 ·exact absurd h2 h3
 ·exact⟨b,C,k1,k2,h3.2,h4⟩
theorem dA{B s m:Nat}{op:Int}{v:Value}{W:World}(h:eF B s m op v W)(h1:fE op=0)(h2:iH op=0):∃b C,B≤C∧B≤b∧nL C b s (eD op) v W∧aF W b 89 #[.pointer (some ⟨m,0,none⟩)]:=by
 rcases h with⟨b,C,_,_,⟨h3,_⟩,_⟩|⟨b,C,k1,k2,h3,h4⟩|⟨b,C,_,_,⟨h3,_⟩,_⟩
 ·exact absurd h1 h3
 ·exact⟨b,C,k1,k2,h3.2,h4⟩
 ·exact absurd h2 h3
theorem aW{B g0:Nat}{t:Int}{F8 f:FuncId}{ty:TypeId}{t':Int}{first cap:Array Value}{fv:Value}{W:World}(h:aQ B t F8 ty fv (.agg #[.int .i64 t',.func (.func f) first cap]) W)(hg0:g0≤B):
 ∃g,g0≤g∧aF W g ty #[fv]∧t'=t∧f=F8∧first= #[]∧cap= #[.pointer (some ⟨g,0,none⟩)]:=by
 obtain⟨g,e,h1,h2⟩:=h;injection e with e;injection e with e;injection e with e1 e;injection e with e2 e;injection e1 with _ e1;injection e2 with e2 e3 e4;injection e2 with e2;exact⟨g,by omega,h2,e1,e2,e3,e4⟩
theorem dW.one{w:World}{lv:Value}{l:List Int}(h:dW w lv l)(hl:l.length=1):∃g c x,l=[x]∧lv=.slice (some ⟨g,0,none⟩) 1 c∧w.cell? ⟨g,0,none⟩=some (.int .i64 x):=by
 obtain⟨x,rfl⟩:=List.length_eq_one_iff.1 hl;obtain⟨g,c,e,h⟩:=h.get (by simp);exact⟨g,c,x,rfl,e,h 0 (by simp)⟩
theorem dW.two{w:World}{lv:Value}{l:List Int}(h:dW w lv l)(hl:l.length=2):∃g c x y,l=[x,y]∧lv=.slice (some ⟨g,0,none⟩) 2 c∧w.cell? ⟨g,0,none⟩=some (.int .i64 x)∧w.cell? ⟨g,1,none⟩=some (.int .i64 y):=by
 obtain⟨x,y,rfl⟩:∃x y,l=[x,y]:=by
  match l,hl with
  |[x,y],_=>exact⟨x,y,rfl⟩
 obtain⟨g,c,e,h⟩:=h.get (by simp);exact⟨g,c,x,y,rfl,e,h 0 (by simp),h 1 (by simp)⟩
section
variable {W:World} {s:Nat} {F:List Nat} {S S':PS} {g:Nat} {fn:FuncId} {first cap:Array Value} {lv:Value} {x y z:Int}
end
theorem Bw{W:World}{s:Nat}{F:List Nat}{S:PS}{b g:Nat}{fn:FuncId}{first cap:Array Value}{lv:Value}{x:ByteArray}(hS:aC W s F S)(bW:S.ok)
 (hb:aF W b 37 #[.pointer (some ⟨s,0,none⟩)]) (hg:aF W g 234 #[.func (.func fn) first cap]) (hE:Enters prog fn)
 (h:Calls prog fn (first++ #[lv]++cap) W.drew fun e w'=>e=.returned (.string x)∧Touch [] W.drew w'):
 Calls prog 220 (#[]++ #[lv]++ #[.pointer (some ⟨b,0,none⟩),.pointer (some ⟨g,0,none⟩)]) W fun e w'=>e=.returned (.int .i64 0)∧Done W s F S {S with out:=iy S.out x} w':=by
 have b0:=hb.cell 0;have g0:=hg.cell 0;have mV:∀(args:Array Value) (w:World),(callFunc fn args).run prog w=.ok (.enter fn args) w:=hE;have HB:=hid (And.intro hb (And.intro hS bW));clear hb hg hE hS bW;show Calls prog 220 #[lv,.pointer (some ⟨b,0,none⟩),.pointer (some ⟨g,0,none⟩)] W _;go_enter func220,ntmps220;go_upto_region 1 with fail;go_region_with (first|(go_at_fn fn;refine h.mono ?_;rintro _ w1 ⟨rfl,t1⟩;have c1:=(HB.out.1.touch t1.aO (by simp)).cell 0;have T1:=hid t1.aO;clear t1)|(go_at_call 221;refine(wz (HB.out.2.1.quiet T1.out) HB.out.2.2.1 x).mono ?_;rintro _ w2 ⟨F2,rfl,k1,k2,k3⟩;have HD:Hid (Done W s F S {S with out:=iy S.out x} w2):=⟨F2,k1,⟨rfl,rfl,rfl,rfl,rfl,rfl⟩,(T1.out.mono (by simp)).trans k2 (fun g hg=>.inl hg),k3.lower T1.out.size⟩;clear k1 k2 k3))
 all_goals go_wp2_with fail
 all_goals go_ret
 all_goals exact⟨rfl,HD.out⟩
structure Bz where
 lo:Int
 hi:Int
def Bz.v(p:Bz):Value:=.agg #[.int .i64 p.lo,.int .i64 p.hi]
def Bz.ok(p:Bz):Prop:= -9223372036854775808≤p.lo∧p.lo≤9223372036854775807∧-9223372036854775808≤p.hi∧p.hi≤9223372036854775807
def Bz.num(p:Bz):Nat:=bitsOf p.lo+18446744073709551616*bitsOf p.hi
def eJ(n:Nat):Bz:=⟨cellOf (n%18446744073709551616),cellOf (n / 18446744073709551616%18446744073709551616)⟩
def pv(n:Nat):Value:=(eJ n).v
def pl(n:Nat):Int:=cellOf (n%18446744073709551616)
def ph(n:Nat):Int:=cellOf (n / 18446744073709551616%18446744073709551616)
theorem eK(n:Nat)(h:n<340282366920938463463374607431768211456):(ph n<0)↔170141183460469231731687303715884105728≤n:=by
 unfold ph cellOf;split<;>omega
abbrev two(n:Nat):Array Value:= #[.int .i64 (pl n),.int .i64 (ph n)]
theorem aF.jF{w:World}{b:Nat}{T:TypeId}{x y:Value}(h:aF w b T #[x,y])(u v:Value):aF ((w.setCell ⟨b,0,none⟩ u).setCell ⟨b,1,none⟩ v) b T #[u,v]:=(h.bJ 0 u).bJ 1 v
theorem aF.zP{w:World}{b c:Nat}{T:TypeId}{cs:Array Value}(h:aF w c T cs)(hne:c≠b)(u v:Value):aF ((w.setCell ⟨b,0,none⟩ u).setCell ⟨b,1,none⟩ v) c T cs:=(h.far (p:=⟨b,0,none⟩) hne u).far (p:=⟨b,1,none⟩) hne v
structure LB(w0:World)(n P L Q:Nat)(w:World):Prop where
 p:aF w n 213 (two P)
 r:aF w (n+1) 213 #[.int .i64 0,.int .i64 0]
 l:aF w (n+2) 213 (two L)
 q:aF w (n+3) 213 (two Q)
 t:Touch [] w0 w
 n0:w0.heap.size≤n
section
variable {w0 w w':World} {n P L Q:Nat}
theorem LB.quiet(h:LB w0 n P L Q w)(t:Touch [] w w'):LB w0 n P L Q w':=⟨h.p.touch t (by simp),h.r.touch t (by simp),h.l.touch t (by simp),h.q.touch t (by simp),h.t.trans t (by simp),h.n0⟩
structure LC(n P L Q:Nat)(w:World):Prop where
 p0:w.cell? ⟨n,0,none⟩=some (.int .i64 (pl P))
 p1:w.cell? ⟨n,1,none⟩=some (.int .i64 (ph P))
 l0:w.cell? ⟨n+2,0,none⟩=some (.int .i64 (pl L))
 l1:w.cell? ⟨n+2,1,none⟩=some (.int .i64 (ph L))
 q0:w.cell? ⟨n+3,0,none⟩=some (.int .i64 (pl Q))
 q1:w.cell? ⟨n+3,1,none⟩=some (.int .i64 (ph Q))
 fp0:w.frozen? ⟨n,0,none⟩=false
 fp1:w.frozen? ⟨n,1,none⟩=false
 fl0:w.frozen? ⟨n+2,0,none⟩=false
 fl1:w.frozen? ⟨n+2,1,none⟩=false
 fq0:w.frozen? ⟨n+3,0,none⟩=false
 fq1:w.frozen? ⟨n+3,1,none⟩=false
theorem LB.cells(h:LB w0 n P L Q w):LC n P L Q w:=⟨h.p.cell 0,h.p.cell 1,h.l.cell 0,h.l.cell 1,h.q.cell 0,h.q.cell 1,h.p.frozen 0,h.p.frozen 1,h.l.frozen 0,h.l.frozen 1,h.q.frozen 0,h.q.frozen 1⟩
end

theorem Uv(n B:Nat)(ru:0<B):n / B=n / 18446744073709551616 / B*18446744073709551616+(n%18446744073709551616+18446744073709551616*(n / 18446744073709551616%B)) / B∧
 n%B=(n%18446744073709551616+18446744073709551616*(n / 18446744073709551616%B))%B:=by
 have h1:=Nat.div_add_mod n 18446744073709551616;have h2:=Nat.div_add_mod (n / 18446744073709551616) B;generalize n / 18446744073709551616=H at*;generalize n%18446744073709551616=l at*;generalize H / B=q at*;generalize H%B=r at*;subst h2;have e:n=l+18446744073709551616*r+B*(q*18446744073709551616):=by
  rw[←h1,Nat.mul_add,Nat.mul_left_comm,Nat.mul_comm q];omega
 rw[e,Nat.add_mul_div_left _ _ ru,Nat.add_mul_mod_self_left];exact⟨Nat.add_comm _ _,rfl⟩
def lX:ByteArray:=⟨#[48,49,50,51,52,53,54,55,56,57,65,66,67,68,69,70,71,72,73,74,75,76,77,78,79,80,81,82,83,84,85,86,87,88,89,90]⟩
def ng(d:Nat):UInt8:=lX.data.toList.getD d 0
theorem Lc(d:Nat)(hd:d<36)(W:World):(Instr.index 9 (.string lX) (.int .i64 (d:Int))).run prog W=.ok (.int .u8 (((ng d).toNat:Nat):Int)) W:=by
 have hs:lX.size=36:=by decide
 rw[run_index_string W _ lX _ _ (by kernel_rfl)];have hlt:d<lX.size:=by rw[hs];exact hd
 have qF:lX[d]'hlt=ng d:=by
  unfold ng;rw[List.getD_eq_getElem?_getD,List.getElem?_eq_getElem (by simpa[lX]using hd)];rfl
 simp[hlt,qF]
theorem BA(n:Nat)(hn:n<18446744073709551616):IntKind.u64.wrap (cellOf n)=n:=by rw[IntKind.wrap_u64];unfold cellOf;split<;>omega
theorem II(n:Nat)(hn:n<18446744073709551616):IntKind.i64.wrap (n:Int)=cellOf n:=by rw[IntKind.wrap_i64];unfold cellOf;split<;>omega
theorem uU(n:Nat)(hn:n<9223372036854775808):cellOf n=n:=by unfold cellOf;rw[if_pos hn]
theorem Uw(d:Nat)(hd:d<36)(w:World):Calls prog 317 #[.int .i64 (d:Int)] w fun e w'=>e=.returned (.int .u8 (((ng d).toNat:Nat):Int))∧w=w':=by
 have hl:=Lc d hd w;have g1:¬(d:Int)<0:=by omega
 have g2:¬(d:Int)≥36:=by omega
 unfold lX at hl;go_enter func317,ntmps317;go_wp2_with fail;go_ret;exact⟨rfl,rfl⟩
theorem uV(b:Int)(h0:2≤b)(h1:b≤36)(w:World):Calls prog 315 #[.int .i64 b] w fun e w'=>e=.returned (.bool true)∧w=w':=by
 go_enter func315,ntmps315;go_wp2_with fail;go_ret;exact⟨rfl,rfl⟩
end Go.Proofs.YtdokeddjcpnmiaaGreatDoor
