/- Of EngineClean: PairT PairSem PairT2 PairOps. -/
import Derived.Test.YtdokeddjcpnmiaaGreatDoorQHoldA
import Derived.StillTailTactics
set_option maxRecDepth 100000
set_option maxHeartbeats 4000000
namespace Go.Proofs.YtdokeddjcpnmiaaGreatDoor
open Go.RowKit Go.Proofs.Tryz
open Go.Lib(hid)
def iX(l:List Int):Prop:=∀x∈l,au x
def kG(p:Int×Int):Nat:=jv p.1+18446744073709551616*jv p.2
theorem FJ(p:Int×Int):kG p<340282366920938463463374607431768211456:=by have:=oQ p.1;have:=oQ p.2;unfold kG;omega
theorem M8(p:Int×Int)(h:au p.1):pl (kG p)=p.1:=by unfold pl kG cellOf jv au at*;split<;>omega
theorem M9(p:Int×Int)(h:au p.2):ph (kG p)=p.2:=by unfold ph kG cellOf jv au at*;split<;>omega
theorem IU(p:Int×Int)(h1:au p.1)(h2:au p.2):two (kG p)= #[.int .i64 p.1,.int .i64 p.2]:=by unfold two;rw[M8 p h1,M9 p h2]
theorem Lf(a:Int)(h:au a):cellOf (jv a)=a:=by unfold cellOf jv au at*;split<;>omega
def gW(p:Int×Int)(b:Int):(Int×Int)×Int:=
 if b=0 then((0,0),-10)else if jv b≤jv p.2 then((0,0),-11)else((cellOf (kG p%jv b),cellOf (kG p / jv b)),0)
theorem BI(p:Int×Int)(b:Int)(h1:au p.1)(h2:au p.2)(hb:au b)(w:World):
 Calls prog 184 #[aN p,.int .i64 b] w fun e w'=>e=.returned (.tuple #[.int .i64 (gW p b).1.1,.int .i64 (gW p b).1.2,.int .i64 (gW p b).2])∧Touch [] w w':=by
 unfold gW;by_cases hb0:b=0
 ·rw[if_pos hb0];subst hb0;obtain⟨x,y⟩:=p;unfold aN;clear h1 h2 hb;go_enter func184,ntmps184;go_wp2_with fail;go_ret3;exact⟨rfl,(tR w).alloc _⟩
 ·rw[if_neg hb0];by_cases hlt:jv b≤jv p.2
  ·rw[if_pos hlt];obtain⟨x,y⟩:=p;have e1:=jB y;have e2:=jB b;have g1:(jv y:Int)≥(jv b:Int):=by simp only at hlt;omega
   have g2:(b==0)=false:=beq_eq_false_iff_ne.2 hb0;clear h1 h2 hb hlt;unfold aN;obtain⟨Y,hY⟩:∃z:Int,(jv y:Int)=z:=⟨_,rfl⟩;obtain⟨B,hB⟩:∃z:Int,(jv b:Int)=z:=⟨_,rfl⟩;rw[hY]at e1 g1;rw[hB]at e2 g1;clear hY hB;go_enter func184,ntmps184;go_wp2_with fail;go_ret3;exact⟨rfl,(tR w).alloc _⟩
  ·rw[if_neg hlt];have hp0:0<jv b:=by unfold jv au at*;omega
   have h:=UC (kG p) (jv b) (FJ p) hp0 (oQ b) (by have:=oQ p.1;unfold kG;omega) w;rw[IU p h1 h2,Lf b hb]at h;exact h
def BJ(p:Int×Int):Int×Int:=(wrap64 (p.1*2),bits .or .i64 (wrap64 (p.2*2)) (wrap64 (IntKind.u64.wrap p.1 / 9223372036854775808)))
theorem PX(p:Int×Int)(w:World):Calls prog 169 #[aN p] w fun e w'=>e=.returned (aN (BJ p))∧Touch [] w w':=by
 obtain⟨x,y⟩:=p;unfold aN BJ;go_enter func169,ntmps169;go_wp2_with fail;go_returns
 exact⟨rfl,((Touch.refl _ _).alloc _).alloc _⟩
def IV(p:Int×Int):Int×Int:=(wrap64 (bits .or .u64 (IntKind.u64.wrap p.1 / 2) (IntKind.u64.wrap (IntKind.u64.wrap p.2*9223372036854775808))),p.2 / 2)
theorem UJ(p:Int×Int)(w:World):Calls prog 171 #[aN p] w fun e w'=>e=.returned (aN (IV p))∧Touch [] w w':=by
 obtain⟨x,y⟩:=p;unfold aN IV;go_enter func171,ntmps171;go_wp2_with fail;go_returns
 exact⟨rfl,((Touch.refl _ _).alloc _).alloc _⟩
def dL(p:Int×Int):Int×Int:=if p.2<0 then nS p else p
theorem tC(p:Int×Int)(w:World):Calls prog 269 #[aN p] w fun e w'=>e=.returned (aN (dL p))∧Touch [] w w':=by
 have hN:=fun W=>qM p W;unfold dL;by_cases h:p.2<0
 ·rw[if_pos h];obtain⟨x,y⟩:=p;simp only at h;obtain⟨⟨a,b⟩,hr⟩:∃r,nS (x,y)=r:=⟨_,rfl⟩;rw[hr]at hN⊢;clear hr;unfold aN at hN⊢;go_enter func269,ntmps269;go_wp2_with fail;refine(hN _).mono ?_;rintro _ w1 ⟨rfl,t1⟩;have b4:=aF.EA t1 (n:=w.heap.size+1) (by simp);have t2:Touch [] w w1:=(((tR w).alloc _).alloc _).trans t1 (by simp);have e0:=b4.cell 0;have e1:=b4.cell 1;have f0:=b4.frozen 0;have f1:=b4.frozen 1;clear t1;go_wp2_with fail;obtain⟨z0,z1⟩:=fI b4 (.int .i64 a) (.int .i64 b);refine bodyPost_ret (by simp[results,results269,go_sem,z0,z1];try rfl) rfl ⟨rfl,?_⟩;exact(t2.setCell (.inr (by simp)) _).setCell (.inr (by simp)) _
 ·rw[if_neg h];obtain⟨x,y⟩:=p;simp only at h;clear hN;unfold aN;go_enter func269,ntmps269;go_wp2_with fail;go_returns
  exact⟨rfl,((Touch.refl _ _).alloc _).alloc _⟩
def qN(a b:Int):Int×Int:=((ze a b).1,wrap64 ((ze a b).2-wrap64 (bits .and .i64 (a / 9223372036854775808) b+bits .and .i64 (b / 9223372036854775808) a)))
theorem Na(a b:Int)(w:World):Calls prog 157 #[.int .i64 a,.int .i64 b] w fun e w'=>e=.returned (aN (qN a b))∧Touch [] w w':=by
 have hU:=fun W=>IL a b W;unfold qN;obtain⟨⟨lo,hi⟩,hr⟩:∃r,ze a b=r:=⟨_,rfl⟩;rw[hr]at hU⊢;clear hr;unfold aN at hU⊢;go_enter func157,ntmps157;go_wp2_with fail;refine(hU _).mono ?_;rintro _ w1 ⟨rfl,t1⟩;have b4:=(aF.new w 213 #[.int .i64 0,.int .i64 0]).touch t1 (by simp);have t2:Touch [] w w1:=((tR w).alloc _).trans t1 (by simp);have e0:=fun o=>(b4.alloc o).cell 0;have e1:=fun o=>(b4.alloc o).cell 1;have f0:=fun o=>(b4.alloc o).frozen 0;have f1:=fun o=>(b4.alloc o).frozen 1;have HB:=hid (fun o=>b4.alloc o);have HT:=hid t2;clear t1 hU b4 t2;go_wp2_with fail;have hb:=HB.out (.cells #[.int .i64 lo,.int .i64 (wrap64 (hi-wrap64 (bits .and .i64 (a / 9223372036854775808) b+bits .and .i64 (b / 9223372036854775808) a)))] 213);obtain⟨z0,z1⟩:=fI hb (.int .i64 lo) (.int .i64 (wrap64 (hi-wrap64 (bits .and .i64 (a / 9223372036854775808) b+bits .and .i64 (b / 9223372036854775808) a))));refine bodyPost_ret (by simp[results,results157,go_sem,z0,z1];try rfl) rfl ⟨rfl,?_⟩;exact((HT.out.alloc _).setCell (.inr (Nat.le_refl _)) _).setCell (.inr (Nat.le_refl _)) _
theorem cu.pre{op:Int}{n:Nat}{p q:List Int→PS→Prop}{act:List Int→PS→(List Int×Int)×PS}(h:cu op n p act)(hq:∀l S,l.length=n→q l S→p l S):cu op n q act:=by
 intro W B s F S t f first cap l lv bW hS hF eO;obtain⟨h1,h2,h3⟩:=h W B s F S t f first cap l lv bW hS hF eO;exact⟨h1,h2,fun hl hp hc=>h3 hl (hq l S hl hp) hc⟩
theorem l8{B s m:Nat}{op:Int}{v:Value}{W:World}(h:eF B s m op v W)(h1:eD op=0)(h2:iH op=0):∃b C,B≤C∧B≤b∧jD C b (fE op) v W∧aF W b 215 #[.func (.func 155) #[] #[]]:=by
 rcases h with⟨b,C,k1,k2,h3,h4⟩|⟨b,C,_,_,⟨h3,_⟩,_⟩|⟨b,C,_,_,⟨h3,_⟩,_⟩
 ·exact⟨b,C,k1,k2,h3.2,h4⟩
 ·exact absurd h1 h3
 ·exact absurd h2 h3
section
variable {W:World} {s:Nat} {F:List Nat} {S S':PS} {g:Nat} {fn:FuncId} {first cap:Array Value} {lv:Value} {x y z:Int}
theorem UW(hb:aF W g 218 #[.func (.func fn) first cap])(hE:Enters prog fn)
 (h:Calls prog fn (first++ #[lv]++cap) W fun e w'=>e=.returned (aN (x,y))∧Done W s F S S' w'):Calls prog 270 (#[]++ #[lv]++ #[.pointer (some ⟨g,0,none⟩)]) W (aR W s F S (([x,y],0),S')):=by
 have c0:=hb.cell 0;have mV:∀(args:Array Value) (w:World),(callFunc fn args).run prog w=.ok (.enter fn args) w:=hE;clear hb hE;unfold aN at h;show Calls prog 270 #[lv,.pointer (some ⟨g,0,none⟩)] W _;go_enter func270,ntmps270;go_wp2_with fail;refine h.mono ?_;rintro _ w1 ⟨rfl,hd⟩;have HD:=hid hd;clear h hd;go_wp2_with fail;go_ret2;exact⟨_,rfl,bH.blk (cs:=[x,y]) (aF.dG (n:=w1.heap.size+1) (w1.alloc (.cells #[.int .i64 x,.int .i64 y] 213)) (by simp) 33 (cells [x,y]).toArray) 2,(HD.out.alloc _).alloc _⟩
end
theorem jg(op:Int)(n:Nat)(fn:FuncId)(hE:Enters prog fn)(h1:eD op=0)(h2:iH op=0)(f:List Int→Int×Int)
 (hP:∀C b v W,jD C b (fE op) v W→aQ C n 270 218 (.func (.func fn) #[] #[]) v W)
 (hf:∀W l lv,iX l→l.length=n→dW W lv l→Calls prog fn #[lv] W fun e w'=>e=.returned (aN (f l))∧Touch [] W w'):
 cu op n (fun l _=>iX l) (fun l S=>(([(f l).1,(f l).2],0),S)):=by
 intro W B s F S t f' first cap l lv bW hS hF eO;obtain⟨b,C,hC,hb,hA,hB⟩:=l8 eO h1 h2;obtain⟨g,_,hg,rfl,rfl,rfl,rfl⟩:=aW (hP _ _ _ _ hA) (Nat.zero_le _);refine⟨rfl,enters_of func270 (by kernel_rfl) rfl,fun hl bG hc=>aR.post (UW hg hE ?_)⟩;exact(hf W l lv bG hl hc).mono fun e w' ⟨h,t⟩=>⟨h,Done.self hS t⟩
theorem qO(op:Int)(n:Nat)(fn:FuncId)(hE:Enters prog fn)(h1:eD op=0)(h2:iH op=0)(f:List Int→Int)
 (hP:∀C b v W,jD C b (fE op) v W→aQ C n 274 223 (.func (.func fn) #[] #[]) v W)
 (hf:∀W l lv,iX l→l.length=n→dW W lv l→Calls prog fn #[lv] W fun e w'=>e=.returned (.int .i64 (f l))∧Touch [] W w'):
 cu op n (fun l _=>iX l) (fun l S=>(([f l],0),S)):=by
 intro W B s F S t f' first cap l lv bW hS hF eO;obtain⟨b,C,hC,hb,hA,hB⟩:=l8 eO h1 h2;obtain⟨g,_,hg,rfl,rfl,rfl,rfl⟩:=aW (hP _ _ _ _ hA) (Nat.zero_le _);refine⟨rfl,enters_of func274 (by kernel_rfl) rfl,fun hl bG hc=>aR.post (tu hg hE ?_)⟩;exact(hf W l lv bG hl hc).mono fun e w' ⟨h,t⟩=>⟨h,Done.self hS t⟩
theorem UY(op:Int)(n:Nat)(fn:FuncId)(hE:Enters prog fn)(h1:eD op=0)(h2:iH op=0)(f:List Int→Int×Int)
 (hP:∀C b v W,jD C b (fE op) v W→aQ C n 149 182 (.func (.func fn) #[] #[]) v W)
 (hf:∀W l lv,iX l→l.length=n→dW W lv l→Calls prog fn #[lv] W fun e w'=>e=.returned (.tuple #[.int .i64 (f l).1,.int .i64 (f l).2])∧Touch [] W w'):
 cu op n (fun l _=>iX l) (fun l S=>(([(f l).1],(f l).2),S)):=by
 intro W B s F S t f' first cap l lv bW hS hF eO;obtain⟨b,C,hC,hb,hA,hB⟩:=l8 eO h1 h2;obtain⟨g,_,hg,rfl,rfl,rfl,rfl⟩:=aW (hP _ _ _ _ hA) (Nat.zero_le _);refine⟨rfl,enters_of func149 (by kernel_rfl) rfl,fun hl bG hc=>aR.post (oF hg hE ?_)⟩;exact(hf W l lv bG hl hc).mono fun e w' ⟨h,t⟩=>⟨h,Done.self hS t⟩
theorem PZ(op:Int)(n:Nat)(fn:FuncId)(hE:Enters prog fn)(h1:eD op=0)(h2:iH op=0)(f:List Int→Int×Int)
 (hP:∀C b v W,jD C b (fE op) v W→aQ C n 149 182 (.func (.func fn) #[] #[.pointer (some ⟨b,0,none⟩)]) v W)
 (hf:∀W l lv b,iX l→l.length=n→dW W lv l→aF W b 215 #[.func (.func 155) #[] #[]]→Calls prog fn #[lv,.pointer (some ⟨b,0,none⟩)] W fun e w'=>e=.returned (.tuple #[.int .i64 (f l).1,.int .i64 (f l).2])∧Touch [] W w'):
 cu op n (fun l _=>iX l) (fun l S=>(([(f l).1],(f l).2),S)):=by
 intro W B s F S t f' first cap l lv bW hS hF eO;obtain⟨b,C,hC,hb,hA,hB⟩:=l8 eO h1 h2;obtain⟨g,_,hg,rfl,rfl,rfl,rfl⟩:=aW (hP _ _ _ _ hA) (Nat.zero_le _);refine⟨rfl,enters_of func149 (by kernel_rfl) rfl,fun hl bG hc=>aR.post (oF hg hE ?_)⟩;exact(hf W l lv b bG hl hc hB).mono fun e w' ⟨h,t⟩=>⟨h,Done.self hS t⟩
theorem kH(op:Int)(n:Nat)(fn:FuncId)(hE:Enters prog fn)(h1:eD op=0)(h2:iH op=0)(f:List Int→(Int×Int)×Int)
 (hP:∀C b v W,jD C b (fE op) v W→aQ C n 278 215 (.func (.func fn) #[] #[]) v W)
 (hf:∀W l lv,iX l→l.length=n→dW W lv l→Calls prog fn #[lv] W fun e w'=>e=.returned (.tuple #[.int .i64 (f l).1.1,.int .i64 (f l).1.2,.int .i64 (f l).2])∧Touch [] W w'):
 cu op n (fun l _=>iX l) (fun l S=>(([(f l).1.1,(f l).1.2],(f l).2),S)):=by
 intro W B s F S t f' first cap l lv bW hS hF eO;obtain⟨b,C,hC,hb,hA,hB⟩:=l8 eO h1 h2;obtain⟨g,_,hg,rfl,rfl,rfl,rfl⟩:=aW (hP _ _ _ _ hA) (Nat.zero_le _);refine⟨rfl,enters_of func278 (by kernel_rfl) rfl,fun hl bG hc=>aR.post (rR hg hE ?_)⟩;exact(hf W l lv bG hl hc).mono fun e w' ⟨h,t⟩=>⟨h,Done.self hS t⟩
def IY(a b:Int):Int:=if a<b then -1 else if b<a then 1 else 0
theorem UZ(a:Int)(w:World):Calls prog 304 #[.int .i64 a] w fun e w'=>e=.returned (.bool false)∧w=w':=by
 go_enter func304,ntmps304;go_wp2_with fail;go_ret;exact⟨by simp,rfl⟩
theorem U0(a:Int)(w:World):Calls prog 305 #[.int .u64 a] w fun e w'=>e=.returned (.bool false)∧w=w':=by
 go_enter func305,ntmps305;go_wp2_with fail;go_ret;exact⟨by simp,rfl⟩
theorem U1(a b:Int)(w:World):Calls prog 276 #[.int .i64 a,.int .i64 b] w fun e w'=>e=.returned (.int .i64 (IY a b))∧w=w':=by
 have hN:=fun a w=>UZ a w;unfold IY;by_cases h1:a<b
 ·rw[if_pos h1];go_enter func276,ntmps276;go_wp2_with fail;refine(hN _ _).mono ?_;rintro _ _ ⟨rfl,rfl⟩;go_wp2_with fail;refine(hN _ _).mono ?_;rintro _ _ ⟨rfl,rfl⟩;go_wp2_with fail;go_ret;exact⟨rfl,rfl⟩
 ·rw[if_neg h1];by_cases h2:b<a
  ·rw[if_pos h2];go_enter func276,ntmps276;go_wp2_with fail;refine(hN _ _).mono ?_;rintro _ _ ⟨rfl,rfl⟩;go_wp2_with fail;refine(hN _ _).mono ?_;rintro _ _ ⟨rfl,rfl⟩;go_wp2_with fail;go_ret;exact⟨rfl,rfl⟩
  ·rw[if_neg h2];go_enter func276,ntmps276;go_wp2_with fail;refine(hN _ _).mono ?_;rintro _ _ ⟨rfl,rfl⟩;go_wp2_with fail;refine(hN _ _).mono ?_;rintro _ _ ⟨rfl,rfl⟩;go_wp2_with fail;go_ret;exact⟨rfl,rfl⟩
theorem U2(a b:Int)(w:World):Calls prog 277 #[.int .u64 a,.int .u64 b] w fun e w'=>e=.returned (.int .i64 (IY a b))∧w=w':=by
 have hN:=fun a w=>U0 a w;unfold IY;by_cases h1:a<b
 ·rw[if_pos h1];go_enter func277,ntmps277;go_wp2_with fail;refine(hN _ _).mono ?_;rintro _ _ ⟨rfl,rfl⟩;go_wp2_with fail;refine(hN _ _).mono ?_;rintro _ _ ⟨rfl,rfl⟩;go_wp2_with fail;go_ret;exact⟨rfl,rfl⟩
 ·rw[if_neg h1];by_cases h2:b<a
  ·rw[if_pos h2];go_enter func277,ntmps277;go_wp2_with fail;refine(hN _ _).mono ?_;rintro _ _ ⟨rfl,rfl⟩;go_wp2_with fail;refine(hN _ _).mono ?_;rintro _ _ ⟨rfl,rfl⟩;go_wp2_with fail;go_ret;exact⟨rfl,rfl⟩
  ·rw[if_neg h2];go_enter func277,ntmps277;go_wp2_with fail;refine(hN _ _).mono ?_;rintro _ _ ⟨rfl,rfl⟩;go_wp2_with fail;refine(hN _ _).mono ?_;rintro _ _ ⟨rfl,rfl⟩;go_wp2_with fail;go_ret;exact⟨rfl,rfl⟩
def Zw(x y:Int):Int:=if x=0 then y else x
theorem fj(g:Nat)(x y:Int)(w:World)(c0:w.cell? ⟨g,0,none⟩=some (.int .i64 x))(c1:w.cell? ⟨g,1,none⟩=some (.int .i64 y)):
 Calls prog 275 #[.slice (some ⟨g,0,none⟩) 2 2] w fun e w'=>e=.returned (.int .i64 (Zw x y))∧w=w':=by
 obtain⟨z,hz⟩:∃z,Zw x y=z:=⟨_,rfl⟩;rw[hz];have HZ:=hid hz;clear hz;go_enter func275,ntmps275;go_wp2_with fail;go_loopw [5,8] (fun _ i wr=>w=wr∧(i=.int .i64 0∨(i=.int .i64 1∧x=0)∨(i=.int .i64 2∧x=0∧y=0))) (fun _ i _=>3-(intOf i).toNat)
 case atStart=>exact⟨rfl,.inl rfl⟩
 case round=>
  obtain⟨rfl,hrel⟩:=hrel;rcases hrel with rfl|⟨rfl,hx⟩|⟨rfl,hx,hy⟩
  ·by_cases hx:x=0
   ·subst hx;go_wp2_with fail;exact⟨⟨trivial,by simp⟩,by decide⟩
   ·have h2:(x != 0)=true:=by simpa using hx
    have e:Hid (x=z):=by
     rw[←HZ.out];show x=Zw x y;unfold Zw;rw[if_neg hx]
    clear HZ;go_wp2_with fail;go_ret;exact⟨by rw[←e.out];rfl,rfl⟩
  ·subst hx;have e:Hid (y=z):=by
    rw[←HZ.out];show y=Zw 0 y;unfold Zw;rw[if_pos rfl]
   clear HZ;by_cases hy:y=0
   ·subst hy;go_wp2_with fail;exact⟨⟨trivial,by simp⟩,by decide⟩
   ·have h2:(y != 0)=true:=by simpa using hy
    go_wp2_with fail;go_ret;exact⟨by rw[←e.out];rfl,rfl⟩
  ·subst hx hy;have e:Hid (0=z):=by
    rw[←HZ.out];rfl
   clear HZ;go_wp2_with fail;go_ret;exact⟨by rw[←e.out];rfl,rfl⟩
theorem iq{P:Program}{f:FuncId}{args:Array Value}{w:World}{v:Value}(h:Calls P f args w fun e w'=>e=.returned v∧w=w'):Calls P f args w fun e w''=>e=.returned v∧w''=w:=
 h.mono fun _ _ ⟨e,h⟩=>⟨e,h.symm⟩
def BK(p q:Int×Int):Bool:=decide (Zw (IY p.2 q.2) (IY (IntKind.u64.wrap p.1) (IntKind.u64.wrap q.1))<0)
theorem IZ(p q:Int×Int)(w:World):Calls prog 178 #[aN p,aN q] w fun e w'=>e=.returned (.bool (BK p q))∧Touch [] w w':=by
 obtain⟨a,b⟩:=p;obtain⟨c,d⟩:=q;unfold BK;simp only[];have hC:=fun w=>U1 b d w;have hU:=fun w=>U2 (IntKind.u64.wrap a) (IntKind.u64.wrap c) w;obtain⟨x,hx⟩:∃x,IY b d=x:=⟨_,rfl⟩;obtain⟨y,hy⟩:∃x,IY (IntKind.u64.wrap a) (IntKind.u64.wrap c)=x:=⟨_,rfl⟩;rw[hx]at hC⊢;rw[hy]at hU⊢;clear hx hy;have hO:=fun g w h1 h2=>fj g x y w h1 h2;obtain⟨z,hz⟩:∃z,Zw x y=z:=⟨_,rfl⟩;rw[hz]at hO⊢;clear hz;unfold aN;have b1:=((aF.new w 213 #[.int .i64 a,.int .i64 b]).alloc (.cells #[.int .i64 c,.int .i64 d] 213)).drew;have b2:=(aF.dG (n:=w.heap.size+1) (w.alloc (.cells #[.int .i64 a,.int .i64 b] 213)) (by simp) 213 #[.int .i64 c,.int .i64 d]).drew;have x1:=b1.cell 0;have x2:=b1.cell 1;have y1:=b2.cell 0;have y2:=b2.cell 1;have T0:=((tR w).alloc (.cells #[.int .i64 a,.int .i64 b] 213)).alloc (.cells #[.int .i64 c,.int .i64 d] 213);clear b1 b2;go_enter func178,ntmps178;go_upto_region 1 with fail;generalize (w.alloc (.cells #[.int .i64 a,.int .i64 b] 213)).alloc (.cells #[.int .i64 c,.int .i64 d] 213)=W2 at*;have b3:=aF.new W2.drew 3 #[.int .i64 x,.int .i64 y];have z1:=b3.cell 0;have z2:=b3.cell 1;have hO:=hO _ _ z1 z2;have T:=hid (T0.drew.alloc (.cells #[.int .i64 x,.int .i64 y] 3));clear T0 z1 z2 b3;go_still_tail 12,(by kernel_rfl)
 still_call (iq (hC _))
 repeat still_step
 still_call (iq (hU _))
 repeat still_step
 refine wpStill_nil ?_;change wpList _ _ _ _ _ W2.drew
 go_wp2_with (go_at_call 275;refine hO.mono ?_;rintro _ _ ⟨rfl,rfl⟩);go_ret;exact⟨rfl,T.out⟩
def BL(p q:Int×Int):Bool:=BK (p.1,bits .xor .i64 p.2 (-9223372036854775808)) (q.1,bits .xor .i64 q.2 (-9223372036854775808))
theorem P5(p q:Int×Int)(w:World):Calls prog 180 #[aN p,aN q] w fun e w'=>e=.returned (.bool (BL p q))∧Touch [] w w':=by
 obtain⟨a,b⟩:=p;obtain⟨c,d⟩:=q;unfold BL;simp only[];have hL:=fun w=>IZ (a,bits .xor .i64 b (-9223372036854775808)) (c,bits .xor .i64 d (-9223372036854775808)) w;obtain⟨z,hz⟩:∃z,BK (a,bits .xor .i64 b (-9223372036854775808)) (c,bits .xor .i64 d (-9223372036854775808))=z:=⟨_,rfl⟩;rw[hz]at hL⊢;clear hz;unfold aN at hL⊢;go_enter func180,ntmps180;go_wp2_with fail;refine(hL _).mono ?_;rintro _ w1 ⟨rfl,t1⟩;have T:=hid (((tR w).alloc _).alloc _ |>.trans t1 (by simp));clear t1 hL;go_wp2_with fail;go_ret;exact⟨rfl,T.out⟩
theorem I4(ad n c:Nat)(x y:Int)(w:World)(hn:4≤n)(h0:w.cell? ⟨ad,2,none⟩=some (.int .i64 x))(h1:w.cell? ⟨ad,3,none⟩=some (.int .i64 y)):
 Calls prog 164 #[.slice (some ⟨ad,0,none⟩) n c] w fun e w'=>e=.returned (.agg #[.int .i64 x,.int .i64 y])∧Touch [] w w':=by
 have bR:=aF.new w 213 #[.int .i64 0,.int .i64 0];have e1:(3:Int)<n:=by omega
 have e0:(2:Int)<n:=by omega
 have tR:=(tR w).alloc (.cells #[.int .i64 0,.int .i64 0] 213);have x0:=ah tR.drew h0;have x1:=ah tR.drew h1;go_enter func164,ntmps164;have bD:=bR.drew;have f0:=bD.frozen 0;have f1:=bD.frozen 1;have r0:=bD.cell 0;have r1:=bD.cell 1;clear h0 h1 bR tR bD;go_upto_region 1 with fail;go_region
 all_goals go_wp2_with fail
 all_goals go_returns
 all_goals exact⟨rfl,((tR w).alloc _).drew⟩
theorem P6(a b c d:Int)(w:World):(binOp .eql 213 (.agg #[.int .i64 a,.int .i64 b]) (.agg #[.int .i64 c,.int .i64 d])).run prog w=.ok (.bool (a==c&&b==d)) w:=by
 rw[run_eql_struct,run_equalIn_agg _ _ _ _ _ y9 BD];simp only[Program.fieldsOf,underlying213];go_simp;repeat' split
 all_goals simp_all
theorem ps3(W:World)(ad c:Nat)(q0 q1 q2 q3:Int)(c0:W.cell? ⟨ad,0,none⟩=some (.int .i64 q0))(c1:W.cell? ⟨ad,1,none⟩=some (.int .i64 q1))(c2:W.cell? ⟨ad,2,none⟩=some (.int .i64 q2))(c3:W.cell? ⟨ad,3,none⟩=some (.int .i64 q3)):Calls prog 161 #[.slice (some ⟨ad,0,none⟩) 4 c] W fun e w'=>e=.returned (aN (zA (q0,q1) (q2,q3)))∧Touch [] W w':=by
 have hA:=fun w (t:Touch [] W w)=>mO ad 4 c q0 q1 w (by decide) (ah t c0) (ah t c1);have hB:=fun w (t:Touch [] W w)=>I4 ad 4 c q2 q3 w (by decide) (ah t c2) (ah t c3);have hO:=fun w=>zR (q0,q1) (q2,q3) w;obtain⟨⟨x0,y0⟩,jk⟩:∃r,zA (q0,q1) (q2,q3)=r:=⟨_,rfl⟩;rw[jk]at hO⊢;clear jk;unfold aN at hO⊢;have H0:=hid (And.intro (aF.new W 213 #[.int .i64 0,.int .i64 0]) ((tR W).alloc (.cells #[.int .i64 0,.int .i64 0] 213)));clear c0 c1 c2 c3;go_enter func161,ntmps161;go_wp2_with fail;refine(hA _ H0.out.2).mono ?_;rintro _ w1 ⟨rfl,t1⟩;have H1:=hid (And.intro (H0.out.1.touch t1 (by simp)) (H0.out.2.trans t1 (by simp)));clear t1 hA;go_wp2_with fail;refine(hB _ H1.out.2).mono ?_;rintro _ w2 ⟨rfl,t2⟩;have H2:=hid (And.intro (H1.out.1.touch t2 (by simp)) (H1.out.2.trans t2 (by simp)));clear t2 hB;go_wp2_with fail;refine(hO _).mono ?_;rintro _ w3 ⟨rfl,t3⟩;have H3:=hid (And.intro (H2.out.1.touch t3 (by simp)) (H2.out.2.trans t3 (by simp)));clear t3 hO;have b0:=H3.out.1;have e0:=b0.cell 0;have e1:=b0.cell 1;have f0:=b0.frozen 0;have f1:=b0.frozen 1;have HB:=hid b0;clear b0;go_wp2_with fail;obtain⟨z0,z1⟩:=fI HB.out (.int .i64 x0) (.int .i64 y0);refine bodyPost_ret (by simp[results,results161,go_sem,z0,z1];try rfl) rfl ⟨rfl,?_⟩;exact(H3.out.2.setCell (.inr (Nat.le_refl _)) _).setCell (.inr (Nat.le_refl _)) _
theorem ps4(W:World)(ad c:Nat)(q0 q1 q2 q3:Int)(c0:W.cell? ⟨ad,0,none⟩=some (.int .i64 q0))(c1:W.cell? ⟨ad,1,none⟩=some (.int .i64 q1))(c2:W.cell? ⟨ad,2,none⟩=some (.int .i64 q2))(c3:W.cell? ⟨ad,3,none⟩=some (.int .i64 q3)):Calls prog 165 #[.slice (some ⟨ad,0,none⟩) 4 c] W fun e w'=>e=.returned (aN (zA (q0,q1) (nS (q2,q3))))∧Touch [] W w':=by
 have hA:=fun w (t:Touch [] W w)=>mO ad 4 c q0 q1 w (by decide) (ah t c0) (ah t c1);have hB:=fun w (t:Touch [] W w)=>I4 ad 4 c q2 q3 w (by decide) (ah t c2) (ah t c3);have hN:=fun w=>qM (q2,q3) w;have hO:=fun w=>zR (q0,q1) (nS (q2,q3)) w;obtain⟨⟨x1,y1⟩,hr1⟩:∃r,nS (q2,q3)=r:=⟨_,rfl⟩;rw[hr1]at hN hO⊢;clear hr1;obtain⟨⟨x0,y0⟩,jk⟩:∃r,zA (q0,q1) (x1,y1)=r:=⟨_,rfl⟩;rw[jk]at hO⊢;clear jk;unfold aN at hN hO⊢;have H0:=hid (And.intro (aF.new W 213 #[.int .i64 0,.int .i64 0]) ((tR W).alloc (.cells #[.int .i64 0,.int .i64 0] 213)));clear c0 c1 c2 c3;go_enter func165,ntmps165;go_wp2_with fail;refine(hA _ H0.out.2).mono ?_;rintro _ w1 ⟨rfl,t1⟩;have H1:=hid (And.intro (H0.out.1.touch t1 (by simp)) (H0.out.2.trans t1 (by simp)));clear t1 hA;go_wp2_with fail;refine(hB _ H1.out.2).mono ?_;rintro _ w2 ⟨rfl,t2⟩;have H2:=hid (And.intro (H1.out.1.touch t2 (by simp)) (H1.out.2.trans t2 (by simp)));clear t2 hB;go_wp2_with fail;refine(hN _).mono ?_;rintro _ w3 ⟨rfl,t3⟩;have H3:=hid (And.intro (H2.out.1.touch t3 (by simp)) (H2.out.2.trans t3 (by simp)));clear t3 hN;go_wp2_with fail;refine(hO _).mono ?_;rintro _ w4 ⟨rfl,t4⟩;have H4:=hid (And.intro (H3.out.1.touch t4 (by simp)) (H3.out.2.trans t4 (by simp)));clear t4 hO;have b0:=H4.out.1;have e0:=b0.cell 0;have e1:=b0.cell 1;have f0:=b0.frozen 0;have f1:=b0.frozen 1;have HB:=hid b0;clear b0;go_wp2_with fail;obtain⟨z0,z1⟩:=fI HB.out (.int .i64 x0) (.int .i64 y0);refine bodyPost_ret (by simp[results,results165,go_sem,z0,z1];try rfl) rfl ⟨rfl,?_⟩;exact(H4.out.2.setCell (.inr (Nat.le_refl _)) _).setCell (.inr (Nat.le_refl _)) _
theorem ps5(W:World)(ad c:Nat)(q0 q1:Int)(c0:W.cell? ⟨ad,0,none⟩=some (.int .i64 q0))(c1:W.cell? ⟨ad,1,none⟩=some (.int .i64 q1)):Calls prog 167 #[.slice (some ⟨ad,0,none⟩) 2 c] W fun e w'=>e=.returned (aN (nS (q0,q1)))∧Touch [] W w':=by
 have hA:=fun w (t:Touch [] W w)=>mO ad 2 c q0 q1 w (by decide) (ah t c0) (ah t c1);have hO:=fun w=>qM (q0,q1) w;obtain⟨⟨x0,y0⟩,jk⟩:∃r,nS (q0,q1)=r:=⟨_,rfl⟩;rw[jk]at hO⊢;clear jk;unfold aN at hO⊢;have H0:=hid (And.intro (aF.new W 213 #[.int .i64 0,.int .i64 0]) ((tR W).alloc (.cells #[.int .i64 0,.int .i64 0] 213)));clear c0 c1;go_enter func167,ntmps167;go_wp2_with fail;refine(hA _ H0.out.2).mono ?_;rintro _ w1 ⟨rfl,t1⟩;have H1:=hid (And.intro (H0.out.1.touch t1 (by simp)) (H0.out.2.trans t1 (by simp)));clear t1 hA;go_wp2_with fail;refine(hO _).mono ?_;rintro _ w2 ⟨rfl,t2⟩;have H2:=hid (And.intro (H1.out.1.touch t2 (by simp)) (H1.out.2.trans t2 (by simp)));clear t2 hO;have b0:=H2.out.1;have e0:=b0.cell 0;have e1:=b0.cell 1;have f0:=b0.frozen 0;have f1:=b0.frozen 1;have HB:=hid b0;clear b0;go_wp2_with fail;obtain⟨z0,z1⟩:=fI HB.out (.int .i64 x0) (.int .i64 y0);refine bodyPost_ret (by simp[results,results167,go_sem,z0,z1];try rfl) rfl ⟨rfl,?_⟩;exact(H2.out.2.setCell (.inr (Nat.le_refl _)) _).setCell (.inr (Nat.le_refl _)) _
theorem ps6(W:World)(ad c:Nat)(q0 q1:Int)(c0:W.cell? ⟨ad,0,none⟩=some (.int .i64 q0))(c1:W.cell? ⟨ad,1,none⟩=some (.int .i64 q1)):Calls prog 168 #[.slice (some ⟨ad,0,none⟩) 2 c] W fun e w'=>e=.returned (aN (BJ (q0,q1)))∧Touch [] W w':=by
 have hA:=fun w (t:Touch [] W w)=>mO ad 2 c q0 q1 w (by decide) (ah t c0) (ah t c1);have hO:=fun w=>PX (q0,q1) w;obtain⟨⟨x0,y0⟩,jk⟩:∃r,BJ (q0,q1)=r:=⟨_,rfl⟩;rw[jk]at hO⊢;clear jk;unfold aN at hO⊢;have H0:=hid (And.intro (aF.new W 213 #[.int .i64 0,.int .i64 0]) ((tR W).alloc (.cells #[.int .i64 0,.int .i64 0] 213)));clear c0 c1;go_enter func168,ntmps168;go_wp2_with fail;refine(hA _ H0.out.2).mono ?_;rintro _ w1 ⟨rfl,t1⟩;have H1:=hid (And.intro (H0.out.1.touch t1 (by simp)) (H0.out.2.trans t1 (by simp)));clear t1 hA;go_wp2_with fail;refine(hO _).mono ?_;rintro _ w2 ⟨rfl,t2⟩;have H2:=hid (And.intro (H1.out.1.touch t2 (by simp)) (H1.out.2.trans t2 (by simp)));clear t2 hO;have b0:=H2.out.1;have e0:=b0.cell 0;have e1:=b0.cell 1;have f0:=b0.frozen 0;have f1:=b0.frozen 1;have HB:=hid b0;clear b0;go_wp2_with fail;obtain⟨z0,z1⟩:=fI HB.out (.int .i64 x0) (.int .i64 y0);refine bodyPost_ret (by simp[results,results168,go_sem,z0,z1];try rfl) rfl ⟨rfl,?_⟩;exact(H2.out.2.setCell (.inr (Nat.le_refl _)) _).setCell (.inr (Nat.le_refl _)) _
theorem ps7(W:World)(ad c:Nat)(q0 q1:Int)(c0:W.cell? ⟨ad,0,none⟩=some (.int .i64 q0))(c1:W.cell? ⟨ad,1,none⟩=some (.int .i64 q1)):Calls prog 170 #[.slice (some ⟨ad,0,none⟩) 2 c] W fun e w'=>e=.returned (aN (IV (q0,q1)))∧Touch [] W w':=by
 have hA:=fun w (t:Touch [] W w)=>mO ad 2 c q0 q1 w (by decide) (ah t c0) (ah t c1);have hO:=fun w=>UJ (q0,q1) w;obtain⟨⟨x0,y0⟩,jk⟩:∃r,IV (q0,q1)=r:=⟨_,rfl⟩;rw[jk]at hO⊢;clear jk;unfold aN at hO⊢;have H0:=hid (And.intro (aF.new W 213 #[.int .i64 0,.int .i64 0]) ((tR W).alloc (.cells #[.int .i64 0,.int .i64 0] 213)));clear c0 c1;go_enter func170,ntmps170;go_wp2_with fail;refine(hA _ H0.out.2).mono ?_;rintro _ w1 ⟨rfl,t1⟩;have H1:=hid (And.intro (H0.out.1.touch t1 (by simp)) (H0.out.2.trans t1 (by simp)));clear t1 hA;go_wp2_with fail;refine(hO _).mono ?_;rintro _ w2 ⟨rfl,t2⟩;have H2:=hid (And.intro (H1.out.1.touch t2 (by simp)) (H1.out.2.trans t2 (by simp)));clear t2 hO;have b0:=H2.out.1;have e0:=b0.cell 0;have e1:=b0.cell 1;have f0:=b0.frozen 0;have f1:=b0.frozen 1;have HB:=hid b0;clear b0;go_wp2_with fail;obtain⟨z0,z1⟩:=fI HB.out (.int .i64 x0) (.int .i64 y0);refine bodyPost_ret (by simp[results,results170,go_sem,z0,z1];try rfl) rfl ⟨rfl,?_⟩;exact(H2.out.2.setCell (.inr (Nat.le_refl _)) _).setCell (.inr (Nat.le_refl _)) _
theorem ps2(W:World)(ad c:Nat)(q0:Int)(c0:W.cell? ⟨ad,0,none⟩=some (.int .i64 q0)):Calls prog 159 #[.slice (some ⟨ad,0,none⟩) 1 c] W fun e w'=>e=.returned (aN (fq q0))∧Touch [] W w':=by
 have hO:=fun w=>iA q0 w;obtain⟨⟨x0,y0⟩,jk⟩:∃r,fq q0=r:=⟨_,rfl⟩;rw[jk]at hO⊢;clear jk;unfold aN at hO⊢;have r0:=ah ((tR W).alloc (.cells #[.int .i64 0,.int .i64 0] 213)) c0;have H0:=hid (And.intro (aF.new W 213 #[.int .i64 0,.int .i64 0]) ((tR W).alloc (.cells #[.int .i64 0,.int .i64 0] 213)));clear c0;go_enter func159,ntmps159;go_wp2_with fail;refine(hO _).mono ?_;rintro _ w1 ⟨rfl,t1⟩;have H1:=hid (And.intro (H0.out.1.touch t1 (by simp)) (H0.out.2.trans t1 (by simp)));clear t1 hO;have b0:=H1.out.1;have e0:=b0.cell 0;have e1:=b0.cell 1;have f0:=b0.frozen 0;have f1:=b0.frozen 1;have HB:=hid b0;clear b0;go_wp2_with fail;obtain⟨z0,z1⟩:=fI HB.out (.int .i64 x0) (.int .i64 y0);refine bodyPost_ret (by simp[results,results159,go_sem,z0,z1];try rfl) rfl ⟨rfl,?_⟩;exact(H1.out.2.setCell (.inr (Nat.le_refl _)) _).setCell (.inr (Nat.le_refl _)) _
theorem ps8(W:World)(ad c:Nat)(q0 q1:Int)(c0:W.cell? ⟨ad,0,none⟩=some (.int .i64 q0))(c1:W.cell? ⟨ad,1,none⟩=some (.int .i64 q1)):Calls prog 172 #[.slice (some ⟨ad,0,none⟩) 2 c] W fun e w'=>e=.returned (aN (qN q0 q1))∧Touch [] W w':=by
 have hO:=fun w=>Na q0 q1 w;obtain⟨⟨x0,y0⟩,jk⟩:∃r,qN q0 q1=r:=⟨_,rfl⟩;rw[jk]at hO⊢;clear jk;unfold aN at hO⊢;have bR:=aF.new W 213 #[.int .i64 0,.int .i64 0];have tR:=(tR W).alloc (.cells #[.int .i64 0,.int .i64 0] 213);have r0:=ah tR.drew c0;have r1:=ah tR.drew c1;have H0:=hid (And.intro bR.drew tR.drew);clear c0 c1 bR tR;go_enter func172,ntmps172;go_upto_region 1 with fail;go_region_with (go_at_call 157;refine(hO _).mono ?_;rintro _ w1 ⟨rfl,t1⟩;have b1:=H0.out.1.touch t1 (by simp);have T1:=hid (H0.out.2.trans t1 (by simp));have e0:=b1.cell 0;have e1:=b1.cell 1;have f0:=b1.frozen 0;have f1:=b1.frozen 1;have HB:=hid b1;clear b1 t1)
 all_goals go_wp2_with fail
 all_goals obtain⟨z0,z1⟩:=fI HB.out (.int .i64 x0) (.int .i64 y0)
 all_goals refine bodyPost_ret (by simp[results,results172,go_sem,z0,z1];try rfl) rfl ⟨rfl,?_⟩
 all_goals exact(T1.out.setCell (.inr (Nat.le_refl _)) _).setCell (.inr (Nat.le_refl _)) _
theorem ps9(W:World)(ad c:Nat)(q0 q1:Int)(c0:W.cell? ⟨ad,0,none⟩=some (.int .i64 q0))(c1:W.cell? ⟨ad,1,none⟩=some (.int .i64 q1)):Calls prog 173 #[.slice (some ⟨ad,0,none⟩) 2 c] W fun e w'=>e=.returned (aN (ze q0 q1))∧Touch [] W w':=by
 have hO:=fun w=>IL q0 q1 w;obtain⟨⟨x0,y0⟩,jk⟩:∃r,ze q0 q1=r:=⟨_,rfl⟩;rw[jk]at hO⊢;clear jk;unfold aN at hO⊢;have bR:=aF.new W 213 #[.int .i64 0,.int .i64 0];have tR:=(tR W).alloc (.cells #[.int .i64 0,.int .i64 0] 213);have r0:=ah tR.drew c0;have r1:=ah tR.drew c1;have H0:=hid (And.intro bR.drew tR.drew);clear c0 c1 bR tR;go_enter func173,ntmps173;go_upto_region 1 with fail;go_region_with (go_at_call 174;refine(hO _).mono ?_;rintro _ w1 ⟨rfl,t1⟩;have b1:=H0.out.1.touch t1 (by simp);have T1:=hid (H0.out.2.trans t1 (by simp));have e0:=b1.cell 0;have e1:=b1.cell 1;have f0:=b1.frozen 0;have f1:=b1.frozen 1;have HB:=hid b1;clear b1 t1)
 all_goals go_wp2_with fail
 all_goals obtain⟨z0,z1⟩:=fI HB.out (.int .i64 x0) (.int .i64 y0)
 all_goals refine bodyPost_ret (by simp[results,results173,go_sem,z0,z1];try rfl) rfl ⟨rfl,?_⟩
 all_goals exact(T1.out.setCell (.inr (Nat.le_refl _)) _).setCell (.inr (Nat.le_refl _)) _
theorem L4(W:World)(ad c:Nat)(q0 q1 q2 q3:Int)(c0:W.cell? ⟨ad,0,none⟩=some (.int .i64 q0))(c1:W.cell? ⟨ad,1,none⟩=some (.int .i64 q1))(c2:W.cell? ⟨ad,2,none⟩=some (.int .i64 q2))(c3:W.cell? ⟨ad,3,none⟩=some (.int .i64 q3)):Calls prog 177 #[.slice (some ⟨ad,0,none⟩) 4 c] W fun e w'=>e=.returned (.int .i64 (dZ (BK (q0,q1) (q2,q3))))∧Touch [] W w':=by
 have hA:=fun w (t:Touch [] W w)=>mO ad 4 c q0 q1 w (by decide) (ah t c0) (ah t c1);have hB:=fun w (t:Touch [] W w)=>I4 ad 4 c q2 q3 w (by decide) (ah t c2) (ah t c3);have hL:=fun w=>IZ (q0,q1) (q2,q3) w;have hT:=fun b w=>gQ b w;obtain⟨z,hz⟩:∃z,BK (q0,q1) (q2,q3)=z:=⟨_,rfl⟩;rw[hz]at hL⊢;clear hz;unfold aN at hL;have H0:=hid (tR W);clear c0 c1 c2 c3;go_enter func177,ntmps177;go_wp2_with fail;refine(hA _ H0.out).mono ?_;rintro _ w1 ⟨rfl,t1⟩;have H1:=hid (H0.out.trans t1 (by simp));clear t1 hA;go_wp2_with fail;refine(hB _ H1.out).mono ?_;rintro _ w2 ⟨rfl,t2⟩;have H2:=hid (H1.out.trans t2 (by simp));clear t2 hB;go_wp2_with fail;refine(hL _).mono ?_;rintro _ w3 ⟨rfl,t3⟩;have H3:=hid (H2.out.trans t3 (by simp));clear t3 hL;go_wp2_with fail;refine(hT _ _).mono ?_;rintro _ _ ⟨rfl,rfl⟩;have H4:=hid H3.out;go_wp2_with fail;go_ret;exact⟨rfl,H4.out⟩
theorem L5(W:World)(ad c:Nat)(q0 q1 q2 q3:Int)(c0:W.cell? ⟨ad,0,none⟩=some (.int .i64 q0))(c1:W.cell? ⟨ad,1,none⟩=some (.int .i64 q1))(c2:W.cell? ⟨ad,2,none⟩=some (.int .i64 q2))(c3:W.cell? ⟨ad,3,none⟩=some (.int .i64 q3)):Calls prog 179 #[.slice (some ⟨ad,0,none⟩) 4 c] W fun e w'=>e=.returned (.int .i64 (dZ (BL (q0,q1) (q2,q3))))∧Touch [] W w':=by
 have hA:=fun w (t:Touch [] W w)=>mO ad 4 c q0 q1 w (by decide) (ah t c0) (ah t c1);have hB:=fun w (t:Touch [] W w)=>I4 ad 4 c q2 q3 w (by decide) (ah t c2) (ah t c3);have hL:=fun w=>P5 (q0,q1) (q2,q3) w;have hT:=fun b w=>gQ b w;obtain⟨z,hz⟩:∃z,BL (q0,q1) (q2,q3)=z:=⟨_,rfl⟩;rw[hz]at hL⊢;clear hz;unfold aN at hL;have H0:=hid (tR W);clear c0 c1 c2 c3;go_enter func179,ntmps179;go_wp2_with fail;refine(hA _ H0.out).mono ?_;rintro _ w1 ⟨rfl,t1⟩;have H1:=hid (H0.out.trans t1 (by simp));clear t1 hA;go_wp2_with fail;refine(hB _ H1.out).mono ?_;rintro _ w2 ⟨rfl,t2⟩;have H2:=hid (H1.out.trans t2 (by simp));clear t2 hB;go_wp2_with fail;refine(hL _).mono ?_;rintro _ w3 ⟨rfl,t3⟩;have H3:=hid (H2.out.trans t3 (by simp));clear t3 hL;go_wp2_with fail;refine(hT _ _).mono ?_;rintro _ _ ⟨rfl,rfl⟩;have H4:=hid H3.out;go_wp2_with fail;go_ret;exact⟨rfl,H4.out⟩
theorem Mb(W:World)(ad c:Nat)(q0 q1 q2 q3:Int)(c0:W.cell? ⟨ad,0,none⟩=some (.int .i64 q0))(c1:W.cell? ⟨ad,1,none⟩=some (.int .i64 q1))(c2:W.cell? ⟨ad,2,none⟩=some (.int .i64 q2))(c3:W.cell? ⟨ad,3,none⟩=some (.int .i64 q3)):Calls prog 181 #[.slice (some ⟨ad,0,none⟩) 4 c] W fun e w'=>e=.returned (.int .i64 (dZ (q0==q2&&q1==q3)))∧Touch [] W w':=by
 have hA:=fun w (t:Touch [] W w)=>mO ad 4 c q0 q1 w (by decide) (ah t c0) (ah t c1);have hB:=fun w (t:Touch [] W w)=>I4 ad 4 c q2 q3 w (by decide) (ah t c2) (ah t c3);have hT:=fun b w=>gQ b w;have hE:=fun w=>P6 q0 q1 q2 q3 w;have H0:=hid (tR W);clear c0 c1 c2 c3;go_enter func181,ntmps181;go_wp2_with fail;refine(hA _ H0.out).mono ?_;rintro _ w1 ⟨rfl,t1⟩;have H1:=hid (H0.out.trans t1 (by simp));clear t1 hA;go_wp2_with fail;refine(hB _ H1.out).mono ?_;rintro _ w2 ⟨rfl,t2⟩;have H2:=hid (H1.out.trans t2 (by simp));clear t2 hB;go_wp2_with fail;refine(hT _ _).mono ?_;rintro _ _ ⟨rfl,rfl⟩;have H3:=hid H2.out;go_wp2_with fail;go_ret;exact⟨rfl,H3.out⟩
theorem Mm(W:World)(ad c:Nat)(q0 q1:Int)(c0:W.cell? ⟨ad,0,none⟩=some (.int .i64 q0))(c1:W.cell? ⟨ad,1,none⟩=some (.int .i64 q1)):Calls prog 175 #[.slice (some ⟨ad,0,none⟩) 2 c] W fun e w'=>e=.returned (aN (if q1<0 then nS (q0,q1)else(q0,q1)))∧Touch [] W w':=by
 have hA:=fun w (t:Touch [] W w)=>mO ad 2 c q0 q1 w (by decide) (ah t c0) (ah t c1);have hN:=fun w=>qM (q0,q1) w;by_cases h:q1<0
 ·rw[if_pos h];obtain⟨⟨x0,y0⟩,jk⟩:∃r,nS (q0,q1)=r:=⟨_,rfl⟩;rw[jk]at hN⊢;clear jk;unfold aN at hN⊢;have r1:=ah ((tR W).alloc (.cells #[.int .i64 0,.int .i64 0] 213)) c1;have H0:=hid (And.intro (aF.new W 213 #[.int .i64 0,.int .i64 0]) ((tR W).alloc (.cells #[.int .i64 0,.int .i64 0] 213)));clear c0 c1;go_enter func175,ntmps175;go_wp2_with fail;refine(hA _ H0.out.2).mono ?_;rintro _ w1 ⟨rfl,t1⟩;have H1:=hid (And.intro (H0.out.1.touch t1 (by simp)) (H0.out.2.trans t1 (by simp)));clear t1 hA;go_wp2_with fail;refine(hN _).mono ?_;rintro _ w2 ⟨rfl,t2⟩;have H2:=hid (And.intro (H1.out.1.touch t2 (by simp)) (H1.out.2.trans t2 (by simp)));clear t2 hN;have b0:=H2.out.1;have e0:=b0.cell 0;have e1:=b0.cell 1;have f0:=b0.frozen 0;have f1:=b0.frozen 1;have HB:=hid b0;clear b0;go_wp2_with fail;obtain⟨z0,z1⟩:=fI HB.out (.int .i64 x0) (.int .i64 y0);refine bodyPost_ret (by simp[results,results175,go_sem,z0,z1];try rfl) rfl ⟨rfl,?_⟩;exact(H2.out.2.setCell (.inr (Nat.le_refl _)) _).setCell (.inr (Nat.le_refl _)) _
 ·rw[if_neg h];clear hN;unfold aN;have r1:=ah ((tR W).alloc (.cells #[.int .i64 0,.int .i64 0] 213)) c1;have H0:=hid (And.intro (aF.new W 213 #[.int .i64 0,.int .i64 0]) ((tR W).alloc (.cells #[.int .i64 0,.int .i64 0] 213)));clear c0 c1;go_enter func175,ntmps175;go_wp2_with fail;refine(hA _ H0.out.2).mono ?_;rintro _ w1 ⟨rfl,t1⟩;have H1:=hid (And.intro (H0.out.1.touch t1 (by simp)) (H0.out.2.trans t1 (by simp)));clear t1 hA;have b0:=H1.out.1;have e0:=b0.cell 0;have e1:=b0.cell 1;have f0:=b0.frozen 0;have f1:=b0.frozen 1;have HB:=hid b0;clear b0;go_wp2_with fail;obtain⟨z0,z1⟩:=fI HB.out (.int .i64 q0) (.int .i64 q1);refine bodyPost_ret (by simp[results,results175,go_sem,z0,z1];try rfl) rfl ⟨rfl,?_⟩;exact(H1.out.2.setCell (.inr (Nat.le_refl _)) _).setCell (.inr (Nat.le_refl _)) _
end Go.Proofs.YtdokeddjcpnmiaaGreatDoor
