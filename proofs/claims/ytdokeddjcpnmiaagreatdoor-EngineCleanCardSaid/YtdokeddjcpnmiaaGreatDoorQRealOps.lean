/- Of EngineClean: Rev Text3 Dig2 Ops2 MemLaw MemBase CellOps8 CellOps RlC RealOps. -/
import Derived.Test.YtdokeddjcpnmiaaGreatDoorQLong
import Derived.Test.YtdokeddjcpnmiaaGreatDoorQPDoC
import Derived.Test.YtdokeddjcpnmiaaGreatDoorQRlA
import Derived.Shelf.SlicesE.Reverse
import Derived.Sort.OwnSorted
import Derived.Laws.StructEq
import Derived.Lib.ItoaNum
set_option maxRecDepth 100000
set_option maxHeartbeats 1000000
namespace Go.Proofs
open Go.Shelf
def Tryz.yZ:Go.Shelf.Ren:=⟨fun|35=>298|n=>n,fun|22=>90|23=>5|3=>3|4=>4|0=>0|n=>n,fun|n=>n⟩
theorem Tryz.M6:Go.Proofs.SlLaysE.n35 Tryz.prog Tryz.yZ:={
 mixed:=by kernel_rfl
 f35:=⟨Tryz.f298.name,by decide,Tryz.func298.trans (congrArg some (by kernel_rfl))⟩
 t0:=Tryz.underlying0
 a0:=Tryz.isAgg0
 z0:=Tryz.sizeOf0
 v0:=Tryz.zeroValue0
 t3:=Tryz.underlying3
 a3:=Tryz.isAgg3
 z3:=Tryz.sizeOf3
 v3:=Tryz.zeroValue3
 t4:=Tryz.underlying4
 a4:=Tryz.isAgg4
 z4:=Tryz.sizeOf4
 v4:=Tryz.zeroValue4
 t22:=Tryz.underlying90
 a22:=Tryz.isAgg90
 z22:=Tryz.sizeOf90
 v22:=Tryz.zeroValue90
 a23:=Tryz.isAgg5
 z23:=Tryz.sizeOf5}
end Go.Proofs
namespace Go.Proofs.YtdokeddjcpnmiaaGreatDoor
open Go.RowKit Go.Sort
theorem Yi:OneCell (Value.int .u8):=by
 intro x;rfl
theorem Ux(cur:Array Value)(ts:List Int)(h:ts.length≤cur.size):(putCells (Value.int .u8) 0 ts.toArray cur).toList.take ts.length=ts.map (Value.int .u8):=by
 apply List.ext_getElem?;intro j;by_cases hj:j<ts.length
 ·rw[List.getElem?_take_of_lt hj,Array.getElem?_toList];simp[putCells,hj,show j<cur.size by omega]
 ·rw[List.getElem?_take_eq_none (by omega),List.getElem?_eq_none (by simp;omega)]
theorem M7(w:World)(base:Nat)(v:Value)(l:List Int)(h:w.ownsRow base 5 1 v l.length (aL l)):
 Calls Tryz.prog 298 #[v] w fun e w'=>e=.returned (.tuple #[])∧w'.ownsRow base 5 1 v l.length (aL l.reverse)∧Touch (rowOf v) w w':=by
 have hrun:= @AnyE.slices_Reverse Tryz.prog Tryz.yZ Int _ Tryz.M6 (Value.int .u8) Yi;rcases h.2 with⟨rfl,h0⟩|⟨g,cap,cur,rfl,hbg,hg,WK,hcm,hcs,qU⟩
 ·obtain rfl:=List.eq_nil_of_length_eq_zero h0;refine(AnyE.slices_Reverse_empty (P:=Tryz.prog) Tryz.M6 none 0 w).mono ?_;rintro _ w' ⟨rfl,rfl⟩;exact⟨rfl,h,Touch.refl _ _⟩
 ·have hl:l.length≤cur.size:=by rw[hcs];omega
  have QY:cur.toList.take l.length=l.map (Value.int .u8):=by simpa[aL]using qU
  have hH:Holds (Value.int .u8) w g 0 l.toArray:=by
   intro j hj;have hj':j<l.length:=by simpa using hj
   refine⟨?_,by simp[World.frozen?,hg]⟩;have h1:(cur.toList.take l.length)[j]? =(l.map (Value.int .u8))[j]? :=by rw[QY]
   rw[List.getElem?_take_of_lt hj']at h1;simp only[World.cell?,hg,Nat.zero_add];simp only[Option.isSome_none,Bool.false_eq_true,if_false];rw[←Array.getElem?_toList,h1];simp[hj']
  refine(hrun g 0 cap l w hH (by unfold maxLen at hcm;omega)).mono ?_;rintro _ w' ⟨rfl,q,rfl⟩;refine⟨rfl,⟨by simp[aL],.inr ⟨g,cap,putCells (Value.int .u8) 0 l.reverse.toArray cur,rfl,hbg,?_,WK,hcm,by simpa[putCells]using hcs,?_⟩⟩,⟨rfl,rfl,rfl,by simp,fun k hk hne=> ?_⟩⟩
  ·simp[putRow,mapBlock,Sort.ahead,Array.getElem?_modify,hg,onCells]
  ·have:=Ux cur l.reverse (by simp;exact hl);simpa[aL]using this
  ·have:g≠k:=fun e=>hne (by simp[rowOf,e]);simp[putRow,mapBlock,Sort.ahead,Array.getElem?_modify,this]
end Go.Proofs.YtdokeddjcpnmiaaGreatDoor
namespace Go.Proofs.YtdokeddjcpnmiaaGreatDoor
open Go.RowKit Go.Proofs.Tryz
open Go.Lib(hid)
theorem y9:prog.underlying 213=some (.struct (prog.fieldsOf 213)):=by kernel_rfl
theorem BD:prog.stoodInHeld 213=false:=by kernel_rfl
theorem uW:prog.eqGuardType prog.depth 213=false:=by kernel_rfl
def kF(B n:Nat):List UInt8:=if _h:2≤B∧B≤n then kF B (n / B)++[ng (n%B)]else [ng n]
termination_by n
decreasing_by exact Nat.div_lt_self (by omega) (by omega)
theorem uX(B n:Nat)(h2:2≤B)(h:B≤n):kF B n=kF B (n / B)++[ng (n%B)]:=by rw[kF,dif_pos ⟨h2,h⟩]
theorem qL(B n:Nat)(h:n<B):kF B n=[ng n]:=by rw[kF,dif_neg (by omega)]
theorem BF(m:Nat)(h:m<340282366920938463463374607431768211456):(pl m==0&&ph m==0)=decide (m=0):=by
 rw[Bool.eq_iff_iff,Bool.and_eq_true,beq_iff_eq,beq_iff_eq,decide_eq_true_eq];unfold pl ph cellOf;refine⟨fun⟨h1,h2⟩=> ?_,fun h=>by subst h;exact⟨rfl,rfl⟩⟩;split at h1<;>split at h2<;>omega
def mM(l:List UInt8):List Int:=l.map fun c=>(c.toNat:Int)
theorem IJ(l:List UInt8):Bytes (mM l):=by
 intro x hx;obtain⟨b,_,rfl⟩:=List.mem_map.1 hx;have:=b.toNat_lt;omega
theorem PG(l:List UInt8):strOfNums (mM l)=⟨l.toArray⟩:=by
 have:=Ur ⟨l.toArray⟩;unfold oO at this;simpa[mM]using this
theorem PI(l:List UInt8):(mM l).length=l.length:=List.length_map _
theorem wC(a b c d:Int)(w:World):(binOp .neq 213 (.agg #[.int .i64 a,.int .i64 b]) (.agg #[.int .i64 c,.int .i64 d])).run prog w=.ok (.bool (!(a==c&&b==d))) w:=by
 rw[run_neq_struct,run_equalIn_agg _ _ _ _ _ y9 BD];simp only[Program.fieldsOf,underlying213];go_simp;repeat' split
 all_goals simp_all
theorem UK(n:Nat)(hn:n<9223372036854775808)(w:World):Calls prog 160 #[.int .i64 (n:Int)] w fun e w'=>e=.returned (.agg #[.int .i64 (cellOf n),.int .i64 0])∧Touch [] w w':=by
 have e1:(n:Int) / 9223372036854775808=0:=by omega
 have e2:=uU n hn;rw[e2];have bR:=aF.new w 213 #[.int .i64 0,.int .i64 0];go_enter func160,ntmps160;go_wp2_with fail;go_returns
 exact⟨rfl,(Touch.refl _ _).alloc _⟩
theorem dW.three{w:World}{lv:Value}{l:List Int}(h:dW w lv l)(hl:l.length=3):∃g c x y z,l=[x,y,z]∧lv=.slice (some ⟨g,0,none⟩) 3 c∧w.cell? ⟨g,0,none⟩=some (.int .i64 x)∧w.cell? ⟨g,1,none⟩=some (.int .i64 y)∧w.cell? ⟨g,2,none⟩=some (.int .i64 z):=by
 obtain⟨x,y,z,rfl⟩:∃x y z,l=[x,y,z]:=by
  match l,hl with
  |[x,y,z],_=>exact⟨x,y,z,rfl⟩
 obtain⟨g,c,e,h⟩:=h.get (by simp);exact⟨g,c,x,y,z,rfl,e,h 0 (by simp),h 1 (by simp),h 2 (by simp)⟩
theorem UL:cu 82 0 (fun _ _=>True) (fun _ S=>(([S.here],0),S)):=by
 intro W B s F S t f first cap l lv bW hS hF eO;obtain⟨b,C,hC,hb,hA,hB⟩:=dA eO rfl rfl;obtain⟨g,_,hg,rfl,rfl,rfl,rfl⟩:=aW (hA:aQ C 0 274 223 (.func (.func 209) #[] #[.pointer (some ⟨b,0,none⟩)]) _ W) (Nat.zero_le _);refine⟨rfl,enters_of func274 (by kernel_rfl) rfl,fun hl _ hc=>aR.post (tu hg (enters_of func209 (by kernel_rfl) rfl) ?_)⟩;have hH:Calls prog 88 #[.pointer (some ⟨S.m,0,none⟩)] W fun e w'=>e=.returned (.int .i64 S.here)∧W=w':=by
  obtain⟨FS,ov,mv,hp,_⟩:=hS;exact nE hp.mem
 have b0:=hB.cell 0;have HF:=hid (Done.self hS (tR W));clear hS hB hA hg eO hc;show Calls prog 209 #[lv,.pointer (some ⟨b,0,none⟩)] W _;go_enter func209,ntmps209;go_wp2_with fail;refine hH.mono ?_;rintro _ _ ⟨rfl,rfl⟩;clear hH;go_wp2_with fail;go_ret;exact⟨rfl,HF.out⟩

theorem aC.mem{w:World}{s:Nat}{F:List Nat}{S:PS}(h:aC w s F S):aY w S.m S.g S.n S.bs S.here:=by
 obtain⟨FS,ov,mv,hp,_⟩:=h;exact hp.mem
theorem aC.len{w:World}{s:Nat}{F:List Nat}{S:PS}(h:aC w s F S):S.bs.length=S.n∧S.n≤65536:=⟨h.mem.len,h.mem.small⟩
theorem aY.quiet{w w':World}{m g n here:Nat}{bs:List Int}(h:aY w m g n bs here)(t:Touch [] w w'):aY w' m g n bs here:=h.touch t (by simp) (by simp)
theorem iG{F:List Nat}{w w':World}{p:Addr}{u:Value}(t:Touch F w w')(h:w.cell? p=some u)(hn:p.block∉F):w'.cell? p=some u:=(t.cell (World.block_lt_of_cell? w p h) hn).trans h
theorem Done.mem{W w':World}{s:Nat}{F:List Nat}{S:PS}{pg:List Int}{here':Nat}(h:aC W s F S)(hm:aY w' S.m S.g S.n pg here')(t:Touch [S.m,S.g] W w'):Done W s F S {S with bs:=pg,here:=here'} w':=by
 obtain⟨FS,ov,mv,hp,rfl⟩:=h;exact⟨_,⟨FS,ov,mv,hp.memory hm t,rfl⟩,⟨rfl,rfl,rfl,rfl,rfl,rfl⟩,t.mono (fun g hg=>.inl (by simp only[List.mem_cons,List.not_mem_nil,or_false]at hg;rcases hg with rfl|rfl<;>simp[foot])),Sub.refl _ _⟩
theorem Qc(op:Int)(h:jh op=1):oN op 1 (fun _ _=>True) (fun l S=>(([(wZ op (l.getD 0 0)).1],(wZ op (l.getD 0 0)).2),S)):=by
 intro W B s F S t f first cap l lv bW hS hF eO;obtain⟨b,C,hC,hb,hA,hB⟩:=eO;have kL:jA op=(1,125):=by unfold jA;rw[if_pos h]
 rw[kL]at hA;obtain⟨g,_,hg,rfl,rfl,rfl,rfl⟩:=aW hA (Nat.zero_le _);refine⟨rfl,enters_of func149 (by kernel_rfl) rfl,fun hl bG hc=>aR.post (oF hg (enters_of func125 (by kernel_rfl) rfl) ?_)⟩;obtain⟨ad,c,q,e,rfl,cq⟩:=hc.one hl;subst e;show Calls prog _ _ W fun e w'=>e=.returned (.tuple #[.int .i64 (wZ op q).1,.int .i64 (wZ op q).2])∧Done W s F S S w';have hO:=fun w=>WB op q w;obtain⟨r,hr⟩:∃r,wZ op q=r:=⟨_,rfl⟩;rw[hr]at hO⊢;unfold dY at hO;have b0:=(hB.touch ((tR W).drew) (by simp)).cell 0;have x0:=ah ((tR W).drew) cq;have HD:=hid (Done.self hS ((tR W).drew));clear hS hB hA hg hF hc cq hr kL h;show Calls prog 125 #[.slice (some ⟨ad,0,none⟩) 1 c,.pointer (some ⟨b,0,none⟩)] W _;go_enter func125,ntmps125;go_upto_region 1 with fail;go_region_with (go_at_call 126;refine(hO _).mono ?_;rintro _ _ ⟨rfl,rfl⟩)
 all_goals go_wp2_with fail
 all_goals go_ret2
 all_goals exact⟨rfl,HD.out⟩
def rz(op a b:Int):Int×Int:=if b=0∧(op=14∨op=15)then(0,-10)else(Pw op a b,0)
theorem BM(op:Int)(h:11≤op∧op≤27)(a b:Int)(w:World):Calls prog 128 #[.int .i64 op,.int .i64 a,.int .i64 b] w fun e w'=>e=.returned (.tuple #[.int .i64 (rz op a b).1,.int .i64 (rz op a b).2])∧Touch [] w w':=by
 obtain⟨k,rfl⟩:∃k:Nat,op=k:=⟨op.toNat,by omega⟩;unfold rz;by_cases hb:b=0∧((k:Int)=14∨(k:Int)=15)
 ·rw[if_pos hb];obtain⟨rfl,hk⟩:=hb;exact Uq k (by omega) a w
 ·rw[if_neg hb];exact eI k (by omega) a b (by omega) w
theorem Qd(op:Int)(h:jh op=2):oN op 2 (fun _ _=>True) (fun l S=>(([(rz op (l.getD 0 0) (l.getD 1 0)).1],(rz op (l.getD 0 0) (l.getD 1 0)).2),S)):=by
 intro W B s F S t f first cap l lv bW hS hF eO;obtain⟨b,C,hC,hb,hA,hB⟩:=eO;have kL:jA op=(2,127):=by unfold jA;rw[if_neg (by omega),if_pos h]
 rw[kL]at hA;obtain⟨g,_,hg,rfl,rfl,rfl,rfl⟩:=aW hA (Nat.zero_le _);refine⟨rfl,enters_of func149 (by kernel_rfl) rfl,fun hl bG hc=>aR.post (oF hg (enters_of func127 (by kernel_rfl) rfl) ?_)⟩;obtain⟨ad,c,q,q1,e,rfl,cq,wH⟩:=hc.two hl;subst e;show Calls prog _ _ W fun e w'=>e=.returned (.tuple #[.int .i64 (rz op q q1).1,.int .i64 (rz op q q1).2])∧Done W s F S S w';have h27:11≤op∧op≤27:=by unfold jh at h;split at h<;>first|omega|(split at h<;>omega)
 have hO:=fun w=>BM op h27 q q1 w;obtain⟨r,hr⟩:∃r,rz op q q1=r:=⟨_,rfl⟩;rw[hr]at hO⊢;have b0:=(hB.touch ((tR W).drew) (by simp)).cell 0;have x0:=ah ((tR W).drew) cq;have x1:=ah ((tR W).drew) wH;have HH:=hid hS;clear hS hB hA hg hF hc cq wH hr kL h h27;show Calls prog 127 #[.slice (some ⟨ad,0,none⟩) 2 c,.pointer (some ⟨b,0,none⟩)] W _;go_enter func127,ntmps127;go_upto_region 1 with fail;go_region_with (go_at_call 128;refine(hO _).mono ?_;rintro _ w1 ⟨rfl,t1⟩;have HD:Hid (Done W s F S S w1):=Done.self HH.out t1.aO;clear t1)
 all_goals go_wp2_with fail
 all_goals go_ret2
 all_goals exact⟨rfl,HD.out⟩

end Go.Proofs.YtdokeddjcpnmiaaGreatDoor
namespace Go.Proofs.YtdokeddjcpnmiaaGreatDoor.Rl
open Go.RowKit
theorem YH(a:Int)(w:World):Calls Tryz.prog 130 #[.int .i64 1,.int .i64 a] w fun e w'=>e=.returned (.tuple #[.int .i64 (madeOf (zk (bitsOf a))),.int .i64 0])∧w=w':=by
 have hen:=fun W=>wM (P:=Tryz.prog) W (bitsOf a);rw[rX _ (eX a)]at hen;go_enter Tryz.func130,Tryz.ntmps130;go_wp2_with fail;refine(dB a _).mono ?_;rintro _ _ ⟨rfl,rfl⟩;go_wp2_with fail;refine(fJ _ (U7 _ (eX a)) _).mono ?_;rintro _ _ ⟨rfl,rfl⟩;go_wp2_with fail;go_ret2;exact⟨rfl,rfl⟩
theorem Eu(x:Nat)(h:Fl.rg x=9218868437227405312)(hx:x<18446744073709551616)(w:World):Calls Tryz.prog 280 #[.float .f64 x] w fun e w'=>e=.returned (.float .f64 x)∧w=w':=by
 refine tK x x w w ?_;rw[run_callFunc_extern Tryz.func307 (by kernel_rfl) (by kernel_rfl) (by kernel_rfl) (e:=Extern.MathFloor.toIntegral "math.archFloor" .down) (by kernel_rfl)];have e:FloatKind.f64.decode x=.infinity (Fl.sg x):=Fl.BN h;obtain⟨F,hF⟩:∃F:Bool→Nat→Sem Value,Extern.MathFloor.toIntegral "math.archFloor" .down #[.float .f64 x]=(match FloatKind.f64.decode x with
  | .nan s t=>F s t
  |d=>pure (.float .f64 (FloatKind.f64.encode (d.integral .down)))):=⟨_,rfl⟩
 rw[hF,e];have hc:x=9218868437227405312∨x=18442240474082181120:=by unfold Fl.rg at h;omega
 rcases hc with rfl|rfl<;>rfl
theorem Qn(x:Nat)(h:9218868437227405312<Fl.rg x)(w:World):Calls Tryz.prog 280 #[.float .f64 x] w fun e w'=>∃v,e=.returned (.float .f64 v)∧uo v∧Touch [] w w':=by
 have key:∃v w1,(callFunc 307 #[.float .f64 x]).run Tryz.prog w=.ok (.value (.float .f64 v)) w1∧uo v∧Touch [] w w1:=by
  rw[run_callFunc_extern Tryz.func307 (by kernel_rfl) (by kernel_rfl) (by kernel_rfl) (e:=Extern.MathFloor.toIntegral "math.archFloor" .down) (by kernel_rfl)];have e:FloatKind.f64.decode x=.nan (Fl.sg x) (Fl.rg x-9218868437227405312):=Fl.qd h;have hF:Extern.MathFloor.toIntegral "math.archFloor" .down #[.float .f64 x]=(match FloatKind.f64.decode x with
   | .nan s t=>(if FloatKind.f64.format.quiet t=t then pure (.float .f64 x)else do
      let kept←choose (.extern "math.Floor,Ceil,Trunc,RoundToEven.signallingNaN kept" 2)
      pure (.float .f64 (if kept==1 then x else FloatKind.f64.encode (.nan s (FloatKind.f64.format.quiet t)))))
   |d=>pure (.float .f64 (FloatKind.f64.encode (d.integral .down)))):=rfl
  rw[hF,e];dsimp only
  by_cases hq:FloatKind.f64.format.quiet (Fl.rg x-9218868437227405312)=Fl.rg x-9218868437227405312
  ·rw[if_pos hq];exact⟨x,w,rfl,h,Touch.refl _ _⟩
  ·rw[if_neg hq];refine⟨if(Question.extern "math.Floor,Ceil,Trunc,RoundToEven.signallingNaN kept" 2).cut (w.tape w.drawn (.extern "math.Floor,Ceil,Trunc,RoundToEven.signallingNaN kept" 2))==1 then x else FloatKind.f64.encode (.nan (Fl.sg x) (FloatKind.f64.format.quiet (Fl.rg x-9218868437227405312))),w.drew,rfl,?_,(Touch.refl _ _).drew⟩;split
   ·exact h
   ·have Zz:Fl.rg x-9218868437227405312<4503599627370496:=by unfold Fl.rg;omega
    have Q7:FloatKind.f64.format.quiet (Fl.rg x-9218868437227405312)<4503599627370496:=Nat.or_lt_two_pow (n:=52) Zz (by decide);have hq3:0<FloatKind.f64.format.quiet (Fl.rg x-9218868437227405312):=Nat.lt_of_lt_of_le (by decide:0<2^51) (Nat.right_le_or);generalize FloatKind.f64.format.quiet (Fl.rg x-9218868437227405312)=t at*;show 9218868437227405312<Fl.rg (Ieee.double.word (Fl.sg x) (Ieee.double.infRung+t%Ieee.double.binade));unfold Fl.rg Ieee.Format.word;rw[Fl.yg,Fl.I6,Fl.rV];split<;>omega
 obtain⟨v,w1,h1,h2,h3⟩:=key;refine(tK x v w w1 h1).mono ?_;rintro _ _ ⟨rfl,rfl⟩;exact⟨v,rfl,h2,h3⟩
def Ri(a:Int):Int×Int:=if Fl.rg (bitsOf a)<9218868437227405312∧-9223372036854775808≤mP (bitsOf a)∧mP (bitsOf a)<9223372036854775808 then(mP (bitsOf a),0)else(0,-43)
theorem gj(a:Int)(w:World):Calls Tryz.prog 193 #[.int .i64 a] w fun e w'=>e=.returned (.tuple #[.int .i64 (Ri a).1,.int .i64 (Ri a).2])∧Touch [] w w':=by
 by_cases hf:Fl.rg (bitsOf a)<9218868437227405312
 ·refine(fY a hf w).mono ?_;rintro _ _ ⟨rfl,rfl⟩;refine⟨?_,Touch.refl _ _⟩;unfold Dr Ri;by_cases hr: -9223372036854775808≤mP (bitsOf a)∧mP (bitsOf a)<9223372036854775808
  ·rw[if_pos hr,if_pos ⟨hf,hr⟩]
  ·rw[if_neg hr,if_neg (fun h=>hr h.2)]
 ·have e:Ri a=(0,-43):=by unfold Ri;rw[if_neg (fun h=>hf h.1)]
  rw[e];clear e;have hN:=dB a;obtain⟨x,hx⟩:∃x,bitsOf a=x:=⟨_,rfl⟩;have hlt:x<18446744073709551616:=by rw[←hx];exact eX a
  rw[hx]at hN hf;clear hx;by_cases hi:Fl.rg x=9218868437227405312
  ·have hc:x=9218868437227405312∨x=18442240474082181120:=by unfold Fl.rg at hi;omega
   clear hf hi hlt;rcases hc with rfl|rfl
   ·have iN:=fun w=>Eu 9218868437227405312 (by decide) (by decide) w;have o1:(FloatKind.f64.format.order 9218868437227405312 0==some .lt)=false:=by decide+kernel
    have o2:(FloatKind.f64.format.order 9218868437227405312 14114281232179134464==some .gt||FloatKind.f64.format.order 9218868437227405312 14114281232179134464==some .eq)=true:=by decide+kernel
    have o3:(FloatKind.f64.format.order 9218868437227405312 4890909195324358656==some .lt)=false:=by decide+kernel
    go_enter Tryz.func193,Tryz.ntmps193;go_wp2_with fail;refine(hN _).mono ?_;rintro _ _ ⟨rfl,rfl⟩;go_wp2_with fail;refine(iN _).mono ?_;rintro _ _ ⟨rfl,rfl⟩;go_wp2_with fail;go_ret2;exact⟨rfl,Touch.refl _ _⟩
   ·have iN:=fun w=>Eu 9218868437227405312 (by decide) (by decide) w;have o1:(FloatKind.f64.format.order 18442240474082181120 0==some .lt)=true:=by decide+kernel
    have o2:(FloatKind.f64.format.order 18442240474082181120 14114281232179134464==some .gt||FloatKind.f64.format.order 18442240474082181120 14114281232179134464==some .eq)=false:=by decide+kernel
    have o3:(FloatKind.f64.format.order 18442240474082181120 4890909195324358656==some .lt)=true:=by decide+kernel
    have hen:=fun W=>wM (P:=Tryz.prog) W 18442240474082181120;have gi:=fun W=>wM (P:=Tryz.prog) W 9218868437227405312;rw[show Op.negFloat .f64 18442240474082181120=9218868437227405312 by decide+kernel]at hen;rw[show Op.negFloat .f64 9218868437227405312=18442240474082181120 by decide+kernel]at gi;go_enter Tryz.func193,Tryz.ntmps193;go_wp2_with fail;refine(hN _).mono ?_;rintro _ _ ⟨rfl,rfl⟩;go_wp2_with fail;refine(iN _).mono ?_;rintro _ _ ⟨rfl,rfl⟩;go_wp2_with fail;go_ret2;exact⟨rfl,Touch.refl _ _⟩
  ·have FQ:9218868437227405312<Fl.rg x:=by omega
   have iN:=fun w=>Qn x FQ w;have o1:(FloatKind.f64.format.order x 0==some .lt)=false:=by
    have:FloatKind.f64.format.order x 0=none:=Fl.yj (.inl FQ);rw[this];rfl
   have hv:∀v,uo v→(FloatKind.f64.format.order v 14114281232179134464==some .gt||FloatKind.f64.format.order v 14114281232179134464==some .eq)=false∧(FloatKind.f64.format.order v 4890909195324358656==some .lt)=false:=by
    intro v hv;have h1:FloatKind.f64.format.order v 14114281232179134464=none:=Fl.yj (.inl hv);have h2:FloatKind.f64.format.order v 4890909195324358656=none:=Fl.yj (.inl hv);rw[h1,h2];exact⟨rfl,rfl⟩
   have HV:=Lib.hid hv;clear hf hi hv;go_enter Tryz.func193,Tryz.ntmps193;go_wp2_with fail;refine(hN _).mono ?_;rintro _ _ ⟨rfl,rfl⟩;go_wp2_with fail;refine(iN _).mono ?_;rintro _ w1 ⟨v,rfl,hv,t1⟩;obtain⟨o2,o3⟩:=HV.out v hv;have T1:=Lib.hid t1;clear t1;go_wp2_with fail;go_ret2;exact⟨rfl,T1.out⟩
end Go.Proofs.YtdokeddjcpnmiaaGreatDoor.Rl
namespace Go.Proofs.YtdokeddjcpnmiaaGreatDoor
open Go.RowKit Go.Proofs.Tryz
open Go.Lib(hid)
def Ev(k a:Int):Int:=if k=1 then Rl.madeOf (Rl.zk (bitsOf a))else Rl.madeOf (Fl.rg (bitsOf a))
def Cb(k a b:Int):Int:=
 if k=3 then Rl.kI (floatBits .add .f64 (bitsOf a) (bitsOf b))
 else if k=4 then Rl.kI (floatBits .sub .f64 (bitsOf a) (bitsOf b))
 else if k=5 then Rl.kI (floatBits .mul .f64 (bitsOf a) (bitsOf b))
 else if k=6 then Rl.kI (floatBits .quo .f64 (bitsOf a) (bitsOf b))
 else if k=7 then Rl.kI (Rl.minOf (bitsOf a) (bitsOf b))
 else if k=8 then Rl.kI (Rl.maxOf (bitsOf a) (bitsOf b))
 else if k=9 then Rl.vg (Ieee.double.order (bitsOf a) (bitsOf b)==some .lt)
 else Rl.vg (Ieee.double.order (bitsOf a) (bitsOf b)==some .eq)
theorem Qp(k a:Int)(h:k=1∨k=2)(w:World):Calls prog 130 #[.int .i64 k,.int .i64 a] w fun e w'=>e=.returned (.tuple #[.int .i64 (Ev k a),.int .i64 0])∧w=w':=by
 rcases h with rfl|rfl
 ·exact Rl.YH a w
 ·exact Rl.YC a w
theorem Qq(k a b:Int)(h:3≤k∧k≤10)(w:World):Calls prog 132 #[.int .i64 k,.int .i64 a,.int .i64 b] w fun e w'=>e=.returned (.tuple #[.int .i64 (Cb k a b),.int .i64 0])∧Touch [] w w':=by
 rcases(by omega:k=3∨k=4∨k=5∨k=6∨k=7∨k=8∨k=9∨k=10)with rfl|rfl|rfl|rfl|rfl|rfl|rfl|rfl
 ·exact Rl.Yx a b w
 ·exact Rl.Yy a b w
 ·exact Rl.two_mul a b w
 ·exact Rl.Yz a b w
 ·exact Rl.YA a b w
 ·exact Rl.YB a b w
 ·refine(Rl.U6 a b w).mono ?_;rintro _ _ ⟨rfl,rfl⟩;exact⟨rfl,Touch.refl _ _⟩
 ·refine(Rl.Qf a b w).mono ?_;rintro _ _ ⟨rfl,rfl⟩;exact⟨rfl,Touch.refl _ _⟩
theorem Qr(op:Int)(h:op=61∨op=62):oN op 1 (fun _ _=>True) (fun l S=>(([Ev (op-60) (l.getD 0 0)],0),S)):=by
 intro W B s F S t f first cap l lv bW hS hF eO;obtain⟨b,C,hC,hb,hA,hB⟩:=eO;have kL:jA op=(1,129):=by
  have hm:jh op=0:=xK op (by omega);unfold jA;rw[if_neg (by omega),if_neg (by omega),if_pos h]
 rw[kL]at hA;obtain⟨g,_,hg,rfl,rfl,rfl,rfl⟩:=aW hA (Nat.zero_le _);refine⟨rfl,enters_of func149 (by kernel_rfl) rfl,fun hl bG hc=>aR.post (oF hg (enters_of func129 (by kernel_rfl) rfl) ?_)⟩;obtain⟨ad,c,q,e,rfl,cq⟩:=hc.one hl;subst e;show Calls prog _ _ W fun e w'=>e=.returned (.tuple #[.int .i64 (Ev (op-60) q),.int .i64 0])∧Done W s F S S w';have hO:=fun w=>Qp (op-60) q (by omega) w;obtain⟨r,hr⟩:∃r,Ev (op-60) q=r:=⟨_,rfl⟩;rw[hr]at hO⊢;have b0:=(hB.touch ((tR W).drew) (by simp)).cell 0;have x0:=ah ((tR W).drew) cq;have e1:IntKind.i64.wrap (op-61)=op-61:=by rw[IntKind.wrap_i64];omega
 have e2:IntKind.i64.wrap (op-61+1)=op-60:=by rw[IntKind.wrap_i64];omega
 have HD:=hid (Done.self hS ((tR W).drew));clear hS hB hA hg hF hc cq hr kL h hl bG bW;obtain⟨k,hk⟩:∃k,op-60=k:=⟨_,rfl⟩;obtain⟨k1,sI⟩:∃k,op-61=k:=⟨_,rfl⟩;rw[hk]at hO e2;rw[sI]at e1 e2;show Calls prog 129 #[.slice (some ⟨ad,0,none⟩) 1 c,.pointer (some ⟨b,0,none⟩)] W _;go_enter func129,ntmps129;go_upto_region 1 with fail;go_region_with (go_at_call 130;refine(hO _).mono ?_;rintro _ _ ⟨rfl,rfl⟩)
 all_goals go_wp2_with fail
 all_goals go_ret2
 all_goals exact⟨rfl,HD.out⟩
theorem Qs(op:Int)(h:63≤op∧op≤70):oN op 2 (fun _ _=>True) (fun l S=>(([Cb (op-60) (l.getD 0 0) (l.getD 1 0)],0),S)):=by
 intro W B s F S t f first cap l lv bW hS hF eO;obtain⟨b,C,hC,hb,hA,hB⟩:=eO;have kL:jA op=(2,131):=by
  have hm:jh op=0:=xK op (by omega);unfold jA;rw[if_neg (by omega),if_neg (by omega),if_neg (by omega)]
 rw[kL]at hA;obtain⟨g,_,hg,rfl,rfl,rfl,rfl⟩:=aW hA (Nat.zero_le _);refine⟨rfl,enters_of func149 (by kernel_rfl) rfl,fun hl bG hc=>aR.post (oF hg (enters_of func131 (by kernel_rfl) rfl) ?_)⟩;obtain⟨ad,c,q,q1,e,rfl,cq,wH⟩:=hc.two hl;subst e;show Calls prog _ _ W fun e w'=>e=.returned (.tuple #[.int .i64 (Cb (op-60) q q1),.int .i64 0])∧Done W s F S S w';have hO:=fun w=>Qq (op-60) q q1 (by omega) w;obtain⟨r,hr⟩:∃r,Cb (op-60) q q1=r:=⟨_,rfl⟩;rw[hr]at hO⊢;have b0:=(hB.touch ((tR W).drew) (by simp)).cell 0;have x0:=ah ((tR W).drew) cq;have x1:=ah ((tR W).drew) wH;have e1:IntKind.i64.wrap (op-61)=op-61:=by rw[IntKind.wrap_i64];omega
 have e2:IntKind.i64.wrap (op-61+1)=op-60:=by rw[IntKind.wrap_i64];omega
 have HS:=hid hS;clear hS hB hA hg hF hc cq wH hr kL h hl bG bW;obtain⟨k,hk⟩:∃k,op-60=k:=⟨_,rfl⟩;obtain⟨k1,sI⟩:∃k,op-61=k:=⟨_,rfl⟩;rw[hk]at hO e2;rw[sI]at e1 e2;show Calls prog 131 #[.slice (some ⟨ad,0,none⟩) 2 c,.pointer (some ⟨b,0,none⟩)] W _;go_enter func131,ntmps131;go_upto_region 1 with fail;go_region_with (go_at_call 132;refine(hO _).mono ?_;rintro _ w1 ⟨rfl,t1⟩;have HD:Hid (Done W s F S S w1):=Done.self HS.out t1.aO;clear t1)
 all_goals go_wp2_with fail
 all_goals go_ret2
 all_goals exact⟨rfl,HD.out⟩
end Go.Proofs.YtdokeddjcpnmiaaGreatDoor
