/- Of EngineClean: EnBranch EnMay May1 Rep LoopsP MayP EnCells EnDeep EnCatch EnLocal EnLoops EnMay2. -/
import Derived.Test.YtdokeddjcpnmiaaGreatDoorQTLay
import Derived.Laws.CopyOwn
import Derived.Deep.OwnRows
import Derived.Laws.OwnMore
set_option maxRecDepth 100000
set_option maxHeartbeats 3200000
namespace Go.Proofs.YtdokeddjcpnmiaaGreatDoor
open Go.RowKit Go.Proofs.Tryz
open Go.Lib(hid)
namespace En
section
variable {D:Int→PS→Int×PS} {m:M} {n:Int} {L:List (Int×Int×Int)} (hA:uw m n L) (hn:n≠0) {F:List Fr} (hF:ED F)
include hA hn hF
end
def dR(op:Int):Int:=
 if op=3∨op=4∨op=6∨op=7∨op=8∨op=9∨op=10 then 1 else if op=2 then 2 else if op=12 then 3 else if op=13∨op=14 then 4 else 0
def gM(op a at_ loops:Int):List (Int×Int):=
 if op=15 then []
 else if op=3 then [(a,loops)]
 else if op=9 then [(a,loops-1)]
 else if op=4∨op=10 then [(at_+1,loops),(a,loops)]
 else if op=5 then [(at_+1,loops+1)]
 else if op=6 then [(at_+1,loops+1),(a,loops)]
 else if op=7∨op=8 then [(at_+1,loops-1),(a,loops)]
 else [(at_+1,loops)]
def opAt(L:List (Int×Int×Int))(i:Nat):Int×Int×Int:=L.getD i (0,0,0)
def jZ(L:List (Int×Int×Int)):Nat→List Int→List (Int×Int)→Option (List Int)
 |0,_,_=>none
 |f+1,tab,todo=>match todo.getLast? with
  |none=>some tab
  |some (a,l)=>
   if a<0∨(L.length:Int)≤a∨l<0 then none
   else if tab.getD a.toNat 0=l then jZ L f tab todo.dropLast
   else if 0≤tab.getD a.toNat 0 then none
   else jZ L f (tab.set a.toNat l) (todo.dropLast++gM (opAt L a.toNat).1 (opAt L a.toNat).2.1 a l)
def jI(L:List (Int×Int×Int)):Option (List Int):=if L=[]then none else jZ L (3*L.length+3) (List.replicate L.length (-1)) [(0,0)]
def Gx(k:Int):Int:=if k=2∨k=3 then 1 else 0
def Ae(L:List (Int×Int×Int))(words k:Int):Int:=
 if k=1 then L.length-1 else if k=2 then words else if k=3 then 16 else if k=4 then(if(opAt L 0).1=12 then(opAt L 0).2.1 else 0)-1 else 0
def rE(L:List (Int×Int×Int))(words:Int)(tab:List Int)(i:Nat):Prop:=
 let x:=opAt L i
 1≤x.1∧x.1<16∧(x.1=1∨x.2.2=0)∧Gx (dR x.1)≤x.2.1∧x.2.1≤Ae L words (dR x.1)∧¬(x.1=12∧0<i)∧¬(x.1=15∧i+1=L.length∧0<tab.getD i 0)
def JN(L:List (Int×Int×Int))(words:Int):Prop:=
 ∃tab,jI L=some tab∧L.length≤500∧((opAt L (L.length-1)).1=15∨(opAt L (L.length-1)).1=3)∧∀i,i<L.length→rE L words tab i
theorem yI(L:List (Int×Int×Int))(n:Nat)(hn:L.length=n+1)(h1:∀i,i<n→gM (opAt L i).1 (opAt L i).2.1 i 0=[((i:Int)+1,0)])(h2:(opAt L n).1=15):∀(j:Nat) (f:Nat),j≤n→n-j+2≤f→
 jZ L f (List.replicate j 0++List.replicate (n+1-j) (-1)) [((j:Int),0)]=some (List.replicate (n+1) 0)
 |j,0,_,hf=>absurd hf (by omega)
 |j,f+1,hj,hf=>by
  have hg:(List.replicate j (0:Int)++List.replicate (n+1-j) (-1)).getD j 0= -1:=by
   rw[List.getD_eq_getElem?_getD,List.getElem?_append_right (by simp),List.length_replicate,Nat.sub_self,List.getElem?_replicate,if_pos (by omega)];rfl
  have C0:(List.replicate j (0:Int)++List.replicate (n+1-j) (-1)).set j 0=List.replicate (j+1) 0++List.replicate (n+1-(j+1)) (-1):=by
   rw[List.set_append_right _ _ (by simp),List.length_replicate,Nat.sub_self];obtain⟨r,hr⟩:∃r,n+1-j=r+1:=⟨n-j,by omega⟩;rw[hr,List.replicate_succ,List.set_cons_zero,show n+1-(j+1)=r by omega,List.replicate_succ'];simp
  show(if(j:Int)<0∨(L.length:Int)≤j∨(0:Int)<0 then none else if(List.replicate j (0:Int)++List.replicate (n+1-j) (-1)).getD ((j:Int)).toNat 0=0 then _ else if 0≤(List.replicate j (0:Int)++List.replicate (n+1-j) (-1)).getD ((j:Int)).toNat 0 then none else _)=_;rw[if_neg (by omega),Int.toNat_natCast,hg,if_neg (by decide),if_neg (by decide),C0];by_cases yy:j=n
  ·subst yy;rw[show gM (opAt L j).1 (opAt L j).2.1 j 0=[] by unfold gM;rw[if_pos h2]];obtain⟨f',rfl⟩:∃f',f=f'+1:=⟨f-1,by omega⟩;show some _=_;rw[Nat.sub_self,List.replicate_zero,List.append_nil]
  ·rw[h1 j (by omega)];have hi:=yI L n hn h1 h2 (j+1) f (by omega) (by omega);exact hi
theorem Af(L:List (Int×Int×Int))(n:Nat)(hn:L.length=n+1)(h1:∀i,i<n→gM (opAt L i).1 (opAt L i).2.1 i 0=[((i:Int)+1,0)])(h2:(opAt L n).1=15):jI L=some (List.replicate (n+1) 0):=by
 unfold jI;rw[if_neg (by intro h;rw[h]at hn;simp at hn),hn];exact yI L n hn h1 h2 0 _ (Nat.zero_le _) (by omega)
theorem RI(op:Int)(w:World):Calls prog 61 #[.int .u8 op] w fun e w'=>e=.returned (.int .i64 (dR op))∧w=w':=by
 by_cases h:op=3∨op=4∨op=6∨op=7∨op=8∨op=9∨op=10∨op=2∨op=12∨op=13∨op=14
 ·rcases h with rfl|rfl|rfl|rfl|rfl|rfl|rfl|rfl|rfl|rfl|rfl
  all_goals go_enter func61,ntmps61
  all_goals go_wp2
  all_goals go_ret
  all_goals exact⟨rfl,rfl⟩
 ·have e:dR op=0:=by
   unfold dR;rw[if_neg (by omega),if_neg (by omega),if_neg (by omega),if_neg (by omega)]
  rw[e];have q2:(op==2)=false:=by simp;omega
  have q3:(op==3)=false:=by simp;omega
  have q4:(op==4)=false:=by simp;omega
  have q6:(op==6)=false:=by simp;omega
  have q7:(op==7)=false:=by simp;omega
  have q8:(op==8)=false:=by simp;omega
  have q9:(op==9)=false:=by simp;omega
  have pw:(op==10)=false:=by simp;omega
  have q12:(op==12)=false:=by simp;omega
  have q13:(op==13)=false:=by simp;omega
  have q14:(op==14)=false:=by simp;omega
  clear h e;go_enter func61,ntmps61;go_wp2;go_ret;exact⟨rfl,rfl⟩
def jd(x:Int×Int):List Value:=[.int .i64 x.1,.int .i64 x.2]
def Mv(w:World)(v:Value)(l:List (Int×Int)):Prop:=(l=[]∧v=.slice none 0 0)∨∃b,v=.slice (some ⟨b,0,none⟩) l.length l.length∧aF w b 151 (l.flatMap jd).toArray
theorem NP(op a v:Int)(j:Nat)(hj:j≤1000000)(l:Int)(hl:0≤l∧l≤1000000)(w:World):Calls prog 94 #[.agg #[.int .u8 op,.int .i64 a,.int .i64 v],.int .i64 j,.int .i64 l] w fun e w'=>∃sv,e=.returned sv∧Mv w' sv (gM op a j l)∧Touch [] w w':=by
 have bB:=aF.new w 56 #[.int .u8 op,.int .i64 a,.int .i64 v];have tB:=(tR w).alloc (.cells #[.int .u8 op,.int .i64 a,.int .i64 v] 56);obtain⟨z,hz⟩:∃z,w.heap.size=z:=⟨_,rfl⟩;rw[hz]at bB;have x0:=bB.cell 0;have x1:=bB.cell 1;obtain⟨hl0,YT⟩:=hl;have HB:=hid (And.intro bB tB);clear bB tB;go_enter func94,ntmps94;go_upto_region 1 with fail;clear hz;generalize w.alloc (.cells #[.int .u8 op,.int .i64 a,.int .i64 v] 56)=W0 at*;have A1:=fun ob=>ah ((tR W0).alloc ob) x1;have A2:=fun ob ob2=>ah (((tR W0).alloc ob).alloc ob2) x1;go_cut [7,8]from 9 to 16 (fun v7 v8 wc=>∃y7 y8,v7=.pointer (some ⟨y7,0,none⟩)∧v8=.pointer (some ⟨y8,0,none⟩)∧aF wc y7 151 #[.int .i64 ((j:Int)+1),.int .i64 l]∧aF wc y8 151 #[.int .i64 a,.int .i64 l]∧Touch [] W0 wc)
 case first=>
  go_region
  all_goals go_wp2_with fail
  all_goals go_meet
  ·exact⟨_,_,rfl,rfl,((aF.new W0 _ _).alloc _).drew,(aF.dG (n:=W0.heap.size+1) (W0.alloc _) (by simp) _ _).drew,(((tR W0).alloc _).alloc _).drew⟩
  ·exact⟨_,_,rfl,rfl,(aF.dG (n:=W0.heap.size+1) (W0.alloc _) (by simp) _ _).drew,((aF.new W0 _ _).alloc _).drew,(((tR W0).alloc _).alloc _).drew⟩
 case rest=>
  obtain⟨y7,y8,rfl,rfl,b7,b8,tc⟩:=hcut;have bB:=HB.out.1.touch tc (by simp);have HT:=hid (HB.out.2.trans tc (by simp));have x0:=bB.cell 0;have x1:=bB.cell 1;have s0:=b7.cell 0;have s1:=b7.cell 1;have t0:=b8.cell 0;have t1:=b8.cell 1;clear A1 A2 bB b7 b8 tc HB;by_cases QZ:op=15
  ·subst QZ;go_wp2_with fail;go_ret;exact⟨_,rfl,.inl ⟨rfl,rfl⟩,HT.out⟩
  have NQ:(op==15)=false:=by simpa using QZ
  by_cases h3:op=3
  ·subst h3;clear QZ NQ;go_wp2_with fail;go_ret;exact⟨_,rfl,.inr ⟨_,rfl,aF.new _ _ _⟩,HT.out.alloc _⟩
  have q3:(op==3)=false:=by simpa using h3
  by_cases h9:op=9
  ·subst h9;clear QZ NQ h3 q3;go_wp2_with fail;go_ret;exact⟨_,rfl,.inr ⟨_,rfl,aF.new _ _ _⟩,HT.out.alloc _⟩
  have q9:(op==9)=false:=by simpa using h9
  by_cases h4:op=4
  ·subst h4;clear QZ NQ h3 q3 h9 q9;go_wp2_with fail;go_ret;exact⟨_,rfl,.inr ⟨_,rfl,aF.new _ _ _⟩,HT.out.alloc _⟩
  have q4:(op==4)=false:=by simpa using h4
  by_cases h10:op=10
  ·subst h10;clear QZ NQ h3 q3 h9 q9 h4 q4;go_wp2_with fail;go_ret;exact⟨_,rfl,.inr ⟨_,rfl,aF.new _ _ _⟩,HT.out.alloc _⟩
  have pw:(op==10)=false:=by simpa using h10
  by_cases h5:op=5
  ·subst h5;clear QZ NQ h3 q3 h9 q9 h4 q4 h10 pw;go_wp2_with fail;go_ret;exact⟨_,rfl,.inr ⟨_,rfl,aF.new _ _ _⟩,HT.out.alloc _⟩
  have q5:(op==5)=false:=by simpa using h5
  by_cases h6:op=6
  ·subst h6;clear QZ NQ h3 q3 h9 q9 h4 q4 h10 pw h5 q5;go_wp2_with fail;go_ret;exact⟨_,rfl,.inr ⟨_,rfl,aF.new _ _ _⟩,HT.out.alloc _⟩
  have q6:(op==6)=false:=by simpa using h6
  by_cases h7:op=7
  ·subst h7;clear QZ NQ h3 q3 h9 q9 h4 q4 h10 pw h5 q5 h6 q6;go_wp2_with fail;go_ret;exact⟨_,rfl,.inr ⟨_,rfl,aF.new _ _ _⟩,HT.out.alloc _⟩
  have q7:(op==7)=false:=by simpa using h7
  by_cases h8:op=8
  ·subst h8;clear QZ NQ h3 q3 h9 q9 h4 q4 h10 pw h5 q5 h6 q6 h7 q7;go_wp2_with fail;go_ret;exact⟨_,rfl,.inr ⟨_,rfl,aF.new _ _ _⟩,HT.out.alloc _⟩
  have q8:(op==8)=false:=by simpa using h8
  have e:gM op a j l=[((j:Int)+1,l)]:=by
   unfold gM;rw[if_neg QZ,if_neg h3,if_neg h9,if_neg (by omega),if_neg h5,if_neg h6,if_neg (by omega)]
  have HE:=hid e;clear QZ h3 h9 h4 h10 h5 h6 h7 h8 e;go_wp2_with fail;go_ret;exact⟨_,rfl,by rw[HE.out];exact .inr ⟨_,rfl,aF.new _ _ _⟩,HT.out.alloc _⟩
def fF(x:Int)(k n:Nat):List Int:=List.replicate k x++List.replicate (n-k) 0
theorem uE(x:Int)(k n c:Nat)(_hc:k+c≤n):splice (cells (fF x k n)) k (cells (List.replicate c x))=cells (fF x (k+c) n):=by
 unfold splice fF;have h1:(cells (List.replicate k x++List.replicate (n-k) 0)).take k=cells (List.replicate k x):=by
  rw[eB,List.take_append_of_le_length (by simp[cells]),List.take_of_length_le (by simp[cells])]
 have h2:(cells (List.replicate k x++List.replicate (n-k) 0)).drop (k+(cells (List.replicate c x)).length)=cells (List.replicate (n-(k+c)) 0):=by
  rw[eB,dz,List.length_replicate,List.drop_append,List.drop_of_length_le (by simp[cells])];simp only[cells,List.map_replicate,List.length_replicate,List.drop_replicate,List.nil_append];congr 1;omega
 rw[h1,h2,←eB,←eB];congr 1;rw[←List.append_assoc,List.replicate_append_replicate]
def Tm(w:World)(r:Nat)(x:Int)(n k:Nat)(wr:World):Prop:=aF wr r 3 (cells (fF x k n)).toArray∧Below w.heap.size w wr
theorem uF(x:Int)(k n:Nat)(h:k≤n):(fF x k n).length=n:=by
 unfold fF;simp;omega
theorem AX(x:Int)(n:Nat):madeCells #[.int .i64 0] n=(cells (fF x 0 n)).toArray:=by
 unfold madeCells fF cells;apply Array.ext
 ·simp
 ·intro i h1 h2;simp[Nat.mod_one]
theorem KD(x:Int)(k n j:Nat)(hj:j<k):(cells (fF x k n))[j]? =some (.int .i64 x):=by
 unfold fF;rw[eB,List.getElem?_append_left (by simpa[cells]using hj)];simp[cells,hj]
theorem KE(x:Int)(n:Nat)(h1:1≤n)(hn:n≤1000000)(b c:Nat)(w:World)(hx:w.cell? ⟨b,0,none⟩=some (.int .i64 x)):Calls prog 93 #[.slice (some ⟨b,0,none⟩) 1 c,.int .i64 n] w fun e w'=>
 e=.returned (.slice (some ⟨w.heap.size,0,none⟩) n n)∧aF w' w.heap.size 3 (cells (List.replicate n x)).toArray∧Touch [] w w':=by
 obtain⟨i0,hi,hz0,hz1,hz2⟩:=DU;have hM:=Tryz.Xq 1 n (by decide) (by omega) w;have e1:1*n / 18446744073709551616=0:=by omega
 have e2:1*n%18446744073709551616=n:=by omega
 rw[show((1:Nat):Int)=1 from rfl,e1,e2]at hM;have Gj:=fun w=>run_make_row (P:=prog) 62 3 i0 (.int .i64 0) underlying62 hi hz0 hz1 rfl .i64 .i64 n (by rw[hz2];omega) (by omega) w;have hsz:(prog.info? 3).map (·.size)=some 1:=by rw[hi];simp[hz1]
 have d1:decide ((n:Int)>9223372036854775807)=false:=by simp;omega
 clear e1 e2 hi hz0 hz1 hz2;go_enter func93,ntmps93;go_wp2_with fail;refine Calls.mono (hM.mono (fun e w' h=>(And.intro h.1 h.2.symm:e=_∧w=w'))) ?_;rintro _ _ ⟨rfl,rfl⟩;clear hM;have TX:Hid (w.cell? ⟨b,0,none⟩=some (.int .i64 x)):=hx;have HBW:Hid (b<w.heap.size):=hid (World.block_lt_of_cell? w _ hx);clear hx;go_upto_region 7 with fail;rw[AX x n];have sA:Hid ((w.alloc (.cells (cells (fF x 0 n)).toArray 3)).heap[w.heap.size]? =some (.cells (cells (fF x 0 n)).toArray 3 (0,0))):=hid (aF.new w _ _);have sB:Hid (Below w.heap.size w (w.alloc (.cells (cells (fF x 0 n)).toArray 3))):=hid ((Below.refl _ w).alloc (Nat.le_refl _) _);have sL:Hid ((w.alloc (.cells (cells (fF x 0 n)).toArray 3)).cell? ⟨b,0,none⟩=some (.int .i64 x)):=hid (ah ((tR w).alloc _) TX.out);have HS1:Hid (∀j v,(cells [x])[j]? =some v→(w.alloc (.cells (cells (fF x 0 n)).toArray 3)).cell? (Addr.add ⟨b,0,none⟩ j)=some v):=hid fun j v hj=>by
  cases j with
  |zero=>
   simp only[cells,List.map_cons,List.getElem?_cons_zero,Option.some.injEq]at hj;rw[←hj];exact sL.out
  |succ j=>simp[cells]at hj
 have ZW:Hid ((prog.info? 3).map (·.size)=some 1):=hid hsz;have T3:Hid ((cells [x]).length=Nat.min 1 n):=hid (by show 1=min 1 n;omega);have A7:Hid (0+(cells [x]).length≤(cells (fF x 0 n)).length):=hid (by rw[dz,dz,uF _ _ _ (Nat.zero_le _)];simp;omega);clear hsz Gj d1;go_wp2_with (with_reducible refine wpList_copy_splice rfl (.tmp 31) (.tmp 32) 62 62 rfl 3 underlying62 ZW.out (some ⟨w.heap.size,0,none⟩) (some ⟨b,0,none⟩) n n 1 c (by simp[Act.eval]) (by simp[Act.eval]) w.heap.size 0 (cells (fF x 0 n)) 3 sA.out (cells [x]) T3.out (fun _=>⟨rfl,_,rfl,HS1.out⟩) A7.out (iZ _) w.heap.size w sB.out (Nat.le_refl _) ?_;intro w2 hg2 hb2);have HR:Hid (Tm w w.heap.size x n 1 w2):=hid ⟨by
  have h:=hg2.out;rw[show [x]=List.replicate 1 x from rfl,uE x 0 n 1 (by omega)]at h;exact h,hb2⟩
 clear sA sB sL T3 A7 hg2 hb2 TX;go_loopw [8] (fun kv wr=>∃k:Nat,1≤k∧k≤n∧kv=.int .i64 k∧Tm w w.heap.size x n k wr) (fun kv _=>n-(intOf kv).toNat)
 case atStart=>exact⟨1,Nat.le_refl _,h1,rfl,HR.out⟩
 case round=>
  obtain⟨k,sI,hkn,rfl,KF⟩:=hrel;have V8:=hid KF;clear KF HR;rcases Nat.lt_or_ge k n with hlt|ql
  ·obtain⟨d,hd⟩:∃d,min k (n-k)=d:=⟨_,rfl⟩;have HD:=hid hd;have HL1:Hid ((cells (List.replicate d x)).length=Nat.min k (n-k)):=hid (by rw[dz,List.length_replicate,←hd]);have A7:Hid (k+(cells (List.replicate d x)).length≤(cells (fF x k n)).length):=hid (by rw[dz,dz,uF _ _ _ hkn,List.length_replicate];omega);have e8:decide ((k:Int)<(n:Int))=true:=by simp;omega
   have sR:Hid (∀j v,(cells (List.replicate d x))[j]? =some v→wr.cell? (Addr.add ⟨w.heap.size,0,none⟩ j)=some v):=hid fun j v hj=>by
    have hjd:j<d:=by
     rcases Nat.lt_or_ge j d with h|h
     ·exact h
     ·rw[List.getElem?_eq_none (by rw[dz,List.length_replicate];exact h)]at hj;cases hj
    have e:v=.int .i64 x:=by
     simp only[cells,List.map_replicate,List.getElem?_replicate,hjd,if_true,Option.some.injEq]at hj;exact hj.symm
    rw[e];have h2:=V8.out.1.cell j;rw[List.getElem?_toArray,KD x k n j (by omega)]at h2;rw[show Addr.add ⟨w.heap.size,0,none⟩ j=⟨w.heap.size,j,none⟩from by rw[Addr.add_lit,Nat.zero_add]];exact h2
   have hw:IntKind.i64.wrap ((k:Int)+((cells (List.replicate d x)).length:Int))=((k+d:Nat):Int):=by
    rw[dz,List.length_replicate,IntKind.wrap_i64];omega
   have Be:Hid (1≤d∧k+d≤n):=hid (by omega);have sX:Hid (Below w.heap.size w wr):=hid (And.right V8.out);have HB1:Hid (Below w.heap.size w wr.drew):=hid sX.out.drew;have HKN:Hid (n≠k):=hid (by omega);clear hd;go_upto_region 9 with fail;go_region_law (refine step_copy_splice rfl (.tmp 41) (.tmp 44) 62 62 rfl 3 underlying62 ZW.out (some ⟨w.heap.size,k,none⟩) (some ⟨w.heap.size,0,none⟩) (n-k) (n-k) k n (by simp[Act.eval,Act.put,HKN.out]) (by simp[Act.eval,Act.put]) w.heap.size k (cells (fF x k n)) 3 V8.out.1 (cells (List.replicate d x)) HL1.out (fun _=>⟨rfl,_,rfl,sR.out⟩) A7.out (iZ _) w.heap.size w (by first|with_reducible exact sX.out|with_reducible exact HB1.out) (Nat.le_refl _) ?_;intro w3 hg3 hb3)
   all_goals go_wp2_with fail
   all_goals(refine⟨⟨k+d,by have:=Be.out;omega,Be.out.2,by rw[Int.natCast_add],?_,hb3⟩,?_⟩)
   all_goals first
    |(have h:=hg3.out;rw[uE x k n d Be.out.2]at h;exact h)
    |(have h:=Be.out;simp only[intOf];omega)
  ·obtain rfl:k=n:=by omega
   have e8:decide ((k:Int)<(k:Int))=false:=by simp
   have cr:Hid (aF wr w.heap.size 3 (cells (List.replicate k x)).toArray):=hid (by have h:=V8.out.1;unfold fF at h;simpa using h);go_wp2_with fail;go_ret;exact⟨rfl,cr.out,Touch.dh V8.out.2 _⟩
def KG(tab:List Int):Nat:=tab.countP (fun x=>decide (x<0))
theorem Tn(tab:List Int)(k:Nat)(l:Int)(hk:k<tab.length)(h1:tab.getD k 0<0)(hl:0≤l):KG (tab.set k l)+1=KG tab:=by
 induction tab generalizing k with
 |nil=>simp at hk
 |cons a t ih=>
  cases k with
  |zero=>
   simp only[List.getD_cons_zero]at h1;simp only[KG,List.set_cons_zero,List.countP_cons];rw[if_neg (by simpa using hl),if_pos (by simpa using h1)]
  |succ k=>
   simp only[List.getD_cons_succ]at h1;simp only[KG,List.set_cons_succ,List.countP_cons]at ih⊢;have:=ih k (by simpa using hk) h1;omega
theorem Xr(tab:List Int):KG tab≤tab.length:=List.countP_le_length
theorem AY(op a j l:Int):(gM op a j l).length≤2:=by
 unfold gM;repeat' split
 all_goals simp
theorem KH(op a j l:Int):∀x∈gM op a j l,x.2≤l+1:=by
 unfold gM;repeat' split
 all_goals(intro x hx;simp at hx)
 all_goals first
  |omega
  |(subst hx;show _≤_;first|omega|(simp;omega))
  |(rcases hx with rfl|rfl<;>(show _≤_;first|omega|(simp;omega)))
structure pR(L:List (Int×Int×Int))(gf:Nat)(tab:List Int)(todo:List (Int×Int)):Prop where
 len:tab.length=L.length
 top:gf≤2*L.length+1
 fuel:todo.length+2*KG tab≤gf
 Bi:∀x∈todo,x.2+gf≤2*L.length+1
 runs:∀T,jI L=some T→∃f,jZ L f tab todo=some T
theorem pR.start{L:List (Int×Int×Int)}(h:L≠[]):pR L (2*L.length+1) (List.replicate L.length (-1)) [(0,0)]:=by
 refine⟨by simp,Nat.le_refl _,?_,?_,fun T hT=> ?_⟩
 ·have:=Xr (List.replicate L.length (-1));rw[List.length_replicate]at this;show 1+_≤_;omega
 ·intro x hx;rw[List.mem_singleton.1 hx];show(0:Int)+_≤_;omega
 ·unfold jI at hT;rw[if_neg h]at hT;exact⟨_,hT⟩
section
variable {L:List (Int×Int×Int)} {gf:Nat} {tab:List Int} {ds:List (Int×Int)} {a l:Int}
theorem pR.pop(h:pR L gf tab (ds++[(a,l)])):∃g',gf=g'+1∧ds.length+2*KG tab≤g'∧l≤2*L.length∧g'≤2*L.length:=by
 have h0:=h.top;have h1:=h.fuel;have h2:=h.Bi (a,l) (by simp);rw[List.length_append]at h1;simp at h1 h2;exact⟨gf-1,by omega,by omega,by omega,by omega⟩
theorem pR.go(h:pR L gf tab (ds++[(a,l)])){T:List Int}(hT:jI L=some T):∃f,jZ L (f+1) tab (ds++[(a,l)])=some T:=by
 obtain⟨f,hf⟩:=h.runs T hT;cases f with
 |zero=>cases hf
 |succ f=>exact⟨f,hf⟩
theorem sQ(f:Nat):jZ L (f+1) tab (ds++[(a,l)])=(if a<0∨(L.length:Int)≤a∨l<0 then none else if tab.getD a.toNat 0=l then jZ L f tab ds else if 0≤tab.getD a.toNat 0 then none else jZ L f (tab.set a.toNat l) (ds++gM (opAt L a.toNat).1 (opAt L a.toNat).2.1 a l)):=by
 have e:(ds++[(a,l)]).getLast? =some (a,l):=by simp
 rw[jZ,e];simp only[List.dropLast_concat]
theorem pR.bad(h:pR L gf tab (ds++[(a,l)]))(hb:a<0∨(L.length:Int)≤a∨l<0):jI L=none:=by
 cases hF:jI L with
 |none=>rfl
 |some T=>
  obtain⟨f,hf⟩:=h.go hF;rw[sQ,if_pos hb]at hf;cases hf
theorem pR.same{k:Nat}(h:pR L (gf+1) tab (ds++[((k:Int),l)]))(hk:k<L.length)(hl:0≤l)(he:tab.getD k 0=l):pR L gf tab ds:=by
 obtain⟨g',hg,h1,h2,h3⟩:=h.pop;refine⟨h.len,by omega,by omega,fun x hx=> ?_,fun T hT=> ?_⟩
 ·have:=h.Bi x (by simp[hx]);omega
 ·obtain⟨f,hf⟩:=h.go hT;rw[sQ,if_neg (by omega),Int.toNat_natCast,if_pos he]at hf;exact⟨f,hf⟩
theorem pR.twice{k:Nat}(h:pR L gf tab (ds++[((k:Int),l)]))(hk:k<L.length)(hl:0≤l)(he:tab.getD k 0≠l)(hn:0≤tab.getD k 0):jI L=none:=by
 cases hF:jI L with
 |none=>rfl
 |some T=>
  obtain⟨f,hf⟩:=h.go hF;rw[sQ,if_neg (by omega),Int.toNat_natCast,if_neg he,if_pos hn]at hf;cases hf
theorem pR.on{k:Nat}(h:pR L (gf+1) tab (ds++[((k:Int),l)]))(hk:k<L.length)(hl:0≤l)(hn:tab.getD k 0<0):pR L gf (tab.set k l) (ds++gM (opAt L k).1 (opAt L k).2.1 k l):=by
 obtain⟨g',hg,h1,h2,h9⟩:=h.pop;have hs:=Tn tab k l (by rw[h.len];exact hk) hn hl;have h3:=AY (opAt L k).1 (opAt L k).2.1 k l;refine⟨by rw[List.length_set];exact h.len,by omega,by rw[List.length_append];omega,fun x hx=> ?_,fun T hT=> ?_⟩
 ·rcases List.mem_append.1 hx with hx|hx
  ·have:=h.Bi x (by simp[hx]);omega
  ·have h4:=KH _ _ _ _ x hx;have h5:=h.Bi ((k:Int),l) (by simp);have h6:l+((gf+1:Nat):Int)≤2*L.length+1:=h5;omega
 ·obtain⟨f,hf⟩:=h.go hT;rw[sQ,if_neg (by omega),Int.toNat_natCast,if_neg (by omega),if_neg (by omega)]at hf;exact⟨f,hf⟩
end
theorem pR.end_{L:List (Int×Int×Int)}{gf:Nat}{tab T:List Int}(h:pR L gf tab [])(hT:jI L=some T):T=tab:=by
 obtain⟨f,hf⟩:=h.runs T hT;cases f with
 |zero=>cases hf
 |succ f=>
  have e:jZ L (f+1) tab []=some tab:=rfl;rw[e]at hf;exact(Option.some.inj hf).symm
theorem OD(todo:List (Int×Int))(h:0<todo.length):∃ds a l,todo=ds++[(a,l)]:=by
 have h0:todo≠[]:=fun e=>by rw[e]at h;simp at h
 refine⟨todo.dropLast,(todo.getLast h0).1,(todo.getLast h0).2,?_⟩;exact(List.dropLast_concat_getLast h0).symm
theorem OE(l:List (Int×Int)):∀u∈l.flatMap jd,u.oneCell'=true:=by
 intro u hu;obtain⟨x,_,hx⟩:=List.mem_flatMap.1 hu;simp only[jd,List.mem_cons,List.not_mem_nil,or_false]at hx;rcases hx with rfl|rfl<;>rfl
theorem jf(l:List (Int×Int)):(l.flatMap jd).length=l.length*2:=by
 induction l with
 |nil=>rfl
 |cons x l ih=>rw[List.flatMap_cons,List.length_append,ih,List.length_cons];show 2+_=_;omega
theorem OG:(prog.info? 151).map (fun i=>(i.zero,i.size,i.bytes))=some (some (.agg #[.int .i64 0,.int .i64 0]),2,16):=by kernel_rfl
theorem KI:∃i0,prog.info? 151=some i0∧i0.zero=some (.agg #[.int .i64 0,.int .i64 0])∧i0.size=2∧i0.bytes=16:=by
 have h:=OG;cases hi:prog.info? 151 with
 |none=>rw[hi]at h;cases h
 |some i=>rw[hi]at h;simp at h;exact⟨i,rfl,h.1,h.2.1,h.2.2⟩
def dX(B:Nat)(w:World)(v:Value)(l:List (Int×Int)):Prop:=w.ownsRow B 151 2 v l.length (l.flatMap jd)
theorem vU{ops:Array Oper}{o:Oper}{a:Act}{w:World}{K:Act→World→Prop}{Q:Exit→Act→World→Prop}{E:Prop}(hgd:o.guard=none)(s x:Operand)
 (ho:o.op=.call {callee:=.builtin .append,args:= #[s,x],argTypes:= #[152,152]}) (B:Nat) (v:Value) (T l:List (Int×Int)) (hs:a.eval s=v) (hown:dX B w v T) (sv:Value) (hx:a.eval x=sv) (hl:Mv w sv l) (hT:T.length+l.length≤1000000) (hB:B≤w.heap.size)
 (h:∀v' w',dX B w' v' (T++l)→w.grownBy w' v.ownBlock→(v'.ownBlock=v.ownBlock∨v'.ownBlock=some w.heap.size)→K (a.put o.dst v') w'):
 if Region.wanted o (yielded ops a.tmps)=true then Oper.wp prog o a w K Q else E:=by
 obtain⟨i0,hi,hz,hsz,hby⟩:=KI;have hw:Region.wanted o (yielded ops a.tmps)=true:=by simp[Region.wanted,hgd]
 rw[if_pos hw];have qo:(1000000:Nat)≤maxLen:=by unfold maxLen;omega
 rcases hl with⟨rfl,rfl⟩|⟨b,rfl,hb⟩
 ·have hrun:=run_append_owned_none (P:=prog) (w:=w) B 152 o.type 151 i0 2 underlying152 hi v T.length _ hown;unfold Oper.wp;simp[execOp,ho,resolve,invoke,builtin,hs,hx,hrun,Result.andThen];exact h v w (by rw[List.append_nil];exact hown) ⟨rfl,rfl,rfl,Nat.le_refl _,fun _ _ _=>rfl⟩ (.inl rfl)
 ·obtain⟨v',w',hr,h2,h3,_,h5⟩:=run_append_own_at (P:=prog) (w:=w) B 152 o.type 151 i0 _ 2 16 underlying152 hi hz hsz hby rfl (by omega) v T.length _ hown ⟨b,0,none⟩ l.length l.length (l.flatMap jd) (jf l) (World.news_of_block hb) (OE l) (by omega) (by omega) hB;unfold Oper.wp;simp[execOp,ho,resolve,invoke,builtin,hs,hx,hr,Result.andThen];exact h v' w' (by unfold dX;rw[List.length_append,List.flatMap_append];exact h2) h3 h5
theorem dX.touch{B:Nat}{F:List Nat}{w w':World}{v:Value}{l:List (Int×Int)}(h:dX B w v l)(t:Touch F w w')(hn:∀x∈rowOf v,x∉F):dX B w' v l:=aj h t hn
theorem dX.none_{B:Nat}{w:World}{v:Value}(h:dX B w v []):∃a c,v=.slice a 0 c:=by
 rcases h.2 with⟨e,_⟩|⟨g,cap,cur,e,_⟩
 ·exact⟨none,0,e⟩
 ·exact⟨_,cap,e⟩
theorem dX.form{B:Nat}{w:World}{v:Value}{ds:List (Int×Int)}{a l:Int}(h:dX B w v (ds++[(a,l)])):∃g c,v=.slice (some ⟨g,0,none⟩) (ds.length+1) c∧ds.length+1≤c∧B≤g∧g<w.heap.size∧w.cell? ⟨g,ds.length*2,none⟩=some (.int .i64 a)∧w.cell? ⟨g,ds.length*2+1,none⟩=some (.int .i64 l)∧dX B w (.slice (some ⟨g,0,none⟩) ds.length c) ds:=by
 have hl:(ds++[(a,l)]).length=ds.length+1:=by simp
 unfold dX at h;rw[hl]at h;rcases h.2 with⟨_,h0⟩|⟨g,cap,cur,e,hB,hg,h1,h2,h3,h4⟩
 ·omega
 ·have hc:∀j u,((ds++[(a,l)]).flatMap jd)[j]? =some u→w.cell? ⟨g,j,none⟩=some u:=fun j u hj=>by
   rw[cell_of_row w g j cur _ _ hg,←Array.getElem?_toList];rw[←h4,List.getElem?_take]at hj;split at hj
   ·exact hj
   ·cases hj
  have vV:∀j,((ds++[(a,l)]).flatMap jd)[ds.length*2+j]? =(jd (a,l))[j]? :=fun j=>by
   rw[List.flatMap_append,List.getElem?_append_right (by rw[jf];omega),jf];simp
  refine⟨g,cap,e,h1,hB,lt_of_block hg,hc _ _ (vV 0),hc _ _ (vV 1),?_⟩;refine⟨jf ds,.inr ⟨g,cap,cur,rfl,hB,hg,by omega,h2,h3,?_⟩⟩;have h5:=congrArg (List.take (ds.length*2)) h4;rw[List.take_take,Nat.min_eq_left (by omega),List.flatMap_append,List.take_append_of_le_length (by rw[jf];exact Nat.le_refl _)]at h5;exact h5.trans (List.take_of_length_le (by rw[jf];exact Nat.le_refl _))
def cz:List (Int×Value):=[(2,.int .i64 1),(3,.int .i64 1)]
def Tq(a b c:Int):List (Int×Value):=[(1,.int .i64 a),(2,.int .i64 b),(3,.int .i64 16),(4,.int .i64 c)]
theorem Hy(w:World):(zeroValue 3).run prog w=.ok (.int .i64 0) w:=by kernel_rfl
def fM(L:List (Int×Int×Int)):Int:=if(opAt L 0).1=12 then(opAt L 0).2.1 else 0
def A8(L:List (Int×Int×Int))(words:Int)(k:Int):Int:=
 if k=1 then L.length-1 else if k=2 then words else if k=3 then 16 else if k=4 then IntKind.i64.wrap (fM L-1)else 0
theorem atKey_none{l:List (Int×Value)}{k:Int}(h:∀p∈l,p.1≠k):atKey l k=none:=by
 unfold atKey;rw[List.find?_eq_none.2 (fun p hp=>by simpa using h p hp)];rfl
theorem cD{w:World}{b:Nat}(h:eZ w b cz)(op:Int):(Instr.lookup 124 (.map (some b)) (.int .i64 (dR op)) false).run prog w=.ok (.int .i64 (Gx (dR op))) w:=by
 by_cases h2:dR op=2
 ·rw[h2];exact(h.lookup (P:=prog) underlying124 underlying3 (x:=2) (v:=.int .i64 1) rfl).1
 by_cases h3:dR op=3
 ·rw[h3];exact(h.lookup (P:=prog) underlying124 underlying3 (x:=3) (v:=.int .i64 1) rfl).1
 have e:Gx (dR op)=0:=by unfold Gx;rw[if_neg (by omega)]
 rw[e];exact(h.og (P:=prog) underlying124 underlying3 (atKey_none (by intro p hp;simp only[cz,List.mem_cons,List.not_mem_nil,or_false]at hp;rcases hp with rfl|rfl<;>exact fun e=>by simp only at e;omega)) (z:=.int .i64 0) Hy).1
theorem Xt{w:World}{b:Nat}{L:List (Int×Int×Int)}{words:Int}(h:eZ w b (Tq (L.length-1) words (IntKind.i64.wrap (fM L-1))))(op:Int):(Instr.lookup 124 (.map (some b)) (.int .i64 (dR op)) false).run prog w=.ok (.int .i64 (A8 L words (dR op))) w:=by
 by_cases h1:dR op=1
 ·rw[h1];exact(h.lookup (P:=prog) underlying124 underlying3 (x:=1) rfl).1
 by_cases h2:dR op=2
 ·rw[h2];exact(h.lookup (P:=prog) underlying124 underlying3 (x:=2) rfl).1
 by_cases h3:dR op=3
 ·rw[h3];exact(h.lookup (P:=prog) underlying124 underlying3 (x:=3) rfl).1
 by_cases h4:dR op=4
 ·rw[h4];exact(h.lookup (P:=prog) underlying124 underlying3 (x:=4) rfl).1
 have e:A8 L words (dR op)=0:=by unfold A8;rw[if_neg h1,if_neg h2,if_neg h3,if_neg h4]
 rw[e];exact(h.og (P:=prog) underlying124 underlying3 (atKey_none (by intro p hp;simp only[Tq,List.mem_cons,List.not_mem_nil,or_false]at hp;rcases hp with rfl|rfl|rfl|rfl<;>exact fun e=>by simp only at e;omega)) (z:=.int .i64 0) Hy).1
def testW(L:List (Int×Int×Int))(words:Int)(tab:List Int)(i:Nat):Prop:=
 let x:=opAt L i
 1≤x.1∧x.1<16∧(x.1=1∨x.2.2=0)∧Gx (dR x.1)≤x.2.1∧x.2.1≤A8 L words (dR x.1)∧¬(x.1=12∧0<i)∧¬(x.1=15∧i+1=L.length∧0<tab.getD i 0)
theorem MR:dR 12=3:=by decide
theorem Tt{L:List (Int×Int×Int)}{words k:Int}(h:k=4→1≤fM L∧fM L≤16∨fM L=0):A8 L words k=Ae L words k:=by
 unfold A8 Ae;repeat' split
 all_goals first
  |rfl
  |(rw[IntKind.wrap_i64];have h:=h (by assumption);unfold fM at h⊢;omega)
theorem OJ{L:List (Int×Int×Int)}{words:Int}{tab:List Int}(h:testW L words tab 0):(1≤fM L∧fM L≤16)∨fM L=0:=by
 unfold fM;split
 ·rename_i Ct;obtain⟨_,_,_,h1,h2,_⟩:=h;rw[Ct,MR]at h1 h2;exact .inl ⟨h1,h2⟩
 ·exact .inr rfl
theorem Tv{L:List (Int×Int×Int)}{words:Int}{tab:List Int}(h:rE L words tab 0):(1≤fM L∧fM L≤16)∨fM L=0:=by
 unfold fM;split
 ·rename_i Ct;obtain⟨_,_,_,h1,h2,_⟩:=h;rw[Ct,MR]at h1 h2;exact .inl ⟨h1,h2⟩
 ·exact .inr rfl
theorem Hz{L:List (Int×Int×Int)}{words:Int}{tab:List Int}(h0:(1≤fM L∧fM L≤16)∨fM L=0)(i:Nat):rE L words tab i↔testW L words tab i:=by
 unfold rE testW;simp only[Tt (words:=words) (fun _=>h0)]
def uQ(c:Int):Fr:=⟨2,0,0,c,0,[]⟩
section
variable {D:Int→PS→Int×PS} {m:M} {n:Int} {L:List (Int×Int×Int)} (hA:uw m n L) (hn:n≠0)
include hA hn
end
def tok:Fr:=⟨6,0,0,0,0,[]⟩
def tE(self:Int):List (Int×Int×Int):=[(2,28,0),(4,4,0),(2,5,0),(2,self,0),(15,0,0)]
section
variable {D:Int→PS→Int×PS} {m:M} {self:Int} (hA:uw m 1 (tE self)) (h28:m.word 28=some (1,28,0)) (h5:m.word 5=some (1,5,0)) (hs:m.word self=some (5,1,0)) (he:1≤m.ends.length)
 (d28:∀x,D 28 {m.S with st:=[x]}=(0,{m.S with st:=[x,x]})) (d5:∀x,D 5 {m.S with st:=[x]}=(0,{m.S with st:=[wrap64 (x-1)]}))
include hA h28 h5 hs he d28 d5
end
section
variable {D:Int→PS→Int×PS} {m:M} {n:Int} {L:List (Int×Int×Int)} (hA:uw m n L) (hn:n≠0)
include hA hn
end
section
variable {D:Int→PS→Int×PS} {m:M} {n:Int} {L:List (Int×Int×Int)} (hA:uw m n L) (hn:n≠0) {F:List Fr} (k:Nat) (o:Nat) (st:List Int)
include hA hn
end
def lT(q b a c k:Int):List Int:=[1,0,1,b,1,a,q,0,28418,0,2818,0,28418,0,1,c,5378,0,2820,0,3337,0,1,k,1032,0,15,0]
structure jq(D:Int→PS→Int×PS)(m:M)(q b a c k:Int):Prop where
 code:m.code=lT q b a c k
 ends:m.ends=[28]
 wi:m.word 111=some (2,4,0)
 wp:m.word 11=some (1,11,0)
 we:m.word 21=some (1,21,0)
 dp:∀st x y,st.length+2≤128→D 11 {m.S with st:=st++[x,y]}=(0,{m.S with st:=st++[wrap64 (x+y)]})
 de:∀st x y,st.length+2≤128→D 21 {m.S with st:=st++[x,y]}=(0,{m.S with st:=st++[dZ (decide (x=y))]})
def M.lp(m:M)(o:Int)(st:List Int)(F:List Fr):M:={(m.sk st).fk F with df:=1,on:=o,nx:=0}
def lg:Fr:=⟨1,0,0,0,0,[]⟩
def vD(i b:Int):Fr:=⟨3,0,0,i,b,[]⟩
theorem Zb(i b:Int):(aU [lg,vD i b]).k≠6:=show(3:Int)≠6 from by decide
theorem Zc(i b:Int):(aU [lg,vD i b]).k≠7:=show(3:Int)≠7 from by decide
section
variable {D:Int→PS→Int×PS} {m:M} {q b a c k:Int} (h:jq D m q b a c k)
include h
theorem jq.at_(o:Nat)(ho:o<14)(st:List Int)(F:List Fr):(m.lp o st F).at_ 1 o=some ((lT q b a c k).getD (2*o) 0%256,(lT q b a c k).getD (2*o) 0 / 256,(lT q b a c k).getD (2*o+1) 0):=by
 unfold M.at_ M.dU;rw[show(m.lp o st F).ends=[28]from h.ends,show(m.lp o st F).code=lT q b a c k from h.code];rw[if_neg (by
  rintro(h1|h1|h1|h1)
  ·omega
  ·simp at h1
  ·omega
  ·have:(([28]:List Int).getD ((1:Int)-1).toNat 0-((if(1:Int)=1 then 0 else(([28]:List Int).getD ((1:Int)-2).toNat 0).toNat:Nat):Int)).tdiv 2=14:=by decide
   omega)]
 simp
theorem jq.step(o:Nat)(ho:o<14)(st:List Int)(F:List Fr)(h6:(aU F).k≠6)(h7:(aU F).k≠7)(op x w:Int)
 (he:((lT q b a c k).getD (2*o) 0%256,(lT q b a c k).getD (2*o) 0 / 256,(lT q b a c k).getD (2*o+1) 0)=(op,x,w)):
 (m.lp o st F).step D=(m.lp ((o+1:Nat):Int) st F).does D op x w:=by
 rw[Ms (m:=m.lp o st F) (op:=op) (a:=x) (w:=w) rfl h6 h7 (by simp[M.lp]) (by
  show(m.lp o st F).at_ 1 o=_;rw[h.at_ o ho st F,he])]
 rfl
theorem jq.lit(o:Nat)(ho:o<14)(st:List Int)(F:List Fr)(h6:(aU F).k≠6)(h7:(aU F).k≠7)(x w:Int)(hs:st.length<128)
 (he:((lT q b a c k).getD (2*o) 0%256,(lT q b a c k).getD (2*o) 0 / 256,(lT q b a c k).getD (2*o+1) 0)=(1,x,w)):
 (m.lp o st F).step D=(ran,m.lp ((o+1:Nat):Int) (st++[w]) F):=by
 rw[h.step o ho st F h6 h7 1 x w he];exact Gv {m.fk F with df:=1,on:=((o+1:Nat):Int),nx:=0} st w x hs
theorem jq.TB(o:Nat)(ho:o<14)(st:List Int)(i:Int)(hs:st.length<128)
 (he:((lT q b a c k).getD (2*o) 0%256,(lT q b a c k).getD (2*o) 0 / 256,(lT q b a c k).getD (2*o+1) 0)=(2,111,0)):
 (m.lp o st [lg,vD i b]).step D=(ran,m.lp ((o+1:Nat):Int) (st++[i]) [lg,vD i b]):=by
 rw[h.step o ho st _ (Zb _ _) (Zc _ _) 2 111 0 he];show(m.lp _ st _).execute D 111=_;rw[RG (m.lp _ st _) 111 4 0 h.wi];exact pu {m.fk [lg,vD i b]with df:=1,on:=((o+1:Nat):Int),nx:=0} st i b [lg] rfl hs
theorem jq.tG(o:Nat)(ho:o<14)(st k8:List Int)(F:List Fr)(h6:(aU F).k≠6)(h7:(aU F).k≠7)(xt n:Int)
 (he:((lT q b a c k).getD (2*o) 0%256,(lT q b a c k).getD (2*o) 0 / 256,(lT q b a c k).getD (2*o+1) 0)=(2,xt,0)) (hw:m.word xt=some (1,n,0))
 (hD:D n {m.S with st:=st}=(0,{m.S with st:=k8})):(m.lp o st F).step D=(ran,m.lp ((o+1:Nat):Int) k8 F):=by
 rw[h.step o ho st _ h6 h7 2 xt 0 he];show(m.lp _ st _).execute D xt=_;exact WO {m.fk F with df:=1,on:=((o+1:Nat):Int),nx:=0} st xt n 0 k8 hw hD
theorem jq.ask(n:Nat)(s i:Int):M.run D (n+6) (m.lp 4 [s] [lg,vD i b])=M.run D n (if i=c then m.lp 10 [wrap64 (s+i)] [lg,vD i b]else m.lp 11 [wrap64 (s+i)] [lg,vD i b]):=by
 have g1:=fD (h.TB 4 (by decide) [s] i (by simp) rfl) (n+5);have g2:=fD (h.tG 5 (by decide) ([s]++[i]) [wrap64 (s+i)] _ (Zb i b) (Zc i b) 11 11 rfl h.wp (h.dp [] s i (by simp))) (n+4);have g3:=fD (h.TB 6 (by decide) [wrap64 (s+i)] i (by simp) rfl) (n+3);have g4:=fD (h.lit 7 (by decide) ([wrap64 (s+i)]++[i]) _ (Zb i b) (Zc i b) 0 c (by simp) rfl) (n+2);have g5:=fD (h.tG 8 (by decide) ([wrap64 (s+i)]++[i]++[c]) ([wrap64 (s+i)]++[dZ (decide (i=c))]) _ (Zb i b) (Zc i b) 21 21 rfl h.we (h.de [wrap64 (s+i)] i c (by simp))) (n+1);refine g1.trans (g2.trans (g3.trans (g4.trans (g5.trans ?_))));have hz:(m.lp (9:Nat) ([wrap64 (s+i)]++[dZ (decide (i=c))]) [lg,vD i b]).step D=(ran,if i=c then m.lp 10 [wrap64 (s+i)] [lg,vD i b]else m.lp 11 [wrap64 (s+i)] [lg,vD i b]):=by
  rw[h.step 9 (by decide) _ _ (Zb _ _) (Zc _ _) 4 11 0 rfl];rw[show(m.lp ((9+1:Nat):Int) ([wrap64 (s+i)]++[dZ (decide (i=c))]) [lg,vD i b])=({m.fk [lg,vD i b]with df:=1,on:=10,nx:=0}:M).sk ([wrap64 (s+i)]++[dZ (decide (i=c))])from rfl,NH];by_cases hi:i=c
  ·rw[if_pos hi,if_neg (by rw[decide_eq_true hi];decide)];rfl
  ·rw[if_neg hi,if_pos (by rw[decide_eq_false hi];decide)];rfl
 exact fD hz n
theorem jq.left(n:Nat)(s i:Int):M.run D (n+1) (m.lp 10 [s] [lg,vD i b])=M.run D n (m.lp 13 [s] [lg]):=by
 have hz:(m.lp (10:Nat) [s] [lg,vD i b]).step D=(ran,m.lp 13 [s] [lg]):=by
  rw[h.step 10 (by decide) _ _ (Zb _ _) (Zc _ _) 9 13 0 rfl];rw[JM (m.lp ((10+1:Nat):Int) [s] [lg,vD i b]) 13 0 (vD i b) [lg] rfl rfl];rfl
 exact fD hz n
theorem jq.more(n:Nat)(s i:Int):M.run D (n+2) (m.lp 11 [s] [lg,vD i b])=M.run D n (if nX (wrap64 (i-b)) k then m.lp 13 [s] [lg]else m.lp 4 [s] [lg,vD (wrap64 (i+k)) b]):=by
 have h1:=fD (h.lit 11 (by decide) [s] [lg,vD i b] (Zb _ _) (Zc _ _) 0 k (by simp) rfl) (n+1);have hz:(m.lp (12:Nat) ([s]++[k]) [lg,vD i b]).step D=(ran,if nX (wrap64 (i-b)) k then m.lp 13 [s] [lg]else m.lp 4 [s] [lg,vD (wrap64 (i+k)) b]):=by
  rw[h.step 12 (by decide) _ _ (Zb _ _) (Zc _ _) 8 4 0 rfl];rw[show(m.lp ((12+1:Nat):Int) ([s]++[k]) [lg,vD i b])=({m.fk [lg,vD i b]with df:=1,on:=13,nx:=0}:M).sk ([s]++[k])from rfl,NI {m.fk [lg,vD i b]with df:=1,on:=13,nx:=0} [s] 4 0 i b k [lg] rfl];by_cases he:nX (wrap64 (i-b)) k=true
  ·rw[if_pos he,if_pos he];rfl
  ·rw[if_neg he,if_neg he];rfl
 exact h1.trans (fD hz n)
theorem jq.end_(n:Nat)(s:Int):M.run D (n+3) (m.lp 13 [s] [lg])=((5,0,0),{m.lp 0 [s] []with df:=0}):=by
 have hz:(m.lp (13:Nat) [s] [lg]).step D=(ran,{m.lp 0 [s] [lg]with df:=0}):=by
  rw[h.step 13 (by decide) _ _ (by decide) (by decide) 15 0 0 rfl,Du (m.lp ((13+1:Nat):Int) [s] [lg]) 0 0 (show(1:Int)≠4 from by decide)];rfl
 have h1:=fD hz (n+2);have hb:=Dv (D:=D) {m.lp 0 [s] [lg]with df:=0} (F:=[]) (f:=lg) rfl rfl rfl rfl;have h2:=fD hb (n+1);have hh:=Dw (D:=D) ((({m.lp 0 [s] [lg]with df:=0}:M).fk []).place lg.a lg.b) rfl rfl rfl;have h3:=RF hh (by decide) n;exact h1.trans (h2.trans h3)
theorem jq.round(n:Nat)(s i:Int)(hi:i≠c):M.run D (n+8) (m.lp 4 [s] [lg,vD i b])=M.run D n (if nX (wrap64 (i-b)) k then m.lp 13 [wrap64 (s+i)] [lg]else m.lp 4 [wrap64 (s+i)] [lg,vD (wrap64 (i+k)) b]):=by
 have h1:=h.ask (n+2) s i;rw[if_neg hi]at h1;exact h1.trans (h.more n _ i)
theorem jq.last(n:Nat)(s i:Int)(hi:i=c):M.run D (n+10) (m.lp 4 [s] [lg,vD i b])=((5,0,0),{m.lp 0 [wrap64 (s+i)] []with df:=0}):=by
 have h1:=h.ask (n+4) s i;rw[if_pos hi]at h1;exact h1.trans ((h.left (n+3) _ i).trans (h.end_ n _))
end
section
variable {D:Int→PS→Int×PS} {m:M} {q b a c k e:Int} (h:jq D m q b a c k)
include h
end
section
variable {D:Int→PS→Int×PS} {m:M} {q b a c k e:Int} (h:jq D m q b a c k)
include h
theorem jq.start(n:Nat)(x w:Int)(hx:x≠0)(hw:m.word x=some (5,1,w)):M.run D (n+4) {(m.sk []).fk []with df:=0,on:=0,nx:=x}=M.run D n (m.lp 3 [0,b,a] [lg]):=by
 have hz:({(m.sk []).fk []with df:=0,on:=0,nx:=x}:M).step D=(ran,m.lp (0:Nat) [] [lg]):=by
  rw[xA hx];rw[Ac ({(m.sk []).fk []with df:=0,on:=0,nx:=0}:M) x 1 w hw (by decide) (by show(1:Int)≤(m.ends.length:Nat);rw[h.ends];decide) (by show([]:List Fr).length<128;decide)];rfl
 have g0:=fD hz (n+3);have g1:=fD (h.lit 0 (by decide) [] [lg] (by decide) (by decide) 0 0 (by simp) rfl) (n+2);have g2:=fD (h.lit 1 (by decide) ([]++[0]) [lg] (by decide) (by decide) 0 b (by simp) rfl) (n+1);have g3:=fD (h.lit 2 (by decide) ([]++[0]++[b]) [lg] (by decide) (by decide) 0 a (by simp) rfl) n;exact g0.trans (g1.trans (g2.trans g3))
theorem jq.do_(n:Nat)(hq:q=5):M.run D (n+1) (m.lp 3 [0,b,a] [lg])=M.run D n (m.lp 4 [0] [lg,vD a b]):=by
 subst hq;have hz:(m.lp (3:Nat) [0,b,a] [lg]).step D=(ran,m.lp 4 [0] [lg,vD a b]):=by
  rw[h.step 3 (by decide) _ _ (by decide) (by decide) 5 0 0 rfl];exact WM {m.fk [lg]with df:=1,on:=4,nx:=0} [0] 0 0 a b (by show([lg]:List Fr).length<128;decide)
 exact fD hz n
end
def sS(words mX:Int)(i:Nat)(x:Int×Int×Int):Prop:=
 (x.1=1∧x.2.1=0)∨(x.1=2∧1≤x.2.1∧x.2.1≤words∧x.2.2=0)∨(x.1=11∧x.2.1=0∧x.2.2=0)∨(x.1=12∧i=0∧1≤x.2.1∧x.2.1≤16∧x.2.2=0)∨((x.1=13∨x.1=14)∧0≤x.2.1∧x.2.1<mX∧x.2.2=0)
theorem Fg(L:List (Int×Int×Int))(words mX:Int)(n:Nat)(hn:L.length=n+1)(h5:n+1≤500)(hl:mX≤if(opAt L 0).1=12 then(opAt L 0).2.1 else 0)(h2:opAt L n=(15,0,0))(h:∀i,i<n→sS words mX i (opAt L i)):JN L words:=by
 have hs:∀i,i<n→gM (opAt L i).1 (opAt L i).2.1 i 0=[((i:Int)+1,0)]:=fun i hi=>by
  have hp:=h i hi;unfold sS at hp;have hop:(opAt L i).1=1∨(opAt L i).1=2∨(opAt L i).1=11∨(opAt L i).1=12∨(opAt L i).1=13∨(opAt L i).1=14:=by omega
  unfold gM;rw[if_neg (by omega),if_neg (by omega),if_neg (by omega),if_neg (by omega),if_neg (by omega),if_neg (by omega),if_neg (by omega)]
 refine⟨_,Af L n hn hs (by rw[h2]),by omega,.inl (by rw[hn,Nat.add_sub_cancel,h2]),fun i hi=> ?_⟩;unfold rE;by_cases qY:i=n
 ·subst qY;dsimp only
  rw[h2];dsimp only
  have hr:(List.replicate (i+1) (0:Int)).getD i 0=0:=by
   rw[List.getD_eq_getElem?_getD,List.getElem?_replicate];split<;>rfl
  rw[hr];refine⟨by decide,by decide,.inr rfl,by decide,?_,fun g=>absurd g.1 (by decide),fun g=>absurd g.2.2 (by decide)⟩;show(0:Int)≤Ae L words 0;exact Int.le_refl 0
 ·have hp:=h i (by omega);unfold sS at hp;dsimp only
  rcases hp with⟨p1,p2⟩|⟨p1,p2,p3,p4⟩|⟨p1,p2,p3⟩|⟨p1,p2,p3,p4,p5⟩|⟨p1,p2,p3,p4⟩
  ·rw[p1,p2];refine⟨by decide,by decide,.inl rfl,by decide,Int.le_refl 0,fun g=>absurd g.1 (by decide),fun g=>absurd g.1 (by decide)⟩
  ·rw[p1,p4];exact⟨by decide,by decide,.inr rfl,p2,p3,fun g=>absurd g.1 (by decide),fun g=>absurd g.1 (by decide)⟩
  ·rw[p1,p2,p3];exact⟨by decide,by decide,.inr rfl,by decide,Int.le_refl 0,fun g=>absurd g.1 (by decide),fun g=>absurd g.1 (by decide)⟩
  ·rw[p1,p5];exact⟨by decide,by decide,.inr rfl,p3,p4,fun g=>absurd g.2 (by omega),fun g=>absurd g.1 (by decide)⟩
  ·have hk:dR (opAt L i).1=4:=by rcases p1 with p1|p1<;>rw[p1]<;>rfl
   rw[hk,p4];refine⟨by omega,by omega,.inr rfl,p2,?_,by omega,by omega⟩;show(opAt L i).2.1≤(if(opAt L 0).1=12 then(opAt L 0).2.1 else 0)-1;omega
theorem MV{L:List (Int×Int×Int)}{i:Nat}{x:Int×Int×Int}(h:L[i]? =some x):opAt L i=x:=by
 unfold opAt;rw[List.getD_eq_getElem?_getD,h];rfl
theorem OO{words mX:Int}(X:List (Int×Int×Int))(n:Nat)(hX:X.length=n)(r:Int×Int×Int)(h:∀i x,X[i]? =some x→sS words mX i x):∀i,i<n→sS words mX i (opAt (X++[r]) i):=fun i hi=>by
 have hx:(X++[r])[i]? =some X[i]:=by rw[List.getElem?_append_left (by omega),List.getElem?_eq_getElem (by omega)]
 rw[MV hx];exact h i _ (List.getElem?_eq_getElem (by omega))
theorem OP{words mX:Int}(X:List (Int×Int×Int))(h:∀x∈X,(x.1=1∧x.2.1=0)∨(x.1=2∧1≤x.2.1∧x.2.1≤words∧x.2.2=0)):∀i x,X[i]? =some x→sS words mX i x:=fun i x hx=>by
 rcases h x (List.mem_of_getElem? hx)with g|g
 ·exact .inl g
 ·exact .inr (.inl g)
theorem OQ(X:List (Int×Int×Int))(words:Int)(hX:X.length≤499)(h:∀x∈X,(x.1=1∧x.2.1=0)∨(x.1=2∧1≤x.2.1∧x.2.1≤words∧x.2.2=0)):JN (X++[(15,0,0)]) words:=by
 refine Fg _ words 0 X.length (by simp) (by omega) ?_ (MV (by simp)) (OO X X.length rfl _ (OP X h));rw[if_neg]
 ·exact Int.le_refl 0
 ·cases X with
  |nil=>decide
  |cons y r=>
   rcases h y (by simp)with g|g
   ·show¬y.1=12;omega
   ·show¬y.1=12;omega
theorem OT(words:Int):JN [(1,0,5),(15,0,0)] words:=OQ [(1,0,5)] words (by decide) (fun x hx=>by simp at hx;subst hx;exact .inl ⟨rfl,rfl⟩)
end En
end Go.Proofs.YtdokeddjcpnmiaaGreatDoor
