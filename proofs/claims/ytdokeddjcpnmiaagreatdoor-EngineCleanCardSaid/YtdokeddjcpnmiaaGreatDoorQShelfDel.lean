/- Of EngineClean: Stk Split8 TName Mul8 ShelfDel. -/
import Derived.Test.YtdokeddjcpnmiaaGreatDoorQWorld
import Derived.Deep.RegionLaw
import Derived.Lib.SliceRun
import Derived.Lib.SmallJoins
import Derived.Lib.Walk
import Derived.Laws.AppendOwnNone
import Derived.Test.YtdokeddjcpnmiaaGreatDoorProg
import Derived.Shelf.Strings.Split
import Derived.Lib.SplitLaws
import Derived.Lib.IndexBytes
import Derived.Shelf.Bits.Mul64
import Derived.Shelf.SlGeneric
import Derived.Ground.SlgnProg
import Derived.Shelf.SlicesG.Delete
set_option maxRecDepth 100000
set_option maxHeartbeats 3200000
namespace Go.Proofs.YtdokeddjcpnmiaaGreatDoor
open Go.RowKit Go.Proofs.Tryz
open Go.Lib(hid)
def cells(L:List Int):List Value:=L.map (Value.int .i64)
theorem iZ(L:List Int):∀u∈cells L,u.oneCell'=true:=by
 intro u hu;obtain⟨x,_,rfl⟩:=List.mem_map.1 hu;rfl
theorem eH(L:List Int)(j:Nat)(h:j<L.length):(cells L)[j]? =some (.int .i64 (L.getD j 0)):=by
 simp[cells,List.getD,List.getElem?_eq_getElem h]
theorem dz(L:List Int):(cells L).length=L.length:=List.length_map _
theorem eB(A B:List Int):cells (A++B)=cells A++cells B:=List.map_append
def aG(w:World)(b:Nat)(F:List Nat)(L:List Int):Prop:=
 ∃v,aF w b 94 #[v]∧F=b::rowOf v∧b∉rowOf v∧w.ownsRow 0 33 1 v L.length (cells L)
theorem aG.touch{w w':World}{b:Nat}{F G:List Nat}{L:List Int}(h:aG w b F L)(ht:Touch G w w')(hn:∀f,f∈F→f∉G):aG w' b F L:=by
 obtain⟨v,hb,rfl,jG,hr⟩:=h;exact⟨v,hb.touch ht (hn b (by simp)),rfl,jG,aj hr ht fun g hg=>hn g (by simp[hg])⟩
theorem aG.lt{w:World}{b:Nat}{F:List Nat}{L:List Int}(h:aG w b F L):∀f,f∈F→f<w.heap.size:=by
 obtain⟨v,hb,rfl,jG,hr⟩:=h;intro f hf;rcases List.mem_cons.1 hf with rfl|hf
 ·exact hb.lt
 ·exact fG hr hf
theorem Wy(w:World):Calls prog 52 #[] w fun e w'=>e=.returned (.pointer (some ⟨w.heap.size,0,none⟩))∧aG w' w.heap.size [w.heap.size] []∧Touch [] w w':=by
 go_enter func52,ntmps52;go_wp2;go_ret;exact⟨rfl,⟨.slice none 0 0,aF.new w _ _,rfl,by simp[rowOf],World.ownsRow_nil _ _ _ _⟩,(Touch.refl _ _).alloc _⟩
theorem bn{w:World}{v:Value}{n:Nat}{xs:List Value}{e:TypeId}(h:w.ownsRow 0 e 1 v n xs):∃a c,v=.slice a n c:=by
 rcases Go.Joins.ownsRow_forms h with⟨rfl,rfl⟩|⟨g,cap,rfl⟩
 ·exact⟨none,0,rfl⟩
 ·exact⟨_,_,rfl⟩
theorem wW(w:World)(b:Nat)(F:List Nat)(L:List Int)(h:aG w b F L):Calls prog 23 #[.pointer (some ⟨b,0,none⟩)] w fun e w'=>e=.returned (.int .i64 L.length)∧w=w':=by
 obtain⟨v,hb,rfl,jG,hr⟩:=h;obtain⟨a,c,rfl⟩:=bn hr;have c0:=hb.cell 0;go_enter func23,ntmps23;go_wp2;go_ret;exact⟨rfl,rfl⟩
theorem Ns:(prog.info? 33).map (fun i=>(i.zero,i.size,i.bytes))=some (some (.int .i64 0),1,8):=by kernel_rfl
theorem jH:∃i0,prog.info? 33=some i0∧i0.zero=some (.int .i64 0)∧i0.size=1∧i0.bytes=8:=by
 have h:=Ns;cases hi:prog.info? 33 with
 |none=>rw[hi]at h;cases h
 |some i=>rw[hi]at h;simp at h;exact⟨i,rfl,h.1,h.2.1,h.2.2⟩
theorem wX(g off c:Nat)(L:List Int)(w:World)(hL:L.length≤1000000)(hc:∀j u,(cells L)[j]? =some u→w.cell? ⟨g,off+j,none⟩=some u):
 Calls prog 44 #[.slice (some ⟨g,off,none⟩) L.length c] w fun e w'=>
  ∃v,e=.returned v∧w'.ownsRow w.heap.size 33 1 v L.length (cells L)∧v≠.slice none 0 0∧Touch [] w w':=by
 obtain⟨i0,hi,hz0,hz1,hz2⟩:=jH;have q:∀(w:World) (a:Option Addr) (n c n' c':Nat),(binOp .eql 25 (.slice a n c) (.slice none n' c')).run prog w=.ok (.bool a.isNone) w:=fun w a n c n' c'=>Lib.run_eql_slice_nil w _ _ a n c n' c' underlying25;obtain⟨n,hn⟩:∃n,L.length=n:=⟨_,rfl⟩;have kM:(cells L).length=n:=by rw[dz,hn]
 rw[hn]at hL⊢;have A:=hid hc;clear hc hn;go_enter func44,ntmps44;go_wp2_with (at_builtin;refine wpList_append_own _ rfl _ _ 25 rfl w.heap.size 33 i0 (.int .i64 0) 1 8 underlying25 hi hz0 hz1 hz2 rfl (by decide) _ _ _ rfl (World.ownsRow_made w #[] 0 (Nat.le_refl _) (Nat.zero_le _) rfl) ⟨g,off,none⟩ n c (cells L) rfl ?CM ?Gn ?Nt ?Nu ?Nw ?ZM ?_)
 case CM=>omega
 case Gn=>
  intro j u hj;rw[Addr.add_lit];exact Lib.cell?_alloc_some _ (A.out j u hj)
 case Nt=>exact iZ L
 case Nu=>unfold maxLen;omega
 case Nw=>omega
 case ZM=>simp
 intro v' w1 hown hgrow hnil;go_wp2;go_ret;refine⟨v',rfl,by simpa using hown,hnil,Touch.dh ?_ _⟩;exact((Below.refl _ w).alloc (Nat.le_refl _) _).grown hgrow (by simp) (by intro k hk;simp[Value.ownBlock]at hk;omega)
theorem sF(n c:Nat)(w:World):Calls prog 44 #[.slice none n c] w fun e w'=>e=.returned (.slice none 0 0)∧w=w':=by
 have q:∀(w:World) (a:Option Addr) (n c n' c':Nat),(binOp .eql 25 (.slice a n c) (.slice none n' c')).run prog w=.ok (.bool a.isNone) w:=fun w a n c n' c'=>Lib.run_eql_slice_nil w _ _ a n c n' c' underlying25;go_enter func44,ntmps44;go_wp2;go_ret;exact⟨rfl,rfl⟩
theorem zV{w:World}{base:Nat}{e:TypeId}{g cap n m:Nat}{L:List Int}(h:w.ownsRow base e 1 (.slice (some ⟨g,0,none⟩) n cap) n (cells L))(hm:m≤n):
 w.ownsRow base e 1 (.slice (some ⟨g,0,none⟩) m cap) m (cells (L.take m)):=by
 obtain⟨h1,h2⟩:=h;rw[dz]at h1;rcases h2 with⟨h0,_⟩|⟨g',cap',cur,hv,hg,hh,Mf,oJ,hsz,qU⟩
 ·cases h0
 ·cases hv;refine⟨by rw[dz,List.length_take];omega,.inr ⟨g,cap,cur,rfl,hg,hh,by omega,oJ,hsz,?_⟩⟩;rw[cells,List.map_take,←cells,←qU,List.take_take];congr 1;omega
theorem zH{w:World}{e:TypeId}{g cap n:Nat}{xs:List Value}(h:w.ownsRow 0 e 1 (.slice (some ⟨g,0,none⟩) n cap) n xs):n≤cap:=by
 rcases h.2 with⟨h0,_⟩|⟨g',cap',cur,hv,hg,hh,Mf,oJ,_,_⟩
 ·cases h0
 ·cases hv;exact Mf
theorem Rk{w:World}{e:TypeId}{g cap n:Nat}{L:List Int}(h:w.ownsRow 0 e 1 (.slice (some ⟨g,0,none⟩) n cap) n (cells L))(m:Nat)(j:Nat)(u:Value)(hj:(cells (L.drop m))[j]? =some u):
 w.cell? ⟨g,m+j,none⟩=some u:=by
 rw[h.cellAt (m+j) ?_]
 ·rw[cells,List.map_drop,List.getElem?_drop]at hj;exact hj
 ·have h1:=h.1;rw[dz]at h1;have h2:=(List.getElem?_eq_some_iff.1 hj).1;rw[dz,List.length_drop]at h2;omega
theorem Gp{g off c n m:Nat}{L:List Int}(w:World)(hn:L.length=n)(hL:m+n≤1000000)(hc:∀j u,(cells L)[j]? =some u→w.cell? ⟨g,off+j,none⟩=some u):
 Calls prog 44 #[.slice (some ⟨g,off,none⟩) n c] w fun e w'=>
  ∃v,e=.returned v∧w'.ownsRow w.heap.size 33 1 v n (cells L)∧v≠.slice none 0 0∧Touch [] w w':=by
 subst hn;exact wX g off c L w (by omega) hc
theorem qp(w:World)(b:Nat)(F:List Nat)(L:List Int)(h:aG w b F L)(n:Nat)(hn:n≤L.length)(hL:L.length≤1000000):
 Calls prog 98 #[.pointer (some ⟨b,0,none⟩),.int .i64 n] w fun e w'=>
  ∃v,e=.returned (.tuple #[v,.int .i64 0])∧w'.ownsRow w.heap.size 33 1 v n (cells (L.drop (L.length-n)))∧aG w' b F (L.take (L.length-n))∧Touch F w w':=by
 have hD:=wW w b F L h;obtain⟨v,hb,rfl,jG,hr⟩:=h;have c0:=hb.cell 0;have f0:=hb.frozen 0;obtain⟨m,hm⟩:∃m,L.length-n=m:=⟨_,rfl⟩;have yG:(L.drop m).length=n:=by rw[List.length_drop];omega
 have yo:(L.take m).length=m:=by rw[List.length_take];omega
 have CN:L.length=m+n:=by omega
 rw[hm];rw[CN]at hr hD hL;rcases Go.Joins.ownsRow_forms hr with⟨rfl,Cq⟩|⟨g,cap,rfl⟩
 ·have Rm:m=0:=by omega
  have CT:n=0:=by omega
  subst Rm CT;have kM:=sF 0 0 w;go_enter func98,ntmps98;go_wp2_with fail;refine hD.mono ?_;rintro _ _ ⟨rfl,rfl⟩;go_wp2_with fail;refine kM.mono ?_;rintro _ _ ⟨rfl,rfl⟩;go_wp2;go_ret2;have nz:L=[]:=List.eq_nil_of_length_eq_zero CN;subst nz;refine⟨_,rfl,World.ownsRow_nil _ _ _ _,⟨_,hb.bJ 0 _,rfl,jG,World.ownsRow_nil _ _ _ _⟩,(Touch.refl _ _).setCell (by simp) _⟩
 ·have oJ:=zH hr;have e1:IntKind.i64.wrap (((m+n:Nat):Int)-(n:Int))=m:=by rw[IntKind.wrap_i64];omega
  have e2:¬(n:Int)<0:=by omega
  have e3:¬(m:Int)<0:=by omega
  go_enter func98,ntmps98;go_wp2_with fail;refine hD.mono ?_;rintro _ _ ⟨rfl,rfl⟩;have hrow:=fun j u=>Rk hr m j u;clear hD;go_wp2_with fail
  case' inl=>
   refine(Gp (off:=0) (c:=0) w yG hL ?_).mono ?_
   ·intro j u hj;have Cq:n=0:=by omega
    rw[List.eq_nil_of_length_eq_zero (yG.trans Cq)]at hj;cases hj
  case' inr=>
   refine(Gp w yG hL hrow).mono ?_
  all_goals rintro _ w1 ⟨v',rfl,hown,hne,t1⟩
  all_goals have c1:=(hb.touch t1 (by simp)).cell 0
  all_goals have f1:=(hb.touch t1 (by simp)).frozen 0
  all_goals clear c0 f0 hrow
  all_goals go_wp2
  all_goals go_ret2
  all_goals have hB:=hb.touch t1 (by simp)
  all_goals have hlt:=hb.lt
  all_goals have Cv:=fun u=>(t1.mono (G:=[b]) (by simp)).setCell (p:=⟨b,0,none⟩) (by simp) u
  all_goals try(have hcm:m=cap:=by omega)
  all_goals try subst hcm
  all_goals refine⟨v',rfl,?_,⟨_,hB.bJ 0 _,rfl,jG,?_⟩,(Cv _).mono (G:=b::rowOf (.slice (some ⟨g,0,none⟩) 0 0)) (fun k hk=>.inl (by simp at hk;simp[hk]))⟩
  all_goals first|exact ownsRow_setCell_below hown hlt _|(rw[yo];refine aj (zV hr ?_) (Cv _) ?_<;>first|omega|(intro k hk hkb;rw[List.mem_singleton.1 hkb]at hk;exact jG hk))
theorem nD(w:World)(b:Nat)(F:List Nat)(L:List Int)(h:aG w b F L)(n:Nat)(hn:L.length<n)(hL:n≤1000000):
 Calls prog 98 #[.pointer (some ⟨b,0,none⟩),.int .i64 n] w fun e w'=>e=.returned (.tuple #[.slice none 0 0,.int .i64 (-4)])∧w=w':=by
 have hD:=wW w b F L h;obtain⟨len,hlen⟩:∃len,L.length=len:=⟨_,rfl⟩;rw[hlen]at hD hn;clear hlen h;have e1:IntKind.i64.wrap ((len:Int)-(n:Int))=len-n:=by rw[IntKind.wrap_i64];omega
 have e2:¬(n:Int)<0:=by omega
 have e3:(len:Int)-n<0:=by omega
 go_enter func98,ntmps98;go_wp2_with fail;refine hD.mono ?_;rintro _ _ ⟨rfl,rfl⟩;go_wp2;go_ret2;exact⟨rfl,rfl⟩
theorem vF(w:World)(b:Nat)(F:List Nat)(L:List Int)(h:aG w b F L)(hL:L.length≤1000000):
 Calls prog 26 #[.pointer (some ⟨b,0,none⟩)] w fun e w'=>∃v,e=.returned v∧w'.ownsRow w.heap.size 33 1 v L.length (cells L)∧Touch [] w w':=by
 obtain⟨v,hb,rfl,jG,hr⟩:=h;have c0:=hb.cell 0;rcases Go.Joins.ownsRow_forms hr with⟨rfl,Cq⟩|⟨g,cap,rfl⟩
 ·have nz:L=[]:=List.eq_nil_of_length_eq_zero Cq;subst nz;have kM:=sF 0 0 w;go_enter func26,ntmps26;go_wp2_with fail;refine kM.mono ?_;rintro _ _ ⟨rfl,rfl⟩;go_wp2;go_ret;exact⟨_,rfl,World.ownsRow_nil _ _ _ _,Touch.refl _ _⟩
 ·have kM:=wX g 0 cap L w hL (fun j u hj=>by rw[hr.cellAt (0+j) (by have:=(List.getElem?_eq_some_iff.1 hj).1;rw[dz]at this;omega),Nat.zero_add];exact hj);obtain⟨len,hlen⟩:∃len,L.length=len:=⟨_,rfl⟩;rw[hlen]at kM c0⊢;clear hlen hr hb;go_enter func26,ntmps26;go_wp2_with fail;refine kM.mono ?_;rintro _ w1 ⟨v',rfl,hown,hne,t1⟩;go_wp2;go_ret;exact⟨_,rfl,hown,t1⟩
theorem Rn(w:World)(b:Nat)(F:List Nat)(L:List Int)(h:aG w b F L)(g off c:Nat)(M:List Int)(hM:L.length+M.length≤128)(hc:∀j u,(cells M)[j]? =some u→w.cell? ⟨g,off+j,none⟩=some u):
 Calls prog 16 #[.pointer (some ⟨b,0,none⟩),.slice (some ⟨g,off,none⟩) M.length c] w fun e w'=>
  ∃F',e=.returned (.int .i64 0)∧aG w' b F' (L++M)∧Touch F w w'∧Sub w F F':=by
 obtain⟨i0,hi,hz0,hz1,hz2⟩:=jH;obtain⟨v,hb,rfl,jG,hr⟩:=h;have c0:=hb.cell 0;have hbl:=hb.lt;obtain⟨len,hlen⟩:∃len,L.length=len:=⟨_,rfl⟩;obtain⟨n,hn⟩:∃n,M.length=n:=⟨_,rfl⟩;have kM:(cells M).length=n*1:=by rw[dz,hn,Nat.mul_one]
 have nB:(L++M).length=len+n:=by rw[List.length_append,hlen,hn]
 rw[hlen,hn]at hM;rw[hlen]at hr;rw[hn];have A:=hid hc;have B:=hid nB;clear hc hn hlen nB;obtain⟨a,cap,rfl⟩:=bn hr;have e1:IntKind.i64.wrap (128-(len:Int))=128-len:=by rw[IntKind.wrap_i64];omega
 have e2:¬(n:Int)>128-len:=by omega
 go_enter func16,ntmps16;go_wp2_with (at_builtin;refine wpList_append_own_at _ rfl _ _ 25 rfl 0 33 i0 (.int .i64 0) 1 8 underlying25 hi hz0 hz1 hz2 rfl (by decide) _ _ _ rfl hr ⟨g,off,none⟩ n c (cells M) rfl kM ?Gn ?Nt ?Nu ?Nw (Nat.zero_le _) ?_)
 case Gn=>
  intro j u hj;exact A.out j u hj
 case Nt=>exact iZ M
 case Nu=>unfold maxLen;omega
 case Nw=>omega
 intro v' w1 hown hgrow hnil hloc;have hB:aF w1 b 94 #[.slice a len cap]:=hb.grown hgrow (fun e=>jG (aB.2 e.symm));have FZ:=hB.frozen 0;have c1:=hB.cell 0;have Cv:=fun u=>((Touch.refl (b::rowOf (.slice a len cap)) w).grown hgrow (fun k hk=>.inl (by simp[aB,hk]))).setCell (p:=⟨b,0,none⟩) (by simp) u;have uf:b∉rowOf v':=fun hb'=>by
  rcases hloc with e|e
  ·exact jG (aB.2 (e▸aB.1 hb'))
  ·rw[aB.1 hb']at e;simp at e;omega
 have aT:Sub w (b::rowOf (.slice a len cap)) (b::rowOf v'):=by
  intro f hf;rcases List.mem_cons.1 hf with rfl|hf
  ·exact .inl (by simp)
  ·rcases hloc with e|e
   ·exact .inl (by simp[aB,←e,aB.1 hf])
   ·rw[aB.1 hf]at e;simp at e;exact .inr (by omega)
 clear hloc hnil hgrow hr;rw[←eB]at hown;obtain⟨a',c',rfl⟩:=bn hown;have H1:=hid Cv;have H2:=hid hown;have H3:=hid aT;have H4:=hid hB;clear Cv hown aT hB c0 hb;go_wp2;go_ret;refine⟨_,rfl,⟨_,H4.out.bJ 0 _,rfl,uf,?_⟩,H1.out _,H3.out⟩;rw[B.out];exact aj H2.out ((Touch.refl [b] w1).setCell (by simp) _) (fun k hk hkb=>uf (by rw[List.mem_singleton.1 hkb]at hk;exact hk))
end Go.Proofs.YtdokeddjcpnmiaaGreatDoor
namespace Go.Proofs
open Go.Shelf
def Tryz.Cx:Go.Shelf.Ren:=⟨fun|146=>120|221=>147|268=>246|138=>247|143=>248|195=>300|197=>301|218=>302|219=>303|260=>318|217=>319|225=>320|224=>321|267=>322|266=>333|314=>334|n=>n,fun|9=>9|31=>119|3=>3|4=>4|0=>0|105=>276|21=>21|5=>5|46=>127|119=>295|139=>298|138=>297|146=>193|51=>192|n=>n,fun|1=>3|3=>5|4=>6|n=>n⟩
theorem Tryz.NR:Go.Proofs.Lays.n146 Tryz.prog Tryz.Cx:={
 mixed:=by kernel_rfl
 f138:=Tryz.func247.trans (congrArg some (by kernel_rfl))
 f143:=Tryz.func248.trans (congrArg some (by kernel_rfl))
 f146:=Tryz.func120.trans (congrArg some (by kernel_rfl))
 f195:=Tryz.func300.trans (congrArg some (by kernel_rfl))
 f197:=Tryz.func301.trans (congrArg some (by kernel_rfl))
 f217:=Tryz.func319.trans (congrArg some (by kernel_rfl))
 f218:=Tryz.func302.trans (congrArg some (by kernel_rfl))
 f219:=Tryz.func303.trans (congrArg some (by kernel_rfl))
 f221:=Tryz.func147.trans (congrArg some (by kernel_rfl))
 f224:=Tryz.func321.trans (congrArg some (by kernel_rfl))
 f225:=Tryz.func320.trans (congrArg some (by kernel_rfl))
 f260:=Tryz.func318.trans (congrArg some (by kernel_rfl))
 f266:=Tryz.func333.trans (congrArg some (by kernel_rfl))
 f267:=Tryz.func322.trans (congrArg some (by kernel_rfl))
 f268:=Tryz.func246.trans (congrArg some (by kernel_rfl))
 f314:=Tryz.func334.trans (congrArg some (by kernel_rfl))
 t0:=Tryz.underlying0
 a0:=Tryz.isAgg0
 z0:=Tryz.sizeOf0
 v0:=Tryz.zeroValue0
 t3:=Tryz.underlying3
 a3:=Tryz.isAgg3
 z3:=Tryz.sizeOf3
 v3:=Tryz.zeroValue3
 t4:=Tryz.underlying4
 a4:=Tryz.isAgg4
 z4:=Tryz.sizeOf4
 v4:=Tryz.zeroValue4
 t5:=Tryz.underlying5
 a5:=Tryz.isAgg5
 z5:=Tryz.sizeOf5
 v5:=Tryz.zeroValue5
 t9:=Tryz.underlying9
 a9:=Tryz.isAgg9
 z9:=Tryz.sizeOf9
 v9:=Tryz.zeroValue9
 t21:=Tryz.underlying21
 a21:=Tryz.isAgg21
 z21:=Tryz.sizeOf21
 v21:=Tryz.zeroValue21
 t31:=Tryz.underlying119
 a31:=Tryz.isAgg119
 z31:=Tryz.sizeOf119
 v31:=Tryz.zeroValue119
 t46:=Tryz.underlying127
 a46:=Tryz.isAgg127
 z46:=Tryz.sizeOf127
 v46:=Tryz.zeroValue127
 t51:=Tryz.underlying192
 a51:=Tryz.isAgg192
 z51:=Tryz.sizeOf192
 v51:=Tryz.zeroValue192
 t105:=Tryz.underlying276
 a105:=Tryz.isAgg276
 z105:=Tryz.sizeOf276
 v105:=Tryz.zeroValue276
 t119:=Tryz.underlying295
 a119:=Tryz.isAgg295
 z119:=Tryz.sizeOf295
 t138:=Tryz.underlying297
 a138:=Tryz.isAgg297
 z138:=Tryz.sizeOf297
 v138:=Tryz.zeroValue297
 t139:=Tryz.underlying298
 a139:=Tryz.isAgg298
 z139:=Tryz.sizeOf298
 v139:=Tryz.zeroValue298
 t146:=Tryz.underlying193
 a146:=Tryz.isAgg193
 z146:=Tryz.sizeOf193
 v146:=Tryz.zeroValue193
 g1:=by kernel_rfl
 g3:=by kernel_rfl
 g4:=by kernel_rfl}
open Go.RowKit in
theorem Tryz.sJ(s sep:ByteArray)(m:Int)(w:World)(hs:s.size<4294967281)(hm:w.cell? ⟨3,0,none⟩=some (.int .i64 m))(h1:1≤sep.size):
 Calls Tryz.prog 120 #[.string s,.string sep] w fun e w'=>
  e=.returned (.slice (some ⟨w.heap.size,0,none⟩) (Lib.countB s sep+1) (Lib.countB s sep+1))∧w'=w.alloc (.cells ((Lib.splitB sep 0 (Lib.countB s sep) s).map Value.string).toArray 9):=Any.strings_Split Tryz.NR (by kernel_rfl) s sep m w hs hm h1
end Go.Proofs
namespace Go.Proofs.YtdokeddjcpnmiaaGreatDoor
open Go.RowKit Go.Proofs.Tryz
open Go.Lib(hid)
namespace En
def Jw(c:UInt8):List UInt8→List (List UInt8)
 |[]=>[[]]
 |b::l=>if b=c then []::Jw c l else match Jw c l with
  |[]=>[[b]]
  |h::t=>(b::h)::t
theorem Dx(c:UInt8):∀s:List UInt8,Lib.splitK [c] 0 (s.count c) s=Jw c s
 |[]=>rfl
 |b::l=>by
  have ih:=Dx c l;unfold Jw;by_cases h:b=c
  ·subst h;rw[if_pos rfl,List.count_cons_self];unfold Lib.splitK;have e:Lib.index (b::l) [b]=0:=by rw[Lib.index_one];unfold Lib.indexByte;simp
   rw[e,ih.symm];rfl
  ·rw[if_neg h,List.count_cons_of_ne h];cases hk:l.count c with
   |zero=>
    rw[hk]at ih;rw[←ih];rfl
   |succ k=>
    rw[hk]at ih;have e:Lib.index (b::l) [c]=if Lib.index l [c]== -1 then -1 else Lib.index l [c]+1:=by
     rw[Lib.index_one,Lib.index_one];conv=>lhs;unfold Lib.indexByte
     rw[if_neg (by simpa using h)]
    have hne:¬(Lib.index l [c]== -1)=true:=by
     intro hm;have:=Lib.count_miss (beq_iff_eq.1 hm);rw[Lib.count_one,hk]at this;cases this
    obtain⟨i,hi⟩:∃i:Nat,Lib.index l [c]=i:=by
     rw[Lib.index_one]at hne⊢;have h1:=Lib.indexByte_ge l c;have h2:Lib.indexByte l c≠-1:=fun hh=>hne (by rw[hh];rfl);exact⟨(Lib.indexByte l c).toNat,by omega⟩
    rw[if_neg hne,hi]at e;rw[←ih];unfold Lib.splitK;rw[e,hi];have n1:¬((i:Int)== -1)=true:=by simp
    have n2:¬((i:Int)+1== -1)=true:=by simp;omega
    rw[if_neg n1,if_neg n2];have t1:((i:Int)+1).toNat=i+1:=by omega
    have t2:((i:Int)).toNat=i:=by omega
    rw[t1,t2];rfl
def kU:ByteArray:=⟨#[32]⟩
theorem EF(s:ByteArray):(Lib.splitB kU 0 (Lib.countB s kU) s).map (·.data.toList)=Jw 32 s.data.toList:=by
 rw[Lib.splitB_data];have e:Lib.countB s kU=s.data.toList.count 32:=Lib.count_one 32 s.data.toList;rw[e];exact Dx 32 s.data.toList
theorem qy(s:ByteArray)(n:Nat)(h:(Jw 32 s.data.toList).length=n∧((Jw 32 s.data.toList).all fun l=> !l.isEmpty)=true):(Lib.splitB kU 0 (Lib.countB s kU) s).length=n∧∀x∈Lib.splitB kU 0 (Lib.countB s kU) s,x≠.empty:=by
 have hp:=EF s;refine⟨by rw[←h.1,←hp,List.length_map],fun x hx he=> ?_⟩;have hm:x.data.toList∈Jw 32 s.data.toList:=by rw[←hp];exact List.mem_map_of_mem hx
 have:=List.all_eq_true.1 h.2 _ hm;rw[he]at this;cases this
def Cy:ByteArray:=⟨#[110,101,103,97,116,101,32,97,98,115,32,105,110,118,101,114,116,32,49,43,32,49,45,32,50,42,32,50,47,32,48,61,32,48,60,32,48,60,62,32,43,32,45,32,42,32,47,32,109,111,100,32,97,110,100,32,111,114,32,120,111,114,32,108,115,104,105,102,116,32,114,115,104,105,102,116,32,61,32,60,62,32,60,32,62,32,117,60,32,109,105,110,32,109,97,120,32,100,117,112,32,100,114,111,112,32,115,119,97,112,32,111,118,101,114,32,114,111,116,32,110,105,112,32,116,117,99,107,32,63,100,117,112,32,50,100,117,112,32,50,100,114,111,112,32,50,115,119,97,112,32,50,111,118,101,114,32,112,105,99,107,32,114,111,108,108,32,100,101,112,116,104,32,115,62,100,32,100,43,32,100,45,32,100,110,101,103,97,116,101,32,100,97,98,115,32,100,60,32,100,117,60,32,100,61,32,100,50,42,32,100,50,47,32,109,42,32,117,109,42,32,117,109,47,109,111,100,32,102,109,47,109,111,100,32,115,109,47,114,101,109,32,42,47,32,42,47,109,111,100,32,47,109,111,100,32,102,110,101,103,97,116,101,32,102,97,98,115,32,102,43,32,102,45,32,102,42,32,102,47,32,102,109,105,110,32,102,109,97,120,32,102,60,32,102,61,32,115,62,102,32,102,62,115,32,64,32,33,32,99,64,32,99,33,32,43,33,32,50,64,32,50,33,32,102,105,108,108,32,109,111,118,101,32,104,101,114,101,32,97,108,108,111,116,32,44,32,99,44,32,97,108,105,103,110,32,97,108,105,103,110,101,100,32,99,101,108,108,115,32,99,111,117,110,116,32,101,109,105,116,32,46,32,117,46,32,100,46,32,102,46,32,99,114,32,115,112,97,99,101,32,115,112,97,99,101,115,32,116,121,112,101,32,46,115,32,100,101,99,105,109,97,108,32,104,101,120,32,60,35,32,35,32,35,115,32,104,111,108,100,32,115,105,103,110,32,35,62]⟩
theorem C4:(Jw 32 Cy.data.toList).length=107∧((Jw 32 Cy.data.toList).all fun l=> !l.isEmpty)=true:=by decide+kernel
theorem RJ(w:World)(m:Int)(hm:w.cell? ⟨3,0,none⟩=some (.int .i64 m)):Calls prog 95 #[.int .i64 1] w fun e w'=>∃L:List ByteArray,e=.returned (.slice (some ⟨w.heap.size,0,none⟩) 107 107)∧w.alloc (.cells (L.map Value.string).toArray 9)=w'∧L.length=107∧∀x∈L,x≠.empty:=by
 have hS:=Tryz.sJ Cy kU m w (by decide+kernel) hm (by decide);obtain⟨h1,h2⟩:=qy Cy 107 C4;obtain⟨L,hL⟩:∃L,Lib.splitB kU 0 (Lib.countB Cy kU) Cy=L:=⟨_,rfl⟩;have hc:Lib.countB Cy kU+1=L.length:=by rw[←hL];exact(Lib.splitB_all kU (by decide) 0 _ Cy rfl).symm
 rw[hL]at hS h1 h2;rw[hc,h1]at hS;have HH:=hid (And.intro h1 h2);clear h1 h2 hL hc hm;have JO:Calls prog 120 #[.string Cy,.string ⟨#[32]⟩] w _:=hS;unfold Cy at JO;clear hS;go_enter func95,ntmps95;go_wp2_with fail;refine JO.mono ?_;rintro _ w1 ⟨rfl,rfl⟩;clear JO;go_wp2_with fail;go_ret;exact⟨L,rfl,rfl,HH.out.1,HH.out.2⟩
def Cz:ByteArray:=⟨#[62,114,32,114,62,32,114,64,32,105,32,106,32,117,110,108,111,111,112,32,101,120,101,99,117,116,101,32,99,97,116,99,104,32,116,104,114,111,119]⟩
theorem C5:(Jw 32 Cz.data.toList).length=9∧((Jw 32 Cz.data.toList).all fun l=> !l.isEmpty)=true:=by decide+kernel
theorem RL(w:World)(m:Int)(hm:w.cell? ⟨3,0,none⟩=some (.int .i64 m)):Calls prog 95 #[.int .i64 2] w fun e w'=>∃L:List ByteArray,e=.returned (.slice (some ⟨w.heap.size,0,none⟩) 9 9)∧w.alloc (.cells (L.map Value.string).toArray 9)=w'∧L.length=9∧∀x∈L,x≠.empty:=by
 have hS:=Tryz.sJ Cz kU m w (by decide+kernel) hm (by decide);obtain⟨h1,h2⟩:=qy Cz 9 C5;obtain⟨L,hL⟩:∃L,Lib.splitB kU 0 (Lib.countB Cz kU) Cz=L:=⟨_,rfl⟩;have hc:Lib.countB Cz kU+1=L.length:=by rw[←hL];exact(Lib.splitB_all kU (by decide) 0 _ Cz rfl).symm
 rw[hL]at hS h1 h2;rw[hc,h1]at hS;have HH:=hid (And.intro h1 h2);clear h1 h2 hL hc hm;have JO:Calls prog 120 #[.string Cz,.string ⟨#[32]⟩] w _:=hS;unfold Cz at JO;clear hS;go_enter func95,ntmps95;go_wp2_with fail;refine JO.mono ?_;rintro _ w1 ⟨rfl,rfl⟩;clear JO;go_wp2_with fail;go_ret;exact⟨L,rfl,rfl,HH.out.1,HH.out.2⟩
def CB:ByteArray:=⟨#[105,102,32,101,108,115,101,32,116,104,101,110,32,98,101,103,105,110,32,119,104,105,108,101,32,114,101,112,101,97,116,32,117,110,116,105,108,32,97,103,97,105,110,32,100,111,32,63,100,111,32,108,111,111,112,32,43,108,111,111,112,32,108,101,97,118,101,32,99,97,115,101,32,111,102,32,101,110,100,111,102,32,101,110,100,99,97,115,101]⟩
theorem C6:(Jw 32 CB.data.toList).length=17∧((Jw 32 CB.data.toList).all fun l=> !l.isEmpty)=true:=by decide+kernel
theorem RN(w:World)(m:Int)(hm:w.cell? ⟨3,0,none⟩=some (.int .i64 m)):Calls prog 95 #[.int .i64 3] w fun e w'=>∃L:List ByteArray,e=.returned (.slice (some ⟨w.heap.size,0,none⟩) 17 17)∧w.alloc (.cells (L.map Value.string).toArray 9)=w'∧L.length=17∧∀x∈L,x≠.empty:=by
 have hS:=Tryz.sJ CB kU m w (by decide+kernel) hm (by decide);obtain⟨h1,h2⟩:=qy CB 17 C6;obtain⟨L,hL⟩:∃L,Lib.splitB kU 0 (Lib.countB CB kU) CB=L:=⟨_,rfl⟩;have hc:Lib.countB CB kU+1=L.length:=by rw[←hL];exact(Lib.splitB_all kU (by decide) 0 _ CB rfl).symm
 rw[hL]at hS h1 h2;rw[hc,h1]at hS;have HH:=hid (And.intro h1 h2);clear h1 h2 hL hc hm;have JO:Calls prog 120 #[.string CB,.string ⟨#[32]⟩] w _:=hS;unfold CB at JO;clear hS;go_enter func95,ntmps95;go_wp2_with fail;refine JO.mono ?_;rintro _ w1 ⟨rfl,rfl⟩;clear JO;go_wp2_with fail;go_ret;exact⟨L,rfl,rfl,HH.out.1,HH.out.2⟩
def CF:ByteArray:=⟨#[58,32,58,110,111,110,97,109,101,32,59,32,101,120,105,116,32,114,101,99,117,114,115,101,32,91,32,93,32,108,105,116,101,114,97,108,32,99,111,109,112,105,108,101,44,32,112,111,115,116,112,111,110,101,32,39,32,91,39,93,32,105,109,109,101,100,105,97,116,101,32,99,114,101,97,116,101,32,100,111,101,115,62,32,99,111,110,115,116,97,110,116,32,118,97,114,105,97,98,108,101,32,118,97,108,117,101,32,116,111,32,100,101,102,101,114,32,105,115,32,99,104,97,114,32,91,99,104,97,114,93,32,40,32,92,32,115,34,32,115,92,34,32,46,34,32,101,118,97,108,117,97,116,101,32,112,97,114,115,101,32,112,97,114,115,101,45,110,97,109,101,32,115,97,118,101,45,105,110,112,117,116,32,114,101,115,116,111,114,101,45,105,110,112,117,116,32,123,58,32,119,111,114,100,108,105,115,116,32,115,101,116,45,99,117,114,114,101,110,116,32,115,101,116,45,111,114,100,101,114,32,103,101,116,45,111,114,100,101,114,32,109,97,114,107,101,114,32,115,101,116,45,114,101,99,111,103,110,105,122,101,114,115,32,103,101,116,45,114,101,99,111,103,110,105,122,101,114,115,32,107,101,121,32,98,121,101,32,40,100,111,101,115,62,41,32,40,116,111,41,32,40,105,115,41,32,40,109,97,114,107,101,114,41]⟩
theorem C7:(Jw 32 CF.data.toList).length=47∧((Jw 32 CF.data.toList).all fun l=> !l.isEmpty)=true:=by decide+kernel
theorem RO(w:World)(m:Int)(hm:w.cell? ⟨3,0,none⟩=some (.int .i64 m)):Calls prog 95 #[.int .i64 4] w fun e w'=>∃L:List ByteArray,e=.returned (.slice (some ⟨w.heap.size,0,none⟩) 47 47)∧w.alloc (.cells (L.map Value.string).toArray 9)=w'∧L.length=47∧∀x∈L,x≠.empty:=by
 have hS:=Tryz.sJ CF kU m w (by decide+kernel) hm (by decide);obtain⟨h1,h2⟩:=qy CF 47 C7;obtain⟨L,hL⟩:∃L,Lib.splitB kU 0 (Lib.countB CF kU) CF=L:=⟨_,rfl⟩;have hc:Lib.countB CF kU+1=L.length:=by rw[←hL];exact(Lib.splitB_all kU (by decide) 0 _ CF rfl).symm
 rw[hL]at hS h1 h2;rw[hc,h1]at hS;have HH:=hid (And.intro h1 h2);clear h1 h2 hL hc hm;have JO:Calls prog 120 #[.string CF,.string ⟨#[32]⟩] w _:=hS;unfold CF at JO;clear hS;go_enter func95,ntmps95;go_wp2_with fail;refine JO.mono ?_;rintro _ w1 ⟨rfl,rfl⟩;clear JO;go_wp2_with fail;go_ret;exact⟨L,rfl,rfl,HH.out.1,HH.out.2⟩
end En
end Go.Proofs.YtdokeddjcpnmiaaGreatDoor
namespace Go.Proofs
open Go.Shelf
def Tryz.Fb:Go.Shelf.Ren:=⟨fun|212=>119|263=>145|264=>146|n=>n,fun|46=>127|51=>192|146=>193|53=>195|148=>196|n=>n,fun|n=>n⟩
theorem Tryz.Tk:Go.Proofs.Lays.n212 Tryz.prog Tryz.Fb:={
 mixed:=by kernel_rfl
 f212:=Tryz.func119.trans (congrArg some (by kernel_rfl))
 f263:=Tryz.func145.trans (congrArg some (by kernel_rfl))
 f264:=Tryz.func146.trans (congrArg some (by kernel_rfl))
 t46:=Tryz.underlying127
 a46:=Tryz.isAgg127
 z46:=Tryz.sizeOf127
 v46:=Tryz.zeroValue127
 t51:=Tryz.underlying192
 a51:=Tryz.isAgg192
 z51:=Tryz.sizeOf192
 v51:=Tryz.zeroValue192
 t53:=Tryz.underlying195
 a53:=Tryz.isAgg195
 z53:=Tryz.sizeOf195
 v53:=Tryz.zeroValue195
 t146:=Tryz.underlying193
 a146:=Tryz.isAgg193
 z146:=Tryz.sizeOf193
 v146:=Tryz.zeroValue193
 t148:=Tryz.underlying196
 a148:=Tryz.isAgg196
 z148:=Tryz.sizeOf196
 v148:=Tryz.zeroValue196}
open Go.RowKit in
theorem Tryz.Xq(x y:Nat)(hx:x<18446744073709551616)(hy:y<18446744073709551616)(w:World):
 Calls Tryz.prog 119 #[.int .u64 x,.int .u64 y] w fun e w'=>e=.returned (.tuple #[.int .u64 ((x*y / 18446744073709551616:Nat):Int),.int .u64 ((x*y%18446744073709551616:Nat):Int)])∧w'=w:=Any.bits_Mul Tryz.Tk x y hx hy w
end Go.Proofs
namespace Go.Proofs
open Go.Shelf
def Tryz.wh:Go.Shelf.Ren:=⟨fun|45=>148|n=>n,fun|22=>25|23=>33|3=>3|4=>4|0=>0|n=>n,fun|n=>n⟩
theorem Tryz.Dh:Go.Proofs.SlLaysN.n45 Tryz.prog Tryz.wh:={
 mixed:=by kernel_rfl
 f45:=⟨Tryz.f148.name,by decide,Tryz.func148.trans (congrArg some (by kernel_rfl))⟩
 t0:=Tryz.underlying0
 a0:=Tryz.isAgg0
 z0:=Tryz.sizeOf0
 v0:=Tryz.zeroValue0
 t3:=Tryz.underlying3
 a3:=Tryz.isAgg3
 z3:=Tryz.sizeOf3
 v3:=Tryz.zeroValue3
 t4:=Tryz.underlying4
 a4:=Tryz.isAgg4
 z4:=Tryz.sizeOf4
 v4:=Tryz.zeroValue4
 t22:=Tryz.underlying25
 a22:=Tryz.isAgg25
 z22:=Tryz.sizeOf25
 v22:=Tryz.zeroValue25
 t23:=Tryz.underlying33
 a23:=Tryz.isAgg33
 z23:=Tryz.sizeOf33
 v23:=Tryz.zeroValue33
 i23:=by kernel_rfl}
open Go.RowKit Go.Lib Go.Sort in
theorem Tryz.uj(blk off cap i j:Nat)(zs:List Int)(w:World)(hH:Holds (Value.int .i64) w blk off zs.toArray)(oJ:zs.length≤cap)(hm:cap≤9223372036854775807)(hij:i≤j)(hj:j≤zs.length):
 Calls Tryz.prog 148 #[.slice (some ⟨blk,off,none⟩) zs.length cap,.int .i64 i,.int .i64 j] w fun e w'=>e=.returned (.slice (some ⟨blk,off,none⟩) (zs.length-(j-i)) cap)∧∃q,w'=putRow (Value.int .i64) (Sort.ahead w q) blk off (zs.take i++zs.drop j++List.replicate (j-i) 0).toArray:=AnyG.slices_Delete_int Tryz.Dh blk off cap i j zs w hH oJ hm hij hj
end Go.Proofs
