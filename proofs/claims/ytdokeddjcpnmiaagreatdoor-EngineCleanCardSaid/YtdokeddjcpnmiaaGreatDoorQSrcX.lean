/- Of EngineClean: SrcA SrcB SrcC SrcD. -/
import Derived.Test.YtdokeddjcpnmiaaGreatDoorQWorld
import Derived.Deep.RegionLaw
import Derived.Lib.SliceRun
import Derived.IntWalk
import Derived.Deep.LoopGhost
set_option maxRecDepth 100000
set_option maxHeartbeats 800000
namespace Go.Proofs.YtdokeddjcpnmiaaGreatDoor
open Go.RowKit Go.Proofs.Tryz
open Go.Lib(hid)
def gT(s:ByteArray)(i:Int):Nat:=min i.toNat s.size
def Mi(s:ByteArray)(i:Int):ByteArray:=s.extract (gT s i) s.size
theorem Nz(s:ByteArray)(i:Int):gT s i≤s.size:=by unfold gT;omega
theorem Aa(s:ByteArray)(k:Nat):(s.extract k s.size).data.toList=s.data.toList.drop k:=by rw[vE,←lI,List.take_length]
theorem uI(s:ByteArray)(i:Int):(Mi s i).data.toList=s.data.toList.drop (gT s i):=by
 unfold Mi;rw[vE,←lI,List.take_length]
theorem Rt(s:ByteArray)(i:Int)(w:World)(hs:s.size≤maxLen):
 Calls prog 91 #[.string s,.int .i64 i] w fun e w'=>e=.returned (.tuple #[.string (Mi s i),.int .i64 (gT s i)])∧w=w':=by
 unfold maxLen at hs;go_enter func91,ntmps91;go_wp2
 all_goals go_ret2
 all_goals refine⟨?_,rfl⟩
 all_goals refine ZL (nw ?_) (nW ?_)
 all_goals first
  |(unfold gT;omega)
  |(refine zG ?_;rw[uI])
 ·have e:gT s i=s.size:=by unfold gT;split at* <;>omega
  rw[e,←lI,List.drop_length];rfl
 ·have e:gT s i=0:=by unfold gT;omega
  rw[e,List.drop_zero]
 ·have e:gT s i=i.toNat:=by unfold gT;split at* <;>omega
  rw[e,Aa]
def rC(is:Bool)(l:List UInt8):Nat:=l.findIdx fun c=>(decide (c≤32))==is
theorem Ru(is:Bool)(l:List UInt8):rC is l≤l.length:=List.findIdx_le_length
def Ab(s:ByteArray)(i:Int):Nat:=gT s i+rC false (s.data.toList.drop (gT s i))
def Gt(s:ByteArray)(i:Int):Nat:=rC true (s.data.toList.drop (Ab s i))
def Mj(s:ByteArray)(i:Int):ByteArray:=s.extract (Ab s i) (Ab s i+Gt s i)
def Ml(s:ByteArray)(i:Int):Nat:=min (Ab s i+Gt s i+1) s.size
theorem Rv(is:Bool)(l:List UInt8)(k:Nat)(h:∃c,l[k]? =some c∧((decide (c≤32))==is)=true)
 (hb:∀j,j<k→∀c,l[j]? =some c→((decide (c≤32))==is)=false):rC is l=k:=by
 obtain⟨c,hc,ht⟩:=h;obtain⟨hk,rfl⟩:=List.getElem?_eq_some_iff.1 hc;unfold rC;rw[List.findIdx_eq hk];exact⟨ht,fun j hj=>hb j hj _ (List.getElem?_eq_getElem (by omega))⟩
theorem JH(is:Bool)(l:List UInt8)(hb:∀(j:Nat) (c:UInt8),l[j]? =some c→((decide (c≤32))==is)=false):rC is l=l.length:=by
 unfold rC;rw[List.findIdx_eq_length];intro c hc;obtain⟨j,hj⟩:=List.getElem?_of_mem hc;exact hb j c hj
theorem EB(s:ByteArray)(is:Bool)(w:World)(hs:s.size≤maxLen):
 Calls prog 92 #[.string s,.bool is] w fun e w'=>e=.returned (.int .i64 (rC is s.data.toList))∧w=w':=by
 unfold maxLen at hs;go_enter func92,ntmps92;go_wp2;go_loop [8] (fun i=>∃k:Nat,k≤s.size∧i=.int .i64 k∧∀j,j<k→∀c,s.data.toList[j]? =some c→((decide (c≤32))==is)=false) (fun i=>s.size-(intOf i).toNat)
 case atStart=>exact⟨0,Nat.zero_le _,rfl,fun j h=>by omega⟩
 case round=>
  obtain⟨k,hk,rfl,hb⟩:=hrel;have HB:=hid hb;clear hb;by_cases hlt:k<s.size
  ·have HG:=hid (Ww s k hlt);have HD:Hid (decide ((s[k].toNat:Int)≤32)=decide (s[k]≤32)):=by
    show _=_;rw[decide_eq_decide,UInt8.le_iff_toNat_le];exact⟨fun h=>Int.ofNat_le.1 h,fun h=>Int.ofNat_le.2 h⟩
   rcases Bool.eq_false_or_eq_true (decide ((s[k].toNat:Int)≤32)==is)with ht|ht
   ·go_wp2;go_ret;refine⟨Wv (nW ?_),rfl⟩;rw[HD.out]at ht;have e:rC is s.data.toList=k:=Rv is _ k (by rw[HG.out];exact⟨_,rfl,ht⟩) HB.out;rw[e]
   ·go_wp2;refine⟨⟨k+1,by omega,by go_num,fun j hj c hc=> ?_⟩,by simp[intOf];omega⟩;rcases Nat.lt_or_ge j k with h1|h1
    ·exact HB.out j h1 c hc
    ·obtain rfl:j=k:=by omega
     rw[HG.out]at hc;obtain rfl:=Option.some.inj hc;rw[←HD.out];exact ht
  ·go_wp2;go_ret;refine⟨Wv (nW ?_),rfl⟩;have e:rC is s.data.toList=s.size:=by
    rw[←lI];refine JH is _ fun j c hj=>HB.out j ?_ c hj;have:=lI s;have:=(List.getElem?_eq_some_iff.1 hj).1;omega
   rw[e]
structure xu(s:ByteArray)(i:Int)(r:ByteArray)(h:Nat):Prop where
 at_:h=gT s i
 list:r.data.toList=s.data.toList.drop h
 size:r.size=s.size-h
theorem WI(s:ByteArray)(i:Int)(w:World)(hs:s.size≤maxLen):
 Calls prog 91 #[.string s,.int .i64 i] w fun e w'=>∃r h,xu s i r h∧h≤s.size∧r.size≤s.size-h∧e=.returned (.tuple #[.string r,.int .i64 (h:Nat)])∧w=w':=
 (Rt s i w hs).mono fun _ _ ⟨he,hw⟩=>by
  have hz:(Mi s i).size=s.size-gT s i:=by rw[←lI,uI,List.length_drop,lI]
  exact⟨_,_,⟨rfl,uI s i,hz⟩,Nz s i,Nat.le_of_eq hz,he,hw⟩
def JI(is:Bool)(s:ByteArray)(n:Nat):Prop:=n=rC is s.data.toList
theorem Mq(s:ByteArray)(is:Bool)(w:World)(hs:s.size≤maxLen):
 Calls prog 92 #[.string s,.bool is] w fun e w'=>∃n,JI is s n∧n≤s.size∧e=.returned (.int .i64 (n:Nat))∧w=w':=
 (EB s is w hs).mono fun _ _ ⟨he,hw⟩=>⟨_,rfl,by rw[←lI];exact Ru _ _,he,hw⟩
theorem Rw{s r:ByteArray}{i:Int}{h n m:Nat}(HR:xu s i r h)(HN:JI false r n)(HM:JI true (r.extract n r.size) m):
 Ab s i=h+n∧Gt s i=m∧(r.extract n r.size).extract 0 m=Mj s i∧Ml s i=min (h+n+m+1) s.size:=by
 have hA:Ab s i=h+n:=by unfold Ab;rw[←HR.at_,←HR.list,HN]
 have hL:Gt s i=m:=by unfold Gt;rw[hA,HM,Aa,HR.list,List.drop_drop]
 refine⟨hA,hL,?_,by unfold Ml;rw[hA,hL]⟩;refine zG ?_;unfold Mj;rw[vE,Aa,vE,HR.list,hA,hL,List.drop_zero,List.drop_drop,List.take_drop]
theorem Rx(s:ByteArray)(i:Int)(w:World)(hs:s.size≤140737488355328):
 Calls prog 55 #[.string s,.int .i64 i] w fun e w'=>e=.returned (.tuple #[.string (Mj s i),.int .i64 (Ml s i)])∧w=w':=by
 go_enter func55,ntmps55;go_wp2_with (go_at_call 91;refine(WI s i _ (by unfold maxLen;omega)).mono ?_;rintro e w' ⟨r,h,HR,hh,hr,rfl,rfl⟩);refine(Mq r false _ (by unfold maxLen;omega)).mono ?_;rintro e w' ⟨n,HN,hn,rfl,rfl⟩;go_wp2_with fail;refine(Mq (r.extract n r.size) true _ (by unfold maxLen;rw[ByteArray.size_extract];omega)).mono ?_;rintro e w' ⟨m,HM,hm,rfl,rfl⟩;rw[ByteArray.size_extract]at hm;have jC:m≤r.size-n:=by omega
 clear hm;go_wp2_with fail
 all_goals go_ret2
 all_goals obtain⟨_,_,h3,h4⟩:=Rw HR HN HM
 all_goals refine⟨ZL (nw h3) (nW ?_),rfl⟩
 all_goals rw[h4]
 all_goals omega
theorem own:ownKnob prog.godebug=none:=by kernel_rfl
theorem Ry:(prog.info? 112).map (fun i=>(i.zero,i.size,i.bytes))=some (some (.agg #[.string .empty,.int .i64 0,.int .i64 0]),3,32):=by kernel_rfl
structure One where
 text:ByteArray
 id:Nat
 on:Nat
def One.cells(o:One):List Value:=[.string o.text,.int .i64 o.id,.int .i64 o.on]
theorem One.iZ(o:One):∀u∈o.cells,u.oneCell'=true:=by
 intro u hu;simp[One.cells]at hu;rcases hu with rfl|rfl|rfl<;>rfl
def One.none:One:=⟨.empty,0,0⟩
structure lD where
 cur:One
 outer:List One
 many:Nat
def gZ(S:lD)(v:Value):Array Value:= #[.string S.cur.text,.int .i64 S.cur.id,.int .i64 S.cur.on,v,.int .i64 S.outer.length,.int .i64 S.many]
def pq(w:World)(b:Nat)(F:List Nat)(S:lD):Prop:=
 ∃v,aF w b 115 (gZ S v)∧F=b::rowOf v∧b∉rowOf v∧w.ownsRow 0 112 3 v S.outer.length (S.outer.flatMap One.cells)
structure lD.ok(S:lD):Prop where
 text:S.cur.text.size≤1000
 on:S.cur.on≤S.cur.text.size
 id:S.cur.id≤S.many
 outer:∀o,o∈S.outer→o.text.size≤1000∧o.on≤o.text.size∧o.id≤S.many
 deep:S.outer.length≤8
 many:S.many≤1000000
structure PQ(w:World)(b:Nat)(S:lD)(v:Value):Prop where
 c0:w.cell? ⟨b,0,none⟩=some (.string S.cur.text)
 c1:w.cell? ⟨b,1,none⟩=some (.int .i64 S.cur.id)
 c2:w.cell? ⟨b,2,none⟩=some (.int .i64 S.cur.on)
 c3:w.cell? ⟨b,3,none⟩=some v
 c4:w.cell? ⟨b,4,none⟩=some (.int .i64 S.outer.length)
 c5:w.cell? ⟨b,5,none⟩=some (.int .i64 S.many)
 f0:w.frozen? ⟨b,0,none⟩=false
 f1:w.frozen? ⟨b,1,none⟩=false
 f2:w.frozen? ⟨b,2,none⟩=false
 f3:w.frozen? ⟨b,3,none⟩=false
 f4:w.frozen? ⟨b,4,none⟩=false
 f5:w.frozen? ⟨b,5,none⟩=false
theorem six{w:World}{b:Nat}{S:lD}{v:Value}(h:aF w b 115 (gZ S v)):PQ w b S v:=
 ⟨h.cell 0,h.cell 1,h.cell 2,h.cell 3,h.cell 4,h.cell 5,h.frozen 0,h.frozen 1,h.frozen 2,h.frozen 3,h.frozen 4,h.frozen 5⟩
theorem pq.touch{w w':World}{b:Nat}{F G:List Nat}{S:lD}(h:pq w b F S)(ht:Touch G w w')(hn:∀f,f∈F→f∉G):pq w' b F S:=by
 obtain⟨v,hb,rfl,jG,hr⟩:=h;exact⟨v,hb.touch ht (hn b (by simp)),rfl,jG,aj hr ht fun g hg=>hn g (by simp[hg])⟩
theorem pq.lt{w:World}{b:Nat}{F:List Nat}{S:lD}(h:pq w b F S):∀f,f∈F→f<w.heap.size:=by
 obtain⟨v,hb,rfl,jG,hr⟩:=h;intro f hf;rcases List.mem_cons.1 hf with rfl|hf
 ·exact hb.lt
 ·exact fG hr hf
theorem pq.drewN{w:World}{b:Nat}{F:List Nat}{S:lD}(h:pq w b F S)(n:Nat):pq (w.drewN n) b F S:=h
def Left(w:World)(b:Nat)(F:List Nat)(S:lD)(w':World):Prop:=∃F',pq w' b F' S∧Touch F w w'∧Sub w F F'
theorem YR{w:World}{b:Nat}{S:lD}{v:Value}(hb:aF w b 115 (gZ S v))(jG:b∉rowOf v)(hr:w.ownsRow 0 112 3 v S.outer.length (S.outer.flatMap One.cells))(i:Int)(n:Nat)(hi:i=n):
 Left w b (b::rowOf v) {S with cur:={S.cur with on:=n}} (w.setCell ⟨b,2,none⟩ (.int .i64 i)):=by
 subst hi;have ht:Touch [b] w (w.setCell ⟨b,2,none⟩ (.int .i64 n)):=(Touch.refl _ _).setCell (by simp) _;exact⟨_,⟨v,hb.bJ 2 _,rfl,jG,aj hr ht fun g hg=>by simp;rintro rfl;exact jG hg⟩,ht.mono (by simp),Sub.refl _ _⟩
theorem Left.Gl{w w':World}{b:Nat}{F:List Nat}{S:lD}{n:Nat}(h:Left (w.drewN n) b F S w'):Left w b F S w':=by
 obtain⟨F',h1,h2,h3⟩:=h;exact⟨F',h1,⟨h2.os,h2.tape,h2.output,h2.size,h2.block⟩,h3⟩
theorem WJ{w:World}{b:Nat}{S:lD}{v:Value}(hb:aF w b 115 (gZ S v))(jG:b∉rowOf v)(hr:w.ownsRow 0 112 3 v S.outer.length (S.outer.flatMap One.cells))(k n:Nat):
 Left w b (b::rowOf v) {S with cur:={S.cur with on:=n}} ((w.drewN k).setCell ⟨b,2,none⟩ (.int .i64 n)):=
 (YR (w:=w.drewN k) hb jG hr _ n rfl).Gl
theorem JJ(w:World):Calls prog 30 #[] w fun e w'=>e=.returned (.pointer (some ⟨w.heap.size,0,none⟩))∧w.alloc (.cells (gZ ⟨.none,[],0⟩ (.slice none 0 0)) 115)=w':=by
 go_enter func30,ntmps30;go_wp2;go_ret;exact⟨rfl,rfl⟩
theorem qw(w:World)(b:Nat)(F:List Nat)(S:lD)(h:pq w b F S):Calls prog 36 #[.pointer (some ⟨b,0,none⟩)] w fun e w'=>e=.returned (.int .i64 S.outer.length)∧w=w':=by
 obtain⟨v,hb,rfl,jG,hr⟩:=h;obtain⟨c0,c1,c2,c3,c4,c5,f0,f1,f2,f3,f4,f5⟩:=six hb;go_enter func36,ntmps36;go_wp2;go_ret;exact⟨rfl,rfl⟩
theorem ZR(w:World)(b:Nat)(F:List Nat)(S:lD)(h:pq w b F S):Calls prog 35 #[.pointer (some ⟨b,0,none⟩)] w fun e w'=>e=.returned (.int .i64 S.cur.on)∧w=w':=by
 obtain⟨v,hb,rfl,jG,hr⟩:=h;obtain⟨c0,c1,c2,c3,c4,c5,f0,f1,f2,f3,f4,f5⟩:=six hb;go_enter func35,ntmps35;go_wp2;go_ret;exact⟨rfl,rfl⟩
theorem Rz(w:World)(b:Nat)(F:List Nat)(S:lD)(h:pq w b F S)(i:Int)(hm:S.cur.text.size≤1000):
 Calls prog 79 #[.pointer (some ⟨b,0,none⟩),.int .i64 i] w fun e w'=>e=.returned (.tuple #[])∧Left w b F {S with cur:={S.cur with on:=gT S.cur.text i}} w':=by
 obtain⟨v,hb,rfl,jG,hr⟩:=h;obtain⟨c0,c1,c2,c3,c4,c5,f0,f1,f2,f3,f4,f5⟩:=six hb;go_enter func79,ntmps79;go_wp2
 all_goals go_end0
 all_goals refine⟨rfl,YR hb jG hr _ _ ?_⟩
 all_goals(unfold gT;omega)
theorem sH(w:World)(b:Nat)(F:List Nat)(S:lD)(h:pq w b F S)(hm:S.cur.text.size≤1000):
 Calls prog 54 #[.pointer (some ⟨b,0,none⟩),.func (Fn.func 55) #[] #[]] w fun e w'=>e=.returned (.string (Mj S.cur.text S.cur.on))∧Left w b F {S with cur:={S.cur with on:=Ml S.cur.text S.cur.on}} w':=by
 obtain⟨v,hb,rfl,jG,hr⟩:=h;obtain⟨c0,c1,c2,c3,c4,c5,f0,f1,f2,f3,f4,f5⟩:=six hb;go_enter func54,ntmps54;go_wp2_with fail;go_quiet ((go_at_call 55;exact JE (Rx _ _ _ (by omega))))
 go_wp2;go_ret;exact⟨rfl,WJ hb jG hr _ _⟩
theorem aF.to{w:World}{g:Nat}{t:TypeId}{cs cs':Array Value}(h:aF w g t cs)(e:cs=cs'):aF w g t cs':=e▸h
theorem RA(w:World):(zeroValue 112).run prog w=.ok (.agg #[.string .empty,.int .i64 0,.int .i64 0]) w:=by kernel_rfl
theorem Cw{P:Program}(w:World)(t e ty:TypeId)(zs:List Value)(ht:P.underlying t=some (.slice e))(hv:∀w,(zeroValue e).run P w=.ok (.agg zs.toArray) w)(h1:∀z∈zs,z.oneCell'=true)(b o c:Nat)
 (hc:∀j,j<zs.length→(w.cell? ⟨b,o+j,none⟩).isSome=true∧w.frozen? ⟨b,o+j,none⟩=false):
 (Builtin.clear_ #[t] ty #[.slice (some ⟨b,o,none⟩) 1 c]).run P w=.ok (.tuple #[]) (w.setCells b o zs):=by
 have hzc:(Builtin.zeroCells (Value.agg zs.toArray).cells 1).toList=zs:=by
  simp[Builtin.zeroCells,Value.cells];apply List.ext_getElem
  ·simp
  ·intro i h1 h2;simp at h1;simp[Nat.mod_eq_of_lt h1,List.getElem?_eq_getElem h1]
 have hst:=run_storeCells_cells (P:=P) b o zs 0 w (by simpa using fun j hj=>(hc j hj).1) (by simpa using fun j hj=>(hc j hj).2) h1;simp only[Nat.add_zero]at hst;simp[Builtin.clear_,run_underlying ht,hv,hzc,hst]
structure vJ(w:World)(g n:Nat)(cur:Array Value)(w':World)(cur':Array Value):Prop where
 blk:aF w' g 112 cur'
 size:cur'.size=cur.size
 take:cur'.toList.take (n*3)=cur.toList.take (n*3)
 touch:Touch [g] w w'
theorem JK{w:World}{g n:Nat}{cur:Array Value}(hb:aF w g 112 cur)(x y z:Value):vJ w g n cur (w.setCells g (n*3) [x,y,z]) (((cur.setIfInBounds (n*3) x).setIfInBounds (n*3+1) y).setIfInBounds (n*3+1+1) z):=by
 refine⟨((hb.bJ _ x).bJ _ y).bJ _ z,by simp,?_,(((Touch.refl _ w).setCell (by simp) _).setCell (by simp) _).setCell (by simp) _⟩;apply List.ext_getElem?;intro i;simp only[List.getElem?_take];split
 ·simp only[Array.getElem?_toList];rw[Array.getElem?_setIfInBounds_ne (by omega),Array.getElem?_setIfInBounds_ne (by omega),Array.getElem?_setIfInBounds_ne (by omega)]
 ·rfl
theorem Gu(w:World)(g n cap:Nat)(cur:Array Value)(hb:aF w g 112 cur)(hc:n+1≤cap)(_hm:cap≤maxLen)(hz:cur.size=cap*3):
 Calls prog 142 #[.slice (some ⟨g,0,none⟩) (n+1) cap,.int .i64 n,.int .i64 ((n:Int)+1)] w fun e w'=>e=.returned (.slice (some ⟨g,0,none⟩) n cap)∧
  ∃cur',vJ w g n cur w' cur':=by
 obtain⟨i0,hi,hz0,hz1,hz2⟩:=info_parts Ry;have WK:n≤cap:=by omega
 have h01:(0:Int)≤(n:Int)+1:=by omega
 have HZ:=hid hz;clear hz;obtain⟨A,hA⟩:∃A,(if cap=n+1 then some (⟨g,0,none⟩:Addr)else some ⟨g,(n+1)*3,none⟩)=some A:=by split<;>exact⟨_,rfl⟩
 have hsc:∀W:World,W.setCells g (n*3) []=W:=fun _=>rfl;have kM:=Cw w.drew 113 112 0 [.string .empty,.int .i64 0,.int .i64 0] underlying113 RA (by simp[Value.oneCell']) g (n*3) (cap-n) (fun j hj=>by
  rw[hb.drew.cell];exact⟨Array.getElem?_eq_getElem (show n*3+j<cur.size by rw[HZ.out];simp at hj;omega)▸rfl,hb.drew.frozen _⟩)
 go_enter func142,ntmps142;go_wp2_with fail;go_region_law (refine step_append_room rfl (.tmp 22) (.tmp 25) 113 rfl 112 i0 3 underlying113 hi hz1 g 0 n cap (by simp[Act.eval,Act.put]) A 0 (cap-(n+1)) [] (by simp[Act.eval,Act.put]) rfl (by simp) (by simp) (by omega) (by simp) ?_)
 all_goals go_wp2_with fail
 all_goals go_ret
 all_goals obtain⟨h1,h2,h3,h4⟩:=JK (n:=n) hb.drew (.string .empty) (.int .i64 0) (.int .i64 0)
 all_goals exact⟨rfl,_,h1,h2,h3,⟨h4.os,h4.tape,h4.output,h4.size,h4.block⟩⟩
theorem xw:∀l:List One,(l.flatMap One.cells).length=l.length*3
 |[]=>rfl
 |x::r=>by simp only[List.flatMap_cons,List.length_append,xw r,One.cells,List.length_cons,List.length_nil];omega
theorem JL{l L:List One}{o:One}(h:L=l++[o]):(L.flatMap One.cells)[l.length*3]? =some (.string o.text)∧(L.flatMap One.cells)[l.length*3+1]? =some (.int .i64 o.id)∧(L.flatMap One.cells)[l.length*3+2]? =some (.int .i64 o.on):=by
 have hl:=xw l;subst h;rw[List.flatMap_append];refine⟨?_,?_,?_⟩<;>rw[List.getElem?_append_right (by omega),hl]
 ·rw[Nat.sub_self];rfl
 ·rw[show l.length*3+1-l.length*3=1 by omega];rfl
 ·rw[show l.length*3+2-l.length*3=2 by omega];rfl
def lD.close(S:lD)(o:One)(l:List One):lD:=⟨o,l,S.many⟩
def vK(w:World)(b:Nat)(o:One)(n:Nat):World:=
 (((w.setCell ⟨b,4,none⟩ (.int .i64 n)).setCell ⟨b,0,none⟩ (.string o.text)).setCell ⟨b,1,none⟩ (.int .i64 o.id)).setCell ⟨b,2,none⟩ (.int .i64 o.on)
theorem pk{w:World}{b:Nat}{S:lD}{v:Value}(hb:aF w b 115 (gZ S v))(o:One)(n:Nat):
 aF (vK w b o n) b 115 #[.string o.text,.int .i64 o.id,.int .i64 o.on,v,.int .i64 n,.int .i64 S.many]:=
 ((((hb.bJ 4 _).bJ 0 _).bJ 1 _).bJ 2 _).to (by simp[gZ])
theorem ZT(w:World)(b:Nat)(o:One)(n:Nat)(F:List Nat)(h:b∈F):Touch F w (vK w b o n):=
 ((((Touch.refl _ w).setCell (.inl h) _).setCell (.inl h) _).setCell (.inl h) _).setCell (.inl h) _
theorem NA{w w5:World}{b g n:Nat}{S:lD}{o:One}{v:Value}{cur NC:Array Value}{k:Nat}(h:vJ ((vK w b o n).drewN k) g n cur w5 NC)(hb:aF w b 115 (gZ S v))(hgb:g≠b):
 PQ w5 b ⟨o,List.replicate n .none,S.many⟩ v:=by
 have h1:aF w5 b 115 (gZ ⟨o,List.replicate n .none,S.many⟩ v):=(((pk hb o n).drewN k).touch h.touch (by simp;omega)).to (by simp[gZ]);exact six h1
theorem ND{w w5:World}{b g cap:Nat}{S:lD}{o:One}{l:List One}{cur NC:Array Value}{k:Nat}(hb:aF w b 115 (gZ S (.slice (some ⟨g,0,none⟩) (l.length+1) cap)))(hgb:g≠b)
 (h:vJ ((vK w b o l.length).drewN k) g l.length cur w5 NC) (hcs:cur.size=cap*3) (QY:cur.toList.take ((l.length+1)*3)=S.outer.flatMap One.cells) (hl:S.outer=l++[o]) (hc:l.length+1≤cap) (hm:cap≤maxLen):
 Left w b (b::rowOf (.slice (some ⟨g,0,none⟩) (l.length+1) cap)) (S.close o l) (w5.setCell ⟨b,3,none⟩ (.slice (some ⟨g,0,none⟩) l.length cap)):=by
 have h1:Touch [b,g] w w5:=by
  refine(((ZT w b o l.length [b,g] (by simp)).drewN k)).trans (G:=[g]) h.touch (by simp)
 have hz:(l.flatMap One.cells).length=l.length*3:=by
  exact xw l
 refine⟨b::rowOf (.slice (some ⟨g,0,none⟩) l.length cap),⟨.slice (some ⟨g,0,none⟩) l.length cap,?_,rfl,by simp[rowOf];omega,?_⟩,?_,?_⟩
 ·exact((((pk hb o l.length).drewN k).touch h.touch (by simp;omega)).bJ 3 _).to (by simp[gZ,lD.close])
 ·refine aj (w:=w5) ⟨hz,.inr ⟨g,cap,NC,rfl,Nat.zero_le _,h.blk,Nat.le_trans (Nat.le_succ _) hc,hm,by rw[h.size,hcs],?_⟩⟩ (F:=[b]) ((Touch.refl _ _).setCell (by simp) _) (by simp[rowOf];omega);show List.take (l.length*3) _=_;rw[h.take];have e:=congrArg (List.take (l.length*3)) QY;rw[List.take_take,show min (l.length*3) ((l.length+1)*3)=l.length*3 by omega,hl,List.flatMap_append,List.take_append_of_le_length (by omega),List.take_of_length_le (by omega:(l.flatMap One.cells).length≤l.length*3)]at e;exact e
 ·exact(h1.mono (by simp[rowOf])).setCell (by simp) _
 ·intro f hf;exact .inl (by simpa[rowOf]using hf)
theorem NG(w:World)(b:Nat)(F:List Nat)(S:lD)(h:pq w b F S)(l:List One)(o:One)(hl:S.outer=l++[o])(hd:l.length<8):
 Calls prog 110 #[.pointer (some ⟨b,0,none⟩)] w fun e w'=>e=.returned (.int .i64 0)∧Left w b F (S.close o l) w':=by
 have aS:=qw w b F S h;obtain⟨v,hb,rfl,jG,hr⟩:=h;have hlen:S.outer.length=l.length+1:=by rw[hl];simp
 rw[hlen]at hr aS;obtain⟨g,cap,cur,rfl,hbg,WK,hcm,hcs,QY⟩:∃g cap cur,v=.slice (some ⟨g,0,none⟩) (l.length+1) cap∧aF w g 112 cur∧l.length+1≤cap∧cap≤maxLen∧cur.size=cap*3∧cur.toList.take ((l.length+1)*3)=S.outer.flatMap One.cells:=by
  rcases hr.2 with⟨_,h0⟩|⟨g,cap,cur,h1,_,h2,h3,h4,h5,h6⟩
  ·omega
  ·exact⟨g,cap,cur,h1,h2,h3,h4,h5,h6⟩
 have hgb:g≠b:=by intro e;exact jG (by simp[rowOf,e])
 have hg:=hbg.lt;obtain⟨c0,c1,c2,c3,c4,c5,f0,f1,f2,f3,f4,f5⟩:=six hb;have e0:=hr.cellAt (l.length*3) (by omega);have e1:=hr.cellAt (l.length*3+1) (by omega);have e2:=hr.cellAt (l.length*3+2) (by omega);rw[hlen]at c4;have hx:=JL hl;rw[hx.1]at e0;rw[hx.2.1]at e1;rw[hx.2.2]at e2;have hn:(l.length:Int)+1-1=(l.length:Int):=by omega
 have HR:=hid hr;have HL:=hid hl;have HE:=hid hlen;have HX:=hid hx;have HD:=hid aS;have PR:=hid hcs;have HTK:=hid QY;clear hr hl hlen hx aS hcs QY;have hwr:IntKind.i64.wrap ((l.length:Int)+1)=(l.length:Int)+1:=IntWalk.i64_in _ (by omega);go_enter func110,ntmps110;go_wp2_with (go_at_call 36;refine HD.out.mono ?_;rintro e w' ⟨rfl,rfl⟩);go_region
 go_wp2_with fail;go_region_law ((go_simp;go_at_call 142;refine(Gu _ g l.length cap cur ((((((hbg.far hgb _).far hgb _).far hgb _).far hgb _).drew).drew) WK hcm PR.out).mono ?_;rintro e w5 ⟨rfl,NC,po⟩;have PT:vJ ((vK w b o l.length).drewN 2) g l.length cur w5 NC:=po;clear po;obtain⟨d0,d1,d2,d3,d4,d5,g0,g1,g2,g3,g4,g5⟩:=NA PT hb hgb))
 all_goals go_wp2_with fail
 all_goals go_ret
 all_goals exact⟨rfl,ND hb hgb PT PR.out HTK.out HL.out WK hcm⟩
def lD.dI(S:lD)(n:Nat):lD:=if n<S.outer.length then⟨S.outer.getD n .none,S.outer.take n,S.many⟩else S
theorem qx(S:lD)(k:Nat)(hk:k≤S.outer.length):(S.dI k).outer.length=k:=by
 unfold lD.dI;split
 ·simp;omega
 ·omega
theorem RB{S:lD}{k:Nat}(hk:k<S.outer.length):(S.dI (k+1)).outer=(S.dI k).outer++[(S.dI k).cur]∧(S.dI (k+1)).close (S.dI k).cur (S.dI k).outer=S.dI k:=by
 have e:S.dI k=⟨S.outer.getD k .none,S.outer.take k,S.many⟩:=by unfold lD.dI;rw[if_pos hk]
 have hg:S.outer.getD k .none=S.outer[k]:=by simp[List.getD,List.getElem?_eq_getElem hk]
 rw[e,hg];refine⟨?_,?_⟩
 ·unfold lD.dI;split
  ·exact List.take_succ_eq_append_getElem hk
  ·have e2:S.outer.take (k+1)=S.outer:=List.take_of_length_le (by omega);exact e2.symm.trans (List.take_succ_eq_append_getElem hk)
 ·unfold lD.close lD.dI;split<;>rfl
theorem mR(S:lD)(k:Nat)(h:S.outer.length≤k):S.dI k=S:=by unfold lD.dI;rw[if_neg (by omega)]
theorem Left.trans{w w1 w2:World}{b:Nat}{F F1:List Nat}{S T:lD}(_h:pq w1 b F1 T)(ht:Touch F w w1)(hs:Sub w F F1)(k:Left w1 b F1 S w2):Left w b F S w2:=by
 obtain⟨F2,h1,h2,h3⟩:=k;exact⟨F2,h1,ht.trans h2 hs,hs.trans h3 ht.size⟩
theorem WL(w:World)(b:Nat)(F:List Nat)(S:lD)(h:pq w b F S)(i:Int)(hd:S.outer.length≤8):
 Calls prog 78 #[.pointer (some ⟨b,0,none⟩),.int .i64 i] w fun e w'=>e=.returned (.tuple #[])∧Left w b F (S.dI i.toNat) w':=by
 have hm:min i.toNat S.outer.length≤S.outer.length:=by omega
 go_enter func78,ntmps78;go_wp2_with fail;go_loopg [] (S.outer.length-min i.toNat S.outer.length) (fun g wr=>∃k,min i.toNat S.outer.length≤k∧k≤S.outer.length∧g=k-min i.toNat S.outer.length∧Left w b F (S.dI k) wr)
 case atStart=>exact⟨S.outer.length,hm,Nat.le_refl _,rfl,by rw[mR S _ (Nat.le_refl _)];exact⟨F,h,Touch.refl _ _,Sub.refl _ _⟩⟩
 case round=>
  obtain⟨k,sI,hk2,hg,F1,h1,YS,hs1⟩:=hrel;have HG:=hid hg;have HD:=hid (qw wr b F1 _ h1);have hlen:=qx S k hk2;rw[hlen]at HD;have HL:=hid hlen;clear hg hlen;rcases Int.lt_or_le i 0 with hi|hi
  all_goals
   rcases Nat.lt_or_ge i.toNat k with hlt|ql
   ·obtain⟨q,rfl⟩:∃q,k=q+1:=⟨k-1,by omega⟩;obtain⟨hs,hc⟩:=RB (S:=S) (k:=q) (by omega);have HC:=hid (NG wr b F1 _ h1 _ _ hs (by have:=congrArg List.length hs;rw[HL.out]at this;simp at this;omega));rw[hc]at HC;clear hs hc;go_wp2_with (first
     |(go_at_call 36;refine HD.out.mono ?_;rintro e w' ⟨rfl,rfl⟩)
     |(go_at_call 110;refine HC.out.mono ?_;rintro e w2 ⟨rfl,hL⟩))
    go_roundg (q-min i.toNat S.outer.length)
    case measure=>rw[HG.out];omega
    case rel=>exact⟨q,by omega,by omega,rfl,Left.trans h1 YS hs1 hL⟩
   ·go_wp2_with (go_at_call 36;refine HD.out.mono ?_;rintro e w' ⟨rfl,rfl⟩);go_end0
    refine⟨rfl,?_⟩;have e:S.dI i.toNat=S.dI k:=by
     rcases Nat.lt_or_ge i.toNat S.outer.length with h3|h3
     ·rw[show k=i.toNat by omega]
     ·rw[mR S _ h3,mR S k (by omega)]
    rw[e];exact⟨F1,h1,YS,hs1⟩
end Go.Proofs.YtdokeddjcpnmiaaGreatDoor
