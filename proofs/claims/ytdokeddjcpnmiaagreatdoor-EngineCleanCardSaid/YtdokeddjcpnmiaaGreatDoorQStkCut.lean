/- Of EngineClean: En0 Stk2 PutAt Maps StkCut Reals7 LawS. -/
import Derived.Test.YtdokeddjcpnmiaaGreatDoorQShelfDel
import Derived.Maps.Own
import Derived.Maps.OwnOps
import Derived.Deep.LoopGhost
import Derived.ProofKit
import Derived.SizedLaws
set_option maxRecDepth 100000
set_option maxHeartbeats 2000000
namespace Go.Proofs.YtdokeddjcpnmiaaGreatDoor
open Go.RowKit Go.Proofs.Tryz
open Go.Lib(hid)
namespace En
structure Fr where
 k:Int
 a:Int
 b:Int
 x:Int
 y:Int
 l:List Int
def Fr.none:Fr:=⟨0,0,0,0,0,[]⟩
def aU(L:List Fr):Fr:=L.getLastD .none
def dP:List Fr→Option (Fr×List Fr)
 |[]=>Option.none
 |f::r=>match dP r with
  |some (x,q)=>some (x,f::q)
  |Option.none=>if f.k=5 then some (f,[])else Option.none
theorem yF{L:List Fr}(h:∀f∈L,f.k≠5):dP L=Option.none:=by
 induction L with
 |nil=>rfl
 |cons f r ih=>
  unfold dP;rw[ih (fun x hx=>h x (List.mem_cons_of_mem _ hx))];simp[h f List.mem_cons_self]
theorem Gm{L R:List Fr}{f:Fr}(h1:f.k=5)(h2:∀x∈R,x.k≠5):dP (L++f::R)=some (f,L):=by
 induction L with
 |nil=>
  show dP (f::R)=_;unfold dP;rw[yF h2];simp[h1]
 |cons g r ih=>
  show dP (g::(r++f::R))=_;unfold dP;rw[ih]
def kT(L:List Fr)(n:Nat):Int×Int:=
 if(∀i,i≤n→i<L.length→(L.getD (L.length-1-i) .none).k=3)∧n<L.length then((L.getD (L.length-1-n) .none).x,0)else(0,-26)
def nX(left nU:Int):Bool:=(decide (left<0)==decide (nU≥0))&&(decide (left<0) != decide (wrap64 (left+nU)<0))
end En
theorem Gq(w:World)(b:Nat)(F:List Nat)(L:List Int)(h:aG w b F L)(hL:L.length≤128):
 Calls prog 16 #[.pointer (some ⟨b,0,none⟩),.slice none 0 0] w fun e w'=>e=.returned (.int .i64 0)∧aG w' b F L∧Touch F w w':=by
 obtain⟨i0,hi,hz0,hz1,hz2⟩:=jH;obtain⟨v,hb,rfl,jG,hr⟩:=h;have c0:=hb.cell 0;have f0:=hb.frozen 0;obtain⟨len,hlen⟩:∃len,L.length=len:=⟨_,rfl⟩;rw[hlen]at hL;obtain⟨a,cap,rfl⟩:=bn hr;rw[hlen]at hr;have H1:=hid hb;have H2:=hid hlen;rw[hlen]at c0 H1 jG⊢;have e1:IntKind.i64.wrap (128-(len:Int))=128-len:=by rw[IntKind.wrap_i64];omega
 have e2:¬(0:Int)>128-len:=by omega
 clear hb hlen;go_enter func16,ntmps16;go_wp2_with (at_builtin;refine wpList_append_own_none rfl _ _ 25 rfl 0 33 i0 1 underlying25 hi _ _ _ rfl hr rfl ?_);go_wp2;go_ret;have Cv:=fun u=>(Touch.refl [b] w).setCell (p:=⟨b,0,none⟩) (by simp) u;refine⟨rfl,⟨_,H1.out.bJ 0 _,rfl,jG,?_⟩,(Cv _).mono (G:=b::rowOf (.slice a len cap)) (fun k hk=>.inl (by simp at hk;simp[hk]))⟩;rw[H2.out];exact aj hr (Cv _) (fun k hk hkb=>jG (by rw[List.mem_singleton.1 hkb]at hk;exact hk))
theorem rA(w:World)(b:Nat)(F:List Nat)(L:List Int)(h:aG w b F L)(hL:L.length≤128)(a:Option Addr)(n c:Nat)(hn:128<L.length+n):
 Calls prog 16 #[.pointer (some ⟨b,0,none⟩),.slice a n c] w fun e w'=>e=.returned (.int .i64 (-3))∧w=w':=by
 obtain⟨v,hb,rfl,jG,hr⟩:=h;have c0:=hb.cell 0;obtain⟨len,hlen⟩:∃len,L.length=len:=⟨_,rfl⟩;rw[hlen]at hL hn;obtain⟨a,cap,rfl⟩:=bn hr;rw[hlen]at c0;have e1:IntKind.i64.wrap (128-(len:Int))=128-len:=by rw[IntKind.wrap_i64];omega
 have e2:(n:Int)>128-len:=by omega
 clear hb hlen hr;go_enter func16,ntmps16;go_wp2;go_ret;exact⟨rfl,rfl⟩
theorem aG.alloc{w:World}{b:Nat}{F:List Nat}{L:List Int}(h:aG w b F L)(o:Obj):aG (w.alloc o) b F L:=h.touch ((tR w).alloc o) (by simp)
theorem vG(w:World)(b:Nat)(F:List Nat)(L:List Int)(h:aG w b F L)(hL:L.length<128)(x:Int):
 Calls prog 33 #[.pointer (some ⟨b,0,none⟩),.int .i64 x] w fun e w'=>
  ∃F',e=.returned (.int .i64 0)∧aG w' b F' (L++[x])∧Touch F w w'∧Sub w F F':=by
 have hp:=Rn (w.alloc (.cells #[.int .i64 x] 33)) b F L (h.alloc _) w.heap.size 0 1 [x] (by simp;omega)
  (fun j u hj=>by
    have h2:=(List.getElem?_eq_some_iff.1 hj).1;have ZN:j=0:=by simp[cells]at h2;omega
    subst ZN;rw[(aF.new w 33 #[.int .i64 x]).cell (0+0)];simpa[cells]using hj)
 rw[show([x]:List Int).length=1 from rfl]at hp;clear h;go_enter func33,ntmps33;go_wp2_with fail;refine hp.mono ?_;rintro _ w1 ⟨F',rfl,hs,t1,aT⟩;go_wp2;go_ret;exact⟨F',rfl,hs,((Touch.refl F w).alloc _).trans t1 (fun k hk=>.inl hk),Sub.trans (Sub.refl w F) aT (by simp)⟩
theorem wY(w:World)(b:Nat)(F:List Nat)(L:List Int)(h:aG w b F L)(hL:L.length=128)(x:Int):
 Calls prog 33 #[.pointer (some ⟨b,0,none⟩),.int .i64 x] w fun e w'=>e=.returned (.int .i64 (-3))∧Touch [] w w':=by
 have hp:=rA (w.alloc (.cells #[.int .i64 x] 33)) b F L (h.alloc _) (by omega) (some ⟨w.heap.size,0,none⟩) 1 1 (by omega);clear h;go_enter func33,ntmps33;go_wp2_with fail;refine hp.mono ?_;rintro _ w1 ⟨rfl,rfl⟩;go_wp2;go_ret;exact⟨rfl,(Touch.refl _ _).alloc _⟩
theorem gG(g off j:Nat):((⟨g,off,none⟩:Addr).add j)=⟨g,off+j,none⟩:=by
 unfold Addr.add;by_cases h:j=0<;>simp[h]
theorem ZP(w:World)(b:Nat)(F:List Nat)(L:List Int)(h:aG w b F L)(ad:Addr)(c:Nat)(M:List Int)(hM:L.length+M.length≤128)(hc:∀j u,(cells M)[j]? =some u→w.cell? (ad.add j)=some u):
 Calls prog 16 #[.pointer (some ⟨b,0,none⟩),.slice (some ad) M.length c] w fun e w'=>
  ∃F',e=.returned (.int .i64 0)∧aG w' b F' (L++M)∧Touch F w w'∧Sub w F F':=by
 obtain⟨i0,hi,hz0,hz1,hz2⟩:=jH;obtain⟨v,hb,rfl,jG,hr⟩:=h;have c0:=hb.cell 0;have hbl:=hb.lt;obtain⟨len,hlen⟩:∃len,L.length=len:=⟨_,rfl⟩;obtain⟨n,hn⟩:∃n,M.length=n:=⟨_,rfl⟩;have kM:(cells M).length=n*1:=by rw[dz,hn,Nat.mul_one]
 have nB:(L++M).length=len+n:=by rw[List.length_append,hlen,hn]
 rw[hlen,hn]at hM;rw[hlen]at hr;rw[hn];have A:=hid hc;have B:=hid nB;clear hc hn hlen nB;obtain⟨a,cap,rfl⟩:=bn hr;have e1:IntKind.i64.wrap (128-(len:Int))=128-len:=by rw[IntKind.wrap_i64];omega
 have e2:¬(n:Int)>128-len:=by omega
 go_enter func16,ntmps16;go_wp2_with (at_builtin;refine wpList_append_own_at _ rfl _ _ 25 rfl 0 33 i0 (.int .i64 0) 1 8 underlying25 hi hz0 hz1 hz2 rfl (by decide) _ _ _ rfl hr ad n c (cells M) rfl kM ?Gn ?Nt ?Nu ?Nw (Nat.zero_le _) ?_)
 case Gn=>
  intro j u hj;exact A.out j u hj
 case Nt=>exact iZ M
 case Nu=>unfold maxLen;omega
 case Nw=>omega
 intro v' w1 hown hgrow hnil hloc;have hB:aF w1 b 94 #[.slice a len cap]:=hb.grown hgrow (fun e=>jG (aB.2 e.symm));have FZ:=hB.frozen 0;have c1:=hB.cell 0;have Cv:=fun u=>((Touch.refl (b::rowOf (.slice a len cap)) w).grown hgrow (fun k hk=>.inl (by simp[aB,hk]))).setCell (p:=⟨b,0,none⟩) (by simp) u;have uf:b∉rowOf v':=fun hb'=>by
  rcases hloc with e|e
  ·exact jG (aB.2 (e▸aB.1 hb'))
  ·rw[aB.1 hb']at e;simp at e;omega
 have aT:Sub w (b::rowOf (.slice a len cap)) (b::rowOf v'):=by
  intro f hf;rcases List.mem_cons.1 hf with rfl|hf
  ·exact .inl (by simp)
  ·rcases hloc with e|e
   ·exact .inl (by simp[aB,←e,aB.1 hf])
   ·rw[aB.1 hf]at e;simp at e;exact .inr (by omega)
 clear hloc hnil hgrow hr;rw[←eB]at hown;obtain⟨a',c',rfl⟩:=bn hown;have H1:=hid Cv;have H2:=hid hown;have H3:=hid aT;have H4:=hid hB;clear Cv hown aT hB c0 hb;go_wp2;go_ret;refine⟨_,rfl,⟨_,H4.out.bJ 0 _,rfl,uf,?_⟩,H1.out _,H3.out⟩;rw[B.out];exact aj H2.out ((Touch.refl [b] w1).setCell (by simp) _) (fun k hk hkb=>uf (by rw[List.mem_singleton.1 hkb]at hk;exact hk))
section
open Go.MapKept (IsKey run_checkKey run_findKey run_setObj_map run_keyThatStays)
def eZ(w:World)(b:Nat)(l:List (Int×Value)):Prop:=
 ∃es clock,w.heap[b]? =some (.map es clock)∧es.toList.map (fun e=>(e.key,e.val))=l.map (fun p=>(Value.int .i64 p.1,p.2))
def atKey(l:List (Int×Value))(k:Int):Option Value:=(l.find? (fun p=>p.1==k)).map (·.2)
def putKey:List (Int×Value)→Int→Value→List (Int×Value)
 |[],k,v=>[(k,v)]
 |p::l,k,v=>if p.1=k then(k,v)::l else p::putKey l k v
section
variable {P:Program} {w w':World} {b:Nat} {l:List (Int×Value)} {t k e:TypeId}
theorem eZ.new(w:World):eZ (w.alloc (.map #[] 0)) w.heap.size []:=⟨#[],0,(MapKept.heap_alloc w _).1,rfl⟩
theorem eZ.lt(h:eZ w b l):b<w.heap.size:=by
 obtain⟨es,c,hb,_⟩:=h;exact(Array.getElem?_eq_some_iff.1 hb).1
theorem eZ.block(h:eZ w b l)(hk:w'.heap[b]? =w.heap[b]?):eZ w' b l:=by
 obtain⟨es,c,hb,hl⟩:=h;exact⟨es,c,hk.trans hb,hl⟩
theorem eZ.alloc(h:eZ w b l)(o:Obj):eZ (w.alloc o) b l:=h.block (Below.heap_alloc _ _ _ h.lt)
theorem eZ.drew(h:eZ w b l):eZ w.drew b l:=h
theorem eZ.drewN(h:eZ w b l)(n:Nat):eZ (w.drewN n) b l:=h
theorem eZ.touch{F:List Nat}(h:eZ w b l)(ht:Touch F w w')(hn:b∉F):eZ w' b l:=h.block (ht.block b h.lt hn)
theorem eZ.setCell(h:eZ w b l){p:Addr}(hp:b≠p.block)(u:Value):eZ (w.setCell p u) b l:=h.block (Below.heap_setCell _ _ _ _ hp)
theorem sK(d:TypeDesc)(hd:d=.int .i64)(x:Int):∀(es:List MapEntry) (l:List (Int×Value)) (i:Nat),es.map (fun e=>(e.key,e.val))=l.map (fun p=>(Value.int .i64 p.1,p.2))→
 (atKey l x=none∧Instr.findNow d (.int .i64 x) es i=some none∧putKey l x=fun v=>l++[(x,v)])∨
 ∃j e v,atKey l x=some v∧Instr.findNow d (.int .i64 x) es i=some (some (i+j,v))∧es[j]? =some e∧e.key=.int .i64 x∧∀u,(es.modify j fun e=>{e with key:=.int .i64 x,val:=u}).map (fun e=>(e.key,e.val))=(putKey l x u).map (fun p=>(Value.int .i64 p.1,p.2))
 |[],[],i,_=>.inl ⟨rfl,rfl,rfl⟩
 |[],_::_,i,h=>by simp at h
 |_::_,[],i,h=>by simp at h
 |e::es,p::l,i,h=>by
  simp only[List.map_cons,List.cons.injEq,Prod.mk.injEq]at h;obtain⟨⟨hk,hv⟩,hr⟩:=h;by_cases hx:p.1=x
  ·refine .inr ⟨0,e,p.2,by simp[atKey,hx],?_,by simp,by rw[hk,hx],fun u=> ?_⟩
   ·subst hd;simp[Instr.findNow,Instr.sameNow,hk,hx,hv]
   ·simp[putKey,hx,hr]
  ·have NV:(x==p.1)=false:=by simp[show¬x=p.1 from fun e=>hx e.symm]
   rcases sK d hd x es l (i+1) hr with⟨h1,h2,h3⟩|⟨j,e',v,h1,h2,h3,h4,h5⟩
   ·refine .inl ⟨?_,?_,?_⟩
    ·simpa[atKey,List.find?_cons,hx]using h1
    ·subst hd;simpa[Instr.findNow,Instr.sameNow,hk,NV]using h2
    ·funext v
     simp[putKey,hx,h3]
   ·refine .inr ⟨j+1,e',v,?_,?_,by simpa using h3,h4,fun u=> ?_⟩
    ·simpa[atKey,List.find?_cons,hx]using h1
    ·subst hd;have:=h2;rw[show i+1+j=i+(j+1) by omega]at this;simpa[Instr.findNow,Instr.sameNow,hk,NV]using this
    ·have:=h5 u;simp only[List.modify_succ_cons,List.map_cons,putKey,hx,if_false,hk,hv];rw[this]
theorem eZ.update(h:eZ w b l)(ht:P.underlying t=some (.map k e))(hk:P.underlying k=some (.int .i64))(x:Int)(v:Value):
 ∃w',(Instr.mapUpdate t (.map (some b)) (.int .i64 x) v).run P w=.ok () w'∧eZ w' b (putKey l x v)∧Touch [b] w w':=by
 obtain⟨es,clock,hb,hl⟩:=h;have hb':b<w.heap.size:=(Array.getElem?_eq_some_iff.1 hb).1;have hi:IsKey (.int .i64) (.int .i64 x):=by simp[IsKey]
 have hc:=fun w=>run_checkKey (P:=P) (w:=w) hk hi false 9999;have RS:∀o,Touch [b] w {w with heap:=w.heap.setIfInBounds b o}:=fun o=>⟨rfl,rfl,rfl,by simp,fun k hk hn=>by
  simp only[List.mem_singleton]at hn;show(w.heap.setIfInBounds b o)[k]? =_;rw[Array.getElem?_setIfInBounds_ne (Ne.symm hn)]⟩
 have hat:∀o,({w with heap:=w.heap.setIfInBounds b o}:World).heap[b]? =some o:=fun o=>by
  show(w.heap.setIfInBounds b o)[b]? =_;rw[Array.getElem?_setIfInBounds_self_of_lt hb']
 rcases sK _ rfl x es.toList l 0 hl with⟨h1,h2,h3⟩|⟨j,e0,v0,h1,h2,h3,h4,h5⟩
 ·refine⟨_,by simp[Instr.mapUpdate,run_underlying ht,MapKept.run_getObj_map hb,hc,run_findKey hk h2,run_setObj_map _ hb,Result.andThen];rfl,⟨_,_,hat _,?_⟩,RS _⟩;simp[h3,hl]
 ·have hj:es[j]? =some e0:=by simpa using h3
  have px:Instr.findNow (.int .i64) (.int .i64 x) es.toList 0=some (some (j,v0)):=by simpa using h2
  refine⟨_,by simp[Instr.mapUpdate,run_underlying ht,MapKept.run_getObj_map hb,hc,run_findKey hk px,hj,h4,run_keyThatStays hi,run_setObj_map _ hb,Result.andThen];rfl,⟨_,_,hat _,?_⟩,RS _⟩;rw[Array.toList_modify];exact h5 v
theorem eZ.lookup(h:eZ w b l)(ht:P.underlying t=some (.map k e))(hk:P.underlying k=some (.int .i64)){x:Int}{v:Value}(hx:atKey l x=some v):
 (Instr.lookup t (.map (some b)) (.int .i64 x) false).run P w=.ok v w∧(Instr.lookup t (.map (some b)) (.int .i64 x) true).run P w=.ok (.tuple #[v,.bool true]) w:=by
 obtain⟨es,clock,hb,hl⟩:=h;have hi:IsKey (.int .i64) (.int .i64 x):=by simp[IsKey]
 have hc:=fun z w=>run_checkKey (P:=P) (w:=w) hk hi z 9999;rcases sK _ rfl x es.toList l 0 hl with⟨h1,h2,h3⟩|⟨j,e0,v0,h1,h2,h3,h4,h5⟩
 ·rw[hx]at h1;cases h1
 ·rw[hx]at h1;cases h1;simp[Instr.lookup,run_underlying ht,MapKept.run_getObj_map hb,hc,run_findKey hk h2,Result.andThen]
theorem eZ.og(h:eZ w b l)(ht:P.underlying t=some (.map k e))(hk:P.underlying k=some (.int .i64)){x:Int}(hx:atKey l x=none){z:Value}(hz:∀w,(zeroValue e).run P w=.ok z w):
 (Instr.lookup t (.map (some b)) (.int .i64 x) false).run P w=.ok z w∧(Instr.lookup t (.map (some b)) (.int .i64 x) true).run P w=.ok (.tuple #[z,.bool false]) w:=by
 obtain⟨es,clock,hb,hl⟩:=h;have hi:IsKey (.int .i64) (.int .i64 x):=by simp[IsKey]
 have hc:=fun z w=>run_checkKey (P:=P) (w:=w) hk hi z 9999;rcases sK _ rfl x es.toList l 0 hl with⟨h1,h2,h3⟩|⟨j,e0,v0,h1,h2,h3,h4,h5⟩
 ·simp[Instr.lookup,run_underlying ht,MapKept.run_getObj_map hb,hc,run_findKey hk h2,Result.andThen,hz]
 ·rw[hx]at h1;cases h1
end
theorem oh{P:Program}(w:World){ops:Array Oper}{rest:List Oper}{o:Oper}{a:Act}{Q:Exit→Act→World→Prop}
 (hg:o.guard=none) (m x v:Operand) (t:TypeId) (hop:o.op=Op.insert t m x v) (k e:TypeId) (ht:P.underlying t=some (.map k e)) (hk:P.underlying k=some (.int .i64)) (b:Nat) (l:List (Int×Value))
 (hm:a.eval m=.map (some b)) (hown:eZ w b l) (key:Int) (hx:a.eval x=.int .i64 key) (val:Value) (hv:a.eval v=val)
 (hK:∀w',eZ w' b (putKey l key val)→Touch [b] w w'→wpList P ops Q rest (a.put o.dst undef) w'):
 wpList P ops Q (o::rest) a w:=by
 refine wpList_plain hg fun K' hK'=> ?_;obtain⟨w',hrun,r1,r2⟩:=hown.update ht hk key val;unfold Oper.wp;simp[execOp,hop,hm,hx,hv,hrun,Result.andThen];exact hK' _ _ (hK w' r1 r2)
end
def rJ(n:Nat)(l:List Int):List Int:=(l++List.replicate (n-l.length) 0).take n
theorem Kj{w W w1:World}{b:Nat}{L:List Int}{a:Option Addr}{cap len:Nat}{v':Value}(hb:aF w b 94 #[.slice a len cap])(jG:b∉rowOf (.slice a len cap))(t:Touch [] w W)(hlen:L.length=len)
 (hown:w1.ownsRow 0 33 1 v' (len+1) (cells L++[.int .i64 0])) (hgrow:W.grownBy w1 (Value.slice a len cap).ownBlock) (hloc:v'.ownBlock=(Value.slice a len cap).ownBlock∨v'.ownBlock=some W.heap.size):
 ∃F',aG (w1.setCell ⟨b,0,none⟩ v') b F' (L++[0])∧Touch (b::rowOf (.slice a len cap)) w (w1.setCell ⟨b,0,none⟩ v')∧Sub w (b::rowOf (.slice a len cap)) F':=by
 have hbl:=hb.lt;have hz:=t.size;have hB:aF w1 b 94 #[.slice a len cap]:=(hb.touch t (by simp)).grown hgrow (fun e=>jG (aB.2 e.symm));have Cv:=fun u=>((t.mono (G:=b::rowOf (.slice a len cap)) (by simp)).grown hgrow (fun k hk=>.inl (by simp[aB,hk]))).setCell (p:=⟨b,0,none⟩) (by simp) u;have uf:b∉rowOf v':=fun hb'=>by
  rcases hloc with e|e
  ·exact jG (aB.2 (e▸aB.1 hb'))
  ·rw[aB.1 hb']at e;simp at e;omega
 refine⟨b::rowOf v',⟨v',hB.bJ 0 _,rfl,uf,?_⟩,Cv _,?_⟩
 ·rw[eB,List.length_append,hlen];exact aj hown (F:=[b]) ((Touch.refl _ _).setCell (by simp) _) (by intro k hk hkb;rw[List.mem_singleton.1 hkb]at hk;exact uf hk)
 ·intro f hf;rcases List.mem_cons.1 hf with rfl|hf
  ·exact .inl (by simp)
  ·rcases hloc with e|e
   ·exact .inl (by simp[aB,←e,aB.1 hf])
   ·rw[aB.1 hf]at e;simp at e;exact .inr (by omega)
theorem Kk(w:World)(b:Nat)(F:List Nat)(L:List Int)(h:aG w b F L)(i:Int)(n:Nat)(hi:min (max i 0) 128=(n:Int)):
 Calls prog 76 #[.pointer (some ⟨b,0,none⟩),.int .i64 i] w fun e w'=>e=.returned (.tuple #[])∧∃F',aG w' b F' (rJ n L)∧Touch F w w'∧Sub w F F':=by
 obtain⟨i0,zI,hz0,hz1,hz2⟩:=jH;go_enter func76,ntmps76;go_wp2_with fail;have MJ:n≤128:=by omega
 clear hi;go_loopg [] (n-L.length) (fun g wr=>∃j F1,g=n-L.length-j∧j≤n-L.length∧aG wr b F1 (L++List.replicate j 0)∧Touch F w wr∧Sub w F F1)
 case atStart=>exact⟨0,F,by omega,by omega,by simpa using h,Touch.refl _ _,Sub.refl _ _⟩
 case round=>
  obtain⟨j,F1,hg,hj,hS,hT,hSub⟩:=hrel;obtain⟨v,hb,rfl,jG,hr⟩:=hS;obtain⟨a,cap,hv⟩:=bn hr;obtain⟨len,hlen⟩:∃len,(L++List.replicate j 0).length=len:=⟨_,rfl⟩;rw[hlen]at hr hv;have Sh:L.length+j=len:=by rw[←hlen];simp
  subst hv;have c0:=hb.cell 0;have f0:=hb.frozen 0;have HG:=hid hg;rcases Nat.lt_or_ge len n with hlt|ql
  ·have ai:(len:Int)<(n:Int):=by omega
   have HE:=hid (fun(w1:World) (v':Value) h1 h2 h3=>Kj (W:=wr.alloc (.cells #[.int .i64 0] 33)) (w1:=w1) (v':=v') hb jG ((tR wr).alloc _) hlen h1 h2 h3);have HR:=hid (aj hr ((tR wr).alloc (.cells #[.int .i64 0] 33)) (by simp));have HV:=hid (fun(w1:World) (hg:(wr.alloc (.cells #[.int .i64 0] 33)).grownBy w1 (Value.slice a len cap).ownBlock)=>(hb.alloc (.cells #[.int .i64 0] 33)).grown hg (fun e=>jG (aB.2 e.symm)));have HA:Hid (len+1≤128):=by show _≤128;omega
   have HBN:=hid (aF.new wr 33 #[.int .i64 0]);clear hr jG hb f0;go_wp2_with (at_builtin;refine wpList_append_own_at _ rfl _ _ 25 rfl 0 33 i0 (.int .i64 0) 1 8 underlying25 zI hz0 hz1 hz2 rfl (by decide) _ _ _ rfl HR.out ⟨wr.heap.size,0,none⟩ 1 1 [.int .i64 0] rfl rfl ?Gn ?Nt ?Nu ?Nw (Nat.zero_le _) ?_)
   case Gn=>
    intro j u hj;have ZN:j=0:=by have:=(List.getElem?_eq_some_iff.1 hj).1;simp at this;omega
    subst ZN;rw[show((⟨wr.heap.size,0,none⟩:Addr).add 0)=⟨wr.heap.size,0,none⟩from rfl,HBN.out.cell 0];simpa using hj
   case Nt=>intro u hu;simp at hu;subst hu;rfl
   case Nu=>unfold maxLen;have:=HA.out;omega
   case Nw=>have:=HA.out;omega
   intro v' w1 hown hgrow hnil hloc;obtain⟨a',c',rfl⟩:=bn hown;have HX:=hid (HE.out w1 _ hown hgrow (by simpa using hloc));have Kl:=HV.out w1 hgrow;have f1:=Kl.frozen 0;have c1:=Kl.cell 0;clear hown hgrow hnil hloc Kl;go_wp2_with fail;obtain⟨F2,h1,h2,h3⟩:=HX.out;go_roundg (n-L.length-(j+1))
   case measure=>rw[HG.out];omega
   case rel=>exact⟨j+1,F2,rfl,by omega,by rw[List.replicate_succ',←List.append_assoc];exact h1,hT.trans h2 hSub,hSub.trans h3 hT.size⟩
  ·have DM:¬(len:Int)<(n:Int):=by omega
   have yy:j=n-L.length:=by omega
   have HE:=hid (fun(W:World) (v:Value) (hB:aF W b 94 #[v]) (hrow:rowOf v=rowOf (.slice a len cap)) (hown:W.ownsRow 0 33 1 v n (cells ((L++List.replicate j 0).take n)))=>(⟨v,hB,by rw[hrow],by rw[hrow];exact jG,by
    rw[rJ,←yy,List.length_take,hlen,Nat.min_eq_left (by omega)];exact hown⟩:aG W b (b::rowOf (.slice a len cap)) (rJ n L)))
   have HB:=hid hb;rcases Go.Joins.ownsRow_forms hr with⟨hv,Cq⟩|⟨g,cap',hv⟩
   ·have Fm:n=0:=by omega
    injection hv with Kl hv2 hv3;subst Kl hv2 hv3 Fm;have Sp:=hid jG;clear hr jG hb;go_wp2_with fail;go_end0
    refine⟨rfl,_,HE.out _ _ (HB.out.bJ 0 _) rfl ?_,hT.trans ((Touch.refl _ _).setCell (by simp) _) hSub,hSub⟩;exact World.ownsRow_nil _ _ _ _
   ·injection hv with Kl hv2 hv3;subst Kl hv3;have oJ:=zH hr;have HR:=hid (zV hr ql);have Sp:=hid jG;clear hr jG hb;go_wp2_with fail;go_end0
    refine⟨rfl,_,HE.out _ _ (HB.out.bJ 0 _) rfl ?_,hT.trans ((Touch.refl _ _).setCell (by simp) _) hSub,hSub⟩;exact aj HR.out (F:=[b]) ((Touch.refl _ _).setCell (by simp) _) (by intro k hk hkb;rw[List.mem_singleton.1 hkb]at hk;exact Sp.out hk)
def bitsOf(a:Int):Nat:=(a%18446744073709551616).toNat
theorem eX(a:Int):bitsOf a<18446744073709551616:=by unfold bitsOf;omega
def cellOf(n:Nat):Int:=if n<9223372036854775808 then(n:Int)else(n:Int)-18446744073709551616
section
open Go.ChangeShapes Go.WideShapes Go.ChangeAt Go.RowKit
theorem Jv{H:Type}{enc:TypeId×Value→H}{P:Program}(hl:laidOutB P=true){W W':World}(hb:Below W.heap.size W W'):∀(ts:List TypeId) (vs:List Value) (ds:List (DataW H)) (ps:List MemPlace),
 (∀t∈ts,P.readableRec t=true∧t<P.types.size)→DataW.TrodAll enc P W 0 (fun _=>true) true ts vs ds ps→(∀x∈ps,x.block<W.heap.size)→
 DataW.TrodAll enc P W' 0 (fun b=>decide (b<W.heap.size)) true ts vs ds ps
 |[],vs,ds,ps,_,h,_=>by
  obtain⟨rfl,rfl,rfl⟩:=trodAll_nil h;exact trodAll_mk0
 |t::ts,vs,ds,ps,ht,h,hlt=>by
  obtain⟨v,vs',d,ds',p,q,rfl,rfl,rfl,h1,h2⟩:=trodAll_cons h;refine⟨p,q,Below.trod hl (ht t (by simp)).1 (ht t (by simp)).2 h1 hb fun x hx=>hlt x (by simp[hx]),?_,rfl⟩;exact Jv hl hb ts vs' ds' q (fun t' h'=>ht t' (by simp[h'])) h2 fun x hx=>hlt x (by simp[hx])
theorem VZ{H:Type}{enc:TypeId×Value→H}{P:Program}{f:Func}{s:ChangeSpec}{W W':World}{args:Array Value}{ds gs:List (DataW H)}{before:List MemPlace}{tb:TypeId}
 (hl:laidOutB P=true) (ww:∀t∈f.params.toList,P.readableRec t=true∧t<P.types.size) (hv:s.vars=[]) (hrt:f.resultTypes= #[tb]) (htb:P.underlying tb=some .bool)
 (hW:DataW.Whole enc P f.params.toList s.vars false W args.toList ds gs before) (hfn:∀l,l=ds→s.fn H (l++[])={results:=[.lit (.bool true)],args:=l}) (hb:Below W.heap.size W W'):
 s.post enc P f false true false false W args (.bool true) W':=by
 have CL:=hW;obtain⟨p,q,hA,hV,rfl,_,_⟩:=hW;rw[hv]at hV;obtain⟨rfl,rfl⟩:gs=[]∧q=[]:=by
  cases gs with
  |nil=>exact⟨rfl,hV⟩
  |cons x r=>cases hV
 have hlt:∀x∈p,x.block<W.heap.size:=fun x hx=>CL.lt x (by simp[hx]);have e:=hfn ds rfl;refine⟨ds,[],_,[]++[],p,[],CL,?_,?_,?_,hb.frame _,fun h=>by cases h⟩
 ·rw[e,hrt];exact trodAll_mk1 (shut_bool htb true)
 ·rw[e];exact Jv hl hb _ _ _ _ ww hA hlt
 ·rw[e,hv];rfl
end
end Go.Proofs.YtdokeddjcpnmiaaGreatDoor
