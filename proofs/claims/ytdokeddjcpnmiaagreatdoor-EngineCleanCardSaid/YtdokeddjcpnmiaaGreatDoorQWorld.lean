/- Of EngineClean: Base World. -/
import Derived.Test.YtdokeddjcpnmiaaGreatDoorRows
import Derived.WalkKit
import Derived.WalkSpells
import Derived.WalkLawsBesides
import Derived.Lib.Hide
import Derived.Deep.QuietTactic
import Derived.BigQuiet
import Derived.Maps.AppendAt
import Derived.Deep.AppendLies
import Derived.Deep.Draws
import Derived.OneCell
set_option maxRecDepth 100000
set_option maxHeartbeats 200000
namespace Go.Proofs.YtdokeddjcpnmiaaGreatDoor
open Go.RowKit
theorem Wv{a b:Value}(h:a=b):Ending.returned a=.returned b:=by rw[h]
theorem ZL{a b a' b':Value}(h:a=a')(k:b=b'):Ending.returned (.tuple #[a,b])=.returned (.tuple #[a',b']):=by rw[h,k]
theorem nw{a b:ByteArray}(h:a=b):Value.string a=.string b:=by rw[h]
theorem nW{k:IntKind}{a b:Int}(h:a=b):Value.int k a=.int k b:=by rw[h]
theorem zG{a b:ByteArray}(h:a.data.toList=b.data.toList):a=b:=by
 cases a with|mk a=>cases b with|mk b=>exact congrArg ByteArray.mk (Array.toList_inj.1 h)
theorem lI(a:ByteArray):a.data.toList.length=a.size:=by rw[Array.length_toList];rfl
theorem Ww(s:ByteArray)(k:Nat)(h:k<s.size):s.data.toList[k]? =some s[k]:=by
 rw[Array.getElem?_toList];exact Array.getElem?_eq_getElem h
theorem vE(s:ByteArray)(a b:Nat):(s.extract a b).data.toList=(s.data.toList.take b).drop a:=by
 rw[ByteArray.data_extract,Array.toList_extract,List.extract_eq_take_drop,List.drop_take]
theorem JE{P:Program}{f:FuncId}{args:Array Value}{w:World}{n:Nat}{v:Value}
 (h:Calls P f args (w.drewN n) fun e w'=>e=.returned v∧w.drewN n=w'):Calls P f args (w.drewN n) fun e w''=>e=.returned v∧∃m,w''=w.drewN m:=
 h.mono fun _ _ ⟨he,hm⟩=>⟨he,n,hm.symm⟩
structure Touch(F:List Nat)(w w':World):Prop where
 os:w'.os=w.os
 tape:w'.tape=w.tape
 output:w'.output=w.output
 size:w.heap.size≤w'.heap.size
 block:∀k,k<w.heap.size→k∉F→w'.heap[k]? =w.heap[k]?
section
variable {F G:List Nat} {a w w' w'':World}
theorem Touch.refl(F:List Nat)(w:World):Touch F w w:=⟨rfl,rfl,rfl,Nat.le_refl _,fun _ _ _=>rfl⟩
theorem Touch.trans(h:Touch F w w')(k:Touch G w' w'')(hs:∀g,g∈G→g∈F∨w.heap.size≤g):Touch F w w'':=
 ⟨k.os.trans h.os,k.tape.trans h.tape,k.output.trans h.output,Nat.le_trans h.size k.size,fun i hi hn=>by
   rw[k.block i (Nat.lt_of_lt_of_le hi h.size) (fun hg=>by rcases hs i hg with h1|h1;exact hn h1;omega)];exact h.block i hi hn⟩
theorem Touch.mono(h:Touch F w w')(hs:∀g,g∈F→g∈G∨w.heap.size≤g):Touch G w w':=(Touch.refl G w).trans h hs
theorem Touch.drew(h:Touch F a w):Touch F a w.drew:=⟨h.os,h.tape,h.output,h.size,h.block⟩
theorem Touch.drewN(h:Touch F a w)(n:Nat):Touch F a (w.drewN n):=⟨h.os,h.tape,h.output,h.size,h.block⟩
theorem Touch.alloc(h:Touch F a w)(o:Obj):Touch F a (w.alloc o):=
 ⟨h.os,h.tape,h.output,Nat.le_trans h.size (by simp),fun k hk hn=>(Below.heap_alloc _ _ _ (Nat.lt_of_lt_of_le hk h.size)).trans (h.block k hk hn)⟩
theorem Touch.setCell(h:Touch F a w){p:Addr}(hp:p.block∈F∨a.heap.size≤p.block)(u:Value):Touch F a (w.setCell p u):=
 ⟨h.os,h.tape,h.output,by simpa[World.setCell]using h.size,fun k hk hn=>(Below.heap_setCell _ _ _ _ (by rintro rfl;rcases hp with hp|hp;exact hn hp;omega)).trans (h.block k hk hn)⟩
theorem Touch.grown(h:Touch F a w){row:Option Nat}(hg:w.grownBy w' row)(hr:∀k,row=some k→k∈F∨a.heap.size≤k):Touch F a w':=
 ⟨hg.os.trans h.os,hg.tape.trans h.tape,hg.output.trans h.output,Nat.le_trans h.size hg.size,fun k hk hn=>
   (hg.block k (Nat.lt_of_lt_of_le hk h.size) (fun e=>by rcases hr k e.symm with h1|h1;exact hn h1;omega)).trans (h.block k hk hn)⟩
theorem Touch.below(h:Touch F w w'){B:Nat}(hB:B≤w.heap.size)(hF:∀f,f∈F→B≤f):Below B w w':=
 ⟨h.os,h.tape,h.output,h.size,fun k hk=>h.block k (by omega) (fun hf=>by have:=hF k hf;omega)⟩
theorem Touch.dh(h:Below w.heap.size w w')(F:List Nat):Touch F w w':=⟨h.os,h.tape,h.output,h.size,fun k hk _=>h.block k hk⟩
theorem Touch.cell(h:Touch F w w'){p:Addr}(hp:p.block<w.heap.size)(hn:p.block∉F):w'.cell? p=w.cell? p:=World.cell?_of_block (h.block _ hp hn)
theorem Touch.frozen(h:Touch F w w'){p:Addr}(hp:p.block<w.heap.size)(hn:p.block∉F):w'.frozen? p=w.frozen? p:=World.frozen?_of_block (h.block _ hp hn)
end
def Sub(w:World)(F F':List Nat):Prop:=∀f,f∈F'→f∈F∨w.heap.size≤f
theorem Sub.refl(w:World)(F:List Nat):Sub w F F:=fun _ h=>.inl h
theorem Sub.trans{w w':World}{F G H:List Nat}(h:Sub w F G)(k:Sub w' G H)(hs:w.heap.size≤w'.heap.size):Sub w F H:=fun f hf=>by
 rcases k f hf with h1|h1
 ·exact h f h1
 ·exact .inr (by omega)
def aF(w:World)(g:Nat)(t:TypeId)(cs:Array Value):Prop:=w.heap[g]? =some (.cells cs t (0,0))
section
variable {w w':World} {g:Nat} {t:TypeId} {cs:Array Value}
theorem aF.lt(h:aF w g t cs):g<w.heap.size:=lt_of_block h
theorem aF.cell(h:aF w g t cs)(i:Nat):w.cell? ⟨g,i,none⟩=cs[i]? :=cell_of_row w g i cs t (0,0) h
theorem aF.frozen(h:aF w g t cs)(i:Nat):w.frozen? ⟨g,i,none⟩=false:=by
 unfold aF at h;simp[World.frozen?,h]
theorem aF.new(w:World)(t:TypeId)(cs:Array Value):aF (w.alloc (.cells cs t)) w.heap.size t cs:=heap_alloc_new w _
theorem aF.drew(h:aF w g t cs):aF w.drew g t cs:=h
theorem aF.drewN(h:aF w g t cs)(n:Nat):aF (w.drewN n) g t cs:=h
theorem aF.alloc(h:aF w g t cs)(o:Obj):aF (w.alloc o) g t cs:=(Below.heap_alloc w o g h.lt).trans h
theorem aF.bJ(h:aF w g t cs)(i:Nat)(u:Value):aF (w.setCell ⟨g,i,none⟩ u) g t (cs.setIfInBounds i u):=by
 unfold aF at h⊢;simp[World.setCell,Array.getElem?_modify,h]
theorem aF.far(h:aF w g t cs){p:Addr}(hp:g≠p.block)(u:Value):aF (w.setCell p u) g t cs:=(Below.heap_setCell w p u g hp).trans h
theorem aF.touch{F:List Nat}(h:aF w g t cs)(hb:Touch F w w')(hg:g∉F):aF w' g t cs:=(hb.block g h.lt hg).trans h
theorem aF.grown{row:Option Nat}(h:aF w g t cs)(hb:w.grownBy w' row)(hg:some g≠row):aF w' g t cs:=(hb.block g h.lt hg).trans h
end
def rowOf:Value→List Nat
 | .slice (some a) _ _=>[a.block]
 |_=>[]
theorem aB{v:Value}{g:Nat}:g∈rowOf v↔v.ownBlock=some g:=by
 cases v with
 |slice a n c=>cases a with
  |none=>simp[rowOf,Value.ownBlock]
  |some a=>simp[rowOf,Value.ownBlock,eq_comm]
 |_=>simp[rowOf,Value.ownBlock]
section
variable {w w':World} {base:Nat} {e:TypeId} {size n:Nat} {v:Value} {xs:List Value}
theorem fG(h:w.ownsRow base e size v n xs){g:Nat}(hg:g∈rowOf v):g<w.heap.size:=(h.lt g (aB.1 hg)).2
theorem aj(h:w.ownsRow base e size v n xs){F:List Nat}(ht:Touch F w w')(hn:∀g,g∈rowOf v→g∉F):w'.ownsRow base e size v n xs:=by
 refine⟨h.1,?_⟩;rcases h.2 with h0|⟨g,cap,cur,rfl,hb,hg,hr⟩
 ·exact .inl h0
 ·exact .inr ⟨g,cap,cur,rfl,hb,(ht.block g (lt_of_block hg) (hn g (by simp[rowOf]))).trans hg,hr⟩
end
theorem Touch.aO{F:List Nat}{w w':World}(h:Touch F w.drew w'):Touch F w w':=⟨h.os,h.tape,h.output,h.size,h.block⟩
theorem Touch.Gl{F:List Nat}{w w':World}{n:Nat}(h:Touch F (w.drewN n) w'):Touch F w w':=⟨h.os,h.tape,h.output,h.size,h.block⟩
theorem aF.dG{n:Nat}(w:World)(h:w.heap.size=n)(t:TypeId)(cs:Array Value):aF (w.alloc (.cells cs t)) n t cs:=h▸aF.new w t cs
theorem aF.two{w:World}{g:Nat}{t:TypeId}{a b:Value}(h:aF w g t #[a,b])(x y:Value):aF ((w.setCell ⟨g,0,none⟩ x).setCell ⟨g,1,none⟩ y) g t #[x,y]:=
 (h.bJ 0 x).bJ 1 y
theorem aF.EA{w w1:World}{t:TypeId}{cs:Array Value}(h:Touch [] (w.alloc (.cells cs t)) w1){n:Nat}(hn:w.heap.size=n):aF w1 n t cs:=hn▸(aF.new w t cs).touch h (by simp)
theorem fI{w:World}{g:Nat}{t:TypeId}{a b:Value}(h:aF w g t #[a,b])(x y:Value):
 (w.setCell ⟨g,0,none⟩ x).cell? ⟨g,0,none⟩=some x∧((w.setCell ⟨g,0,none⟩ x).setCell ⟨g,1,none⟩ y).cell? ⟨g,1,none⟩=some y:=
 ⟨(h.bJ 0 x).cell 0,(h.two x y).cell 1⟩
theorem aF.three{w:World}{g:Nat}{t:TypeId}{a b c:Value}(h:aF w g t #[a,b,c])(x y z:Value):aF (((w.setCell ⟨g,0,none⟩ x).setCell ⟨g,1,none⟩ y).setCell ⟨g,2,none⟩ z) g t #[x,y,z]:=
 ((h.bJ 0 x).bJ 1 y).bJ 2 z
theorem tR(w:World):Touch [] w w:=Touch.refl [] w
end Go.Proofs.YtdokeddjcpnmiaaGreatDoor
