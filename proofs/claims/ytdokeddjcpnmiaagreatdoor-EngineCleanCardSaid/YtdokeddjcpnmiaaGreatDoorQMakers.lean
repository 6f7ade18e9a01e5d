/- Of EngineClean: AnyInv MapAny Makers MakeSays FrameAny. -/
import Derived.Test.YtdokeddjcpnmiaaGreatDoorQStkCut
import Derived.Orders
import Derived.Deep.Cut
set_option maxRecDepth 100000
set_option maxHeartbeats 1000000
namespace Go.Proofs.YtdokeddjcpnmiaaGreatDoor
open Go.RowKit Go.Proofs.Tryz
open Go.Lib(hid)
section
variable {P:Program} {ops:Array Oper} {Q:Exit→Act→World→Prop} {md:Region.Mode}
theorem qA{listed:Array Bool}{i:Nat}(h:i∈Region.ready md ops listed):
 i<ops.size∧listed.getD i true=false∧∀o,ops[i]? =some o→∀e∈o.after,Region.binds md e=true→listed.getD e.on false=true:=by
 unfold Region.ready at h;simp only[List.mem_filter,List.mem_range,Bool.and_eq_true,Bool.not_eq_true']at h;obtain⟨h1,h2,h3⟩:=h;refine⟨h1,h2,fun o ho e he hb=> ?_⟩;rw[ho]at h3;simp only[Option.map_some,Option.getD_some,Array.all_eq_true_iff_forall_mem]at h3;have:=h3 e he;simpa[hb]using this
def xD(ops:Array Oper):Bool:=(List.range ops.size).all fun i=>((ops[i]?).map fun o=>o.after.all fun e=>decide (e.on<i)).getD true
theorem NU{listed:Array Bool}(hs:listed.size=ops.size)(ha:xD ops=true)(h:Region.ready md ops listed=[]):∀i,i<ops.size→listed.getD i false=true:=by
 intro i;induction i using Nat.strongRecOn with
 |ind i ih=>
  intro hi;cases e:listed.getD i false with
  |true=>rfl
  |false=>
   have hm:i∈Region.ready md ops listed:=by
    unfold Region.ready;simp only[List.mem_filter,List.mem_range,Bool.and_eq_true,Bool.not_eq_true'];refine⟨hi,?_,?_⟩
    ·rw[Array.getD_eq_getD_getElem?]at e⊢;rw[Array.getElem?_eq_getElem (by omega)]at e⊢;exact e
    ·obtain⟨o,ho⟩:∃o,ops[i]? =some o:=⟨_,Array.getElem?_eq_getElem hi⟩;rw[ho];simp only[Option.map_some,Option.getD_some,Array.all_eq_true_iff_forall_mem];intro x hx;have h2:x.on<i:=by
      unfold xD at ha;rw[List.all_eq_true]at ha;have:=ha i (by simpa using hi);rw[ho]at this;simp only[Option.map_some,Option.getD_some,Array.all_eq_true_iff_forall_mem]at this;simpa using this x hx
     rw[ih x.on h2 (by omega)];simp
   rw[h]at hm;cases hm
def leftOf(listed:Array Bool):Nat:=(listed.toList.filter fun b=> !b).length
theorem Ag{listed:Array Bool}{i:Nat}(h:listed.getD i true=false):leftOf (listed.setIfInBounds i true)+1=leftOf listed:=by
 obtain⟨l⟩:=listed;simp only[Array.getD_eq_getD_getElem?,List.getElem?_toArray]at h;unfold leftOf;simp only[List.setIfInBounds_toArray];induction l generalizing i with
 |nil=>simp at h
 |cons b l ih=>
  cases i with
  |zero=>
   simp at h;subst h;simp
  |succ i=>
   have:=ih (i:=i) (by simpa using h);cases b<;>simp[List.set_cons_succ]<;>omega
def Closed(md:Region.Mode)(ops:Array Oper)(listed:Array Bool):Prop:=∀i o,ops[i]? =some o→listed.getD i false=true→∀e∈o.after,Region.binds md e=true→listed.getD e.on false=true
theorem GD{listed:Array Bool}{i j:Nat}(h:listed.getD j false=true):(listed.setIfInBounds i true).getD j false=true:=by
 rw[Array.getD_eq_getD_getElem?]at h⊢;rw[Array.getElem?_setIfInBounds];split
 ·split
  ·rfl
  ·rename_i h1 h2;subst h1;rw[Array.getElem?_eq_none (by omega)]at h;cases h
 ·exact h
theorem nK{listed:Array Bool}{i j:Nat}(h:(listed.setIfInBounds i true).getD j false=true):j=i∨listed.getD j false=true:=by
 rw[Array.getD_eq_getD_getElem?,Array.getElem?_setIfInBounds]at h;by_cases e:i=j
 ·exact .inl e.symm
 ·rw[if_neg e]at h;exact .inr (by rw[Array.getD_eq_getD_getElem?];exact h)
theorem Closed.set{listed:Array Bool}{i:Nat}(h:Closed md ops listed)(hi:∀o,ops[i]? =some o→∀e∈o.after,Region.binds md e=true→listed.getD e.on false=true):Closed md ops (listed.setIfInBounds i true):=fun j o ho hj e he hb=>by
 rcases nK hj with rfl|hj
 ·exact GD (hi o ho e he hb)
 ·exact GD (h j o ho hj e he hb)
theorem xE(I:Array Bool→Act→World→Prop)
 (step:∀listed a w,listed.size=ops.size→I listed a w→∀i∈Region.ready md ops listed,wpOp P ops Q i (fun a' w'=>I (listed.setIfInBounds i true) a' w') a w)
 (fin:∀listed a w,listed.size=ops.size→I listed a w→Region.ready md ops listed=[]→Q .normal a w):∀(fuel:Nat) (listed:Array Bool) (a:Act) (w:World),listed.size=ops.size→leftOf listed≤fuel→I listed a w→wpAny P md ops Q fuel listed a w
 |0,listed,a,w,hs,hl,h=>by
  have hr:Region.ready md ops listed=[]:=by
   cases e:Region.ready md ops listed with
   |nil=>rfl
   |cons i r=>
    have:=(qA (md:=md) (ops:=ops) (listed:=listed) (i:=i) (by rw[e];simp)).2.1;have:=Ag this;omega
  exact⟨hr,fin listed a w hs h hr⟩
 |fuel+1,listed,a,w,hs,hl,h=>by
  refine⟨fin listed a w hs h,fun i hi=> ?_⟩;have hls:=Ag (qA hi).2.1;exact wpOp_mono (fun a' w' h'=>xE I step fin fuel _ a' w' (by simpa using hs) (by omega) h') (step listed a w hs h i hi)
theorem kV{id:Nat}{a:Act}{w:World}(I:Array Bool→Act→World→Prop)(hm:P.follows .mixedOrders=true)(ha:xD ops=true)
 (h0:∀listed:Array Bool,listed.size=ops.size→(∀i,listed.getD i false=false)→I listed a w.drew)
 (step:∀listed a w,I listed a w→Closed .any ops listed→∀i o,ops[i]? =some o→listed.getD i true=false→(∀e∈o.after,Region.binds .any e=true→listed.getD e.on false=true)→wpOp P ops Q i (fun a' w'=>I (listed.setIfInBounds i true) a' w') a w)
 (fin:∀listed a w,(∀i,i<ops.size→listed.getD i false=true)→I listed a w→Q .normal a w):(Code.region id ops true).wp P Q a w:=by
 have hz:∀i,(Array.replicate ops.size false).getD i false=false:=fun i=>by
  rw[Array.getD_eq_getD_getElem?];rw[Array.getElem?_replicate];split<;>rfl
 refine wp_region_any hm (xE (fun listed a w=>I listed a w∧Closed .any ops listed) (fun listed a w hs h i hi=> ?_) (fun listed a w hs h hr=>fin listed a w (NU hs ha hr) h.1) _ _ a _ (by simp) ?_ ⟨h0 _ (by simp) hz,fun i o _ h=>by rw[hz]at h;cases h⟩)
 ·obtain⟨h1,h2,h3⟩:=qA hi;obtain⟨o,ho⟩:∃o,ops[i]? =some o:=⟨_,Array.getElem?_eq_getElem h1⟩;exact wpOp_mono (fun a' w' k=>⟨k,h.2.set h3⟩) (step listed a w h.1 h.2 i o ho h2 (h3 o ho))
 ·unfold leftOf;refine Nat.le_trans (List.length_filter_le _ _) (by simp)
theorem gP{i:Nat}{o:Oper}{K:Act→World→Prop}{a:Act}{w:World}(ho:ops[i]? =some o)(hg:o.guard=none)(h:o.wp P a w K Q):wpOp P ops Q i K a w:=by
 unfold wpOp;rw[ho];simp only[Region.wanted,hg];exact .inl h
theorem ay{o:Oper}{K:Act→World→Prop}{a:Act}{w w1:World}{v:Value}(h:(execOp a.eval o).run P w=.ok (.value v) w1)(k:K (a.put o.dst v) w1):o.wp P a w K Q:=by
 unfold Oper.wp;rw[h];exact k
theorem wp_skip{o:Oper}{K:Act→World→Prop}{a:Act}{w w1:World}(h:(execOp a.eval o).run P w=.ok .skip w1)(k:K (a.put o.dst undef) w1):o.wp P a w K Q:=by
 unfold Oper.wp;rw[h];exact k
theorem aJ{o:Oper}{K:Act→World→Prop}{a:Act}{w w1:World}{f:FuncId}{args:Array Value}(h:(execOp a.eval o).run P w=.ok (.enter f args) w1)(k:Calls P f args w1 fun e w''=>∃v,e=.returned v∧K (a.put o.dst v) w''):o.wp P a w K Q:=by
 unfold Oper.wp;rw[h];refine k.mono ?_;rintro e w'' ⟨v,rfl,h⟩;exact h
end
theorem getD_set_ne{listed:Array Bool}{i j:Nat}(h:i≠j):(listed.setIfInBounds i true).getD j false=listed.getD j false:=by
 rw[Array.getD_eq_getD_getElem?,Array.getD_eq_getD_getElem?,Array.getElem?_setIfInBounds,if_neg h]
theorem uy{listed:Array Bool}{i:Nat}(h:listed.getD i true=false):(listed.setIfInBounds i true).getD i false=true:=by
 rw[Array.getD_eq_getD_getElem?]at h⊢;rw[Array.getElem?_setIfInBounds,if_pos rfl];split
 ·rfl
 ·rename_i h1;rw[Array.getElem?_eq_none (by omega)]at h;cases h
theorem gN{listed:Array Bool}{i:Nat}(h:listed.getD i true=false):listed.getD i false=false:=by
 rw[Array.getD_eq_getD_getElem?]at h⊢;cases e:listed[i]? with
 |none=>rfl
 |some b=>rw[e]at h;exact h
def kQ(tab:List (Nat×Nat×Value))(listed:Array Bool)(f:Nat→Value):Prop:=∀x∈tab,listed.getD x.1 false=true→f x.2.1=x.2.2
theorem kQ.step{tab:List (Nat×Nat×Value)}{listed:Array Bool}{f:Nat→Value}(h:kQ tab listed f){i d:Nat}{v:Value}(hu:∀x∈tab,(x.1=i→x.2.1=d∧x.2.2=v)∧(x.2.1=d→x.1=i)):kQ tab (listed.setIfInBounds i true) (fun j=>if j=d then v else f j):=fun x hx hl=>by
 by_cases e:x.2.1=d
 ·simp only[e,if_true];exact((hu x hx).1 ((hu x hx).2 e)).2.symm
 ·simp only[if_neg e];rcases nK hl with h1|h1
  ·exact absurd ((hu x hx).1 h1).1 e
  ·exact h x hx h1
theorem kQ.keep{tab:List (Nat×Nat×Value)}{listed:Array Bool}{f:Nat→Value}(h:kQ tab listed f){i:Nat}(hu:∀x∈tab,x.1≠i):kQ tab (listed.setIfInBounds i true) f:=fun x hx hl=>by
 rcases nK hl with h1|h1
 ·exact absurd h1 (hu x hx)
 ·exact h x hx h1
def GH(tab:List (Nat×Nat×Value)):Bool:=(tab.map (·.1)==List.range tab.length)&&tab.all fun x=>tab.all fun y=>x.2.1 != y.2.1||x.1==y.1
theorem GH.row{tab:List (Nat×Nat×Value)}(hu:GH tab=true){i d:Nat}{v:Value}(hm:tab[i]? =some (i,d,v))(x:Nat×Nat×Value)(hx:x∈tab):(x.1=i→x.2.1=d∧x.2.2=v)∧(x.2.1=d→x.1=i):=by
 unfold GH at hu;rw[Bool.and_eq_true,beq_iff_eq,List.all_eq_true]at hu;obtain⟨h1,h2⟩:=hu;refine⟨fun e=> ?_,fun e=> ?_⟩
 ·obtain⟨k,hk,rfl⟩:=List.getElem_of_mem hx;have h3:(tab.map (·.1))[k]? =some k:=by rw[h1,List.getElem?_range hk]
  rw[List.getElem?_map,List.getElem?_eq_getElem hk]at h3;injection h3 with h3;have hki:k=i:=h3.symm.trans e;subst hki;rw[List.getElem?_eq_getElem hk]at hm;injection hm with hm;rw[hm];exact⟨rfl,rfl⟩
 ·have h3:=h2 x hx;rw[List.all_eq_true]at h3;have h4:=h3 _ (List.mem_of_getElem? hm);simpa[e]using h4
theorem kQ.lM{tab:List (Nat×Nat×Value)}{listed:Array Bool}{f:Nat→Value}(h:kQ tab listed f)(hu:GH tab=true)(i d:Nat){v:Value}(hm:tab[i]? =some (i,d,v)):kQ tab (listed.setIfInBounds i true) (fun j=>if j=d then v else f j):=h.step (GH.row hu hm)
theorem kQ.get{tab:List (Nat×Nat×Value)}{listed:Array Bool}{f:Nat→Value}(h:kQ tab listed f)(i:Nat){j d:Nat}{v:Value}(hm:tab[i]? =some (j,d,v))(hl:listed.getD j false=true):f d=v:=h _ (List.mem_of_getElem? hm) hl
def JV(f:Nat→Value):List (Nat×Nat×Value)→Prop
 |[]=>True
 |x::l=>f x.2.1=x.2.2∧JV f l
theorem kQ.all{tab:List (Nat×Nat×Value)}{listed:Array Bool}{f:Nat→Value}{n:Nat}(h:kQ tab listed f)(hl:∀i,i<n→listed.getD i false=true)(hn:(tab.all fun x=>decide (x.1<n))=true):JV f tab:=by
 have key:∀l:List (Nat×Nat×Value),(∀x∈l,x∈tab)→JV f l:=by
  intro l;induction l with
  |nil=>exact fun _=>trivial
  |cons x l ih=>
   intro hs;have hx:=hs x (by simp);exact⟨h x hx (hl _ (by simpa using List.all_eq_true.1 hn x hx)),ih fun y hy=>hs y (by simp[hy])⟩
 exact key tab fun _ hx=>hx
structure oK where
 n:Nat
 dst:List Nat
 ins:List (Nat×Int)
 m:Nat
 im:Nat
 dm:Nat
 ia:Nat
 da:Nat
def oK.at_(T:oK)(j:Nat):Nat:=T.dst.getD j 0
def oK.MC(T:oK)(i d:Nat):Bool:=(decide (0<i)&&decide (i<T.n)&&decide (i≠T.im)&&decide (i≠T.ia)&&decide (T.at_ i=d)&&decide (d≠T.m)&&decide (d≠T.dm)&&decide (d≠T.da))&&((List.range T.n).all fun j=>decide (T.at_ j≠d)||decide (j=i))&&T.ins.all fun p=>decide (p.1≠i)
def oK.RU(T:oK)(i:Nat)(key:Int):Bool:=decide ((i,key)∈T.ins)&&decide (i≠0)&&decide (i≠T.im)&&decide (i≠T.ia)&&T.ins.all fun p=>decide (p.1≠i)||decide (p.2=key)
def oK.ok(T:oK):Bool:=(decide (T.at_ 0=T.m)&&decide (T.at_ T.im=T.dm)&&decide (T.at_ T.ia=T.da)&&decide (T.im≠0)&&decide (T.ia≠0)&&decide (T.im≠T.ia)&&decide (T.m≠T.dm)&&decide (T.m≠T.da)&&decide (T.dm≠T.da))&&
 ((List.range T.n).all fun j=>(decide (j=0)||decide (T.at_ j≠T.m))&&(decide (j=T.im)||decide (T.at_ j≠T.dm))&&(decide (j=T.ia)||decide (T.at_ j≠T.da)))&&T.ins.all fun p=>decide (p.1≠0)&&decide (p.1≠T.im)&&decide (p.1≠T.ia)
def EG(A B:World):Prop:=∀g t cs,aF A g t cs→aF B g t cs
theorem EG.touch{A B:World}(t:Touch [] A B):EG A B:=fun _ _ _ h=>h.touch t (by simp)
theorem EG.map{A B:World}{mb:Nat}{l:List (Int×Value)}(hm:eZ A mb l)(t:Touch [mb] A B):EG A B:=fun g ty cs h=>h.touch t (fun hg=>by
 rw[List.mem_singleton.1 hg]at h;obtain⟨es,c,he,_⟩:=hm;unfold aF at h;rw[h]at he;cases he)
theorem RV(l:List (Int×Value))(k:Int)(v:Value)(x:Int):atKey (putKey l k v) x=if x=k then some v else atKey l x:=by
 induction l with
 |nil=>
  by_cases h:x=k
  ·subst h;simp[putKey,atKey]
  ·simp[putKey,atKey,h,Ne.symm h]
 |cons p l ih=>
  unfold putKey;by_cases hp:p.1=k
  ·rw[if_pos hp];by_cases h:x=k
   ·subst h;simp[atKey]
   ·have h1:¬k=x:=fun e=>h e.symm;have h2:¬p.1=x:=by rw[hp];exact h1
    simp[atKey,h,h1,h2]
  ·rw[if_neg hp];by_cases h:p.1=x
   ·have h1:¬x=k:=by rw[←h];exact hp
    simp[atKey,h,h1]
   ·have e1:atKey (p::putKey l k v) x=atKey (putKey l k v) x:=by simp[atKey,h]
    have e2:atKey (p::l) x=atKey l x:=by simp[atKey,h]
    rw[e1,e2,ih]
structure jJ(T:oK)(PV:Nat→Value→World→Prop)(Good:Int→Value→World→Prop)(w0:World)(listed:Array Bool)(f:Nat→Value)(W:World):Prop where
 t:Touch [] w0 W
 pv:∀j,j<T.n→listed.getD j false=true→PV j (f (T.at_ j)) W
 map:listed.getD 0 false=true→∃mb l,f T.m=.map (some mb)∧w0.heap.size≤mb∧eZ W mb l∧(∀k v,atKey l k=some v→Good k v W)∧∀p∈T.ins,listed.getD p.1 false=true→(atKey l p.2).isSome=true
 mv:listed.getD T.im false=true→f T.dm=f T.m
 fin:listed.getD T.ia false=true→f T.da=f T.m
structure qB(PV:Nat→Value→World→Prop)(Good:Int→Value→World→Prop):Prop where
 pv:∀A B,EG A B→∀j v,PV j v A→PV j v B
 good:∀A B,EG A B→∀k v,Good k v A→Good k v B
section
variable {T:oK} {PV:Nat→Value→World→Prop} {Good:Int→Value→World→Prop} {w0 W W':World} {listed:Array Bool} {f:Nat→Value}
theorem jJ.start(hl:∀i,listed.getD i false=false)(t:Touch [] w0 W):jJ T PV Good w0 listed f W:=
 ⟨t,fun j _ h=>(by rw[hl]at h;cases h),fun h=>(by rw[hl]at h;cases h),fun h=>(by rw[hl]at h;cases h),fun h=>(by rw[hl]at h;cases h)⟩
theorem jJ.val(h:jJ T PV Good w0 listed f W)(hs:qB PV Good){i d:Nat}{v:Value}(hi:T.MC i d=true)(t:Touch [] W W')(hv:PV i v W'):jJ T PV Good w0 (listed.setIfInBounds i true) (fun j=>if j=d then v else f j) W':=by
 have o:=EG.touch t;simp only[oK.MC,Bool.and_eq_true,decide_eq_true_eq,List.all_eq_true,Bool.or_eq_true,List.mem_range]at hi;obtain⟨⟨⟨⟨⟨⟨⟨⟨⟨h0,h1⟩,h2⟩,h3⟩,h4⟩,h5⟩,h6⟩,h7⟩,h8⟩,h9⟩:=hi;refine⟨h.t.trans t (by simp),fun j hj hl=> ?_,fun hl=> ?_,fun hl=> ?_,fun hl=> ?_⟩
 ·by_cases e:j=i
  ·subst e;simp only[h4,if_true];exact hv
  ·have:¬T.at_ j=d:=by
    rcases h8 j hj with h|h
    ·exact h
    ·exact absurd h e
   simp only[if_neg this];exact hs.pv _ _ o _ _ (h.pv j hj (by rwa[getD_set_ne (Ne.symm e)]at hl))
 ·rw[getD_set_ne (by omega)]at hl;obtain⟨mb,l,e,k1,k2,k3,k4⟩:=h.map hl;exact⟨mb,l,by simp only[if_neg (Ne.symm h5)];exact e,k1,k2.touch t (by simp),fun k v hk=>hs.good _ _ o _ _ (k3 k v hk),fun p hp hl=>k4 p hp (by rwa[getD_set_ne (fun e=>h9 p hp e.symm)]at hl)⟩
 ·simp only[if_neg (Ne.symm h6),if_neg (Ne.symm h5)];exact h.mv (by rwa[getD_set_ne h2]at hl)
 ·simp only[if_neg (Ne.symm h7),if_neg (Ne.symm h5)];exact h.fin (by rwa[getD_set_ne h3]at hl)
theorem jJ.v0(h:jJ T PV Good w0 listed f W)(hs:qB PV Good)(i d:Nat){v:Value}(hi:T.MC i d=true)(hv:PV i v W):jJ T PV Good w0 (listed.setIfInBounds i true) (fun j=>if j=d then v else f j) W:=h.val hs hi (tR W) hv
theorem jJ.lF(h:jJ T PV Good w0 listed f W)(hs:qB PV Good)(i d:Nat){A:Value→World→Prop}{X:Value→Act}{mk:(Nat→Value)→Act}(hi:T.MC i d=true)(hA:∀v W',A v W'→PV i v W')(hX:∀v,X v=mk fun j=>if j=d then v else f j)(e:Ending)(W':World):
 (∃v,e=.returned v∧A v W'∧Touch [] W W')→∃v,e=.returned v∧∃g,X v=mk g∧jJ T PV Good w0 (listed.setIfInBounds i true) g W':=by
 rintro⟨v,he,hv,t⟩;exact⟨v,he,_,hX v,h.val hs hi t (hA v W' hv)⟩
theorem oK.EH(h:T.ok=true):(T.at_ 0=T.m∧T.at_ T.im=T.dm∧T.at_ T.ia=T.da∧T.im≠0∧T.ia≠0∧T.im≠T.ia∧T.m≠T.dm∧T.m≠T.da∧T.dm≠T.da)∧(∀j,j<T.n→(j=0∨T.at_ j≠T.m)∧(j=T.im∨T.at_ j≠T.dm)∧(j=T.ia∨T.at_ j≠T.da))∧∀p∈T.ins,p.1≠0∧p.1≠T.im∧p.1≠T.ia:=by
 simp only[oK.ok,Bool.and_eq_true,decide_eq_true_eq,List.all_eq_true,Bool.or_eq_true,List.mem_range]at h;obtain⟨⟨⟨⟨⟨⟨⟨⟨⟨⟨a,b⟩,c⟩,d⟩,e⟩,f⟩,g⟩,i⟩,j⟩,k⟩,l⟩:=h;exact⟨⟨a,b,c,d,e,f,g,i,j⟩,fun x hx=>⟨(k x hx).1.1,(k x hx).1.2,(k x hx).2⟩,fun p hp=>⟨(l p hp).1.1,(l p hp).1.2,(l p hp).2⟩⟩
theorem jJ.made(h:jJ T PV Good w0 listed f W)(hs:qB PV Good)(hT:T.ok=true)(h0:∀v W,PV 0 v W)(hn:∀p∈T.ins,listed.getD p.1 false=false)(hm:listed.getD T.im false=false)(ha:listed.getD T.ia false=false):
 jJ T PV Good w0 (listed.setIfInBounds 0 true) (fun j=>if j=T.m then .map (some W.heap.size)else f j) (W.alloc (.map #[] 0)):=by
 have t:=(tR W).alloc (.map #[] 0);have o:=EG.touch t;obtain⟨⟨z0,z1,z2,z3,z4,z5,z6,z7,z8⟩,zj,zi⟩:=oK.EH hT;refine⟨h.t.trans t (by simp),fun j hj hl=> ?_,fun hl=> ?_,fun hl=> ?_,fun hl=> ?_⟩
 ·by_cases e:j=0
  ·subst e;exact h0 _ _
  ·have:¬T.at_ j=T.m:=by
    rcases(zj j hj).1 with h|h
    ·exact absurd h e
    ·exact h
   simp only[if_neg this];exact hs.pv _ _ o _ _ (h.pv j hj (by rwa[getD_set_ne (Ne.symm e)]at hl))
 ·refine⟨W.heap.size,[],by simp,h.t.size,eZ.new W,fun k v hk=>by simp[atKey]at hk,fun p hp hl=> ?_⟩;rw[getD_set_ne (Ne.symm (zi p hp).1)]at hl;rw[hn p hp]at hl;cases hl
 ·rw[getD_set_ne (Ne.symm z3),hm]at hl;cases hl
 ·rw[getD_set_ne (Ne.symm z4),ha]at hl;cases hl
theorem jJ.put(h:jJ T PV Good w0 listed f W)(hs:qB PV Good){i:Nat}{key:Int}{mb:Nat}{l:List (Int×Value)}{v:Value}(hi:T.RU i key=true)(ZX:∀v W,PV i v W)(hm:f T.m=.map (some mb))(P4:w0.heap.size≤mb)(hl:eZ W mb l)(k3:∀k v,atKey l k=some v→Good k v W)
 (k4:∀p∈T.ins,listed.getD p.1 false=true→(atKey l p.2).isSome=true) (hv:Good key v W) (hl':eZ W' mb (putKey l key v)) (t:Touch [mb] W W'):jJ T PV Good w0 (listed.setIfInBounds i true) f W':=by
 have o:=EG.map hl t;simp only[oK.RU,Bool.and_eq_true,decide_eq_true_eq,List.all_eq_true,Bool.or_eq_true]at hi;obtain⟨⟨⟨⟨_,h0⟩,h1⟩,h2⟩,h3⟩:=hi;refine⟨h.t.trans t (fun g hg=>.inr (by rw[List.mem_singleton.1 hg];exact P4)),fun j hj hl=> ?_,fun _=>⟨mb,_,hm,P4,hl',fun k u hk=> ?_,fun p hp hpl=> ?_⟩,fun hl=> ?_,fun hl=> ?_⟩
 ·rcases nK hl with e|e
  ·subst e;exact ZX _ _
  ·exact hs.pv _ _ o _ _ (h.pv j hj e)
 ·rw[RV]at hk;split at hk
  ·rename_i e;cases hk;rw[e];exact hs.good _ _ o _ _ hv
  ·exact hs.good _ _ o _ _ (k3 k u hk)
 ·rw[RV];split
  ·rfl
  ·rename_i e;rcases nK hpl with e2|e2
   ·rcases h3 p hp with h|h
    ·exact absurd e2 h
    ·exact absurd h e
   ·exact k4 p hp e2
 ·exact h.mv (by rwa[getD_set_ne h1]at hl)
 ·exact h.fin (by rwa[getD_set_ne h2]at hl)
theorem jJ.move(h:jJ T PV Good w0 listed f W)(hT:T.ok=true)(ZX:∀v W,PV T.im v W):jJ T PV Good w0 (listed.setIfInBounds T.im true) (fun j=>if j=T.dm then f T.m else f j) W:=by
 obtain⟨⟨z0,z1,z2,z3,z4,z5,z6,z7,z8⟩,zj,zi⟩:=oK.EH hT;refine⟨h.t,fun j hj hl=> ?_,fun hl=> ?_,fun _=> ?_,fun hl=> ?_⟩
 ·by_cases e:j=T.im
  ·rw[e];exact ZX _ _
  ·have:¬T.at_ j=T.dm:=by
    rcases(zj j hj).2.1 with h|h
    ·exact absurd h e
    ·exact h
   simp only[if_neg this];exact h.pv j hj (by rwa[getD_set_ne (Ne.symm e)]at hl)
 ·rw[getD_set_ne z3]at hl;obtain⟨mb,l,e,k1,k2,k3,k4⟩:=h.map hl;exact⟨mb,l,by simp only[if_neg z6];exact e,k1,k2,k3,fun p hp hl=>k4 p hp (by rwa[getD_set_ne (Ne.symm (zi p hp).2.1)]at hl)⟩
 ·simp only[if_true,if_neg z6]
 ·simp only[if_neg (Ne.symm z8),if_neg z6];exact h.fin (by rwa[getD_set_ne z5]at hl)
theorem jJ.assign(h:jJ T PV Good w0 listed f W)(hT:T.ok=true)(ZX:∀v W,PV T.ia v W)(hm:listed.getD T.im false=true):jJ T PV Good w0 (listed.setIfInBounds T.ia true) (fun j=>if j=T.da then f T.dm else f j) W:=by
 obtain⟨⟨z0,z1,z2,z3,z4,z5,z6,z7,z8⟩,zj,zi⟩:=oK.EH hT;refine⟨h.t,fun j hj hl=> ?_,fun hl=> ?_,fun hl=> ?_,fun _=> ?_⟩
 ·by_cases e:j=T.ia
  ·rw[e];exact ZX _ _
  ·have:¬T.at_ j=T.da:=by
    rcases(zj j hj).2.2 with h|h
    ·exact absurd h e
    ·exact h
   simp only[if_neg this];exact h.pv j hj (by rwa[getD_set_ne (Ne.symm e)]at hl)
 ·rw[getD_set_ne z4]at hl;obtain⟨mb,l,e,k1,k2,k3,k4⟩:=h.map hl;exact⟨mb,l,by simp only[if_neg z7];exact e,k1,k2,k3,fun p hp hl=>k4 p hp (by rwa[getD_set_ne (Ne.symm (zi p hp).2.2)]at hl)⟩
 ·simp only[if_neg z8,if_neg z7];exact h.mv (by rwa[getD_set_ne (Ne.symm z5)]at hl)
 ·simp only[if_true,if_neg z7];exact h.mv hm
end
section
variable {P:Program} {ops:Array Oper} {Q:Exit→Act→World→Prop}
theorem Dy(ha:xD ops=true){i:Nat}{o:Oper}(ho:ops[i]? =some o):∀e∈o.after,e.on<i:=fun e he=>by
 have hi:i<ops.size:=(Array.getElem?_eq_some_iff.1 ho).1;unfold xD at ha;rw[List.all_eq_true]at ha;have:=ha i (by simpa using hi);rw[ho]at this;simp only[Option.map_some,Option.getD_some,Array.all_eq_true_iff_forall_mem]at this;simpa using this e he
theorem xG{id:Nat}{a:Act}{w:World}(I:Array Bool→Act→World→Prop)(ha:xD ops=true)
 (h0:∀listed:Array Bool,listed.size=ops.size→(∀i,listed.getD i false=false)→I listed a w)
 (step:∀listed a w,I listed a w→Closed .any ops listed→∀i o,ops[i]? =some o→listed.getD i true=false→(∀e∈o.after,Region.binds .any e=true→listed.getD e.on false=true)→wpOp P ops Q i (fun a' w'=>I (listed.setIfInBounds i true) a' w') a w)
 (fin:∀listed a w,(∀i,i<ops.size→listed.getD i false=true)→I listed a w→Q .normal a w):(Code.region id ops false).wp P Q a w:=by
 have key:∀(m k:Nat),k+m=ops.size→∀(listed:Array Bool) (a:Act) (w:World),listed.size=ops.size→(∀j,j<ops.size→listed.getD j false=decide (j<k))→I listed a w→wpOps P ops Q (List.range' k m) a w:=by
  intro m;induction m with
  |zero=>
   intro k hk listed a w hs hl hI;show Q .normal a w;exact fin listed a w (fun i hi=>by rw[hl i hi];simp;omega) hI
  |succ m ih=>
   intro k hk listed a w hs hl hI;rw[List.range'_succ,wpOps_cons];obtain⟨o,ho⟩:∃o,ops[k]? =some o:=⟨_,Array.getElem?_eq_getElem (by omega)⟩;have kM:Closed .any ops listed:=fun i o' ME hl' e he _=>by
    have hi:i<ops.size:=(Array.getElem?_eq_some_iff.1 ME).1;have h1:=Dy ha ME e he;rw[hl i hi]at hl';simp only[decide_eq_true_eq]at hl';rw[hl e.on (by omega)];simp;omega
   have sI:listed.getD k true=false:=by
    have h2:=hl k (by omega);rw[Array.getD_eq_getD_getElem?]at h2⊢;rw[Array.getElem?_eq_getElem (by omega)]at h2⊢;simpa using h2
   refine wpOp_mono (fun a' w' h'=>ih (k+1) (by omega) _ a' w' (by simpa using hs) (fun j hj=> ?_) h') (step listed a w hI kM k o ho sI (fun e he _=>by
    have h1:=Dy ha ho e he;rw[hl e.on (by omega)];simp;omega))
   by_cases e:k=j
   ·subst e;rw[uy sI];simp
   ·rw[getD_set_ne e,hl j hj];by_cases h:j<k
    ·simp[h];omega
    ·simp[h];omega
 have hz:∀i,(Array.replicate ops.size false).getD i false=false:=fun i=>by
  rw[Array.getD_eq_getD_getElem?,Array.getElem?_replicate];split<;>rfl
 refine wp_region ?_;rw[List.range_eq_range'];exact key ops.size 0 (by omega) (Array.replicate ops.size false) a w (by simp) (fun j hj=>by rw[hz];simp) (h0 _ (by simp) hz)
end
theorem gH{listed:Array Bool}{i j:Nat}(h:listed.getD i false=true→listed.getD j false=true)(hj:listed.getD j true=false):listed.getD i false=false:=by
 cases e:listed.getD i false with
 |false=>rfl
 |true=>
  have:=h e;rw[gN hj]at this;cases this
theorem ZY{P:Program}{Q:Exit→Act→World→Prop}{o:Oper}{K:Act→World→Prop}{a:Act}{w w1:World}{mb:Nat}{key:Int}{val:Value}(t:TypeId)(m x v:Operand)(hop:o.op=.insert t m x v)(hm:a.eval m=.map (some mb))(hx:a.eval x=.int .i64 key)(hv:a.eval v=val)
 (h:(Instr.mapUpdate t (.map (some mb)) (.int .i64 key) val).run P w=.ok () w1) (k:K (a.put o.dst undef) w1):o.wp P a w K Q:=by
 refine wp_skip ?_ k;simp[execOp,hop,hm,hx,hv,h,Result.andThen]
def aQ(B:Nat)(t:Int)(F8:FuncId)(ty:TypeId)(fv:Value)(v:Value)(W:World):Prop:=
 ∃g,v=.agg #[.int .i64 t,.func (.func F8) #[] #[.pointer (some ⟨g,0,none⟩)]]∧B≤g∧aF W g ty #[fv]
theorem aQ.on{B:Nat}{t:Int}{F8:FuncId}{ty:TypeId}{fv v:Value}{A W:World}(h:aQ B t F8 ty fv v A)(o:EG A W):aQ B t F8 ty fv v W:=by
 obtain⟨g,e,h1,h2⟩:=h;exact⟨g,e,h1,o _ _ _ h2⟩
theorem aQ.low{B C:Nat}{t:Int}{F8:FuncId}{ty:TypeId}{fv v:Value}{A:World}(h:aQ B t F8 ty fv v A)(hc:C≤B):aQ C t F8 ty fv v A:=by
 obtain⟨g,e,h1,h2⟩:=h;exact⟨g,e,Nat.le_trans hc h1,h2⟩
theorem j6{P:Program}{w:World}{A:Addr}{u:Value}(h1:w.cell? A=some u)(h2:w.frozen? A=false)(f:FuncId)(cap:Array Value):(store A (.func (.func f) #[] cap)).run P w=.ok () (w.setCell A (.func (.func f) #[] cap)):=by
 rw[run_store P w A _ _ rfl];rw[h1];simp[h2]
theorem mU(t:Int)(fn:Fn)(fa cap:Array Value)(w:World):Calls prog 124 #[.int .i64 t,.func fn fa cap] w fun e w'=>∃v,e=.returned v∧aQ w.heap.size t 149 182 (.func fn fa cap) v w'∧Touch [] w w':=by
 have b:=(aF.new w 182 #[.func fn fa cap]).alloc (.cells #[.int .i64 t,.func (.func 149) #[] #[.pointer (some ⟨w.heap.size,0,none⟩)]] 156);have tt:=((tR w).alloc (.cells #[.func fn fa cap] 182)).alloc (.cells #[.int .i64 t,.func (.func 149) #[] #[.pointer (some ⟨w.heap.size,0,none⟩)]] 156);have bO:=aF.dG (n:=w.heap.size+1) (w.alloc (.cells #[.func fn fa cap] 182)) (by simp) 156 #[.int .i64 t,.nilFunc];have Ah:=j6 (P:=prog) (bO.cell 1) (bO.frozen 1) 149 #[.pointer (some ⟨w.heap.size,0,none⟩)];have HF:=hid (And.intro b tt);have F9:∀(fn:Fn) (first cap:Array Value) (w:World),(Instr.makeFunc fn first cap).run prog w=.ok (.func fn first cap) w:=fun _ _ _ _=>rfl;clear b tt bO;go_enter func124,ntmps124;go_wp2;refine bodyPost_ret (v:=.agg #[.int .i64 t,.func (.func 149) #[] #[.pointer (some ⟨w.heap.size,0,none⟩)]]) ?_ rfl ⟨_,rfl,⟨w.heap.size,rfl,Nat.le_refl _,HF.out.1⟩,HF.out.2⟩;simp[results,Tryz.f124,go_sem]
theorem kg(t:Int)(fn:Fn)(fa cap:Array Value)(w:World):Calls prog 158 #[.int .i64 t,.func fn fa cap] w fun e w'=>∃v,e=.returned v∧aQ w.heap.size t 270 218 (.func fn fa cap) v w'∧Touch [] w w':=by
 have b:=(aF.new w 218 #[.func fn fa cap]).alloc (.cells #[.int .i64 t,.func (.func 270) #[] #[.pointer (some ⟨w.heap.size,0,none⟩)]] 156);have tt:=((tR w).alloc (.cells #[.func fn fa cap] 218)).alloc (.cells #[.int .i64 t,.func (.func 270) #[] #[.pointer (some ⟨w.heap.size,0,none⟩)]] 156);have bO:=aF.dG (n:=w.heap.size+1) (w.alloc (.cells #[.func fn fa cap] 218)) (by simp) 156 #[.int .i64 t,.nilFunc];have Ah:=j6 (P:=prog) (bO.cell 1) (bO.frozen 1) 270 #[.pointer (some ⟨w.heap.size,0,none⟩)];have HF:=hid (And.intro b tt);have F9:∀(fn:Fn) (first cap:Array Value) (w:World),(Instr.makeFunc fn first cap).run prog w=.ok (.func fn first cap) w:=fun _ _ _ _=>rfl;clear b tt bO;go_enter func158,ntmps158;go_wp2;refine bodyPost_ret (v:=.agg #[.int .i64 t,.func (.func 270) #[] #[.pointer (some ⟨w.heap.size,0,none⟩)]]) ?_ rfl ⟨_,rfl,⟨w.heap.size,rfl,Nat.le_refl _,HF.out.1⟩,HF.out.2⟩;simp[results,Tryz.f158,go_sem]
theorem kW(t:Int)(fn:Fn)(fa cap:Array Value)(w:World):Calls prog 176 #[.int .i64 t,.func fn fa cap] w fun e w'=>∃v,e=.returned v∧aQ w.heap.size t 274 223 (.func fn fa cap) v w'∧Touch [] w w':=by
 have b:=(aF.new w 223 #[.func fn fa cap]).alloc (.cells #[.int .i64 t,.func (.func 274) #[] #[.pointer (some ⟨w.heap.size,0,none⟩)]] 156);have tt:=((tR w).alloc (.cells #[.func fn fa cap] 223)).alloc (.cells #[.int .i64 t,.func (.func 274) #[] #[.pointer (some ⟨w.heap.size,0,none⟩)]] 156);have bO:=aF.dG (n:=w.heap.size+1) (w.alloc (.cells #[.func fn fa cap] 223)) (by simp) 156 #[.int .i64 t,.nilFunc];have Ah:=j6 (P:=prog) (bO.cell 1) (bO.frozen 1) 274 #[.pointer (some ⟨w.heap.size,0,none⟩)];have HF:=hid (And.intro b tt);have F9:∀(fn:Fn) (first cap:Array Value) (w:World),(Instr.makeFunc fn first cap).run prog w=.ok (.func fn first cap) w:=fun _ _ _ _=>rfl;clear b tt bO;go_enter func176,ntmps176;go_wp2;refine bodyPost_ret (v:=.agg #[.int .i64 t,.func (.func 274) #[] #[.pointer (some ⟨w.heap.size,0,none⟩)]]) ?_ rfl ⟨_,rfl,⟨w.heap.size,rfl,Nat.le_refl _,HF.out.1⟩,HF.out.2⟩;simp[results,Tryz.f176,go_sem]
theorem iQ(t:Int)(fn:Fn)(fa cap:Array Value)(w:World):Calls prog 182 #[.int .i64 t,.func fn fa cap] w fun e w'=>∃v,e=.returned v∧aQ w.heap.size t 278 215 (.func fn fa cap) v w'∧Touch [] w w':=by
 have b:=(aF.new w 215 #[.func fn fa cap]).alloc (.cells #[.int .i64 t,.func (.func 278) #[] #[.pointer (some ⟨w.heap.size,0,none⟩)]] 156);have tt:=((tR w).alloc (.cells #[.func fn fa cap] 215)).alloc (.cells #[.int .i64 t,.func (.func 278) #[] #[.pointer (some ⟨w.heap.size,0,none⟩)]] 156);have bO:=aF.dG (n:=w.heap.size+1) (w.alloc (.cells #[.func fn fa cap] 215)) (by simp) 156 #[.int .i64 t,.nilFunc];have Ah:=j6 (P:=prog) (bO.cell 1) (bO.frozen 1) 278 #[.pointer (some ⟨w.heap.size,0,none⟩)];have HF:=hid (And.intro b tt);have F9:∀(fn:Fn) (first cap:Array Value) (w:World),(Instr.makeFunc fn first cap).run prog w=.ok (.func fn first cap) w:=fun _ _ _ _=>rfl;clear b tt bO;go_enter func182,ntmps182;go_wp2;refine bodyPost_ret (v:=.agg #[.int .i64 t,.func (.func 278) #[] #[.pointer (some ⟨w.heap.size,0,none⟩)]]) ?_ rfl ⟨_,rfl,⟨w.heap.size,rfl,Nat.le_refl _,HF.out.1⟩,HF.out.2⟩;simp[results,Tryz.f182,go_sem]
theorem dN(t:Int)(fn:Fn)(fa cap:Array Value)(w:World):Calls prog 198 #[.int .i64 t,.func fn fa cap] w fun e w'=>∃v,e=.returned v∧aQ w.heap.size t 281 132 (.func fn fa cap) v w'∧Touch [] w w':=by
 have b:=(aF.new w 132 #[.func fn fa cap]).alloc (.cells #[.int .i64 t,.func (.func 281) #[] #[.pointer (some ⟨w.heap.size,0,none⟩)]] 156);have tt:=((tR w).alloc (.cells #[.func fn fa cap] 132)).alloc (.cells #[.int .i64 t,.func (.func 281) #[] #[.pointer (some ⟨w.heap.size,0,none⟩)]] 156);have bO:=aF.dG (n:=w.heap.size+1) (w.alloc (.cells #[.func fn fa cap] 132)) (by simp) 156 #[.int .i64 t,.nilFunc];have Ah:=j6 (P:=prog) (bO.cell 1) (bO.frozen 1) 281 #[.pointer (some ⟨w.heap.size,0,none⟩)];have HF:=hid (And.intro b tt);have F9:∀(fn:Fn) (first cap:Array Value) (w:World),(Instr.makeFunc fn first cap).run prog w=.ok (.func fn first cap) w:=fun _ _ _ _=>rfl;clear b tt bO;go_enter func198,ntmps198;go_wp2;refine bodyPost_ret (v:=.agg #[.int .i64 t,.func (.func 281) #[] #[.pointer (some ⟨w.heap.size,0,none⟩)]]) ?_ rfl ⟨_,rfl,⟨w.heap.size,rfl,Nat.le_refl _,HF.out.1⟩,HF.out.2⟩;simp[results,Tryz.f198,go_sem]
theorem JW{T:oK}{PV:Nat→Value→World→Prop}{Good:Int→Value→World→Prop}{w0 W:World}{listed:Array Bool}{f:Nat→Value}{o:Oper}{K:Act→World→Prop}{Q:Exit→Act→World→Prop}{a:Act}{m x:Operand}{key:Int}
 (h:jJ T PV Good w0 listed f W) (hs:qB PV Good) (i j:Nat) (hop:o.op=.insert 184 m (.const (.int .i64 key)) x) (hi:T.RU i key=true) (ZX:∀v W,PV i v W) (hm:a.eval m=f T.m) (h0:listed.getD 0 false=true)
 (hx:a.eval x=f (T.at_ j)) (hl:listed.getD j false=true) (hj:j<T.n) (hg:PV j (f (T.at_ j)) W→Good key (f (T.at_ j)) W) (k:∀W',jJ T PV Good w0 (listed.setIfInBounds i true) f W'→K (a.put o.dst undef) W'):o.wp prog a W K Q:=by
 obtain⟨mb,l,em,k1,k2,k3,k4⟩:=h.map h0;obtain⟨W1,hrun,jC,t1⟩:=k2.update (P:=prog) underlying184 underlying3 key (f (T.at_ j));exact ZY _ m (.const (.int .i64 key)) x hop (hm.trans em) rfl hx hrun (k W1 (h.put hs hi ZX em k1 k2 k3 k4 (hg (h.pv j hj hl)) jC t1))
def fH(B:Nat)(t:Int)(b:Nat)(fv:Value)(v:Value)(W:World):Prop:=
 ∃g,B≤g∧aF W g 234 #[fv]∧aQ B t 281 132 (.func (.func 220) #[] #[.pointer (some ⟨b,0,none⟩),.pointer (some ⟨g,0,none⟩)]) v W
theorem fH.on{B:Nat}{t:Int}{b:Nat}{fv v:Value}{A W:World}(h:fH B t b fv v A)(o:EG A W):fH B t b fv v W:=by
 obtain⟨g,h1,h2,h3⟩:=h;exact⟨g,h1,o _ _ _ h2,h3.on o⟩
theorem fH.low{B C:Nat}{t:Int}{b:Nat}{fv v:Value}{A:World}(h:fH B t b fv v A)(hc:C≤B):fH C t b fv v A:=by
 obtain⟨g,h1,h2,h3⟩:=h;exact⟨g,Nat.le_trans hc h1,h2,h3.low hc⟩
def fQ(B:Nat)(n:Int)(b:Nat)(v:Value)(W:World):Prop:=
 ∃g,B≤g∧aF W g 33 #[.int .i64 n]∧aQ B 0 281 132 (.func (.func 223) #[] #[.pointer (some ⟨b,0,none⟩),.pointer (some ⟨g,0,none⟩)]) v W
theorem fQ.on{B:Nat}{n:Int}{b:Nat}{v:Value}{A W:World}(h:fQ B n b v A)(o:EG A W):fQ B n b v W:=by
 obtain⟨g,h1,h2,h3⟩:=h;exact⟨g,h1,o _ _ _ h2,h3.on o⟩
theorem fQ.low{B C:Nat}{n:Int}{b:Nat}{v:Value}{A:World}(h:fQ B n b v A)(hc:C≤B):fQ C n b v A:=by
 obtain⟨g,h1,h2,h3⟩:=h;exact⟨g,Nat.le_trans hc h1,h2,h3.low hc⟩
def iR(B:Nat)(s:Nat)(all:Bool)(v:Value)(W:World):Prop:=
 ∃g1 g2,B≤g1∧B≤g2∧aF W g1 37 #[.pointer (some ⟨s,0,none⟩)]∧aF W g2 4 #[.bool all]∧v=.agg #[.int .i64 2,.func (.func 295) #[] #[.pointer (some ⟨g1,0,none⟩),.pointer (some ⟨g2,0,none⟩)]]
theorem iR.on{B:Nat}{s:Nat}{all:Bool}{v:Value}{A W:World}(h:iR B s all v A)(o:EG A W):iR B s all v W:=by
 obtain⟨g1,g2,h1,h2,h3,h4,h5⟩:=h;exact⟨g1,g2,h1,h2,o _ _ _ h3,o _ _ _ h4,h5⟩
theorem iR.low{B C:Nat}{s:Nat}{all:Bool}{v:Value}{A:World}(h:iR B s all v A)(hc:C≤B):iR C s all v A:=by
 obtain⟨g1,g2,h1,h2,h3,h4,h5⟩:=h;exact⟨g1,g2,Nat.le_trans hc h1,Nat.le_trans hc h2,h3,h4,h5⟩
theorem DC{B:Nat}{t:Int}{F8:FuncId}{ty:TypeId}{fv v:Value}{W:World}(h:aQ B t F8 ty fv v W):∃g,v=.agg #[.int .i64 t,.func (.func F8) #[] #[.pointer (some ⟨g,0,none⟩)]]:=by
 obtain⟨g,e,_⟩:=h;exact⟨g,e⟩
theorem vM(t:Int)(fn:Fn)(fa cap:Array Value)(b:Nat)(w:World):Calls prog 219 #[.int .i64 t,.func fn fa cap,.pointer (some ⟨b,0,none⟩)] w fun e w'=>∃v,e=.returned v∧fH w.heap.size t b (.func fn fa cap) v w'∧Touch [] w w':=by
 have bF:=(aF.new w 234 #[.func fn fa cap]).alloc (.cells #[.int .i64 0,.nilFunc] 156);have bO:=aF.dG (n:=w.heap.size+1) (w.alloc (.cells #[.func fn fa cap] 234)) (by simp) 156 #[.int .i64 0,.nilFunc];have tt:=((tR w).alloc (.cells #[.func fn fa cap] 234)).alloc (.cells #[.int .i64 0,.nilFunc] 156);have F9:∀(fn:Fn) (first cap:Array Value) (w:World),(Instr.makeFunc fn first cap).run prog w=.ok (.func fn first cap) w:=fun _ _ _ _=>rfl;have sz:((w.alloc (.cells #[.func fn fa cap] 234)).alloc (.cells #[.int .i64 0,.nilFunc] 156)).heap.size=w.heap.size+2:=by simp
 go_enter func219,ntmps219;go_upto_region 1 with(fail);generalize (w.alloc (.cells #[.func fn fa cap] 234)).alloc (.cells #[.int .i64 0,.nilFunc] 156)=W0 at*;have HN:=hid (And.intro bF (And.intro bO (And.intro tt sz)));clear bF bO tt sz;go_wp2_with fail;refine(dN t _ _ _ _).mono ?_;rintro _ w1 ⟨v,rfl,hv,t1⟩;obtain⟨g,rfl⟩:=DC hv;have bO:=HN.out.2.1.touch t1 (by simp);have o0:=bO.cell 0;have YX:=bO.frozen 0;have WS:=bO.bJ 0 (.int .i64 t);have Ah:=j6 (P:=prog) (WS.cell 1) (WS.frozen 1) 281 #[.pointer (some ⟨g,0,none⟩)];have Z5:=WS.bJ 1 (.func (.func 281) #[] #[.pointer (some ⟨g,0,none⟩)]);have Z6:w.heap.size+2≤W0.heap.size:=by have:=HN.out.2.2.2;omega
 have hT:=((HN.out.2.2.1.trans t1 (by simp)).setCell (p:=⟨w.heap.size+1,0,none⟩) (.inr (by simp)) (.int .i64 t)).setCell (p:=⟨w.heap.size+1,1,none⟩) (.inr (by simp)) (.func (.func 281) #[] #[.pointer (some ⟨g,0,none⟩)]);have dw:fH w.heap.size t b (.func fn fa cap) (.agg #[.int .i64 t,.func (.func 281) #[] #[.pointer (some ⟨g,0,none⟩)]]) ((w1.setCell ⟨w.heap.size+1,0,none⟩ (.int .i64 t)).setCell ⟨w.heap.size+1,1,none⟩ (.func (.func 281) #[] #[.pointer (some ⟨g,0,none⟩)])):=by
  refine⟨w.heap.size,Nat.le_refl _,((HN.out.1.touch t1 (by simp)).far (by simp) _).far (by simp) _,?_⟩;obtain⟨g',e,h1,h2⟩:=hv;injection e with e;injection e with e;simp at e;subst e;exact⟨g,rfl,by omega,(h2.far (by simp only;omega) _).far (by simp only;omega) _⟩
 have q0:((w1.setCell ⟨w.heap.size+1,0,none⟩ (.int .i64 t)).setCell ⟨w.heap.size+1,1,none⟩ (.func (.func 281) #[] #[.pointer (some ⟨g,0,none⟩)])).cell? ⟨w.heap.size+1,0,none⟩=some (.int .i64 t):=Z5.cell 0;have q1:((w1.setCell ⟨w.heap.size+1,0,none⟩ (.int .i64 t)).setCell ⟨w.heap.size+1,1,none⟩ (.func (.func 281) #[] #[.pointer (some ⟨g,0,none⟩)])).cell? ⟨w.heap.size+1,1,none⟩=some (.func (.func 281) #[] #[.pointer (some ⟨g,0,none⟩)]):=Z5.cell 1;have HF:=hid (And.intro dw hT);clear dw hT hv t1 bO WS Z5 Z6;go_wp2_with fail;refine bodyPost_ret (v:=.agg #[.int .i64 t,.func (.func 281) #[] #[.pointer (some ⟨g,0,none⟩)]]) ?_ rfl ⟨_,rfl,HF.out.1,HF.out.2⟩;simp[results,Tryz.f219,go_sem,q0,q1]
theorem GI(n:Int)(b:Nat)(w:World):Calls prog 222 #[.int .i64 n,.pointer (some ⟨b,0,none⟩)] w fun e w'=>∃v,e=.returned v∧fQ w.heap.size n b v w'∧Touch [] w w':=by
 have bF:=(aF.new w 33 #[.int .i64 n]).alloc (.cells #[.int .i64 0,.nilFunc] 156);have bO:=aF.dG (n:=w.heap.size+1) (w.alloc (.cells #[.int .i64 n] 33)) (by simp) 156 #[.int .i64 0,.nilFunc];have tt:=((tR w).alloc (.cells #[.int .i64 n] 33)).alloc (.cells #[.int .i64 0,.nilFunc] 156);have F9:∀(fn:Fn) (first cap:Array Value) (w:World),(Instr.makeFunc fn first cap).run prog w=.ok (.func fn first cap) w:=fun _ _ _ _=>rfl;have sz:((w.alloc (.cells #[.int .i64 n] 33)).alloc (.cells #[.int .i64 0,.nilFunc] 156)).heap.size=w.heap.size+2:=by simp
 go_enter func222,ntmps222;go_upto_region 1 with(fail);generalize (w.alloc (.cells #[.int .i64 n] 33)).alloc (.cells #[.int .i64 0,.nilFunc] 156)=W0 at*;have HN:=hid (And.intro bF (And.intro bO (And.intro tt sz)));clear bF bO tt sz;go_wp2_with fail;refine(dN 0 _ _ _ _).mono ?_;rintro _ w1 ⟨v,rfl,hv,t1⟩;obtain⟨g,rfl⟩:=DC hv;have bO:=HN.out.2.1.touch t1 (by simp);have o0:=bO.cell 0;have YX:=bO.frozen 0;have WS:=bO.bJ 0 (.int .i64 0);have Ah:=j6 (P:=prog) (WS.cell 1) (WS.frozen 1) 281 #[.pointer (some ⟨g,0,none⟩)];have Z5:=WS.bJ 1 (.func (.func 281) #[] #[.pointer (some ⟨g,0,none⟩)]);have Z6:w.heap.size+2≤W0.heap.size:=by have:=HN.out.2.2.2;omega
 have hT:=((HN.out.2.2.1.trans t1 (by simp)).setCell (p:=⟨w.heap.size+1,0,none⟩) (.inr (by simp)) (.int .i64 0)).setCell (p:=⟨w.heap.size+1,1,none⟩) (.inr (by simp)) (.func (.func 281) #[] #[.pointer (some ⟨g,0,none⟩)]);have dw:fQ w.heap.size n b (.agg #[.int .i64 0,.func (.func 281) #[] #[.pointer (some ⟨g,0,none⟩)]]) ((w1.setCell ⟨w.heap.size+1,0,none⟩ (.int .i64 0)).setCell ⟨w.heap.size+1,1,none⟩ (.func (.func 281) #[] #[.pointer (some ⟨g,0,none⟩)])):=by
  refine⟨w.heap.size,Nat.le_refl _,((HN.out.1.touch t1 (by simp)).far (by simp) _).far (by simp) _,?_⟩;obtain⟨g',e,h1,h2⟩:=hv;injection e with e;injection e with e;simp at e;subst e;exact⟨g,rfl,by omega,(h2.far (by simp only;omega) _).far (by simp only;omega) _⟩
 have q0:((w1.setCell ⟨w.heap.size+1,0,none⟩ (.int .i64 0)).setCell ⟨w.heap.size+1,1,none⟩ (.func (.func 281) #[] #[.pointer (some ⟨g,0,none⟩)])).cell? ⟨w.heap.size+1,0,none⟩=some (.int .i64 0):=Z5.cell 0;have q1:((w1.setCell ⟨w.heap.size+1,0,none⟩ (.int .i64 0)).setCell ⟨w.heap.size+1,1,none⟩ (.func (.func 281) #[] #[.pointer (some ⟨g,0,none⟩)])).cell? ⟨w.heap.size+1,1,none⟩=some (.func (.func 281) #[] #[.pointer (some ⟨g,0,none⟩)]):=Z5.cell 1;have HF:=hid (And.intro dw hT);clear dw hT hv t1 bO WS Z5 Z6;go_wp2_with fail;refine bodyPost_ret (v:=.agg #[.int .i64 0,.func (.func 281) #[] #[.pointer (some ⟨g,0,none⟩)]]) ?_ rfl ⟨_,rfl,HF.out.1,HF.out.2⟩;simp[results,Tryz.f222,go_sem,q0,q1]
theorem Ak(s:Nat)(all:Bool)(w:World):Calls prog 239 #[.pointer (some ⟨s,0,none⟩),.bool all] w fun e w'=>∃v,e=.returned v∧iR w.heap.size s all v w'∧Touch [] w w':=by
 have b1:=((aF.new w 37 #[.pointer (some ⟨s,0,none⟩)]).alloc (.cells #[.bool all] 4)).alloc (.cells #[.int .i64 2,.func (.func 295) #[] #[.pointer (some ⟨w.heap.size,0,none⟩),.pointer (some ⟨w.heap.size+1,0,none⟩)]] 156);have b2:=(aF.dG (n:=w.heap.size+1) (w.alloc (.cells #[.pointer (some ⟨s,0,none⟩)] 37)) (by simp) 4 #[.bool all]).alloc (.cells #[.int .i64 2,.func (.func 295) #[] #[.pointer (some ⟨w.heap.size,0,none⟩),.pointer (some ⟨w.heap.size+1,0,none⟩)]] 156);have bO:=aF.dG (n:=w.heap.size+1+1) ((w.alloc (.cells #[.pointer (some ⟨s,0,none⟩)] 37)).alloc (.cells #[.bool all] 4)) (by simp) 156 #[.int .i64 2,.nilFunc];have Ah:=j6 (P:=prog) (bO.cell 1) (bO.frozen 1) 295 #[.pointer (some ⟨w.heap.size,0,none⟩),.pointer (some ⟨w.heap.size+1,0,none⟩)];have tt:=(((tR w).alloc (.cells #[.pointer (some ⟨s,0,none⟩)] 37)).alloc (.cells #[.bool all] 4)).alloc (.cells #[.int .i64 2,.func (.func 295) #[] #[.pointer (some ⟨w.heap.size,0,none⟩),.pointer (some ⟨w.heap.size+1,0,none⟩)]] 156);have F9:∀(fn:Fn) (first cap:Array Value) (w:World),(Instr.makeFunc fn first cap).run prog w=.ok (.func fn first cap) w:=fun _ _ _ _=>rfl;have HF:=hid (And.intro b1 (And.intro b2 tt));clear b1 b2 tt bO;go_enter func239,ntmps239;go_wp2;refine bodyPost_ret (v:=.agg #[.int .i64 2,.func (.func 295) #[] #[.pointer (some ⟨w.heap.size,0,none⟩),.pointer (some ⟨w.heap.size+1,0,none⟩)]]) ?_ rfl ⟨_,rfl,⟨w.heap.size,w.heap.size+1,Nat.le_refl _,by omega,HF.out.1,HF.out.2.1,rfl⟩,HF.out.2.2⟩;simp[results,Tryz.f239,go_sem]
theorem QU{P:Program}{code:Code}{Q:Exit→Go.Act→World→Prop}{T:Array Value}{d:List Deferred}{w:World}(arr:(Nat→Value)→(Nat→Value)→Array Value)
 (hT:T=arr (fun j=>T.getD j undef) (fun j=>T.getD j undef)) (h:∀g f,code.wp P Q {tmps:=arr g f,defers:=d} w):code.wp P Q {tmps:=T,defers:=d} w:=by
 rw[hT];exact h _ _
section
variable {P:Program} {ops:Array Oper} {Q:Exit→Go.Act→World→Prop}
def FY(ops:Array Oper):Bool:=(List.range ops.size).all fun i=>((ops[i]?).map fun o=>o.after.all fun e=> !Region.binds .any e||decide (e.on<i)).getD true
theorem Me{listed:Array Bool}(hs:listed.size=ops.size)(ha:FY ops=true)(h:Region.ready .any ops listed=[]):∀i,i<ops.size→listed.getD i false=true:=by
 intro i;induction i using Nat.strongRecOn with
 |ind i ih=>
  intro hi;cases e:listed.getD i false with
  |true=>rfl
  |false=>
   have hm:i∈Region.ready .any ops listed:=by
    unfold Region.ready;simp only[List.mem_filter,List.mem_range,Bool.and_eq_true,Bool.not_eq_true'];refine⟨hi,?_,?_⟩
    ·rw[Array.getD_eq_getD_getElem?]at e⊢;rw[Array.getElem?_eq_getElem (by omega)]at e⊢;exact e
    ·obtain⟨o,ho⟩:∃o,ops[i]? =some o:=⟨_,Array.getElem?_eq_getElem hi⟩;rw[ho];simp only[Option.map_some,Option.getD_some,Array.all_eq_true_iff_forall_mem];intro x hx;unfold FY at ha;rw[List.all_eq_true]at ha;have:=ha i (by simpa using hi);rw[ho]at this;simp only[Option.map_some,Option.getD_some,Array.all_eq_true_iff_forall_mem]at this;have h2:=this x hx;cases hb:Region.binds .any x with
     |false=>simp
     |true=>
      rw[hb]at h2;have h3:x.on<i:=by simpa using h2
      rw[ih x.on h3 (by omega)];simp
   rw[h]at hm;cases hm
theorem Ju{id:Nat}{a:Go.Act}{w:World}(I:Array Bool→Go.Act→World→Prop)(hm:P.follows .mixedOrders=true)(ha:FY ops=true)
 (h0:∀listed:Array Bool,listed.size=ops.size→(∀i,listed.getD i false=false)→I listed a w.drew)
 (step:∀listed a w,I listed a w→Closed .any ops listed→∀i o,ops[i]? =some o→listed.getD i true=false→(∀e∈o.after,Region.binds .any e=true→listed.getD e.on false=true)→wpOp P ops Q i (fun a' w'=>I (listed.setIfInBounds i true) a' w') a w)
 (fin:∀listed a w,(∀i,i<ops.size→listed.getD i false=true)→I listed a w→Q .normal a w):(Code.region id ops true).wp P Q a w:=by
 have hz:∀i,(Array.replicate ops.size false).getD i false=false:=fun i=>by
  rw[Array.getD_eq_getD_getElem?];rw[Array.getElem?_replicate];split<;>rfl
 refine wp_region_any hm (xE (fun listed a w=>I listed a w∧Closed .any ops listed) (fun listed a w hs h i hi=> ?_) (fun listed a w hs h hr=>fin listed a w (Me hs ha hr) h.1) _ _ a _ (by simp) ?_ ⟨h0 _ (by simp) hz,fun i o _ h=>by rw[hz]at h;cases h⟩)
 ·obtain⟨h1,h2,h3⟩:=qA hi;obtain⟨o,ho⟩:∃o,ops[i]? =some o:=⟨_,Array.getElem?_eq_getElem h1⟩;exact wpOp_mono (fun a' w' k=>⟨k,h.2.set h3⟩) (step listed a w h.1 h.2 i o ho h2 (h3 o ho))
 ·unfold leftOf;refine Nat.le_trans (List.length_filter_le _ _) (by simp)
end
end Go.Proofs.YtdokeddjcpnmiaaGreatDoor
