/- Of EngineClean: EngShown3 EngLaw EngLaw2 EnClean EngRunC CleanP Args8 ECellP ECellR Rows1S EngTab PrimOpen EngOpen CleanTab. -/
import Derived.Test.YtdokeddjcpnmiaaGreatDoorQEngShown2
import Derived.Test.YtdokeddjcpnmiaaGreatDoorQOpSafe
import Derived.Test.YtdokeddjcpnmiaaGreatDoorCards
import Derived.Test.YtdokeddjcpnmiaaGreatDoorTie
import Derived.Deep.DeepHandedRow
import Derived.Lib.LaidTab
import Derived.Shelf.Vars
import Derived.ChangeSlices
set_option maxRecDepth 100000
set_option maxHeartbeats 3200000
namespace Go.Proofs.YtdokeddjcpnmiaaGreatDoor
open Go.RowKit Go.Proofs.Tryz
open Go.Lib(hid)
namespace En
theorem xS.own{w:World}{base:Nat}{v:Value}{L:List Int}(h:w.ownsRow base 33 1 v L.length (cells L)):xS w v L:=by
 rcases h.2 with⟨e,h0⟩|⟨g,cap,cur,e,_⟩
 ·exact⟨none,0,by rw[e,h0],fun i hi=>by omega⟩
 ·subst e;refine⟨_,cap,rfl,fun i hi=>⟨g,0,rfl,?_⟩⟩;rw[Nat.zero_add];have h2:=h.cells (g:=g) rfl i _ (eH L i hi)
  first
   |exact h2
   |(rw[Addr.add_lit,Nat.zero_add]at h2;exact h2)
theorem ak.state{w:World}{g:Nat}{p:Lay}{F:List Nat}{m:M}(h:ak w g p F m):∃FS,aC w p.s FS m.S:=by
 obtain⟨cv,ev,wv,Ff,FS,FI,hL,_⟩:=h;exact⟨FS,hL.st⟩
theorem XA{w:World}{g:Nat}{p:Lay}{F:List Nat}{m:M}(h:ak w g p F m)(hl:m.S.st.length≤128):Calls prog 26 #[.pointer (some ⟨m.S.k,0,none⟩)] w fun e w'=>∃a c,e=.returned (.slice a m.S.st.length c)∧xS w' (.slice a m.S.st.length c) m.S.st∧Touch [] w w':=by
 obtain⟨FS,hS⟩:=h.state;refine(tM hS hl).mono ?_;rintro e w' ⟨v,rfl,hr,t⟩;have hR:=xS.own hr;obtain⟨a,c,rfl,hc⟩:=hR;exact⟨a,c,rfl,⟨a,c,rfl,hc⟩,t⟩
theorem Ic(x y z:Value)(W:World):(Instr.field 48 (.agg #[x,y,z]) 0).run prog W=.ok x W:=by kernel_rfl
theorem OW(w:World)(ml:Int)(qo:w.cell? ⟨3,0,none⟩=some (.int .i64 ml)):Calls prog 10 #[] w fun e w'=>e=.returned (.bool true)∧Touch [] w w':=by
 have hM:=fJ w;have XB:=hid qo;have lx:=Ic;clear qo;go_enter func10,ntmps10;go_wp2_with fail;refine hM.mono ?_;rintro _ w0 ⟨g,p,F,S,rfl,hE,hF,t0,hn,hst,lj,hh,hout,Ba⟩;have bW:PS.ok S:=⟨by rw[hout];decide,by rw[Ba];decide,by rw[hn];decide,by rw[hn]⟩;have H0:=hid (And.intro (⟨hE,hF,t0⟩:Fh w g p F (M.new S kC) w0) (And.intro hst bW));have bB:=aF.new w0 56 #[.int .u8 1,.int .i64 0,.int .i64 5,.int .u8 15,.int .i64 0,.int .i64 0];have tB:=(tR w0).alloc (.cells #[.int .u8 1,.int .i64 0,.int .i64 5,.int .u8 15,.int .i64 0,.int .i64 0] 56);have Ie:=OL (hE.touch tB (by simp)) (Nat.zero_le _) (Nat.le_of_ble_eq_true rfl) [(1,0,5),(15,0,0)] (by decide) (by intro x hx;simp at hx;rcases hx with rfl|rfl<;>decide) (OT _) (.slice (some ⟨w0.heap.size,0,none⟩) 2 2) (Xz (L:=[(1,0,5),(15,0,0)]) bB 2) (fun b hb=>by
  simp only[rowOf,List.mem_cons,List.not_mem_nil,or_false]at hb;rw[hb];refine⟨by rw[World.size_alloc];omega,fun hx=> ?_⟩;have:=hE.lt _ hx;omega)
 rw[show(((M.new S kC).ends.length:Int)+1)=1 from rfl]at Ie;have Xj:=hid tB;clear hM hE hF t0 hn hst lj hh hout Ba bW bB tB;go_wp2_with fail;refine Ie.mono ?_;rintro _ w1 ⟨rfl,hK⟩;obtain⟨F1,cS,_,_⟩:=(H0.out.1.quiet Xj.out).keep hK;have hAdd:=KA cS.Xy (Nat.le_of_ble_eq_true rfl) 5 1 0 (.inr (.inl ⟨.inl rfl,by decide,by show(1:Int)≤(1:Int);decide⟩)) ml (ah cS.touch XB.out);rw[show(((M.new S kC).laid [(1,0,5),(15,0,0)]).words.length:Int)+1=1 from rfl]at hAdd;have HO1:=hid cS;clear Ie hK cS;go_wp2_with fail;refine hAdd.mono ?_;rintro _ w2 ⟨rfl,hK⟩;obtain⟨F2,mL,_,_⟩:=HO1.out.keep hK;have Zd:=Ht mL.Xy (Nat.le_of_ble_eq_true rfl) 1 (5,1,0) rfl;have HO2:=hid mL;clear hAdd hK mL;go_wp2_with fail;refine Zd.mono ?_;rintro _ w3 ⟨rfl,hK⟩;obtain⟨F3,Wc,_,_⟩:=HO2.out.keep hK;have HO3:Hid (Fh w g p F3 {fZ S with nx:=1} w3):=hid Wc;clear Zd hK Wc;go_wp2_with fail;go_loopw [38,6] (fun iv ov wr=>∃k:Nat,k≤4∧iv=.int .i64 k∧ov=.bool true∧∃F' m',Fh w g p F' m' wr∧aX PS.ok xU m'∧M.run Q9 (4-k) m'=(ran,(fZ S).go 0 0 [5] [])) (fun iv _ _=>4-(intOf iv).toNat)
 case atStart=>exact⟨0,by omega,rfl,rfl,F3,_,HO3.out,KN S H0.out.2.2 H0.out.2.1,OV S H0.out.2.1 0⟩
 case round=>
  obtain⟨k,hk,rfl,rfl,F',m',hO,hR,hr⟩:=hrel;rcases Nat.lt_or_ge k 4 with hlt|ql
  ·have hS:=MW hO.Xy hR hO.new hO.touch;have hr2:(m'.step Q9).1.1=1∧M.run Q9 (4-(k+1)) (m'.step Q9).2=(ran,(fZ S).go 0 0 [5] []):=by
    rw[show 4-k=(4-(k+1))+1 by omega]at hr;unfold M.run at hr;by_cases h1:(m'.step Q9).1.1=1
    ·rw[if_neg (fun h=>h h1)]at hr;exact⟨h1,hr⟩
    ·rw[if_pos h1]at hr;rw[hr]at h1;exact absurd rfl h1
   have I':=hR.step Ib;obtain⟨⟨⟨sa,sb,sc⟩,m2⟩,Wf⟩:∃q,m'.step Q9=q:=⟨_,rfl⟩;rw[Wf]at hS hr2 I';obtain⟨h1,hr2⟩:=hr2;dsimp only at h1
   subst h1;unfold jK at hS;dsimp only at hS
   have HH:=hid (And.intro hO (And.intro I' hr2));clear Wf hr hr2 I' hR hO;go_wp2_with fail;refine hS.mono ?_;rintro _ w5 ⟨rfl,hK⟩;obtain⟨F5,mN,_,_⟩:=HH.out.1.keep hK;have ua:=hid mN;clear hS hK mN;go_wp2_with fail;go_roundw
   case rel=>exact⟨k+1,by omega,nW (by omega),rfl,F5,m2,ua.out,HH.out.2.1,HH.out.2.2⟩
   case measure=>simp only[intOf];omega
  ·obtain rfl:k=4:=by omega
   have e:M.run Q9 (4-4) m'=(ran,m'):=rfl;rw[e]at hr;injection hr with _ hr;have hS:=MW hO.Xy hR hO.new hO.touch;rw[hr]at hO hS;rw[Dw ((fZ S).go 0 0 [5] []) rfl rfl rfl]at hS;unfold jK at hS;dsimp only at hS
   have HH:=hid hO;clear hR hr e hO;go_wp2_with fail;refine hS.mono ?_;rintro _ w5 ⟨rfl,hK⟩;obtain⟨F5,mN,_,_⟩:=HH.out.keep hK;have ug:=sP mN.Xy;have ua:=hid mN;clear hS hK mN;go_wp2_with fail;refine ug.mono ?_;rintro _ _ ⟨rfl,rfl⟩;have ub:=ua.out.Xy.iU;clear ug;go_wp2_with fail;refine ub.mono ?_;rintro _ _ ⟨rfl,rfl⟩;have cT:=XA ua.out.Xy (Nat.le_of_ble_eq_true rfl);rw[show((fZ S).go 0 0 [5] []).S.st.length=1 from rfl]at cT;clear ub;generalize ((fZ S).go 0 0 [5] []).S.k=kk at*;go_wp2_with fail;refine cT.mono ?_;rintro _ w6 ⟨a,c,rfl,ud,t6⟩;have HR6:Hid (xS w6 (.slice a 1 c) [5]):=hid ud;have HT6:=hid (ua.out.touch.trans t6 (by simp));have b7:=aF.new w6 33 #[.int .i64 5];have t7:=(tR w6).alloc (.cells #[.int .i64 5] 33);have Ze:=Xx (.slice a 1 c) (.slice (some ⟨w6.heap.size,0,none⟩) 1 1) [5] _ (HR6.out.quiet t7) (xS.blk (cs:=[5]) b7 1) (by decide);have HT7:=hid (HT6.out.trans t7 (by simp));clear ud t6 b7 t7 cT;go_wp2_with fail;refine Ze.mono ?_;rintro _ w8 ⟨rfl,t8⟩;have HT8:=hid (HT7.out.trans t8 (by simp));clear Ze t8;go_wp2_with fail;go_ret;exact⟨rfl,HT8.out⟩
def sU(B:Nat)(w:World)(v:Value)(L:List (Int×Int×Int)):Prop:=w.ownsRow B 56 3 v L.length (L.flatMap rQ)
def sV(B:Nat)(w:World)(v:Value)(L:List Int):Prop:=w.ownsRow B 33 1 v L.length (cells L)
section
variable {P:Program} {w:World}
end
theorem sU.none(w:World)(B:Nat):sU B w (.slice none 0 0) []:=World.ownsRow_nil _ _ _ _
theorem sV.none(w:World)(B:Nat):sV B w (.slice none 0 0) []:=World.ownsRow_nil _ _ _ _
theorem sU.form{B:Nat}{w:World}{v:Value}{L:List (Int×Int×Int)}(h:sU B w v L):∃a c,v=.slice a L.length c:=by
 rcases Go.Joins.ownsRow_forms h with⟨h1,h0⟩|⟨g,cap,h1⟩
 ·exact⟨.none,0,by rw[h1,h0]⟩
 ·exact⟨_,_,h1⟩
theorem sV.form{B:Nat}{w:World}{v:Value}{L:List Int}(h:sV B w v L):∃a c,v=.slice a L.length c:=by
 rcases Go.Joins.ownsRow_forms h with⟨h1,h0⟩|⟨g,cap,h1⟩
 ·exact⟨.none,0,by rw[h1,h0]⟩
 ·exact⟨_,_,h1⟩
structure One(m:M)(L:List (Int×Int×Int)):Prop where
 code:m.code=gL L
 ends:m.ends=[((2*L.length:Nat):Int)]
 len:L.length≤500
 op:∀x∈L,(0≤x.1∧x.1<256)∧0≤x.2.1∧x.2.1≤1000000
 words:m.words.length≤1000
theorem One.Zg{m:M}{L:List (Int×Int×Int)}(h:One m L):uw m (1:Nat) L:=by
 refine Gw (pre:=[]) (post:=[]) (b:=0) (by decide) ?_ rfl ?_ ?_ rfl (fun x hx=>(h.op x hx).1)
 ·rw[h.ends];exact Nat.le_refl _
 ·rw[h.ends];simp
 ·rw[h.code];simp
theorem One.YU{m:M}{L:List (Int×Int×Int)}(h:One m L)(hl:∀x∈L,x.1≠12∧x.1≠13∧x.1≠14):Ia m:=by
 intro df on op a v ha;have SV:df=1∧0≤on∧on<L.length:=by
  unfold M.at_ at ha;split at ha
  ·cases ha
  ·rename_i hc;rw[h.ends]at hc;have h1:¬df<1:=fun e=>hc (.inl e);have h2:¬(([((2*L.length:Nat):Int)]:List Int).length:Int)<df:=fun e=>hc (.inr (.inl e));simp at h2;obtain rfl:df=1:=by omega
   have hb:m.dU 1=0:=rfl;rw[hb]at hc;have h3:¬on<0:=fun e=>hc (.inr (.inr (.inl e)));have h4:¬((([((2*L.length:Nat):Int)]:List Int).getD ((1:Int)-1).toNat 0-((0:Nat):Int)).tdiv 2≤on):=fun e=>hc (.inr (.inr (.inr e)));have e5:(([((2*L.length:Nat):Int)]:List Int).getD ((1:Int)-1).toNat 0-((0:Nat):Int)).tdiv 2=(L.length:Int):=by
    show(((2*L.length:Nat):Int)-((0:Nat):Int)).tdiv 2=_;rw[Int.tdiv_eq_ediv_of_nonneg (by omega)];omega
   rw[e5]at h4;exact⟨rfl,by omega,by omega⟩
 obtain⟨rfl,h0,h1⟩:=SV;obtain⟨j,rfl⟩:∃j:Nat,on=j:=⟨on.toNat,by omega⟩;have hj:j<L.length:=by omega
 have hd:=h.Zg j L[j] (List.getElem?_eq_getElem hj);have e:some (op,a,v)=some L[j]:=ha.symm.trans hd;injection e with e;have hm:=hl _ (List.getElem_mem hj);rw[←e]at hm;exact hm
theorem One.fine{m:M}{L:List (Int×Int×Int)}(h:One m L)(hst:m.S.st.length≤128)(lQ:m.fr.length≤128)(hI:m.I.outer.length≤8∧m.I.cur.text.size≤1000∧∀o∈m.I.outer,o.text.size≤1000)(bW:PS.ok m.S):dH m:=by
 have hl:=h.len;have hc:m.code.length=2*L.length:=by rw[h.code,nJ]
 refine⟨hst,lQ,hI.1,hI.2,by have:=h.words;omega,by omega,fun x hx=> ?_,by rw[h.ends];exact Nat.le_of_ble_eq_true rfl,bW,fun _ _ h=>h⟩;rw[h.ends,List.mem_singleton]at hx;rw[hx,hc];omega
def O6(l:List (Int×Int×Int)):Bool:=l.all fun x=>decide (x.1=2→1≤x.2.1∧x.2.1≤9)
theorem dE{m:M}(h:O6 m.words=true):vT m:=by
 intro x n v hw;unfold M.word at hw;split at hw
 ·cases hw
 ·have:=List.all_eq_true.1 h _ (List.mem_of_getElem? hw);exact(of_decide_eq_true this) rfl
theorem O7:O6 dM=true:=by kernel_rfl
theorem XI(A B:List (Int×Int×Int))(hA:O6 A=true)(hB:O6 B=true):O6 (A++B)=true:=by
 unfold O6 at hA hB⊢;rw[List.all_append,hA,hB];rfl
theorem O8(m:M)(A:List (Int×Int×Int))(x:Int×Int×Int)(h:m.words=A++[x]):m.word ((A.length:Int)+1)=some x:=by
 unfold M.word;rw[if_neg (by omega),h,show((A.length:Int)+1-1).toNat=A.length by omega];simp
theorem jN:dM.length=180:=by unfold dM;rw[List.length_map,pV]
def base:List Fr:=[uQ 3,tok]
def TN(R:List Fr):Prop:=∀f∈R,f.k≠6∧f.k≠7
def KX(m:M):Prop:=∃R,m.fr=base++R∧TN R
def Inv(m:M):Prop:=∃R,m.fr=base++R∧TN R∧(R=[]→m.nx=0)
def Pre(m:M):Prop:=∃R,R≠[]∧m.fr=base++R∧TN R∧m.nx=0
def Out(r:St×M):Prop:=(r.1.1=1∧Inv r.2)∨(r.1.1=2∧Inv r.2)∨(r.1.1=3∧r.2.fr=base∧r.1.2.1=6)∨(r.1.1=4∧r.2.fr=[]∧r.2.S.st=[])
def Good(r:Int×M):Prop:=(r.1=0→Inv r.2)∧(r.1≠0→KX r.2)
theorem Inv.weak{m:M}(h:Inv m):KX m:=by
 obtain⟨R,h1,h2,_⟩:=h;exact⟨R,h1,h2⟩
theorem Pre.inv{m:M}(h:Pre m):Inv m:=by
 obtain⟨R,h0,h1,h2,_⟩:=h;exact⟨R,h1,h2,fun g=>absurd g h0⟩
theorem KX.fr{m m':M}(h:KX m)(e:m'.fr=m.fr):KX m':=by
 obtain⟨R,h1,h2⟩:=h;exact⟨R,e.trans h1,h2⟩
theorem Pre.fr{m m':M}(h:Pre m)(e:m'.fr=m.fr)(e2:m'.nx=m.nx):Pre m':=by
 obtain⟨R,h0,h1,h2,h3⟩:=h;exact⟨R,h0,e.trans h1,h2,e2.trans h3⟩
theorem Inv.fr{m m':M}(h:Inv m)(e:m'.fr=m.fr)(e2:m'.nx=m.nx):Inv m':=by
 obtain⟨R,h1,h2,h3⟩:=h;exact⟨R,e.trans h1,h2,fun g=>e2.trans (h3 g)⟩
theorem Pre.any{m m':M}(h:Pre m)(e:m'.fr=m.fr):Inv m':=by
 obtain⟨R,h0,h1,h2,_⟩:=h;exact⟨R,e.trans h1,h2,fun g=>absurd g h0⟩
theorem Pre.push{m m':M}{f:Fr}(h:Pre m)(hf:f.k≠6∧f.k≠7)(e:m'.fr=m.fr++[f]):Inv m':=by
 obtain⟨R,h0,h1,h2,_⟩:=h;refine⟨R++[f],by rw[e,h1,List.append_assoc],fun g hg=> ?_,fun g=>by simp at g⟩;rcases List.mem_append.1 hg with hg|hg
 ·exact h2 g hg
 ·simp at hg;subst hg;exact hf
theorem Pre.drop{m m':M}(h:Pre m)(e:m'.fr=m.fr.dropLast)(e2:m'.nx=0):Inv m':=by
 obtain⟨R,h0,h1,h2,_⟩:=h;refine⟨R.dropLast,by rw[e,h1,List.dropLast_append_of_ne_nil h0],fun g hg=>h2 g (List.dropLast_subset R hg),fun _=>e2⟩
theorem Bg:∀(L:List Fr) (f:Fr) (r:List Fr),dP L=some (f,r)→∃q,L=r++f::q
 |[],_,_,h=>by cases h
 |x::l,f,r,h=>by
  unfold dP at h;cases hc:dP l with
  |some y=>
   obtain⟨f',r'⟩:=y;rw[hc]at h;simp at h;obtain⟨rfl,rfl⟩:=h;obtain⟨q,hq⟩:=Bg l f' r' hc;exact⟨q,by rw[hq];rfl⟩
  |none=>
   rw[hc]at h;simp at h;obtain⟨_,rfl,rfl⟩:=h;exact⟨l,rfl⟩
theorem Bh:∀(L:List Fr) (f:Fr) (r:List Fr),dP L=some (f,r)→f.k=5
 |[],_,_,h=>by cases h
 |x::l,f,r,h=>by
  unfold dP at h;cases hc:dP l with
  |some y=>
   obtain⟨f',r'⟩:=y;rw[hc]at h;simp at h;obtain⟨rfl,rfl⟩:=h;exact Bh l f' r' hc
  |none=>
   rw[hc]at h;simp at h;obtain⟨hk,rfl,rfl⟩:=h;exact hk
theorem dS{m:M}(h:KX m)(e:Int):Out (m.throw e):=by
 obtain⟨R,h1,h2⟩:=h;cases hc:dP m.fr with
 |none=>
  rw[nI hc];exact .inr (.inr (.inr ⟨rfl,rfl,rfl⟩))
 |some y=>
  obtain⟨f,r⟩:=y;rw[nH hc];have hk:=Bh _ _ _ hc;obtain⟨q,hq⟩:=Bg _ _ _ hc;rw[h1]at hq;refine .inl ⟨rfl,?_⟩;match r,hq with
  |[],hq=>exact absurd hk (by have:f=uQ 3:=by injection hq with e1 _;exact e1.symm
                              rw[this];decide)
  |[a],hq=>
   injection hq with _ e2;injection e2 with e3 _;exact absurd hk (by rw[←e3];decide)
  |a::b::r',hq=>
   injection hq with e1 e2;injection e2 with e3 e4;refine⟨r',by show a::b::r'=_;rw[←e1,←e3];rfl,fun g hg=>h2 g ?_,fun _=>rfl⟩;rw[show R=r'++f::q from e4];exact List.mem_append_left _ hg
theorem fB{r:Int×M}(h:Good r):Out (M.done r):=by
 unfold M.done;by_cases h0:r.1=0
 ·rw[if_pos h0];exact .inl ⟨rfl,h.1 h0⟩
 ·rw[if_neg h0];exact dS (h.2 h0) _
theorem iV{m:M}(h:Pre m)(n:Int)(do_:List Int→M→Int×M)(hd:∀l m',Pre m'→Good (do_ l m')):Out (m.aM n do_):=by
 unfold M.aM;by_cases h1:n<0
 ·rw[if_pos h1];exact dS h.inv.weak _
 ·rw[if_neg h1];by_cases h2:(m.S.st.length:Int)<n
  ·rw[if_pos h2];exact dS h.inv.weak _
  ·rw[if_neg h2];dsimp only
   have hg:=hd (m.S.st.drop (m.S.st.length-n.toNat)) {m with S:={m.S with st:=m.S.st.take (m.S.st.length-n.toNat)}} (h.fr rfl rfl);generalize do_ (m.S.st.drop (m.S.st.length-n.toNat)) {m with S:={m.S with st:=m.S.st.take (m.S.st.length-n.toNat)}}=r at hg;by_cases h0:r.1=0
   ·rw[if_pos h0];exact .inl ⟨rfl,hg.1 h0⟩
   ·rw[if_neg h0];refine dS ?_ _;split
    ·exact(hg.2 h0).fr rfl
    ·exact hg.2 h0
theorem jE{m:M}{r:Int×M}(h:Pre m)(e:r.2.fr=m.fr):Good r:=⟨fun _=>h.any e,fun _=>h.inv.weak.fr e⟩
theorem sW{m:M}(h:Pre m)(f:Fr)(hf:f.k≠6∧f.k≠7):Good (m.aK f):=by
 unfold M.aK;split
 ·exact⟨fun _=>h.push hf rfl,fun g=>absurd rfl g⟩
 ·exact⟨fun g=>absurd g (show¬((-5:Int)=0) by decide),fun _=>h.inv.weak⟩
theorem DW{m:M}(h:Pre m)(n:Int):Good (m.call n):=by
 unfold M.call;split
 ·exact⟨fun g=>absurd g (show¬((-9:Int)=0) by decide),fun _=>h.inv.weak⟩
 ·have hg:=sW h ⟨1,m.df,m.on,0,0,[]⟩ ⟨show(1:Int)≠6 by decide,show(1:Int)≠7 by decide⟩;dsimp only
  generalize m.aK ⟨1,m.df,m.on,0,0,[]⟩=r at hg;by_cases h0:r.1=0
  ·rw[if_pos h0];exact⟨fun _=>(hg.1 h0).fr rfl rfl,fun g=>absurd rfl g⟩
  ·rw[if_neg h0];exact hg
theorem iW{m:M}(h:Pre m)(x:Int):Good (m.push x):=jE h rfl
theorem Bj{m:M}(h:Pre m)(x:Int):Good (m.named x):=by
 unfold M.named;split
 ·exact jE h rfl
 ·exact jE h rfl
theorem Bl{m m':M}{k:Int}{f:Fr}(h:m.pop k=some (f,m')):m'.fr=m.fr.dropLast∧m'.nx=m.nx∧f=aU m.fr:=by
 unfold M.pop at h;split at h
 ·simp at h;obtain⟨rfl,rfl⟩:=h;exact⟨rfl,rfl,rfl⟩
 ·cases h
theorem Ik{m:M}(h:Pre m):(aU m.fr).k≠6∧(aU m.fr).k≠7:=by
 obtain⟨R,h0,h1,h2,_⟩:=h;obtain⟨q,x,rfl⟩:∃q x,R=q++[x]:=⟨R.dropLast,R.getLast h0,(List.dropLast_concat_getLast h0).symm⟩;rw[h1,←List.append_assoc,rD];exact h2 x (by simp)
theorem Bn{m:M}(h:Pre m):Good m.leave:=by
 unfold M.leave;cases hp:m.pop 3 with
 |none=>exact jE h rfl
 |some y=>
  obtain⟨f,m'⟩:=y;obtain⟨e1,e2,_⟩:=Bl hp;obtain⟨_,_,_,_,hx⟩:=id h;exact⟨fun _=>h.drop e1 (e2.trans hx),fun g=>absurd rfl g⟩
theorem dx{c:Prop} [Decidable c]{x y:St×M}(h1:c→Out x)(h2:¬c→Out y):Out (if c then x else y):=by
 by_cases h:c
 ·rw[if_pos h];exact h1 h
 ·rw[if_neg h];exact h2 h
theorem Il{m:M}(h:Pre m)(n:Int):Out (m.control n):=by
 have hx:m.nx=0:=by obtain⟨_,_,_,_,hx⟩:=h;exact hx
 unfold M.control;refine dx (fun _=> ?_) (fun _=> ?_)
 ·exact iV h 1 _ fun l m' h'=>sW h' _ ⟨show(2:Int)≠6 by decide,show(2:Int)≠7 by decide⟩
 refine dx (fun _=> ?_) (fun _=> ?_)
 ·cases hp:m.pop 2 with
  |none=>exact dS h.inv.weak _
  |some y=>
   obtain⟨f,m'⟩:=y;obtain⟨e1,e2,_⟩:=Bl hp;have hI:Inv m':=h.drop e1 (e2.trans hx);dsimp only
   have X2:Inv (m'.push f.x).2:=hI.fr rfl rfl;refine dx (fun h0=> ?_) (fun h0=> ?_)
   ·exact fB ⟨fun _=>X2,fun g=>absurd h0 g⟩
   ·refine fB ⟨fun g=>absurd g h0,fun _=> ?_⟩;obtain⟨R,r1,r2,_⟩:=X2;have hk:f.k≠6∧f.k≠7:=by
     obtain⟨_,_,e3⟩:=Bl hp;rw[e3];exact Ik h
    show KX ((m'.push f.x).2.aK f).2;unfold M.aK;split
    ·refine⟨R++[f],by show(m'.push f.x).2.fr++[f]=_;rw[r1,List.append_assoc],fun g hg=> ?_⟩;rcases List.mem_append.1 hg with hg|hg
     ·exact r2 g hg
     ·simp at hg;subst hg;exact hk
    ·exact⟨R,r1,r2⟩
 refine dx (fun _=> ?_) (fun _=> ?_)
 ·refine dx (fun _=> ?_) (fun _=> ?_)
  ·exact fB (iW h _)
  ·exact dS h.inv.weak _
 refine dx (fun _=> ?_) (fun _=> ?_)
 ·unfold M.index;refine dx (fun _=> ?_) (fun _=> ?_)
  ·exact fB (iW h _)
  ·exact dS h.inv.weak _
 refine dx (fun _=> ?_) (fun _=> ?_)
 ·unfold M.index;refine dx (fun _=> ?_) (fun _=> ?_)
  ·exact fB (iW h _)
  ·exact dS h.inv.weak _
 refine dx (fun _=> ?_) (fun _=> ?_)
 ·exact fB (Bn h)
 refine dx (fun _=> ?_) (fun _=> ?_)
 ·exact iV h 1 _ fun l m' h'=>Bj h' _
 refine dx (fun _=> ?_) (fun _=> ?_)
 ·refine iV h 1 _ fun l m' h'=> ?_;dsimp only
  have hg:=Bj h' (l.getD 0 0);generalize m'.named (l.getD 0 0)=r at hg;split
  ·exact hg
  ·rename_i h0;have hI:=hg.1 (by simpa using h0);split
   ·exact⟨fun g=>absurd g (show¬((-5:Int)=0) by decide),fun _=>hI.weak.fr rfl⟩
   ·refine⟨fun _=> ?_,fun g=>absurd rfl g⟩;obtain⟨R,r1,r2,_⟩:=hI;refine⟨R++[⟨1,m'.df,m'.on,0,0,[]⟩,⟨5,m'.S.st.length,m'.I.outer.length,m'.I.cur.on,0,[]⟩],?_,fun g hg=> ?_,fun g=>by simp at g⟩
    ·show r.2.fr++_=_;rw[r1,List.append_assoc]
    ·rcases List.mem_append.1 hg with hg|hg
     ·exact r2 g hg
     ·simp at hg;rcases hg with rfl|rfl
      ·exact⟨show(1:Int)≠6 by decide,show(1:Int)≠7 by decide⟩
      ·exact⟨show(5:Int)≠6 by decide,show(5:Int)≠7 by decide⟩
 refine dx (fun _=> ?_) (fun _=> ?_)
 ·exact dS h.inv.weak _
 ·exact fB (jE h rfl)
theorem yU(D:Int→PS→Int×PS){m:M}(h:Pre m)(xt:Int):Out (m.execute D xt):=by
 unfold M.execute;cases m.word xt with
 |none=>exact dS h.inv.weak _
 |some y=>
  obtain⟨k,n,w⟩:=y;dsimp only
  refine dx (fun _=> ?_) (fun _=> ?_)
  ·exact fB (jE h rfl)
  refine dx (fun _=> ?_) (fun _=> ?_)
  ·exact fB (DW h n)
  refine dx (fun _=> ?_) (fun _=> ?_)
  ·exact fB (iW h w)
  refine dx (fun _=> ?_) (fun _=> ?_)
  ·have hg:=iW h w;have bG:Pre (m.push w).2:=h.fr rfl rfl;refine dx (fun _=> ?_) (fun _=> ?_)
   ·exact dS h.inv.weak _
   ·have hc:=DW bG n;generalize (m.push w).2.call n=q at hc;refine dx (fun h0=> ?_) (fun h0=> ?_)
    ·exact .inl ⟨rfl,hc.1 h0⟩
    ·obtain⟨R,r1,r2⟩:=hc.2 h0;exact dS (m:={q.2 with S:={q.2.S with st:=q.2.S.st.dropLast}}) ⟨R,r1,r2⟩ _
  refine dx (fun _=> ?_) (fun _=> ?_)
  ·unfold M.deferred;refine dx (fun _=> ?_) (fun _=> ?_)
   ·exact dS h.inv.weak _
   ·split
    ·exact .inl ⟨rfl,h.any rfl⟩
    ·exact dS h.inv.weak _
  refine dx (fun _=> ?_) (fun _=> ?_)
  ·exact Il h n
  ·exact .inr (.inl ⟨rfl,h.inv⟩)
theorem sZ{m:M}(h:Pre m)(b:Bool)(tw:Int):Good (m.jump b tw):=by
 unfold M.jump;cases b
 ·exact jE h rfl
 ·exact jE h rfl
theorem DX{m:M}(h:Pre m)(k tw:Int):Good (m.loop k tw):=by
 have hx:m.nx=0:=by obtain⟨_,_,_,_,hx⟩:=h;exact hx
 unfold M.loop;split
 ·exact⟨fun g=>absurd g (show¬((-26:Int)=0) by decide),fun _=>h.inv.weak⟩
 ·rename_i hn;dsimp only
  split
  ·exact⟨fun _=>h.drop rfl hx,fun g=>absurd rfl g⟩
  ·refine⟨fun _=> ?_,fun g=>absurd rfl g⟩;obtain⟨R,h0,h1,h2,_⟩:=h;refine⟨R.dropLast++[{aU m.fr with x:=wrap64 ((aU m.fr).x+k)}],?_,fun g hg=> ?_,fun g=>by simp at g⟩
   ·show m.fr.dropLast++_=_;rw[h1,List.dropLast_append_of_ne_nil h0,List.append_assoc]
   ·rcases List.mem_append.1 hg with hg|hg
    ·exact h2 g (List.dropLast_subset R hg)
    ·simp at hg;subst hg;have hk:(aU m.fr).k=3:=Classical.byContradiction fun g=>hn (.inr g);exact⟨by show(aU m.fr).k≠6;rw[hk];decide,by show(aU m.fr).k≠7;rw[hk];decide⟩
theorem DY:∀(L:List Fr) (i:Nat),locals L=some i→i<L.length
 |[],_,h=>by cases h
 |f::r,i,h=>by
  unfold locals at h;split at h
  ·simp at h;subst h;simp
  ·split at h
   ·cases h
   ·have:=DY r i h;rw[List.length_cons];omega
theorem TP(L:List Fr)(i:Nat)(hi:i<L.length)(l:List Int):(L.set i {L.getD i .none with l:=l}).map (·.k)=L.map (·.k):=by
 rw[List.map_set];have:(L.getD i .none).k=(L.map (·.k))[i]'(by simpa using hi):=by
  rw[List.getElem_map,List.getD_eq_getElem?_getD,List.getElem?_eq_getElem hi];rfl
 show(L.map (·.k)).set i (L.getD i .none).k=_;rw[this,List.set_getElem_self]
theorem XO{m m':M}(h:Pre m)(i:Nat)(l:List Int)(hi:2≤i∧i<m.fr.length)(e:m'.fr=m.fr.set i {m.fr.getD i .none with l:=l}):Inv m':=by
 have hk:=TP m.fr i hi.2 l;obtain⟨R,h0,h1,h2,_⟩:=h;obtain⟨y,hy⟩:∃y:Fr,{m.fr.getD i .none with l:=l}=y:=⟨_,rfl⟩;rw[hy]at e hk;have e1:m'.fr=base++R.set (i-2) y:=by
  rw[e,h1,List.set_append_right _ _ (by show 2≤i;exact hi.1)];rfl
 refine⟨_,e1,fun g hg=> ?_,fun g=> ?_⟩
 ·have hm:g.k∈(m.fr).map (·.k):=by
   rw[←hk,←e,e1];exact List.mem_map_of_mem (List.mem_append_right _ hg)
  rw[←e,e1,h1,List.map_append,List.map_append]at hk;have hk2:=List.append_cancel_left hk;have hg2:g.k∈R.map (·.k):=by rw[←hk2];exact List.mem_map_of_mem hg
  obtain⟨x,hx,hxk⟩:=List.mem_map.1 hg2;rw[←hxk];exact h2 x hx
 ·have:=congrArg List.length g;simp at this;exact absurd this h0
theorem Ph{m:M}(h:Pre m)(i:Nat)(hl:locals m.fr.reverse=some i):2≤i∧i<m.fr.length:=by
 have h1:=DY _ _ hl;rw[List.length_reverse]at h1;refine⟨?_,h1⟩;obtain⟨R,h0,e,_,_⟩:=h;rw[e,List.reverse_append]at hl;have key:∀(Q:List Fr) (j:Nat),locals (Q++base.reverse)=some j→2≤j:=by
  intro Q;induction Q with
  |nil=>intro j hj;exact absurd hj (by have:locals ([]++base.reverse)=none:=rfl
                                       rw[this];simp)
  |cons f r ih=>
   intro j hj;have hj:(if f.k=4 then some (r++base.reverse).length else if f.k=1 then none else locals (r++base.reverse))=some j:=hj;by_cases h4:f.k=4
   ·rw[if_pos h4]at hj;simp at hj;subst hj;show 2≤r.length+2;omega
   ·rw[if_neg h4]at hj;by_cases h5:f.k=1
    ·rw[if_pos h5]at hj;cases hj
    ·rw[if_neg h5]at hj;exact ih j hj
 exact key _ _ hl
theorem TQ(D:Int→PS→Int×PS){m:M}(h:Pre m)(op a w:Int):Out (m.does D op a w):=by
 have hx:m.nx=0:=by obtain⟨_,_,_,_,hx⟩:=h;exact hx
 have ue:∀(m':M) (l:List Int),Pre m'→Good (m'.begins l):=fun m' l h'=>sW h' _ ⟨show(3:Int)≠6 by decide,show(3:Int)≠7 by decide⟩;unfold M.does;refine dx (fun _=> ?_) (fun _=> ?_)
 ·exact fB (iW h w)
 refine dx (fun _=> ?_) (fun _=> ?_)
 ·exact yU D h a
 refine dx (fun _=> ?_) (fun _=> ?_)
 ·exact fB (sZ h _ _)
 refine dx (fun _=> ?_) (fun _=> ?_)
 ·exact iV h 1 _ fun l m' h'=>sZ h' _ _
 refine dx (fun _=> ?_) (fun _=> ?_)
 ·exact iV h 2 _ fun l m' h'=>ue m' l h'
 refine dx (fun _=> ?_) (fun _=> ?_)
 ·refine iV h 2 _ fun l m' h'=> ?_;by_cases hq:l.getD 0 0=l.getD 1 0
  ·rw[if_pos hq];exact sZ h' _ _
  ·rw[if_neg hq];exact ue m' l h'
 refine dx (fun _=> ?_) (fun _=> ?_)
 ·exact fB (DX h _ _)
 refine dx (fun _=> ?_) (fun _=> ?_)
 ·exact iV h 1 _ fun l m' h'=>DX h' _ _
 refine dx (fun _=> ?_) (fun _=> ?_)
 ·have hg:=Bn h;refine fB ⟨fun g=> ?_,fun g=> ?_⟩
  ·have g:m.leave.1=0:=g;rw[if_pos g];exact(hg.1 g).fr rfl rfl
  ·have g:m.leave.1≠0:=g;rw[if_neg g];exact h.inv.weak
 refine dx (fun _=> ?_) (fun _=> ?_)
 ·refine iV h 2 _ fun l m' h'=> ?_;by_cases hq:l.getD 0 0=l.getD 1 0
  ·rw[if_pos hq];exact jE h' rfl
  ·rw[if_neg hq];exact sZ (m:=(m'.push (l.getD 0 0)).2) (Pre.fr (m:=m') h' rfl rfl) _ _
 refine dx (fun _=> ?_) (fun _=> ?_)
 ·exact iV h 1 _ fun l m' h'=>jE h' rfl
 refine dx (fun _=> ?_) (fun _=> ?_)
 ·exact iV h a _ fun l m' h'=>sW h' _ ⟨show(4:Int)≠6 by decide,show(4:Int)≠7 by decide⟩
 refine dx (fun _=> ?_) (fun _=> ?_)
 ·split
  ·exact dS h.inv.weak _
  ·split
   ·exact fB (iW h _)
   ·exact dS h.inv.weak _
 refine dx (fun _=> ?_) (fun _=> ?_)
 ·refine iV h 1 _ fun l m' h'=> ?_;cases hl:locals m'.fr.reverse with
  |none=>exact jE h' rfl
  |some i=>
   dsimp only
   split
   ·exact⟨fun _=>XO h' i _ (Ph h' i hl) rfl,fun g=>absurd rfl g⟩
   ·exact jE h' rfl
 ·refine .inl ⟨rfl,?_⟩;split
  ·exact h.drop rfl hx
  ·exact h.any rfl
theorem TR(D:Int→PS→Int×PS){m:M}(h:Inv m):Out (m.step D):=by
 obtain⟨R,h1,h2,h3⟩:=h;unfold M.step;by_cases hx:m.nx≠0
 ·rw[if_pos hx];exact yU D (m:={m with nx:=0}) ⟨R,fun g=>hx (h3 g),h1,h2,rfl⟩ _
 ·rw[if_neg hx];have hx:m.nx=0:=by simpa using hx
  by_cases hR:R=[]
  ·subst hR;have ht:aU m.fr=tok:=by rw[h1];rfl
   rw[if_pos (.inl (by rw[ht];rfl))];exact .inr (.inr (.inl ⟨rfl,by rw[h1];rfl,by rw[ht];rfl⟩))
  ·have hP:Pre m:=⟨R,hR,h1,h2,hx⟩;have hk:=Ik hP;rw[if_neg (by rintro(g|g);exact hk.1 g;exact hk.2 g)];split
   ·unfold M.returns;split
    ·rename_i g;rw[h1]at g;simp[base]at g
    ·split
     ·exact .inl ⟨rfl,(hP.drop (m':={m with fr:=m.fr.dropLast,df:=(aU m.fr).a,on:=(aU m.fr).b}) rfl hx)⟩
     ·split
      ·dsimp only
       split
       ·exact .inl ⟨rfl,hP.drop (m':={(m.push 0).2 with fr:=(m.push 0).2.fr.dropLast}) rfl hx⟩
       ·exact fB (iW hP 0)
      ·exact dS hP.inv.weak _
   ·split
    ·exact dS hP.inv.weak _
    ·exact TQ D (m:={m with on:=m.on+1}) (hP.fr rfl rfl) _ _ _
def K8(S:PS):Prop:=PS.ok S∧S.n=1024
theorem QO{w wB:World}{g:Nat}{p:Lay}{F:List Nat}{m:M}(hT:zF wB)(h:ak w g p F m)(hf:aZ K8 m)(nV:∀x∈F,wB.heap.size≤x)(tB:Touch [] wB w)(hc:iE m)(E9:vT m)(hloc:XM m)(hI:∀D,Out (m.step D))(n:Nat)(h0:0<n)(hn:n≤1000000):
 Calls prog 20 #[.pointer (some ⟨g,0,none⟩),.int .i64 n] w (Tc w g p F fun s m'=>Out (s,m')):=by
 have SQ:pK K8 (aD wB hT):=fun op S h1 h2=>by
  obtain⟨k1,k2⟩:=(Js wB hT op).fine S h1 h2.1;exact⟨k1,k2,by rw[(Js wB hT op).n];exact h2.2⟩
 have hDo:pK PS.ok (aD wB hT):=fun op S h1 h2=>(Js wB hT op).fine S h1 h2;refine Xl (fun k m'=>aX K8 M4 m'∧iE m'∧(∀D,Out (m'.step D))∧(k=0→Inv m')) _ ?_ ?_ h nV tB n hn ⟨hf.rest (M4.of E9 hloc),hc,hI,fun e=>by omega⟩
 ·intro k m1 ⟨hR,hC,hV,_⟩ W F1 hE hF1 t1;have Wt:=hR.fine;have FZ:dH m1:=⟨Wt.st,Wt.fr,Wt.ins,Wt.text,Wt.words,Wt.code,Wt.ends,Wt.CG,Wt.ok.1,fun _ _ h=>h⟩;obtain⟨hc1,YT⟩:=hR.rest m1 rfl rfl rfl;have hD:∀x,S9 m1 x→Oz wB (aD wB hT) p.s m1.S x:=fun x _ W' F' hS hF' t'=>(Js wB hT x).do_ W' p.s F' m1.S hS hF' t' FZ.ok Wt.ok.2 FZ.st hC.st;have hL:Ta (aD wB hT) g p F1 m1:=Pg FZ fun a v ha=>YT _ _ _ _ ha;obtain⟨FS,FK,ov,mv,hP,_⟩:=hE.state;have CD:B6 (aD wB hT) m1.S:=fun op=>(Js wB hT op).Lq m1.S hC.st FZ.st hP.mem.byte (Nat.le_trans hP.mem.low hP.mem.small) FZ.ok.2.1;have hO:=hV (aD wB hT);refine(Ho hE FZ hF1 t1 hDo hD hc1 hL).mono ?_;rintro e w' ⟨he,hK⟩;refine⟨_,_,he,hK,?_⟩;by_cases h1:(m1.step (aD wB hT)).1.1=1
  ·refine .inl ⟨h1,hR.step SQ,iE.step CD hC,?_⟩;suffices hI:Inv (m1.step (aD wB hT)).2 from⟨fun D=>TR D hI,fun _=>hI⟩
   rcases hO with h|h|h|h
   ·exact h.2
   ·exact h.2
   ·rw[h.1]at h1;exact absurd h1 (by decide)
   ·rw[h.1]at h1;exact absurd h1 (by decide)
  ·exact .inr ⟨h1,hO⟩
 ·intro m1 ⟨_,_,_,hV⟩;exact .inl ⟨rfl,hV rfl⟩
theorem One.N3{m:M}{L:List (Int×Int×Int)}(h:One m L)(hl:∀x∈L,x.1=12→x.2.1≤16):XM m:=by
 intro df on a v ha;have SV:df=1∧0≤on∧on<L.length:=by
  unfold M.at_ at ha;split at ha
  ·cases ha
  ·rename_i hc;rw[h.ends]at hc;have h1:¬df<1:=fun e=>hc (.inl e);have h2:¬(([((2*L.length:Nat):Int)]:List Int).length:Int)<df:=fun e=>hc (.inr (.inl e));simp at h2;obtain rfl:df=1:=by omega
   have hb:m.dU 1=0:=rfl;rw[hb]at hc;have h3:¬on<0:=fun e=>hc (.inr (.inr (.inl e)));have h4:¬((([((2*L.length:Nat):Int)]:List Int).getD ((1:Int)-1).toNat 0-((0:Nat):Int)).tdiv 2≤on):=fun e=>hc (.inr (.inr (.inr e)));have e5:(([((2*L.length:Nat):Int)]:List Int).getD ((1:Int)-1).toNat 0-((0:Nat):Int)).tdiv 2=(L.length:Int):=by
    show(((2*L.length:Nat):Int)-((0:Nat):Int)).tdiv 2=_;rw[Int.tdiv_eq_ediv_of_nonneg (by omega)];omega
   rw[e5]at h4;exact⟨rfl,by omega,by omega⟩
 obtain⟨rfl,h0,h1⟩:=SV;obtain⟨j,rfl⟩:∃j:Nat,on=j:=⟨on.toNat,by omega⟩;have hj:j<L.length:=by omega
 have hd:=h.Zg j L[j] (List.getElem?_eq_getElem hj);have e:some ((12:Int),a,v)=some L[j]:=ha.symm.trans hd;injection e with e;have hm:=hl _ (List.getElem_mem hj);have ho:=(h.op _ (List.getElem_mem hj)).2.1;rw[←e]at hm ho;exact⟨ho,Int.le_trans (hm rfl) (by decide)⟩
def Jt(S:PS)(L:List (Int×Int×Int)):M:={({M.new S kC with words:=dM}:M).laid L with words:=dM++[(5,1,0)]}
def Md(S:PS)(L:List (Int×Int×Int))(y:List Int):M:={Jt S L with nx:=181,fr:=base,S:={S with st:=y}}
theorem Nr(S:PS)(L:List (Int×Int×Int)):(Jt S L).word 181=some (5,1,0):=by
 have h:=O8 (Jt S L) dM (5,1,0) rfl;rw[jN]at h;exact h
theorem VX(S:PS)(L:List (Int×Int×Int))(y:List Int)(hl:L.length≤60)(hop:∀x∈L,(0≤x.1∧x.1<256)∧0≤x.2.1∧x.2.1≤1000000):One (Md S L y) L:=by
 refine⟨by show []++gL L=_;rw[List.nil_append],by show []++[_]=_;rw[List.nil_append,show({M.new S kC with words:=dM}:M).code.length=0 from rfl,Nat.zero_add],by omega,hop,?_⟩;show(dM++[((5:Int),(1:Int),(0:Int))]).length≤1000;rw[List.length_append,jN];decide
theorem YQ(S:PS)(L:List (Int×Int×Int))(y:List Int)(hl:L.length≤60)(hop:∀x∈L,(0≤x.1∧x.1<256)∧0≤x.2.1∧x.2.1≤1000000)(hy:y.length≤20)(bW:K8 S):aZ K8 (Md S L y):=by
 have h:=(VX S L y hl hop).fine (by show y.length≤128;omega) (Nat.le_of_ble_eq_true rfl) ⟨Nat.le_of_ble_eq_true rfl,Nat.le_of_ble_eq_true rfl,by intro o ho;cases ho⟩ bW.1;exact⟨h.st,h.fr,h.ins,h.text,h.words,h.code,h.ends,h.CG,bW,fun _ _ h=>h⟩
theorem xT(S:PS)(L:List (Int×Int×Int))(y:List Int)(hop:∀x∈L,(0≤x.1∧x.1<256)∧0≤x.2.1∧x.2.1≤1000000)(hv:∀x∈L,au x.2.2)(hy:All64 y):iE (Md S L y):=by
 refine⟨hy,fun f hf=> ?_,fun u hu=> ?_,fun x hx=> ?_⟩
 ·have hf:f∈base:=hf;simp only[base,List.mem_cons,List.not_mem_nil,or_false]at hf;rcases hf with rfl|rfl
  ·exact⟨fun _=>⟨by decide,by decide⟩,fun _ h=>by cases h⟩
  ·exact⟨fun _=>⟨by decide,by decide⟩,fun _ h=>by cases h⟩
 ·have hu:u∈dM++[((5:Int),(1:Int),(0:Int))]:=hu;rcases List.mem_append.1 hu with hu|hu
  ·obtain⟨z,_,rfl⟩:=List.mem_map.1 hu;exact c64_0
  ·rw[List.mem_singleton.1 hu];exact c64_0
 ·have hx:x∈gL L:=hx;obtain⟨u,hu,hx⟩:=List.mem_flatMap.1 hx;simp only[enc,List.mem_cons,List.not_mem_nil,or_false]at hx;rcases hx with rfl|rfl
  ·have:=hop u hu;unfold au;omega
  ·exact hv u hu
theorem kp(S:PS)(L:List (Int×Int×Int))(y:List Int)(D:Int→PS→Int×PS):Out ((Md S L y).step D):=by
 rw[xA (show(181:Int)≠0 by decide)];have hw:({Md S L y with nx:=0}:M).word 181=some (5,1,0):=Nr S L;show Out (({Md S L y with nx:=0}:M).execute D 181);unfold M.execute;rw[hw];dsimp only
 rw[if_neg (by decide),if_pos rfl];exact fB ⟨fun _=>⟨[⟨1,0,0,0,0,[]⟩],rfl,fun f hf=>by rw[List.mem_singleton.1 hf];exact⟨show(1:Int)≠6 by decide,show(1:Int)≠7 by decide⟩,fun h=>by cases h⟩,fun h=>absurd rfl h⟩
theorem kt{w:World}{g:Nat}{p:Lay}{F:List Nat}{m:M}(h:ak w g p F m){cv:Value}{l:List Int}(hc:bH w cv l)(hl:m.S.st.length+l.length≤128):Calls prog 16 #[.pointer (some ⟨m.S.k,0,none⟩),cv] w fun e w'=>
 e=.returned (.int .i64 0)∧Keep w g p F {m with S:={m.S with st:=m.S.st++l}} w':=by
 obtain⟨dv,ev,wv,Ff,FS,FI,h,rfl⟩:=h;obtain⟨FK,ov,mv,hp,e⟩:=h.st;refine(jc w _ _ _ hp.iO cv l hc hl).mono ?_;rintro _ w1 ⟨F',rfl,hk,t,s⟩;exact⟨rfl,h.iO hp e hk t s⟩
def kJ(s:Nat)(k:Nat)(g:Nat)(a:Option Addr)(n c q:Nat):List (Nat×Nat×Value):=[(0,41,.pointer (some ⟨g,0,none⟩)),(1,42,.pointer (some ⟨s,0,none⟩)),(2,43,.pointer (some ⟨k,0,none⟩)),(3,44,.slice a n c),(4,45,.slice a n c),(5,46,.int .i64 n),(6,47,.int .i64 q),(7,48,.slice a q c),(8,49,.int .i64 0)]
def ZJ(w:World)(lv:Value):Prop:=∃(a:Option Addr) (n c k:Nat) (L:List (Int×Int×Int)),lv=.slice a n c∧min (n:Int) 60=(k:Int)∧k≤60∧k≤c∧L.length=k∧(∀x∈L,(0≤x.1∧x.1<256)∧au x.2.2)∧(∀W,Touch [] w W→mK W (.slice a k c) L)∧(0<k→∀b∈rowOf (.slice a k c),b<w.heap.size)
end En
def QS(w:World)(v:Value)(l:List Int):Prop:=
 (v=.slice none 0 0∧l=[])∨∃ad c,v=.slice (some ad) l.length c∧l.length≤c∧c≤9223372036854775807∧∀j u,(cells l)[j]? =some u→w.cell? (ad.add j)=some u
theorem QS.take{w w':World}{ad:Addr}{l:List Int}(h:∀j u,(cells l)[j]? =some u→w.cell? (ad.add j)=some u)(t:Touch [] w w')(k c:Nat)(hk:k≤l.length):bH w' (.slice (some ad) k c) (l.take k):=by
 refine .inr ⟨ad,c,by rw[List.length_take,Nat.min_eq_left hk],fun j u hj=>ah t (h j u ?_)⟩;unfold cells at hj⊢;rw[List.map_take,List.getElem?_take]at hj;split at hj
 ·exact hj
 ·cases hj
theorem QS.x6{w:World}{v:Value}{l:List Int}(h:QS w v l)(N:Nat):∃(a:Option Addr) (n c k:Nat),v=.slice a n c∧min (n:Int) (N:Int)=(k:Int)∧k≤N∧k≤c∧(l.take N).length=k∧∀w',Touch [] w w'→bH w' (.slice a k c) (l.take N):=by
 rcases h with⟨rfl,rfl⟩|⟨ad,c,rfl,h1,_,h2⟩
 ·exact⟨none,0,0,0,rfl,by omega,by omega,by omega,by simp,fun w' _=>.inl ⟨rfl,by simp⟩⟩
 ·refine⟨some ad,l.length,c,min l.length N,rfl,by omega,Nat.min_le_right _ _,by omega,by rw[List.length_take,Nat.min_comm],fun w' t=> ?_⟩;have:=QS.take h2 t (min l.length N) c (Nat.min_le_left _ _);rw[show l.take (min l.length N)=l.take N from by
   rcases Nat.le_total l.length N with h|h
   ·rw[Nat.min_eq_left h,List.take_of_length_le (Nat.le_refl _),List.take_of_length_le h]
   ·rw[Nat.min_eq_right h]]at this
  exact this
namespace En
structure QT(w:World)(g:Nat)(p:Lay)(m:M)(LC:List (Int×Int×Int))(LW:List Int)(cv wv:Value)(wr:World):Prop where
 Xy:∃F',ak wr g p F' m∧(∀x∈F',w.heap.size≤x)∧(∀x∈rowOf cv,x∉F')∧∀x∈rowOf wv,x∉F'
 code:sU w.heap.size wr cv LC
 want:sV w.heap.size wr wv LW
 off:∀x∈rowOf cv,x∉rowOf wv
 touch:Touch [] w wr
section
variable {w wr w2 Wm:World} {g:Nat} {p:Lay} {m m2:M} {LC X:List (Int×Int×Int)} {LW LW':List Int} {cv wv v':Value}
theorem Cj{B:Nat}{W:World}{e:TypeId}{s n:Nat}{v:Value}{xs:List Value}(h:W.ownsRow B e s v n xs):∀x∈rowOf v,B≤x∧x<W.heap.size:=fun x hx=>World.ownsRow.lt h x (aB.1 hx)
theorem QT.quiet(h:QT w g p m LC LW cv wv wr)(t:Touch [] wr w2):QT w g p m LC LW cv wv w2:=by
 obtain⟨⟨F',h1,h2,h3,h4⟩,h5,h6,h7,h8⟩:=h;exact⟨⟨F',h1.touch t (by simp),h2,h3,h4⟩,aj h5 t (by simp),aj h6 t (by simp),h7,h8.trans t (by simp)⟩
theorem QT.call(h:QT w g p m LC LW cv wv wr):∃F',ak wr g p F' m∧(∀x∈F',w.heap.size≤x)∧(∀b∈rowOf cv,b<wr.heap.size∧b∉F')∧∀m2 w2,Keep wr g p F' m2 w2→QT w g p m2 LC LW cv wv w2:=by
 obtain⟨⟨F',h1,h2,h3,h4⟩,h5,h6,h7,h8⟩:=h;refine⟨F',h1,h2,fun x hx=>⟨(Cj h5 x hx).2,h3 x hx⟩,fun m2 w2 ⟨F2,k1,k2,k3⟩=>⟨⟨F2,k1,fun x hx=> ?_,fun x hx hF=> ?_,fun x hx hF=> ?_⟩,aj h5 k2 h3,aj h6 k2 h4,h7,h8.trans k2 (fun x hx=>.inr (h2 x hx))⟩⟩
 ·rcases k3 x hx with e|e
  ·exact h2 x e
  ·exact Nat.le_trans h8.size e
 ·rcases k3 x hF with e|e
  ·exact h3 x hx e
  ·have:=(Cj h5 x hx).2;omega
 ·rcases k3 x hF with e|e
  ·exact h4 x hx e
  ·have:=(Cj h6 x hx).2;omega
end
end En
theorem laidOut:laidOutB prog=true:=by kernel_rfl
section
open Go.ChangeShapes Go.WideShapes Go.ChangeAt Go.RowKit
theorem pJ:ownKnob prog.godebug=none:=by kernel_rfl
theorem V3{W:World}(h:W.ShapedOpen prog):∃mx,W.cell? ⟨3,0,none⟩=some (.int .i64 mx):=
 Go.Proofs.cell_of_shapedOpen_int (zero:= #[.int .i64 0]) (t:=3) h (of_decide_eq_true (by kernel_rfl)) (by kernel_rfl) rfl (by kernel_rfl) (by kernel_rfl) underlying3
def Pa:DataW Unit→List Value
 | .lit (.int k n)=>[.int k n]
 |_=>[]
def V4:DataW Unit→List Value
 | .agg xs=>xs.flatMap Pa
 |_=>[]
def Pc:DataW Unit→List Value
 | .agg xs=>xs.flatMap V4
 |_=>[]
def putCells(vs:Array Value):Obj→Obj
 | .cells _ t frozen=>.cells vs t frozen
 |o=>o
noncomputable def yD(os:Os):World:=
 {World.holding prog os ⟨#[],#[],[]⟩with heap:=(((((World.holding prog os ⟨#[],#[],[]⟩).heap.modify 8 (putCells (V4 Rows.laid_math_bits_deBruijn32tab).toArray)).modify 4 (putCells (V4 Rows.laid_math_bits_deBruijn64tab).toArray)).modify 7 (putCells (V4 Rows.laid_internal_strconv_uint64pow10).toArray)).modify 6 (putCells (Pc Rows.laid_unicode_utf8_acceptRanges).toArray)).modify 5 (putCells (V4 Rows.laid_unicode_utf8_first).toArray)}
end
section
open Go.ChangeShapes Go.WideShapes Go.ChangeAt Go.RowKit
section
variable {H:Type} {enc:TypeId×Value→H} {P:Program} {w:World}
theorem wf_u8{n:Int}(h:(Lit.int .u8 n).wf=true):0≤n∧n≤255:=by simpa[Lit.wf,IntKind.min,IntKind.max,IntKind.signed,IntKind.bits]using h
theorem wf_i64{n:Int}(h:(Lit.int .i64 n).wf=true): -9223372036854775808≤n∧n≤9223372036854775807:=by simpa[Lit.wf,IntKind.min,IntKind.max,IntKind.signed,IntKind.bits]using h
end
section
variable {H:Type} {enc:TypeId×Value→H} {P:Program} {w:World} {base:Nat} {spare:Nat→Bool} {held:Bool}
theorem QV{t0 t1:TypeId}{args:Array Value}{ds:List (DataW H)}{ps:List MemPlace}(h:DataW.TrodAll enc P w base spare held [t0,t1] args.toList ds ps):
 ∃v0 v1 d0 d1 p0 p1,args= #[v0,v1]∧ds=[d0,d1]∧ps=p0++p1∧DataW.Trod enc P w base spare held t0 v0 d0 p0∧DataW.Trod enc P w base spare held t1 v1 d1 p1:=by
 obtain⟨v0,r0,d0,e0,p0,q0,ym,rfl,rfl,h0,k0⟩:=trodAll_cons h;obtain⟨v1,r1,d1,e1,p1,q1,rfl,rfl,rfl,h1,k1⟩:=trodAll_cons k0;obtain⟨rfl,rfl,rfl⟩:=trodAll_nil k1;exact⟨v0,v1,d0,d1,p0,p1,by cases args;simp_all,rfl,by simp,h0,h1⟩
theorem nt{t0 t1 t2:TypeId}{args:Array Value}{ds:List (DataW H)}{ps:List MemPlace}(h:DataW.TrodAll enc P w base spare held [t0,t1,t2] args.toList ds ps):
 ∃v0 v1 v2 d0 d1 d2 p0 p1 p2,args= #[v0,v1,v2]∧ds=[d0,d1,d2]∧ps=p0++(p1++p2)∧DataW.Trod enc P w base spare held t0 v0 d0 p0∧DataW.Trod enc P w base spare held t1 v1 d1 p1∧DataW.Trod enc P w base spare held t2 v2 d2 p2:=by
 obtain⟨v0,r0,d0,e0,p0,q0,ym,rfl,rfl,h0,k0⟩:=trodAll_cons h;obtain⟨v1,r1,d1,e1,p1,q1,rfl,rfl,rfl,h1,k1⟩:=trodAll_cons k0;obtain⟨v2,r2,d2,e2,p2,q2,rfl,rfl,rfl,h2,k2⟩:=trodAll_cons k1;obtain⟨rfl,rfl,rfl⟩:=trodAll_nil k2;exact⟨v0,v1,v2,d0,d1,d2,p0,p1,p2,by cases args;simp_all,rfl,by simp,h0,h1,h2⟩
end
end
section
open Go.ChangeShapes Go.WideShapes Go.ChangeAt Go.RowKit
section
variable {H:Type} {enc:TypeId×Value→H} {P:Program} {w:World}
theorem QW{t e:TypeId}{v:Value}{d:DataW H}{p:List MemPlace}{b0:Nat}(ht:P.underlying t=some (.slice e))(he:P.underlying e=some (.int .i64))(hc:P.cellsOf e=1)
 (hv:Value.okWide P w .any b0 t v) (h:DataW.Trod enc P w 0 (fun _=>true) true t v d p):∃l,QS w v l∧∀n∈l,(Lit.int .i64 n).wf=true:=by
 obtain⟨a0,len,cap,rfl⟩:=okWide_slice ht hv;obtain⟨fuel,hf⟩:=h;rcases open_ints ht he hc hf with⟨hcs,hx⟩|⟨a,len',cap',zs,hcs,_,hl,hm,hz,hx,hcell,hws⟩
 ·simp[Value.cells]at hcs;obtain⟨rfl,rfl,rfl⟩:=hcs;exact⟨[],.inl ⟨rfl,rfl⟩,by simp⟩
 ·simp[Value.cells]at hcs;obtain⟨rfl,rfl,rfl⟩:=hcs;simp only[if_true]at hz;have hlen:(zs.take len).length=len:=by rw[List.length_take];omega
  refine⟨zs.take len,.inr ⟨a,cap,by rw[hlen],by omega,by unfold maxLen at hm;exact hm,fun j u hj=> ?_⟩,fun n hn=>hws n (List.mem_of_mem_take hn)⟩;unfold cells at hj;rw[List.getElem?_map]at hj;obtain⟨x,hx1,rfl⟩:=Option.map_eq_some_iff.1 hj;have Pr:j<len:=by
   rw[←hlen];rcases Nat.lt_or_ge j (zs.take len).length with h'|h'
   ·exact h'
   ·rw[List.getElem?_eq_none h']at hx1;cases hx1
  rw[hcell j (by omega)];rw[List.getElem?_take,if_pos Pr]at hx1;rw[List.getD_eq_getElem?_getD,hx1];rfl
end
section
variable {H:Type} {enc:TypeId×Value→H} {P:Program} {w:World} {base:Nat} {spare:Nat→Bool} {held:Bool}
end
end
section
open Go.ChangeShapes Go.WideShapes Go.ChangeAt Go.RowKit
theorem g64:prog.globalNamed "math/bits.deBruijn64tab" =some 4:=by kernel_rfl
theorem t64:(prog.globals[4]?).map (·.type)=some 286:=by kernel_rfl
theorem Lq:prog.cellsOf 286=64:=by kernel_rfl
theorem Ps:prog.globalNamed "internal/strconv.uint64pow10" =some 7:=by kernel_rfl
theorem Pu:(prog.globals[7]?).map (·.type)=some 302:=by kernel_rfl
theorem PA:prog.cellsOf 302=20:=by kernel_rfl
theorem cU8:prog.cellsOf 5=1:=by kernel_rfl
theorem PB:prog.cellsOf 195=1:=by kernel_rfl
theorem Ez{P:Program}{x:String×DataW Unit}{l:List (String×DataW Unit)}{w:World}(h:laidMet P (x::l) w):laidMet P l w:=by
 obtain⟨n,d⟩:=x;obtain⟨ps,⟨g,t,cs,fuel,p,q,e1,e2,e3,e4,hr,rfl⟩,hnd,M0⟩:=h;exact⟨q,hr,(List.nodup_append.1 hnd).2.1,fun b off hp=>M0 b off (List.mem_append_right _ hp)⟩
theorem tabs{W:World}{rest:List (String×DataW Unit)}(h:laidMet prog (("math/bits.deBruijn32tab",Rows.laid_math_bits_deBruijn32tab)::("math/bits.deBruijn64tab",Rows.laid_math_bits_deBruijn64tab)::("internal/strconv.uint64pow10",Rows.laid_internal_strconv_uint64pow10)::rest) W):zF W:=by
 have h2:=Ez h;have h3:=Ez h2;have e64:Lib.TabIs prog W "math/bits.deBruijn64tab" .u8 (Lib.deBruijn64tab.map Int.ofNat):=Lib.tabIs_of_head g64 t64 (n:=64) (e:=5) (by kernel_rfl) (by kernel_rfl) cU8 Lq h2;refine⟨fun j hj=> ?_,Lib.tabIs_of_head Ps Pu (n:=20) (e:=195) (by kernel_rfl) (by kernel_rfl) PB PA h3⟩;have:=e64.cell g64 j (by rw[List.length_map];exact hj);rw[this];congr 2;rw[List.getD_eq_getElem?_getD,List.getElem?_map,List.getD_eq_getElem?_getD];cases Lib.deBruijn64tab[j]? <;>rfl
end
end Go.Proofs.YtdokeddjcpnmiaaGreatDoor
