/- Of EngineClean: EnC64 DoAll Safe. -/
import Derived.Test.YtdokeddjcpnmiaaGreatDoorQDo
import Derived.Test.YtdokeddjcpnmiaaGreatDoorQEnRest
set_option maxRecDepth 100000
set_option maxHeartbeats 1000000
namespace Go.Proofs.YtdokeddjcpnmiaaGreatDoor
open Go.RowKit Go.Proofs.Tryz
namespace En
def All64(l:List Int):Prop:=∀x∈l,au x
theorem c64_0:au 0:=⟨by decide,by decide⟩
theorem All64.getD{l:List Int}(h:All64 l)(k:Nat):au (l.getD k 0):=by
 rw[List.getD_eq_getElem?_getD];cases e:l[k]? with
 |none=>exact c64_0
 |some x=>exact h x (List.mem_of_getElem? e)
theorem All64.app{l r:List Int}(h1:All64 l)(h2:All64 r):All64 (l++r):=fun x hx=>(List.mem_append.1 hx).elim (h1 x) (h2 x)
theorem All64.one{x:Int}(h:au x):All64 [x]:=fun y hy=>by rw[List.mem_singleton.1 hy];exact h
theorem All64.drop{l:List Int}(h:All64 l)(k:Nat):All64 (l.drop k):=fun x hx=>h x (List.mem_of_mem_drop hx)
theorem All64.take{l:List Int}(h:All64 l)(k:Nat):All64 (l.take k):=fun x hx=>h x (List.mem_of_mem_take hx)
theorem All64.dropLast{l:List Int}(h:All64 l):All64 l.dropLast:=fun x hx=>h x (List.dropLast_subset l hx)
theorem All64.last{l:List Int}(h:All64 l):au (l.getLastD 0):=by
 rcases List.eq_nil_or_concat l with rfl|⟨q,x,rfl⟩
 ·exact c64_0
 ·simp only[List.concat_eq_append,List.getLastD_eq_getLast?,List.getLast?_concat,Option.getD_some];exact h x (by simp)
theorem All64.set{l:List Int}(h:All64 l)(k:Nat){x:Int}(hx:au x):All64 (l.set k x):=fun y hy=>by
 rcases List.mem_or_eq_of_mem_set hy with h1|h1
 ·exact h y h1
 ·rw[h1];exact hx
def Ra(f:Fr):Prop:=(f.k≠5→au f.x)∧All64 f.l
theorem Ra.none:Ra .none:=⟨fun _=>c64_0,fun _ hx=>by cases hx⟩
structure iE(m:M):Prop where
 st:All64 m.S.st
 fr:∀f∈m.fr,Ra f
 words:∀u∈m.words,au u.2.2
 code:∀x∈m.code,au x
theorem iE.turn{m m':M}(h:iE m)(s:All64 m'.S.st)(f:∀f∈m'.fr,Ra f)(e1:m'.words=m.words)(e2:m'.code=m.code):iE m':=⟨s,f,by rw[e1];exact h.words,by rw[e2];exact h.code⟩
theorem iE.at_{m:M}(h:iE m)(d o n:Int):iE {m with df:=d,on:=o,nx:=n}:=h.turn h.st h.fr rfl rfl
theorem iE.mW{m:M}(h:iE m){L:List Fr}(hl:∀f∈L,Ra f):iE {m with fr:=L}:=h.turn h.st hl rfl rfl
theorem iE.less{m:M}(h:iE m):∀f∈m.fr.dropLast,Ra f:=fun f hf=>h.fr f (List.dropLast_subset _ hf)
theorem iE.top{m:M}(h:iE m):Ra (aU m.fr):=by
 unfold aU;rcases List.eq_nil_or_concat m.fr with e|⟨q,x,e⟩
 ·rw[e];exact Ra.none
 ·rw[e];simp only[List.concat_eq_append,List.getLastD_eq_getLast?,List.getLast?_concat,Option.getD_some];exact h.fr x (by rw[e];simp)
theorem iE.zY{m:M}(h:iE m)(i:Nat):Ra (m.fr.getD i .none):=by
 rw[List.getD_eq_getElem?_getD];cases e:m.fr[i]? with
 |none=>exact Ra.none
 |some x=>exact h.fr x (List.mem_of_getElem? e)
theorem iE.iO{m:M}(h:iE m){st:List Int}(hl:All64 st):iE {m with S:={m.S with st:=st}}:=h.turn hl h.fr rfl rfl
theorem TS{S:PS}(h:All64 S.st){x:Int}(hx:au x):au (iL S x).1∧All64 (iL S x).2.st:=by
 unfold iL;split
 ·exact⟨c64_0,h.app (All64.one hx)⟩
 ·exact⟨(⟨by decide,by decide⟩:au (-3)),h⟩
def Io(r:Int×M):Prop:=au r.1∧iE r.2
theorem iE.ok{m:M}(h:iE m):Io (0,m):=⟨c64_0,h⟩
theorem iE.bad{m:M}(h:iE m)(e:Int)(he:au e):Io (e,m):=⟨he,h⟩
theorem iE.push{m:M}(h:iE m){x:Int}(hx:au x):Io (m.push x):=by
 obtain⟨p1,p2⟩:=TS h.st hx;exact⟨p1,h.turn p2 h.fr rfl rfl⟩
theorem iE.aK{m:M}(h:iE m)(f:Fr)(hf:Ra f):Io (m.aK f):=by
 unfold M.aK;split
 ·refine(h.mW (L:=m.fr++[f]) (fun g hg=> ?_)).ok;rcases List.mem_append.1 hg with hg|hg
  ·exact h.fr g hg
  ·rw[List.mem_singleton.1 hg];exact hf
 ·exact h.bad _ ⟨by decide,by decide⟩
theorem ui(n:Int){l:List Int}(h:All64 l):All64 (nG n l):=by
 unfold nG;refine All64.take (h.app fun x hx=> ?_) _;rw[List.eq_of_mem_replicate hx];exact c64_0
theorem Ea:∀(L:List Fr) (f:Fr) (r:List Fr),dP L=some (f,r)→∀g∈r,g∈L
 |[],_,_,h,_,_=>by cases h
 |x::L,f,r,h,g,hg=>by
  unfold dP at h;split at h
  ·rename_i f' r' hr;injection h with h;injection h with h1 h2;subst h2;rcases List.mem_cons.1 hg with rfl|hg
   ·exact List.mem_cons_self
   ·exact List.mem_cons_of_mem _ (Ea L f' r' hr g hg)
  ·split at h
   ·injection h with h;injection h with h1 h2;subst h2;cases hg
   ·cases h
theorem iE.throw{m:M}(h:iE m){e:Int}(he:au e):iE (m.throw e).2:=by
 cases hc:dP m.fr with
 |none=>
  rw[nI hc];exact h.turn (fun x hx=>by cases hx) (fun f hf=>by cases hf) rfl rfl
 |some y=>
  obtain⟨f,r⟩:=y;rw[nH hc];exact h.turn (TS (S:={m.S with st:=nG f.a m.S.st}) (ui _ h.st) he).2 (fun g hg=>h.fr g (Ea _ _ _ hc g hg)) rfl rfl
theorem Io.done{r:Int×M}(h:Io r):iE (M.done r).2:=by
 unfold M.done;split
 ·exact h.2
 ·exact h.2.throw h.1
theorem iE.aM{m:M}(h:iE m)(n:Int)(do_:List Int→M→Int×M)(hd:∀l m',All64 l→iE m'→Io (do_ l m')):iE (m.aM n do_).2:=by
 unfold M.aM;split
 ·exact h.throw ⟨by decide,by decide⟩
 ·split
  ·exact h.throw ⟨by decide,by decide⟩
  ·dsimp only
   have hl:=h.st.drop (m.S.st.length-n.toNat);have hg:=hd (m.S.st.drop (m.S.st.length-n.toNat)) {m with S:={m.S with st:=m.S.st.take (m.S.st.length-n.toNat)}} hl (h.iO (h.st.take _));generalize do_ (m.S.st.drop (m.S.st.length-n.toNat)) {m with S:={m.S with st:=m.S.st.take (m.S.st.length-n.toNat)}}=r at hg;split
   ·exact hg.2
   ·refine iE.throw ?_ hg.1;split
    ·exact hg.2.iO (hg.2.st.app hl)
    ·exact hg.2
theorem B5(k a b y:Int){x:Int}(hx:au x):Ra ⟨k,a,b,x,y,[]⟩:=⟨fun _=>hx,fun _ hx=>by cases hx⟩
theorem iE.call{m:M}(h:iE m)(n:Int):Io (m.call n):=by
 have hp:=h.aK ⟨1,m.df,m.on,0,0,[]⟩ (B5 _ _ _ _ c64_0);unfold M.call;split
 ·exact h.bad _ ⟨by decide,by decide⟩
 ·dsimp only
  split
  ·exact(hp.2.at_ n 0 _).ok
  ·exact hp
theorem iE.leave{m:M}(h:iE m):Io m.leave:=by
 unfold M.leave M.pop;by_cases hk:m.fr≠[]∧(aU m.fr).k=3
 ·rw[if_pos hk];exact(h.mW h.less).ok
 ·rw[if_neg hk];exact h.bad _ ⟨by decide,by decide⟩
theorem iE.named{m:M}(h:iE m)(x:Int):Io (m.named x):=by
 unfold M.named;split
 ·exact(h.at_ _ _ x).ok
 ·exact h.bad _ ⟨by decide,by decide⟩
theorem iE.index{m:M}(h:iE m)(n:Nat):iE (m.index n).2:=by
 have key:au (kT m.fr n).1∧au (kT m.fr n).2:=by
  unfold kT;split
  ·rename_i hk;exact⟨(h.zY _).1 (by rw[hk.1 n (Nat.le_refl _) hk.2];decide),c64_0⟩
  ·exact⟨c64_0,by decide,by decide⟩
 unfold M.index;split
 ·exact(h.push key.1).done
 ·exact h.throw key.2
theorem iE.control{m:M}(h:iE m)(n:Int):iE (m.control n).2:=by
 unfold M.control;by_cases h1:n=1
 ·rw[if_pos h1];exact h.aM 1 _ (fun l m' hl h'=>h'.aK _ (B5 _ _ _ _ (hl.getD 0)))
 rw[if_neg h1];by_cases h2:n=2
 ·rw[if_pos h2];unfold M.pop;by_cases hk:m.fr≠[]∧(aU m.fr).k=2
  ·rw[if_pos hk];dsimp only
   have hx:au (aU m.fr).x:=h.top.1 (by rw[hk.2];decide);have h1:=(h.mW h.less).push hx;split
   ·exact h1.done
   ·exact Io.done (r:=(_,_)) ⟨h1.1,(h1.2.aK _ h.top).2⟩
  ·rw[if_neg hk];exact h.throw ⟨by decide,by decide⟩
 rw[if_neg h2];by_cases h3:n=3
 ·rw[if_pos h3];split
  ·rename_i hk;exact(h.push (h.top.1 (by rw[hk];decide))).done
  ·exact h.throw ⟨by decide,by decide⟩
 rw[if_neg h3];by_cases h4:n=4
 ·rw[if_pos h4];exact h.index 0
 rw[if_neg h4];by_cases h5:n=5
 ·rw[if_pos h5];exact h.index 1
 rw[if_neg h5];by_cases h6:n=6
 ·rw[if_pos h6];exact h.leave.done
 rw[if_neg h6];by_cases h7:n=7
 ·rw[if_pos h7];exact h.aM 1 _ (fun l m' _ h'=>h'.named _)
 rw[if_neg h7];by_cases h8:n=8
 ·rw[if_pos h8];refine h.aM 1 _ (fun l m' _ h'=> ?_);dsimp only
  have h1:=h'.named (l.getD 0 0);generalize m'.named (l.getD 0 0)=r at h1;split
  ·exact h1
  ·split
   ·exact(h1.2.at_ _ _ 0).bad _ ⟨by decide,by decide⟩
   ·refine((h1.2.mW (L:=r.2.fr++[⟨1,m'.df,m'.on,0,0,[]⟩,⟨5,m'.S.st.length,m'.I.outer.length,m'.I.cur.on,0,[]⟩]) (fun g hg=> ?_)).at_ 0 0 _).ok;rcases List.mem_append.1 hg with hg|hg
    ·exact h1.2.fr g hg
    ·simp only[List.mem_cons,List.not_mem_nil,or_false]at hg;rcases hg with rfl|rfl
     ·exact B5 _ _ _ _ c64_0
     ·exact⟨fun g=>absurd rfl g,fun _ hx=>by cases hx⟩
 ·rw[if_neg h8];split
  ·exact h.throw ⟨by decide,by decide⟩
  ·exact Io.done (r:=(_,_)) ⟨h.st.last,h.iO h.st.dropLast⟩
theorem iE.deferred{m:M}(h:iE m)(n:Int):iE (m.deferred n).2:=by
 unfold M.deferred;split
 ·exact h.throw ⟨by decide,by decide⟩
 ·split
  ·exact h.at_ _ _ n
  ·exact h.throw ⟨by decide,by decide⟩
def B6(D:Int→PS→Int×PS)(S:PS):Prop:=∀op,au (D op S).1∧All64 (D op S).2.st
theorem eb{m:M}(h:iE m){x:Int}{u:Int×Int×Int}(hu:m.word x=some u):au u.2.2:=by
 unfold M.word at hu;split at hu
 ·cases hu
 ·exact h.words u (List.mem_of_getElem? hu)
theorem iE.execute{D:Int→PS→Int×PS}{m:M}(hD:B6 D m.S)(h:iE m)(xt:Int):iE (m.execute D xt).2:=by
 unfold M.execute;split
 ·exact h.throw ⟨by decide,by decide⟩
 ·rename_i k n w hw;have hw:au w:=eb h hw;obtain⟨d1,d2⟩:=hD n;split
  ·exact Io.done (r:=(_,_)) ⟨d1,h.turn (m':={m with S:=(D n m.S).2}) d2 h.fr rfl rfl⟩
  split
  ·exact(h.call n).done
  split
  ·exact(h.push hw).done
  split
  ·dsimp only
   have hp:=h.push hw;split
   ·exact h.throw hp.1
   ·have hq:=hp.2.call n;generalize (m.push w).2.call n=q at hq;split
    ·exact hq.2
    ·exact(hq.2.iO hq.2.st.dropLast).throw hq.1
  split
  ·exact h.deferred n
  split
  ·exact h.control n
  ·exact h
theorem iE.returns{m:M}(h:iE m):iE m.returns.2:=by
 unfold M.returns;split
 ·exact h
 split
 ·exact(h.mW h.less).at_ _ _ _
 split
 ·dsimp only
  have hp:=h.push c64_0;split
  ·exact hp.2.mW hp.2.less
  ·exact hp.done
 ·exact h.throw ⟨by decide,by decide⟩
theorem iE.jump{m:M}(h:iE m)(b:Bool)(n:Int):Io (m.jump b n):=by
 unfold M.jump;split
 ·exact(h.at_ _ n _).ok
 ·exact h.ok
theorem iE.loop{m:M}(h:iE m)(b n:Int):Io (m.loop b n):=by
 unfold M.loop;split
 ·exact h.bad _ ⟨by decide,by decide⟩
 ·dsimp only
  split
  ·exact(h.mW h.less).ok
  ·refine((h.mW (L:=m.fr.dropLast++[{aU m.fr with x:=wrap64 ((aU m.fr).x+b)}]) (fun g hg=> ?_)).at_ _ n _).ok;rcases List.mem_append.1 hg with hg|hg
   ·exact h.less g hg
   ·rw[List.mem_singleton.1 hg];exact⟨fun _=>aV _,h.top.2⟩
theorem iE.begins{m:M}(h:iE m){l:List Int}(hl:All64 l):Io (m.begins l):=h.aK _ (B5 _ _ _ _ (hl.getD 1))
theorem iE.does{D:Int→PS→Int×PS}{m:M}(hD:B6 D m.S)(h:iE m)(op a:Int){w:Int}(hw:au w):iE (m.does D op a w).2:=by
 unfold M.does;by_cases h1:op=1
 ·rw[if_pos h1];exact(h.push hw).done
 rw[if_neg h1];by_cases h2:op=2
 ·rw[if_pos h2];exact h.execute hD a
 rw[if_neg h2];by_cases h3:op=3
 ·rw[if_pos h3];exact(h.jump true a).done
 rw[if_neg h3];by_cases h4:op=4
 ·rw[if_pos h4];exact h.aM 1 _ (fun l m' _ h'=>h'.jump _ _)
 rw[if_neg h4];by_cases h5:op=5
 ·rw[if_pos h5];exact h.aM 2 _ (fun l m' hl h'=>h'.begins hl)
 rw[if_neg h5];by_cases h6:op=6
 ·rw[if_pos h6];refine h.aM 2 _ (fun l m' hl h'=> ?_);split
  ·exact h'.jump _ _
  ·exact h'.begins hl
 rw[if_neg h6];by_cases h7:op=7
 ·rw[if_pos h7];exact(h.loop 1 a).done
 rw[if_neg h7];by_cases h8:op=8
 ·rw[if_pos h8];exact h.aM 1 _ (fun l m' _ h'=>h'.loop _ _)
 rw[if_neg h8];by_cases h9:op=9
 ·rw[if_pos h9];refine Io.done (r:=(_,_)) ⟨h.leave.1,?_⟩;dsimp only
  split
  ·exact h.leave.2.at_ _ a _
  ·exact h
 rw[if_neg h9];by_cases h10:op=10
 ·rw[if_pos h10];refine h.aM 2 _ (fun l m' hl h'=> ?_);split
  ·exact h'.ok
  ·exact(h'.push (hl.getD 0)).2.jump _ _
 rw[if_neg h10];by_cases h11:op=11
 ·rw[if_pos h11];exact h.aM 1 _ (fun l m' _ h'=>h'.ok)
 rw[if_neg h11];by_cases Ct:op=12
 ·rw[if_pos Ct];exact h.aM a _ (fun l m' hl h'=>h'.aK _ ⟨fun _=>c64_0,hl⟩)
 rw[if_neg Ct];by_cases Wd:op=13
 ·rw[if_pos Wd];split
  ·exact h.throw ⟨by decide,by decide⟩
  ·split
   ·exact(h.push ((h.zY _).2.getD _)).done
   ·exact h.throw ⟨by decide,by decide⟩
 rw[if_neg Wd];by_cases Wh:op=14
 ·rw[if_pos Wh];refine h.aM 1 _ (fun l m' hl h'=> ?_);dsimp only
  split
  ·exact h'.bad _ ⟨by decide,by decide⟩
  ·split
   ·refine(h'.mW (fun g hg=> ?_)).ok;rcases List.mem_or_eq_of_mem_set hg with h1|h1
    ·exact h'.fr g h1
    ·rw[h1];exact⟨(h'.zY _).1,(h'.zY _).2.set _ (hl.getD 0)⟩
   ·exact h'.bad _ ⟨by decide,by decide⟩
 ·rw[if_neg Wh];refine(h.mW (L:=if(aU m.fr).k=4 then m.fr.dropLast else m.fr) ?_).at_ 0 0 _;split
  ·exact h.less
  ·exact h.fr
theorem Kp{m:M}(h:iE m){d o op a v:Int}(ha:m.at_ d o=some (op,a,v)):au v:=by
 unfold M.at_ at ha;split at ha
 ·cases ha
 ·injection ha with ha;injection ha with _ ha;injection ha with _ ha;rw[←ha];exact All64.getD h.code _
theorem iE.step{D:Int→PS→Int×PS}{m:M}(hD:B6 D m.S)(h:iE m):iE (m.step D).2:=by
 unfold M.step;split
 ·exact iE.execute (m:={m with nx:=0}) hD (h.at_ m.df m.on 0) _
 split
 ·exact h
 split
 ·exact h.returns
 split
 ·exact h.throw ⟨by decide,by decide⟩
 ·rename_i op a w ha;exact iE.does (m:={m with on:=m.on+1}) hD (h.at_ m.df (m.on+1) m.nx) _ _ (Kp h ha)
end En
def um(op:Int)(st:List Int):Int×List Int:=
 if st.length=0∨¬IntKind.u64.wrap (st.getD (st.length-1) 0)<(st.length-1:Nat)then(-4,st)
 else
  let n:=st.length-1
  let d:=(st.getD n 0).toNat
  let y:=st.getD (n-1-d) 0
  if op=40 then(0,st.take n++[y])else(0,(st.take n).take (n-1-d)++(st.take n).drop (n-d)++[y])
def Pn(op:Int)(st:List Int):Int×List Int:=
 if op=40∨op=41 then um op st
 else if op=42 then(if st.length=128 then(-3,st)else(0,st++[(st.length:Int)]))
 else
  let s:=mY.getD (op-28).toNat (0,[])
  if st.length<s.1 then(-4,st)
  else if op=35∧st.getD (st.length-1) 0=0 then(0,st)
  else if 128<st.length-s.1+s.2.length then(-3,st)
  else(0,st.take (st.length-s.1)++s.2.map fun i=>(st.drop (st.length-s.1)).getD i 0)
def Bo(w:World)(b:Nat)(F:List Nat)(op:Int)(r:Int×List Int):Prop:=
 Calls prog 96 #[.pointer (some ⟨b,0,none⟩),.int .i64 op] w fun e w'=>
  ∃F',e=.returned (.int .i64 r.1)∧aG w' b F' r.2∧Touch F w w'∧Sub w F F'
theorem Bo.same{w:World}{b:Nat}{F:List Nat}{L:List Int}{op e0:Int}(h:aG w b F L)
 (k:Calls prog 96 #[.pointer (some ⟨b,0,none⟩),.int .i64 op] w fun e w'=>e=.returned (.int .i64 e0)∧Touch [] w w'):Bo w b F op (e0,L):=by
 refine k.mono ?_;rintro _ w' ⟨rfl,t⟩;exact⟨F,rfl,h.touch t (by simp),t.mono (by simp),Sub.refl _ _⟩
theorem X7(w:World)(b:Nat)(F:List Nat)(L:List Int)(h:aG w b F L)(op:Int)(hop:op=40∨op=41)(hL:L.length≤128)(hc:∀x∈L,au x):
 Calls prog 121 #[.pointer (some ⟨b,0,none⟩),.int .i64 op] w fun e w'=>
  ∃F',e=.returned (.int .i64 (um op L).1)∧aG w' b F' (um op L).2∧Touch F w w'∧Sub w F F':=by
 have same:∀{e0:Int},(Calls prog 121 #[.pointer (some ⟨b,0,none⟩),.int .i64 op] w fun e w'=>e=.returned (.int .i64 e0)∧Touch [] w w')→
  Calls prog 121 #[.pointer (some ⟨b,0,none⟩),.int .i64 op] w fun e w'=>∃F',e=.returned (.int .i64 e0)∧aG w' b F' L∧Touch F w w'∧Sub w F F':=fun k=>k.mono (by
  rintro _ w' ⟨rfl,t⟩;exact⟨F,rfl,h.touch t (by simp),t.mono (by simp),Sub.refl _ _⟩)
 by_cases h0:L.length=0
 ·have e:um op L=(-4,L):=by unfold um;rw[if_pos (.inl h0)]
  rw[e];have nz:L=[]:=List.eq_nil_of_length_eq_zero h0;subst nz;exact same (Uh w b F op h)
 obtain⟨n,hn⟩:∃n,L.length=n+1:=⟨L.length-1,by omega⟩;obtain⟨x,hx⟩:∃x,L.getD n 0=x:=⟨_,rfl⟩;have hcx:au x:=hc x (by rw[←hx,List.getD,List.getElem?_eq_getElem (by omega)];exact List.getElem_mem (by omega));by_cases hu:IntKind.u64.wrap x<n
 ·have hx2:x=x.toNat∧x.toNat<n:=by
   unfold au at hcx;rw[IntKind.wrap_u64]at hu;omega
  obtain⟨d,hd⟩:∃d,x.toNat=d:=⟨_,rfl⟩;rw[hd]at hx2;obtain⟨Z1,Z2⟩:=hx2;have e:um op L=(if op=40 then(0,L.take n++[L.getD (n-1-d) 0])else(0,(L.take n).take (n-1-d)++(L.take n).drop (n-d)++[L.getD (n-1-d) 0])):=by
   unfold um;rw[if_neg]
   ·simp only[hn,Nat.add_sub_cancel,hx,hd]
   ·simp only[hn,Nat.add_sub_cancel,hx];simp[hu]
  rw[e];rcases hop with rfl|rfl
  ·rw[if_pos rfl];exact(Ui w b F L h n hn (by omega) d (hx.trans Z1) Z2).mono (by
    rintro _ w' ⟨rfl,hs,t⟩;exact⟨F,rfl,hs,t,Sub.refl _ _⟩)
  ·rw[if_neg (by decide)];exact Uk w b F L h n hn (by omega) d (hx.trans Z1) Z2
 ·have e:um op L=(-4,L):=by
   unfold um;rw[if_pos];refine .inr ?_;rw[hn,Nat.add_sub_cancel,hx];exact hu
  rw[e];exact same (Pm w b F L op h n hn (by omega) x hx hu)
theorem eA(w:World)(b:Nat)(F:List Nat)(op:Int)(hop:op=40∨op=41)(r:Int×List Int)
 (hf:Calls prog 121 #[.pointer (some ⟨b,0,none⟩),.int .i64 op] w fun e w'=>∃F',e=.returned (.int .i64 r.1)∧aG w' b F' r.2∧Touch F w w'∧Sub w F F'):Bo w b F op r:=by
 unfold Bo;rcases hop with rfl|rfl
 all_goals go_enter func96,ntmps96
 all_goals go_wp2_with fail
 all_goals refine hf.mono ?_
 all_goals rintro _ w1 ⟨F',rfl,hs,t1,aT⟩
 all_goals go_wp2
 all_goals go_ret
 all_goals exact⟨F',rfl,hs,t1,aT⟩
theorem Ip:∀k,k<12→(mY.getD k (0,[])).1≤4∧(mY.getD k (0,[])).2.length≤6∧(∀i∈(mY.getD k (0,[])).2,i<(mY.getD k (0,[])).1)∧1≤(mY.getD k (0,[])).1:=by
 decide
theorem eC(w:World)(b:Nat)(F:List Nat)(L:List Int)(h:aG w b F L)(op:Int)(h1:28≤op)(h2:op≤42)(hL:L.length≤128)(hc:∀x∈L,au x):Bo w b F op (Pn op L):=by
 unfold Pn;by_cases hf:op=40∨op=41
 ·rw[if_pos hf];exact eA w b F op hf _ (X7 w b F L h op hf hL hc)
 rw[if_neg hf];by_cases Rb:op=42
 ·rw[if_pos Rb];subst Rb;by_cases hl:L.length=128
  ·rw[if_pos hl];exact .same h (Df w b F L h hl)
  ·rw[if_neg hl];exact Ug w b F L h (by omega)
 rw[if_neg Rb];obtain⟨k,hk,rfl⟩:∃k:Nat,k<12∧op=(28+k:Nat):=⟨(op-28).toNat,by omega,by omega⟩;have hS:=Pj k hk;obtain⟨s1,s2,s3,s4⟩:=Ip k hk;rw[show(((28+k:Nat):Int)-28).toNat=k by omega];generalize mY.getD k (0,[])=s at*;obtain⟨t,ps⟩:=s;simp only at hS s1 s2 s3 s4⊢;by_cases c1:L.length<t
 ·rw[if_pos c1];exact .same h (Ue w b F L h _ t ps hS (by omega) (by omega) Rb c1)
 rw[if_neg c1];by_cases Zi:((28+k:Nat):Int)=35
 ·have zq:k=7:=by omega
  subst zq;by_cases c2:L.getD (L.length-1) 0=0
  ·rw[if_pos ⟨Zi,c2⟩];exact .same h (Ud w b F L h t ps hS s1 _ rfl c2 s4 hL (by omega))
  ·rw[if_neg (fun e=>c2 e.2)];by_cases c3:128<L.length-t+ps.length
   ·rw[if_pos c3];exact .same h (Uf w b F L h t ps hS s1 s2 _ rfl c2 s4 hL (by omega) c3)
   ·rw[if_neg c3];exact X5 w b F L h t ps hS s3 s1 s2 _ rfl c2 s4 hL (by omega) (by omega)
 ·rw[if_neg (fun e=>Zi e.1)];by_cases c3:128<L.length-t+ps.length
  ·rw[if_pos c3];exact .same h (X6 w b F L h _ t ps hS s1 s2 (by omega) (by omega) Rb Zi hL (by omega) c3)
  ·rw[if_neg c3];exact TY w b F L h _ t ps hS s3 s1 s2 (by omega) (by omega) Rb Zi hL (by omega) (by omega)
theorem Ul(op:Int)(L:List Int):(um op L).1=0∨((um op L).1= -4∧(um op L).2=L):=by
 unfold um;split
 ·exact .inr ⟨rfl,rfl⟩
 ·simp only[];split
  ·exact .inl rfl
  ·exact .inl rfl
theorem X8(op:Int)(L:List Int):(Pn op L).1=0∨(((Pn op L).1= -4∨(Pn op L).1= -3)∧(Pn op L).2=L):=by
 unfold Pn;split
 ·rcases Ul op L with h|⟨h,k⟩
  ·exact .inl h
  ·exact .inr ⟨.inl h,k⟩
 ·split
  ·split
   ·exact .inr ⟨.inr rfl,rfl⟩
   ·exact .inl rfl
  ·simp only[];split
   ·exact .inr ⟨.inl rfl,rfl⟩
   ·split
    ·exact .inl rfl
    ·split
     ·exact .inr ⟨.inr rfl,rfl⟩
     ·exact .inl rfl
section
open En (All64 c64_0)
abbrev Act:=List Int→PS→(List Int×Int)×PS
structure Safe(act:Act):Prop where
 st:∀l S,(act l S).2.st=S.st
 n:∀l S,(act l S).2.n=S.n
 ok:∀l S,S.out.length≤4000∧S.made.length≤200→(act l S).2.out.length≤4000∧(act l S).2.made.length≤200
 c:∀l S,All64 l→Bytes S.bs→S.here≤65536→S.made.length≤200→au (act l S).1.2∧All64 (act l S).1.1
theorem jl:All64 []:=fun _ h=>by cases h
theorem yV{x:Int}(h:au x):au 0∧All64 [x]:=⟨c64_0,All64.one h⟩
theorem jm{x y:Int}(h:au x∧au y):All64 [x,y]:=(All64.one h.1).app (All64.one h.2)
theorem jS{x:Int}(h: -4095≤x∧x≤4095):au x:=by unfold au;omega
theorem cZ(f:List Int→List Int)(e:List Int→Int)(h:∀l,All64 l→au (e l)∧All64 (f l)):Safe (fun l S=>((f l,e l),S)):=⟨fun _ _=>rfl,fun _ _=>rfl,fun _ _ h=>h,fun l _ hl _ _ _=>h l hl⟩
theorem uA(f:List Int→Nat→List Int→Nat→List Int)(e:List Int→Nat→List Int→Nat→Int)(h:∀l n bs k,Bytes bs→k≤65536→au (e l n bs k)∧All64 (f l n bs k)):Safe (fun l S=>((f l S.n S.bs S.here,e l S.n S.bs S.here),S)):=
 ⟨fun _ _=>rfl,fun _ _=>rfl,fun _ _ h=>h,fun l S _ hb hk _=>h l S.n S.bs S.here hb hk⟩
theorem uB(e:List Int→Nat→List Int→Nat→Int)(b:List Int→Nat→List Int→Nat→List Int)(h:List Int→Nat→List Int→Nat→Nat)(he:∀l n bs k,au (e l n bs k)):Safe (fun l S=>(([],e l S.n S.bs S.here),{S with bs:=b l S.n S.bs S.here,here:=h l S.n S.bs S.here})):=
 ⟨fun _ _=>rfl,fun _ _=>rfl,fun _ _ h=>h,fun _ _ _ _ _ _=>⟨he _ _ _ _,jl⟩⟩
theorem pY(f:List Int→PS→ByteArray)(e:List Int→PS→Int)(he:∀l S,au (e l S)):Safe (fun l S=>(([],e l S),{S with out:=iy S.out (f l S)})):=
 ⟨fun _ _=>rfl,fun _ _=>rfl,fun _ _ h=>⟨wo h.1 _,h.2⟩,fun _ _ _ _ _ _=>⟨he _ _,jl⟩⟩
def Pt(w0:World)(op:Int):Prop:=∃(n:Nat) (pre:List Int→PS→Prop) (act:Act),Safe act∧(∀l S,S.n=1024→S.st.length≤128→All64 S.st→All64 l→pre l S)∧
 ∀(w:World) (s:Nat) (F:List Nat) (S:PS),aC w s F S→(∀x∈F,w0.heap.size≤x)→Touch [] w0 w→S.ok→S.st.length≤128→(n≤S.st.length→pre (S.st.drop (S.st.length-n)) {S with st:=S.st.take (S.st.length-n)})→
  Calls prog 64 #[.pointer (some ⟨s,0,none⟩),.int .i64 op] w fun e w'=>∃F',e=.returned (.int .i64 (vB n act S).1)∧aC w' s F' (vB n act S).2∧Touch F w w'∧Sub w F F'
theorem cu.safe{w0:World}{op:Int}{n:Nat}{pre:List Int→PS→Prop}{act:Act}(h:cu op n pre act)(hn:43≤op∧op≤107∧(op<61∨70<op)∧n≤4)(hf:Safe act)(hp:∀l S,S.n=1024→All64 l→pre l S):Pt w0 op:=
 ⟨n,pre,act,hf,fun l S h2 _ _ h5=>hp l S h2 h5,fun w s F S hS _ _ bW hst bG=>Z7 op n pre act h hn.1 hn.2.1 hn.2.2.1 hn.2.2.2 w s F S hS bW hst bG⟩
theorem oN.Zl{w0:World}{op:Int}{n:Nat}{act:Act}(h:oN op n (fun _ _=>True) act)(h1:1≤op)(h2:op≤27)(hn:n≤4)(hf:Safe act):Pt w0 op:=
 ⟨n,_,act,hf,fun _ _ _ _ _ _=>trivial,fun w s F S hS _ _ bW hst bG=>XP op n _ act h h1 h2 hn w s F S hS bW hst bG⟩
theorem oN.Zm{w0:World}{op:Int}{n:Nat}{act:Act}(h:oN op n (fun _ _=>True) act)(h1:61≤op)(h2:op≤70)(hn:n≤4)(hf:Safe act):Pt w0 op:=
 ⟨n,_,act,hf,fun _ _ _ _ _ _=>trivial,fun w s F S hS _ _ bW hst bG=>XQ op n _ act h h1 h2 hn w s F S hS bW hst bG⟩
structure eE(w0:World)(op:Int)(d:PS→Int×PS):Prop where
 fine:∀S,S.st.length≤128→PS.ok S→(d S).2.st.length≤128∧PS.ok (d S).2
 Lq:∀S,All64 S.st→S.st.length≤128→Bytes S.bs→S.here≤65536→S.made.length≤200→au (d S).1∧All64 (d S).2.st
 n:∀S,(d S).2.n=S.n
 do_:∀w s F S,aC w s F S→(∀x∈F,w0.heap.size≤x)→Touch [] w0 w→PS.ok S→S.n=1024→S.st.length≤128→All64 S.st→
  Calls prog 64 #[.pointer (some ⟨s,0,none⟩),.int .i64 op] w fun e w'=>∃F',e=.returned (.int .i64 (d S).1)∧aC w' s F' (d S).2∧Touch F w w'∧Sub w F F'
theorem Pt.fn{w0:World}{op:Int}(h:Pt w0 op):∃d,eE w0 op d:=by
 obtain⟨n,pre,act,hf,hp,hD⟩:=h;refine⟨vB n act,fun S hl bW=> ?_,fun S hs hl hb hk hm=> ?_,fun S=> ?_,fun w s F S hS hF t bW hn hl hs=>hD w s F S hS hF t bW hl fun _=>hp _ _ hn ?_ (hs.take _) (hs.drop _)⟩
 ·have h1:=hf.st (S.st.drop (S.st.length-n)) {S with st:=S.st.take (S.st.length-n)};have h2:=hf.n (S.st.drop (S.st.length-n)) {S with st:=S.st.take (S.st.length-n)};have h3:=hf.ok (S.st.drop (S.st.length-n)) {S with st:=S.st.take (S.st.length-n)} ⟨bW.1,bW.2.1⟩;unfold vB;generalize act (S.st.drop (S.st.length-n)) {S with st:=S.st.take (S.st.length-n)}=r at h1 h2 h3;have hr:PS.ok r.2:=⟨h3.1,h3.2,by rw[h2];exact bW.2.2.1,by rw[h2];exact bW.2.2.2⟩;split
  ·exact⟨hl,bW⟩
  ·dsimp only
   split
   ·split
    ·exact⟨by rw[List.length_append];assumption,hr⟩
    ·exact⟨hl,hr⟩
   ·exact⟨hl,hr⟩
 ·have h1:=hf.st (S.st.drop (S.st.length-n)) {S with st:=S.st.take (S.st.length-n)};have h3:=hf.c (S.st.drop (S.st.length-n)) {S with st:=S.st.take (S.st.length-n)} (hs.drop _) hb hk hm;unfold vB;generalize act (S.st.drop (S.st.length-n)) {S with st:=S.st.take (S.st.length-n)}=r at h1 h3;split
  ·exact⟨show au (-4)from⟨by decide,by decide⟩,hs⟩
  ·dsimp only
   split
   ·split
    ·exact⟨c64_0,by rw[h1];exact(hs.take _).app h3.2⟩
    ·exact⟨show au (-3)from⟨by decide,by decide⟩,hs⟩
   ·exact⟨h3.1,hs⟩
 ·have h2:=hf.n (S.st.drop (S.st.length-n)) {S with st:=S.st.take (S.st.length-n)};unfold vB;split
  ·rfl
  ·dsimp only
   split
   ·split<;>exact h2
   ·exact h2
 ·show(S.st.take _).length≤128;rw[List.length_take];omega
end
end Go.Proofs.YtdokeddjcpnmiaaGreatDoor
