/- Of EngineClean: EnM EnRun EnGo EnFine EnRest. -/
import Derived.Test.YtdokeddjcpnmiaaGreatDoorQFindNone
import Derived.Test.YtdokeddjcpnmiaaGreatDoorQSrcX
set_option maxRecDepth 100000
set_option maxHeartbeats 200000
namespace Go.Proofs.YtdokeddjcpnmiaaGreatDoor
open Go.RowKit
namespace En
structure M where
 words:List (Int×Int×Int)
 code:List Int
 ends:List Int
 fr:List Fr
 df:Int
 on:Int
 nx:Int
 S:PS
 I:lD
abbrev St:=Int×Int×Int
def ran:St:=(1,0,0)
def nG(n:Int)(l:List Int):List Int:=(l++List.replicate ((min (max n 0) 128).toNat-l.length) 0).take (min (max n 0) 128).toNat
def iL(S:PS)(x:Int):Int×PS:=if S.st.length<128 then(0,{S with st:=S.st++[x]})else(-3,S)
def M.push(m:M)(x:Int):Int×M:=((iL m.S x).1,{m with S:=(iL m.S x).2})
def M.place(m:M)(d o:Int):M:={m with df:=d,on:=o}
def Mr(I:lD)(b x:Int):lD:=
 let J:=if b<I.outer.length then I.dI b.toNat else I
 if(J.outer.length:Int)=b then{J with cur:={J.cur with on:=(max (min x J.cur.text.size) 0).toNat}}else J
def M.throw(m:M)(e:Int):St×M:=
 let m:={m with df:=0,on:=0,nx:=0}
 match dP m.fr with
 |none=>((4,0,e),{m with fr:=[],S:={m.S with st:=[]}})
 |some (f,r)=>(ran,{m with fr:=r,S:=(iL {m.S with st:=nG f.a m.S.st} e).2,I:=Mr m.I f.b f.x})
def M.done(r:Int×M):St×M:=if r.1=0 then(ran,r.2)else r.2.throw r.1
def M.aM(m:M)(n:Int)(do_:List Int→M→Int×M):St×M:=
 if n<0 then m.throw 1 else if(m.S.st.length:Int)<n then m.throw (-4)else
  let l:=m.S.st.drop (m.S.st.length-n.toNat)
  let r:=do_ l {m with S:={m.S with st:=m.S.st.take (m.S.st.length-n.toNat)}}
  if r.1=0 then(ran,r.2)else
   (if r.2.S.st.length+l.length≤128 then{r.2 with S:={r.2.S with st:=r.2.S.st++l}}else r.2).throw r.1
def M.aK(m:M)(f:Fr):Int×M:=if m.fr.length<128 then(0,{m with fr:=m.fr++[f]})else(-5,m)
def M.call(m:M)(n:Int):Int×M:=
 if n<1∨(m.ends.length:Int)<n then(-9,m)else
  let r:=m.aK ⟨1,m.df,m.on,0,0,[]⟩
  if r.1=0 then(0,r.2.place n 0)else r
def M.word(m:M)(xt:Int):Option (Int×Int×Int):=if xt<1 then none else m.words[(xt-1).toNat]?
def M.pop(m:M)(k:Int):Option (Fr×M):=if m.fr≠[]∧(aU m.fr).k=k then some (aU m.fr,{m with fr:=m.fr.dropLast})else none
def M.leave(m:M):Int×M:=match m.pop 3 with
 |some (_,m')=>(0,m')
 |none=>(-26,m)
def M.named(m:M)(x:Int):Int×M:=match m.word x with
 |some _=>(0,{m with nx:=x})
 |none=>(-9,m)
def M.index(m:M)(n:Nat):St×M:=if(kT m.fr n).2=0 then M.done (m.push (kT m.fr n).1)else m.throw (kT m.fr n).2
def M.control(m:M)(n:Int):St×M:=
 if n=1 then m.aM 1 (fun l m=>m.aK ⟨2,0,0,l.getD 0 0,0,[]⟩)
 else if n=2 then(match m.pop 2 with
  |some (f,m')=>(let r:=m'.push f.x;if r.1=0 then M.done r else M.done (r.1,(r.2.aK f).2))
  |none=>m.throw (-6))
 else if n=3 then(if(aU m.fr).k=2 then M.done (m.push (aU m.fr).x)else m.throw (-6))
 else if n=4 then m.index 0
 else if n=5 then m.index 1
 else if n=6 then M.done m.leave
 else if n=7 then m.aM 1 (fun l m=>m.named (l.getD 0 0))
 else if n=8 then m.aM 1 (fun l m=>
  let r:=m.named (l.getD 0 0)
  if r.1≠0 then r else if 126<m.fr.length then(-5,{r.2 with nx:=0})else
   (0,{r.2 with fr:=r.2.fr++[⟨1,m.df,m.on,0,0,[]⟩,⟨5,m.S.st.length,m.I.outer.length,m.I.cur.on,0,[]⟩],df:=0,on:=0}))
 else(if m.S.st=[]then m.throw (-4)else M.done (m.S.st.getLastD 0,{m with S:={m.S with st:=m.S.st.dropLast}}))
def M.deferred(m:M)(xt:Int):St×M:=if xt=0 then m.throw (-32)else match m.word xt with
 |some _=>(ran,{m with nx:=xt})
 |none=>m.throw (-9)
def M.execute(D:Int→PS→Int×PS)(m:M)(xt:Int):St×M:=match m.word xt with
 |none=>m.throw (-9)
 |some (k,n,w)=>
  if k=1 then M.done ((D n m.S).1,{m with S:=(D n m.S).2})
  else if k=5 then M.done (m.call n)
  else if k=6∨k=9 then M.done (m.push w)
  else if k=7 then(let r:=m.push w;if r.1≠0 then m.throw r.1 else(let q:=r.2.call n;if q.1=0 then(ran,q.2)else({q.2 with S:={q.2.S with st:=q.2.S.st.dropLast}}).throw q.1))
  else if k=8 then m.deferred n
  else if k=2 then m.control n
  else((2,k,n),m)
def M.returns(m:M):St×M:=
 if m.fr=[]then((5,0,0),m)
 else if(aU m.fr).k=1 then(ran,{m with fr:=m.fr.dropLast,df:=(aU m.fr).a,on:=(aU m.fr).b})
 else if(aU m.fr).k=5 then(let r:=m.push 0;if r.1=0 then(ran,{r.2 with fr:=r.2.fr.dropLast})else M.done r)
 else m.throw (-25)
def M.dU(m:M)(n:Int):Nat:=if n=1 then 0 else(m.ends.getD (n-2).toNat 0).toNat
def M.at_(m:M)(n i:Int):Option (Int×Int×Int):=
 if n<1∨(m.ends.length:Int)<n∨i<0∨((m.ends.getD (n-1).toNat 0)-m.dU n).tdiv 2≤i then none else
  let j:=m.dU n+2*i.toNat
  some (m.code.getD j 0%256,m.code.getD j 0 / 256,m.code.getD (j+1) 0)
def M.jump(m:M)(kO:Bool)(tw:Int):Int×M:=(0,if kO then{m with on:=tw}else m)
def M.RD(m:M)(f:Fr):M:={m with fr:=m.fr.dropLast++[f]}
def M.loop(m:M)(nU tw:Int):Int×M:=
 if m.fr=[]∨(aU m.fr).k≠3 then(-26,m)else
  let f:=aU m.fr
  let left:=wrap64 (f.x-f.y)
  if nX left nU then(0,{m with fr:=m.fr.dropLast})else(0,{m.RD {f with x:=wrap64 (f.x+nU)}with on:=tw})
def locals:List Fr→Option Nat
 |[]=>none
 |f::r=>if f.k=4 then some r.length else if f.k=1 then none else locals r
def M.begins(m:M)(l:List Int):Int×M:=m.aK ⟨3,0,0,l.getD 1 0,l.getD 0 0,[]⟩
def M.does(D:Int→PS→Int×PS)(m:M)(op a w:Int):St×M:=
 if op=1 then M.done (m.push w)
 else if op=2 then m.execute D a
 else if op=3 then M.done (m.jump true a)
 else if op=4 then m.aM 1 (fun l m=>m.jump (l.getD 0 0==0) a)
 else if op=5 then m.aM 2 (fun l m=>m.begins l)
 else if op=6 then m.aM 2 (fun l m=>if l.getD 0 0=l.getD 1 0 then m.jump true a else m.begins l)
 else if op=7 then M.done (m.loop 1 a)
 else if op=8 then m.aM 1 (fun l m=>m.loop (l.getD 0 0) a)
 else if op=9 then M.done ((m.leave).1,if(m.leave).1=0 then{(m.leave).2 with on:=a}else m)
 else if op=10 then m.aM 2 (fun l m=>if l.getD 0 0=l.getD 1 0 then(0,m)else(m.push (l.getD 0 0)).2.jump true a)
 else if op=11 then m.aM 1 (fun _ m=>(0,m))
 else if op=12 then m.aM a (fun l m=>m.aK ⟨4,0,0,0,0,l⟩)
 else if op=13 then(match locals m.fr.reverse with
  |none=>m.throw (-6)
  |some i=>if 0≤a∧a<(m.fr.getD i .none).l.length then M.done (m.push ((m.fr.getD i .none).l.getD a.toNat 0))else m.throw (-6))
 else if op=14 then m.aM 1 (fun l m=>match locals m.fr.reverse with
  |none=>(-6,m)
  |some i=>if 0≤a∧a<(m.fr.getD i .none).l.length then(0,{m with fr:=m.fr.set i {m.fr.getD i .none with l:=(m.fr.getD i .none).l.set a.toNat (l.getD 0 0)}})else(-6,m))
 else(ran,{m with fr:=if(aU m.fr).k=4 then m.fr.dropLast else m.fr,df:=0,on:=0})
def M.step(D:Int→PS→Int×PS)(m:M):St×M:=
 if m.nx≠0 then{m with nx:=0}.execute D m.nx
 else if(aU m.fr).k=6∨(aU m.fr).k=7 then((3,(aU m.fr).k,0),m)
 else if m.df=0 then m.returns
 else match m.at_ m.df m.on with
  |none=>m.throw (-25)
  |some (op,a,w)=>({m with on:=m.on+1}).does D op a w
def M.run(D:Int→PS→Int×PS):Nat→M→St×M
 |0,m=>(ran,m)
 |n+1,m=>if(m.step D).1.1≠1 then m.step D else M.run D n (m.step D).2
theorem fD{D:Int→PS→Int×PS}{m m':M}(h:m.step D=(ran,m'))(n:Nat):M.run D (n+1) m=M.run D n m':=by
 show(if(m.step D).1.1≠1 then m.step D else M.run D n (m.step D).2)=_;rw[h,if_neg (by simp[ran])]
theorem RF{D:Int→PS→Int×PS}{m:M}{s:St}{m':M}(h:m.step D=(s,m'))(hs:s.1≠1)(n:Nat):M.run D (n+1) m=(s,m'):=by
 show(if(m.step D).1.1≠1 then m.step D else M.run D n (m.step D).2)=_;rw[h,if_pos hs]
theorem nH{m:M}{e:Int}{f:Fr}{r:List Fr}(h:dP m.fr=some (f,r)):m.throw e=(ran,{m with df:=0,on:=0,nx:=0,fr:=r,S:=(iL {m.S with st:=nG f.a m.S.st} e).2,I:=Mr m.I f.b f.x}):=by
 unfold M.throw;dsimp only
 rw[h]
theorem nI{m:M}{e:Int}(h:dP m.fr=none):m.throw e=((4,0,e),{m with df:=0,on:=0,nx:=0,fr:=[],S:={m.S with st:=[]}}):=by
 unfold M.throw;dsimp only
 rw[h]
theorem Ms{D:Int→PS→Int×PS}{m:M}{op a w:Int}(h0:m.nx=0)(h6:(aU m.fr).k≠6)(h7:(aU m.fr).k≠7)(hd:m.df≠0)(ha:m.at_ m.df m.on=some (op,a,w)):
 m.step D=({m with on:=m.on+1}).does D op a w:=by
 unfold M.step;rw[if_neg (by rw[h0];simp),if_neg (by rintro(h|h);exact h6 h;exact h7 h),if_neg hd,ha]
theorem xA{D:Int→PS→Int×PS}{m:M}(h0:m.nx≠0):m.step D={m with nx:=0}.execute D m.nx:=by
 unfold M.step;rw[if_pos h0]
section
variable {D:Int→PS→Int×PS} (m:M) (st:List Int)
def M.sk(m:M)(st:List Int):M:={m with S:={m.S with st:=st}}
theorem Gv(w a:Int)(h:st.length<128):(m.sk st).does D 1 a w=(ran,m.sk (st++[w])):=by
 have hp:iL {m.S with st:=st} w=(0,{m.S with st:=st++[w]}):=by unfold iL;rw[if_pos h]
 show M.done ((iL {m.S with st:=st} w).1,{m with S:=(iL {m.S with st:=st} w).2})=_;rw[hp];rfl
theorem EC(n:Nat)(do_:List Int→M→Int×M)(l:List Int)(hl:l.length=n)(m':M)(h:do_ l (m.sk st)=(0,m')):(m.sk (st++l)).aM n do_=(ran,m'):=by
 have h1:(st++l).length-n=st.length:=by rw[List.length_append,hl];omega
 unfold M.aM;rw[if_neg (by omega),if_neg (by show¬(((st++l).length:Nat):Int)<n;rw[List.length_append];omega)];show(if(do_ ((st++l).drop ((st++l).length-n)) {m.sk (st++l)with S:={m.S with st:=(st++l).take ((st++l).length-n)}}).1=0 then _ else _)=_;rw[h1,List.drop_left,List.take_left];rw[show({m.sk (st++l)with S:={m.S with st:=st}}:M)=m.sk st from rfl,h];rw[if_pos rfl];show(ran,(do_ ((st++l).drop ((st++l).length-n)) {m.sk (st++l)with S:={m.S with st:=(st++l).take ((st++l).length-n)}}).2)=_;rw[h1,List.drop_left,List.take_left];rw[show({m.sk (st++l)with S:={m.S with st:=st}}:M)=m.sk st from rfl,h]
theorem rD(F:List Fr)(f:Fr):aU (F++[f])=f:=by simp[aU]
theorem pz(F:List Fr)(f:Fr):(F++[f]).dropLast=F:=by simp
def M.fk(m:M)(F:List Fr):M:={m with fr:=F}
theorem NH(a w x:Int):(m.sk (st++[x])).does D 4 a w=(ran,if x=0 then{m.sk st with on:=a}else m.sk st):=by
 show(m.sk (st++[x])).aM (1:Nat) (fun l m=>m.jump (l.getD 0 0==0) a)=_;rw[EC m st 1 _ [x] rfl _ rfl];congr 1;by_cases h:x=0
 ·rw[if_pos h];simp[h]
 ·rw[if_neg h];simp[h]
theorem WM(a w x y:Int)(hf:m.fr.length<128):(m.sk (st++[y,x])).does D 5 a w=(ran,(m.sk st).fk (m.fr++[⟨3,0,0,x,y,[]⟩])):=by
 show(m.sk (st++[y,x])).aM (2:Nat) (fun l m=>m.begins l)=_;refine EC m st 2 _ [y,x] rfl _ ?_;show(m.sk st).aK ⟨3,0,0,x,y,[]⟩=_;unfold M.aK;rw[if_pos (show(m.sk st).fr.length<128 from hf)];rfl
theorem NI(a w x y k:Int)(F:List Fr)(hF:m.fr=F++[⟨3,0,0,x,y,[]⟩]):(m.sk (st++[k])).does D 8 a w=
 (ran,if nX (wrap64 (x-y)) k then(m.sk st).fk F else{(m.sk st).fk (F++[⟨3,0,0,wrap64 (x+k),y,[]⟩])with on:=a}):=by
 show(m.sk (st++[k])).aM (1:Nat) (fun l m=>m.loop (l.getD 0 0) a)=_;refine EC m st 1 _ [k] rfl _ ?_;show(m.sk st).loop k a=_;unfold M.loop;rw[show(m.sk st).fr=F++[⟨3,0,0,x,y,[]⟩]from hF,rD,if_neg (by simp)];dsimp only
 by_cases h:nX (wrap64 (x-y)) k=true
 ·rw[if_pos h,if_pos h];unfold M.fk;rw[pz]
 ·rw[if_neg h,if_neg h];unfold M.fk M.RD;rw[show(m.sk st).fr=F++[⟨3,0,0,x,y,[]⟩]from hF,pz]
theorem JM(a w:Int)(f:Fr)(F:List Fr)(hF:m.fr=F++[f])(hk:f.k=3):m.does D 9 a w=(ran,{m.fk F with on:=a}):=by
 have hl:m.leave=(0,m.fk F):=by
  unfold M.leave M.pop;rw[hF,rD,if_pos ⟨by simp,hk⟩,pz];rfl
 show M.done ((m.leave).1,if(m.leave).1=0 then{(m.leave).2 with on:=a}else m)=_;rw[hl];rfl
theorem Du(a w:Int)(h:(aU m.fr).k≠4):m.does D 15 a w=(ran,m.place 0 0):=by
 show(ran,{m with fr:=if(aU m.fr).k=4 then m.fr.dropLast else m.fr,df:=0,on:=0})=_;rw[if_neg h];rfl
theorem Dv{F:List Fr}{f:Fr}(h0:m.nx=0)(hd:m.df=0)(hF:m.fr=F++[f])(hk:f.k=1):m.step D=(ran,(m.fk F).place f.a f.b):=by
 unfold M.step;rw[if_neg (by rw[h0];simp),hF,rD,if_neg (by rw[hk];simp),if_pos hd];unfold M.returns;rw[hF,rD,if_neg (by simp),if_pos hk,pz];rfl
theorem Dw(h0:m.nx=0)(hd:m.df=0)(hF:m.fr=[]):m.step D=((5,0,0),m):=by
 unfold M.step;rw[if_neg (by rw[h0];simp),hF,if_neg (by decide),if_pos hd];unfold M.returns;rw[hF,if_pos rfl]
theorem NJ(xt n w:Int)(hw:m.word xt=some (1,n,w)):m.execute D xt=M.done ((D n m.S).1,{m with S:=(D n m.S).2}):=by
 unfold M.execute;rw[hw];rfl
theorem WO(xt n w:Int)(k8:List Int)(hw:m.word xt=some (1,n,w))(hD:D n {m.S with st:=st}=(0,{m.S with st:=k8})):(m.sk st).execute D xt=(ran,m.sk k8):=by
 rw[NJ (m.sk st) xt n w hw];show M.done ((D n {m.S with st:=st}).1,{m with S:=(D n {m.S with st:=st}).2})=_;rw[hD];rfl
theorem Ac(xt n w:Int)(hw:m.word xt=some (5,n,w))(h1:1≤n)(h2:n≤m.ends.length)(hf:m.fr.length<128):m.execute D xt=(ran,(m.fk (m.fr++[⟨1,m.df,m.on,0,0,[]⟩])).place n 0):=by
 unfold M.execute;rw[hw];show M.done (m.call n)=_;unfold M.call;rw[if_neg (by omega)];unfold M.aK;rw[if_pos hf];rfl
theorem RG(xt n w:Int)(hw:m.word xt=some (2,n,w)):m.execute D xt=m.control n:=by
 unfold M.execute;rw[hw];rfl
theorem pu(x y:Int)(F:List Fr)(hF:m.fr=F++[⟨3,0,0,x,y,[]⟩])(h:st.length<128):(m.sk st).control 4=(ran,m.sk (st++[x])):=by
 show(m.sk st).index 0=_;have hi:kT (m.sk st).fr 0=(x,0):=by
  unfold kT;rw[show(m.sk st).fr=F++[⟨3,0,0,x,y,[]⟩]from hF];have hg:(F++[(⟨3,0,0,x,y,[]⟩:Fr)]).getD ((F++[(⟨3,0,0,x,y,[]⟩:Fr)]).length-1-0) .none=⟨3,0,0,x,y,[]⟩:=by
   simp[List.getD_eq_getElem?_getD]
  rw[if_pos,hg];refine⟨fun i hi _=> ?_,by simp⟩;obtain rfl:i=0:=by omega
  rw[hg]
 unfold M.index;rw[hi,if_pos rfl];unfold M.push iL;rw[show(m.sk st).S.st.length=st.length from rfl,if_pos h];rfl
end
def enc(x:Int×Int×Int):List Int:=[x.1+256*x.2.1,x.2.2]
def gL(L:List (Int×Int×Int)):List Int:=L.flatMap enc
theorem nJ(L:List (Int×Int×Int)):(gL L).length=2*L.length:=by
 induction L with
 |nil=>rfl
 |cons x r ih=>
  unfold gL at*;rw[List.flatMap_cons,List.length_append,ih,List.length_cons];show 2+_=_;omega
theorem Ad:∀(L:List (Int×Int×Int)) (o:Nat) (x:Int×Int×Int),L[o]? =some x→(gL L).getD (2*o) 0=x.1+256*x.2.1∧(gL L).getD (2*o+1) 0=x.2.2
 |[],o,x,h=>by simp at h
 |y::r,0,x,h=>by
  simp at h;subst h;exact⟨rfl,rfl⟩
 |y::r,o+1,x,h=>by
  have h1:=Ad r o x (by simpa using h);have e:gL (y::r)=(y.1+256*y.2.1)::y.2.2::gL r:=rfl;rw[e,show 2*(o+1)=(2*o+1)+1 by omega];simp only[List.getD_cons_succ];exact h1
def uw(m:M)(n:Int)(L:List (Int×Int×Int)):Prop:=∀(o:Nat) (x:Int×Int×Int),L[o]? =some x→m.at_ n o=some x
theorem Gw{m:M}{n:Nat}{L:List (Int×Int×Int)}{pre post:List Int}{b:Nat}(h1:1≤n)(h2:n≤m.ends.length)(hb:m.dU n=b)(he:m.ends.getD (n-1) 0=((b+2*L.length:Nat):Int))(hc:m.code=pre++gL L++post)(hp:pre.length=b)
 (hop:∀x∈L,0≤x.1∧x.1<256):uw m n L:=by
 intro o x hx;have ho:o<L.length:=(List.getElem?_eq_some_iff.1 hx).1;have hm:x∈L:=List.mem_of_getElem? hx;obtain⟨g1,g2⟩:=Ad L o x hx;have hl:=nJ L;have hop:=hop x hm;unfold M.at_;rw[hb];have e1:((n:Int)-1).toNat=n-1:=by omega
 rw[e1,he];rw[if_neg (by
  rintro(h|h|h|h)
  ·omega
  ·omega
  ·omega
  ·have:(((b+2*L.length:Nat):Int)-(b:Nat)).tdiv 2=L.length:=by
    rw[show(((b+2*L.length:Nat):Int)-(b:Nat))=((2*L.length:Nat):Int) by omega];rw[show(2:Int)=((2:Nat):Int)from rfl,←Int.ofNat_tdiv,Nat.mul_div_cancel_left _ (by decide)]
   omega)]
 have k1:m.code.getD (b+2*((o:Int)).toNat) 0=x.1+256*x.2.1:=by
  rw[hc,Int.toNat_natCast,←hp,List.append_assoc,List.getD_eq_getElem?_getD,List.getElem?_append_right (by omega),Nat.add_sub_cancel_left,List.getElem?_append_left (by omega),←List.getD_eq_getElem?_getD];exact g1
 have k2:m.code.getD (b+2*((o:Int)).toNat+1) 0=x.2.2:=by
  rw[hc,Int.toNat_natCast,←hp,List.append_assoc,List.getD_eq_getElem?_getD,Nat.add_assoc,List.getElem?_append_right (by omega),Nat.add_sub_cancel_left,List.getElem?_append_left (by omega),←List.getD_eq_getElem?_getD];exact g2
 dsimp only
 rw[k1,k2];obtain⟨op,a,w⟩:=x;dsimp only at*
 rw[show(op+256*a)%256=op by omega,show(op+256*a) / 256=a by omega]
def M.go(m:M)(n o:Int)(st:List Int)(F:List Fr):M:={(m.sk st).fk F with df:=n,on:=o,nx:=0}
def ED(F:List Fr):Prop:=(aU F).k≠6∧(aU F).k≠7
section
variable {D:Int→PS→Int×PS} {m:M} {n:Int} {L:List (Int×Int×Int)} (hA:uw m n L) (hn:n≠0) {F:List Fr} (hF:ED F) (k:Nat) (o:Nat) (st:List Int)
include hA hn hF
theorem go_step(op a w:Int)(ho:L[o]? =some (op,a,w)):(m.go n o st F).step D=(m.go n ((o+1:Nat):Int) st F).does D op a w:=by
 rw[Ms (m:=m.go n o st F) (op:=op) (a:=a) (w:=w) rfl hF.1 hF.2 hn (hA o _ ho)];rfl
theorem ZU(a w:Int)(ho:L[o]? =some (1,a,w))(hs:st.length<128):M.run D (k+1) (m.go n o st F)=M.run D k (m.go n ((o+1:Nat):Int) (st++[w]) F):=
 fD ((go_step hA hn hF o st 1 a w ho).trans (Gv {m.fk F with df:=n,on:=((o+1:Nat):Int),nx:=0} st w a hs)) k
theorem WQ(a w:Int)(ho:L[o]? =some (15,a,w))(h4:(aU F).k≠4):M.run D (k+1) (m.go n o st F)=M.run D k (m.go 0 0 st F):=
 fD ((go_step hA hn hF o st 15 a w ho).trans (Du (m.go n ((o+1:Nat):Int) st F) a w h4)) k
end
section
variable {D:Int→PS→Int×PS} {m:M} (k:Nat) (st:List Int) {n:Int} {L:List (Int×Int×Int)} (hA:uw m n L) (hn:n≠0) {F:List Fr} {f:Fr} (o:Nat)
theorem go_back(hk:f.k=1):M.run D (k+1) (m.go 0 0 st (F++[f]))=M.run D k (m.go f.a f.b st F):=
 fD (Dv (m.go 0 0 st (F++[f])) rfl rfl rfl hk) k
theorem NK(a b xt c v:Int)(hx:xt≠0)(hw:m.word xt=some (5,c,v))(h1:1≤c)(h2:c≤m.ends.length)(hf:F.length<128):
 M.run D (k+1) {m.go a b st F with nx:=xt}=M.run D k (m.go c 0 st (F++[⟨1,a,b,0,0,[]⟩])):=
 fD ((xA hx).trans (Ac (m.go a b st F) xt c v hw h1 h2 hf)) k
include hA hn
end
structure aZ(K:PS→Prop)(m:M):Prop where
 st:m.S.st.length≤128
 fr:m.fr.length≤128
 ins:m.I.outer.length≤8
 text:m.I.cur.text.size≤1000∧∀o∈m.I.outer,o.text.size≤1000
 words:m.words.length≤1000000
 code:m.code.length≤10000000
 ends:∀x∈m.ends,0≤x∧x≤m.code.length
 CG:m.ends.length≤1000000
 ok:K m.S
 kk:∀S st,K S→K {S with st:=st}
theorem rO{I:lD}(h:I.cur.text.size≤1000∧∀o∈I.outer,o.text.size≤1000)(n:Nat):(I.dI n).cur.text.size≤1000∧∀o∈(I.dI n).outer,o.text.size≤1000:=by
 unfold lD.dI;by_cases hn:n<I.outer.length
 ·rw[if_pos hn];refine⟨?_,fun o ho=>h.2 o (List.mem_of_mem_take ho)⟩;show(I.outer.getD n .none).text.size≤1000;rw[List.getD_eq_getElem?_getD,List.getElem?_eq_getElem hn];exact h.2 _ (List.getElem_mem hn)
 ·rw[if_neg hn];exact h
theorem qx(I:lD)(n:Nat):(I.dI n).outer.length≤I.outer.length:=by
 unfold lD.dI;by_cases hn:n<I.outer.length
 ·rw[if_pos hn];show(I.outer.take n).length≤_;rw[List.length_take];omega
 ·rw[if_neg hn];exact Nat.le_refl _
theorem xP(n:Int)(l:List Int):(nG n l).length≤128:=by
 unfold nG;rw[List.length_take];omega
theorem uP:∀(L:List Fr) (f:Fr) (r:List Fr),dP L=some (f,r)→r.length<L.length
 |[],f,r,h=>by cases h
 |x::L,f,r,h=>by
  unfold dP at h;split at h
  ·rename_i f' r' hr;injection h with h;injection h with h1 h2;subst h2;have:=uP L f' r' hr;simp;omega
  ·split at h
   ·injection h with h;injection h with h1 h2;subst h2;simp
   ·cases h
theorem back_eq(I:lD)(b x:Int):Mr I b x=(if((I.dI b.toNat).outer.length:Int)=b then{I.dI b.toNat with cur:={(I.dI b.toNat).cur with on:=(max (min x (I.dI b.toNat).cur.text.size) 0).toNat}}else I.dI b.toNat):=by
 have e:(if b<I.outer.length then I.dI b.toNat else I)=I.dI b.toNat:=by
  by_cases h:b<I.outer.length
  ·rw[if_pos h]
  ·rw[if_neg h,mR I _ (by omega)]
 unfold Mr;rw[e]
abbrev dH(m:M):Prop:=aZ PS.ok m
def pK(K:PS→Prop)(D:Int→PS→Int×PS):Prop:=∀op S,S.st.length≤128→K S→(D op S).2.st.length≤128∧K (D op S).2
section
variable {K:PS→Prop}
theorem aZ.turn{m m':M}(h:aZ K m)(s:m'.S.st.length≤128)(so:K m'.S)(f:m'.fr.length≤128)(e1:m'.words=m.words)(e2:m'.code=m.code)(e3:m'.ends=m.ends)(e4:m'.I=m.I):aZ K m':=by
 obtain⟨_,_,a3,a4,a5,a6,a7,a8,_,Fs⟩:=h;exact⟨s,f,by rw[e4];exact a3,by rw[e4];exact a4,by rw[e1];exact a5,by rw[e2];exact a6,by rw[e2,e3];exact a7,by rw[e3];exact a8,so,Fs⟩
theorem aZ.at_{m:M}(h:aZ K m)(d o n:Int):aZ K {m with df:=d,on:=o,nx:=n}:=h.turn h.st h.ok h.fr rfl rfl rfl rfl
theorem aZ.mW{m:M}(h:aZ K m){L:List Fr}(hl:L.length≤128):aZ K {m with fr:=L}:=h.turn h.st h.ok hl rfl rfl rfl rfl
theorem aZ.iO{m:M}(h:aZ K m){st:List Int}(hl:st.length≤128):aZ K {m with S:={m.S with st:=st}}:=h.turn hl (h.kk _ _ h.ok) h.fr rfl rfl rfl rfl
theorem qI(hK:∀S st,K S→K {S with st:=st}){S:PS}(h:S.st.length≤128)(hk:K S)(x:Int):(iL S x).2.st.length≤128∧K (iL S x).2:=by
 unfold iL;split
 ·exact⟨by simp;omega,hK _ _ hk⟩
 ·exact⟨h,hk⟩
theorem aZ.push{m:M}(h:aZ K m)(x:Int):aZ K (m.push x).2:=by
 obtain⟨p1,p2⟩:=qI h.kk h.st h.ok x;exact h.turn p1 p2 h.fr rfl rfl rfl rfl
theorem aZ.aK{m:M}(h:aZ K m)(f:Fr):aZ K (m.aK f).2:=by
 unfold M.aK;split
 ·exact h.mW (by simp;omega)
 ·exact h
theorem fT{α:Type}(l:List α){n:Nat}(h:l.length≤n):l.dropLast.length≤n:=by simp;omega
theorem zL{P:lD→Prop}{c:Prop} [Decidable c]{A B:lD}(hA:P A)(hB:P B):P (if c then A else B):=by
 by_cases h:c
 ·rw[if_pos h];exact hA
 ·rw[if_neg h];exact hB
theorem aZ.throw{m:M}(h:aZ K m)(e:Int):aZ K (m.throw e).2:=by
 cases hc:dP m.fr with
 |none=>
  rw[nI hc];exact h.turn (by simp) (h.kk _ _ h.ok) (by simp) rfl rfl rfl rfl
 |some y=>
  obtain⟨f,r⟩:=y;rw[nH hc,back_eq];have hl:=uP _ _ _ hc;have hf:=h.fr;obtain⟨p1,p2⟩:=qI h.kk (S:={m.S with st:=nG f.a m.S.st}) (xP _ _) (h.kk _ _ h.ok) e;have ht:=rO h.text f.b.toNat;have hi:=Nat.le_trans (qx m.I f.b.toNat) h.ins;exact⟨p1,by show r.length≤128;omega,zL (P:=fun I=>I.outer.length≤8) hi hi,zL (P:=fun I=>I.cur.text.size≤1000∧∀o∈I.outer,o.text.size≤1000) ht ht,h.words,h.code,h.ends,h.CG,p2,h.kk⟩
theorem aZ.done{r:Int×M}(h:aZ K r.2):aZ K (M.done r).2:=by
 unfold M.done;split
 ·exact h
 ·exact h.throw _
theorem aZ.aM{m:M}(h:aZ K m)(n:Int)(do_:List Int→M→Int×M)(hd:∀l m',aZ K m'→aZ K (do_ l m').2):aZ K (m.aM n do_).2:=by
 unfold M.aM;split
 ·exact h.throw _
 ·split
  ·exact h.throw _
  ·dsimp only
   have hs:=h.st;have hg:=hd (m.S.st.drop (m.S.st.length-n.toNat)) {m with S:={m.S with st:=m.S.st.take (m.S.st.length-n.toNat)}} (h.iO (by rw[List.length_take];omega));generalize do_ (m.S.st.drop (m.S.st.length-n.toNat)) {m with S:={m.S with st:=m.S.st.take (m.S.st.length-n.toNat)}}=r at hg;split
   ·exact hg
   ·refine aZ.throw ?_ _;split
    ·exact hg.iO (by rw[List.length_append];omega)
    ·exact hg
theorem aZ.call{m:M}(h:aZ K m)(n:Int):aZ K (m.call n).2:=by
 unfold M.call;split
 ·exact h
 ·dsimp only
  split
  ·exact(h.aK _).at_ n 0 _
  ·exact h.aK _
theorem aZ.leave{m:M}(h:aZ K m):aZ K m.leave.2:=by
 unfold M.leave M.pop;have:=h.fr;by_cases hk:m.fr≠[]∧(aU m.fr).k=3
 ·rw[if_pos hk];exact h.mW (fT _ this)
 ·rw[if_neg hk];exact h
theorem aZ.named{m:M}(h:aZ K m)(x:Int):aZ K (m.named x).2:=by
 unfold M.named;split
 ·exact h.at_ _ _ x
 ·exact h
theorem aZ.index{m:M}(h:aZ K m)(n:Nat):aZ K (m.index n).2:=by
 unfold M.index;split
 ·exact(h.push _).done
 ·exact h.throw _
theorem aZ.control{m:M}(h:aZ K m)(n:Int):aZ K (m.control n).2:=by
 have hf:=h.fr;have hs:=h.st;unfold M.control;by_cases h1:n=1
 ·rw[if_pos h1];exact h.aM 1 _ (fun l m' h'=>h'.aK _)
 rw[if_neg h1];by_cases h2:n=2
 ·rw[if_pos h2];unfold M.pop;by_cases hk:m.fr≠[]∧(aU m.fr).k=2
  ·rw[if_pos hk];dsimp only
   have h1:=(h.mW (fT _ hf)).push (aU m.fr).x;split
   ·exact h1.done
   ·exact aZ.done (r:=(_,_)) (h1.aK _)
  ·rw[if_neg hk];exact h.throw _
 rw[if_neg h2];by_cases h3:n=3
 ·rw[if_pos h3];split
  ·exact(h.push _).done
  ·exact h.throw _
 rw[if_neg h3];by_cases h4:n=4
 ·rw[if_pos h4];exact h.index 0
 rw[if_neg h4];by_cases h5:n=5
 ·rw[if_pos h5];exact h.index 1
 rw[if_neg h5];by_cases h6:n=6
 ·rw[if_pos h6];exact h.leave.done
 rw[if_neg h6];by_cases h7:n=7
 ·rw[if_pos h7];exact h.aM 1 _ (fun l m' h'=>h'.named _)
 rw[if_neg h7];by_cases h8:n=8
 ·rw[if_pos h8];refine h.aM 1 _ (fun l m' h'=> ?_);dsimp only
  have h1:=h'.named (l.getD 0 0);have e1:(m'.named (l.getD 0 0)).2.fr=m'.fr:=by unfold M.named;split<;>rfl
  generalize m'.named (l.getD 0 0)=r at h1 e1;split
  ·exact h1
  ·split
   ·exact h1.at_ _ _ 0
   ·exact(h1.mW (L:=r.2.fr++[⟨1,m'.df,m'.on,0,0,[]⟩,⟨5,m'.S.st.length,m'.I.outer.length,m'.I.cur.on,0,[]⟩]) (by rw[e1,List.length_append];simp;omega)).at_ 0 0 _
 ·rw[if_neg h8];split
  ·exact h.throw _
  ·exact aZ.done (r:=(_,_)) (h.iO (fT _ hs))
theorem aZ.deferred{m:M}(h:aZ K m)(n:Int):aZ K (m.deferred n).2:=by
 unfold M.deferred;split
 ·exact h.throw _
 ·split
  ·exact h.at_ _ _ n
  ·exact h.throw _
theorem aZ.execute{D:Int→PS→Int×PS}(hD:pK K D){m:M}(h:aZ K m)(xt:Int):aZ K (m.execute D xt).2:=by
 unfold M.execute;split
 ·exact h.throw _
 ·rename_i k n w _;obtain⟨d1,d2⟩:=hD n m.S h.st h.ok;split
  ·exact aZ.done (r:=(_,_)) (h.turn (m':={m with S:=(D n m.S).2}) d1 d2 h.fr rfl rfl rfl rfl)
  split
  ·exact(h.call n).done
  split
  ·exact(h.push w).done
  split
  ·dsimp only
   split
   ·exact h.throw _
   ·have hq:=(h.push w).call n;generalize (m.push w).2.call n=q at hq;split
    ·exact hq
    ·exact(hq.iO (fT _ hq.st)).throw _
  split
  ·exact h.deferred n
  split
  ·exact h.control n
  ·exact h
theorem aZ.returns{m:M}(h:aZ K m):aZ K m.returns.2:=by
 have hf:=h.fr;unfold M.returns;split
 ·exact h
 split
 ·exact(h.mW (fT _ hf)).at_ _ _ _
 split
 ·dsimp only
  have hp:=h.push 0;split
  ·exact hp.mW (fT _ hp.fr)
  ·exact hp.done
 ·exact h.throw _
theorem aZ.jump{m:M}(h:aZ K m)(b:Bool)(n:Int):aZ K (m.jump b n).2:=by
 unfold M.jump;split
 ·exact h.at_ _ n _
 ·exact h
theorem aZ.loop{m:M}(h:aZ K m)(b n:Int):aZ K (m.loop b n).2:=by
 have hf:=h.fr;unfold M.loop;split
 ·exact h
 ·rename_i hk;dsimp only
  split
  ·exact h.mW (fT _ hf)
  ·have h0:m.fr≠[]:=fun e=>hk (.inl e);have:0<m.fr.length:=List.length_pos_iff.2 h0;exact(h.mW (L:=m.fr.dropLast++[{aU m.fr with x:=wrap64 ((aU m.fr).x+b)}]) (by simp;omega)).at_ _ n _
theorem aZ.begins{m:M}(h:aZ K m)(l:List Int):aZ K (m.begins l).2:=h.aK _
theorem aZ.does{D:Int→PS→Int×PS}(hD:pK K D){m:M}(h:aZ K m)(op a w:Int):aZ K (m.does D op a w).2:=by
 have hf:=h.fr;unfold M.does;by_cases h1:op=1
 ·rw[if_pos h1];exact(h.push w).done
 rw[if_neg h1];by_cases h2:op=2
 ·rw[if_pos h2];exact h.execute hD a
 rw[if_neg h2];by_cases h3:op=3
 ·rw[if_pos h3];exact(h.jump true a).done
 rw[if_neg h3];by_cases h4:op=4
 ·rw[if_pos h4];exact h.aM 1 _ (fun l m' h'=>h'.jump _ _)
 rw[if_neg h4];by_cases h5:op=5
 ·rw[if_pos h5];exact h.aM 2 _ (fun l m' h'=>h'.begins _)
 rw[if_neg h5];by_cases h6:op=6
 ·rw[if_pos h6];refine h.aM 2 _ (fun l m' h'=> ?_);split
  ·exact h'.jump _ _
  ·exact h'.begins _
 rw[if_neg h6];by_cases h7:op=7
 ·rw[if_pos h7];exact(h.loop 1 a).done
 rw[if_neg h7];by_cases h8:op=8
 ·rw[if_pos h8];exact h.aM 1 _ (fun l m' h'=>h'.loop _ _)
 rw[if_neg h8];by_cases h9:op=9
 ·rw[if_pos h9];refine aZ.done (r:=(_,_)) ?_;dsimp only
  split
  ·exact h.leave.at_ _ a _
  ·exact h
 rw[if_neg h9];by_cases h10:op=10
 ·rw[if_pos h10];refine h.aM 2 _ (fun l m' h'=> ?_);split
  ·exact h'
  ·exact(h'.push _).jump _ _
 rw[if_neg h10];by_cases h11:op=11
 ·rw[if_pos h11];exact h.aM 1 _ (fun l m' h'=>h')
 rw[if_neg h11];by_cases Ct:op=12
 ·rw[if_pos Ct];exact h.aM a _ (fun l m' h'=>h'.aK _)
 rw[if_neg Ct];by_cases Wd:op=13
 ·rw[if_pos Wd];split
  ·exact h.throw _
  ·split
   ·exact(h.push _).done
   ·exact h.throw _
 rw[if_neg Wd];by_cases Wh:op=14
 ·rw[if_pos Wh];refine h.aM 1 _ (fun l m' h'=> ?_);dsimp only
  split
  ·exact h'
  ·split
   ·exact h'.mW (by rw[List.length_set];exact h'.fr)
   ·exact h'
 ·rw[if_neg Wh];refine(h.mW (L:=if(aU m.fr).k=4 then m.fr.dropLast else m.fr) ?_).at_ 0 0 _;split
  ·exact fT _ hf
  ·exact hf
theorem aZ.step{D:Int→PS→Int×PS}(hD:pK K D){m:M}(h:aZ K m):aZ K (m.step D).2:=by
 unfold M.step;split
 ·exact(h.at_ _ _ 0).execute hD _
 split
 ·exact h
 split
 ·exact h.returns
 split
 ·exact h.throw _
 ·exact(h.at_ _ _ _).does hD _ _ _
end
structure aX(K:PS→Prop)(R:List (Int×Int×Int)→List Int→List Int→Prop)(m:M):Prop where
 st:m.S.st.length≤128
 fr:m.fr.length≤128
 ins:m.I.outer.length≤8
 text:m.I.cur.text.size≤1000∧∀o∈m.I.outer,o.text.size≤1000
 words:m.words.length≤1000000
 code:m.code.length≤10000000
 ends:∀x∈m.ends,0≤x∧x≤m.code.length
 CG:m.ends.length≤1000000
 ok:K m.S
 kk:∀S st,K S→K {S with st:=st}
 rest:R m.words m.code m.ends
section
variable {K:PS→Prop} {R:List (Int×Int×Int)→List Int→List Int→Prop}
theorem aX.turn{m m':M}(h:aX K R m)(s:m'.S.st.length≤128)(so:K m'.S)(f:m'.fr.length≤128)(e1:m'.words=m.words)(e2:m'.code=m.code)(e3:m'.ends=m.ends)(e4:m'.I=m.I):aX K R m':=by
 obtain⟨_,_,a3,a4,a5,a6,a7,a8,_,Fs,a11⟩:=h;exact⟨s,f,by rw[e4];exact a3,by rw[e4];exact a4,by rw[e1];exact a5,by rw[e2];exact a6,by rw[e2,e3];exact a7,by rw[e3];exact a8,so,Fs,by rw[e1,e2,e3];exact a11⟩
theorem aX.at_{m:M}(h:aX K R m)(d o n:Int):aX K R {m with df:=d,on:=o,nx:=n}:=h.turn h.st h.ok h.fr rfl rfl rfl rfl
theorem aX.mW{m:M}(h:aX K R m){L:List Fr}(hl:L.length≤128):aX K R {m with fr:=L}:=h.turn h.st h.ok hl rfl rfl rfl rfl
theorem aX.iO{m:M}(h:aX K R m){st:List Int}(hl:st.length≤128):aX K R {m with S:={m.S with st:=st}}:=h.turn hl (h.kk _ _ h.ok) h.fr rfl rfl rfl rfl
theorem aX.push{m:M}(h:aX K R m)(x:Int):aX K R (m.push x).2:=by
 obtain⟨p1,p2⟩:=qI h.kk h.st h.ok x;exact h.turn p1 p2 h.fr rfl rfl rfl rfl
theorem aX.aK{m:M}(h:aX K R m)(f:Fr):aX K R (m.aK f).2:=by
 unfold M.aK;split
 ·exact h.mW (by simp;omega)
 ·exact h
theorem aX.throw{m:M}(h:aX K R m)(e:Int):aX K R (m.throw e).2:=by
 cases hc:dP m.fr with
 |none=>
  rw[nI hc];exact h.turn (by simp) (h.kk _ _ h.ok) (by simp) rfl rfl rfl rfl
 |some y=>
  obtain⟨f,r⟩:=y;rw[nH hc,back_eq];have hl:=uP _ _ _ hc;have hf:=h.fr;obtain⟨p1,p2⟩:=qI h.kk (S:={m.S with st:=nG f.a m.S.st}) (xP _ _) (h.kk _ _ h.ok) e;have ht:=rO h.text f.b.toNat;have hi:=Nat.le_trans (qx m.I f.b.toNat) h.ins;exact⟨p1,by show r.length≤128;omega,zL (P:=fun I=>I.outer.length≤8) hi hi,zL (P:=fun I=>I.cur.text.size≤1000∧∀o∈I.outer,o.text.size≤1000) ht ht,h.words,h.code,h.ends,h.CG,p2,h.kk,h.rest⟩
theorem aX.done{r:Int×M}(h:aX K R r.2):aX K R (M.done r).2:=by
 unfold M.done;split
 ·exact h
 ·exact h.throw _
theorem aX.aM{m:M}(h:aX K R m)(n:Int)(do_:List Int→M→Int×M)(hd:∀l m',aX K R m'→aX K R (do_ l m').2):aX K R (m.aM n do_).2:=by
 unfold M.aM;split
 ·exact h.throw _
 ·split
  ·exact h.throw _
  ·dsimp only
   have hs:=h.st;have hg:=hd (m.S.st.drop (m.S.st.length-n.toNat)) {m with S:={m.S with st:=m.S.st.take (m.S.st.length-n.toNat)}} (h.iO (by rw[List.length_take];omega));generalize do_ (m.S.st.drop (m.S.st.length-n.toNat)) {m with S:={m.S with st:=m.S.st.take (m.S.st.length-n.toNat)}}=r at hg;split
   ·exact hg
   ·refine aX.throw ?_ _;split
    ·exact hg.iO (by rw[List.length_append];omega)
    ·exact hg
theorem aX.call{m:M}(h:aX K R m)(n:Int):aX K R (m.call n).2:=by
 unfold M.call;split
 ·exact h
 ·dsimp only
  split
  ·exact(h.aK _).at_ n 0 _
  ·exact h.aK _
theorem aX.leave{m:M}(h:aX K R m):aX K R m.leave.2:=by
 unfold M.leave M.pop;have:=h.fr;by_cases hk:m.fr≠[]∧(aU m.fr).k=3
 ·rw[if_pos hk];exact h.mW (fT _ this)
 ·rw[if_neg hk];exact h
theorem aX.named{m:M}(h:aX K R m)(x:Int):aX K R (m.named x).2:=by
 unfold M.named;split
 ·exact h.at_ _ _ x
 ·exact h
theorem aX.index{m:M}(h:aX K R m)(n:Nat):aX K R (m.index n).2:=by
 unfold M.index;split
 ·exact(h.push _).done
 ·exact h.throw _
theorem aX.control{m:M}(h:aX K R m)(n:Int):aX K R (m.control n).2:=by
 have hf:=h.fr;have hs:=h.st;unfold M.control;by_cases h1:n=1
 ·rw[if_pos h1];exact h.aM 1 _ (fun l m' h'=>h'.aK _)
 rw[if_neg h1];by_cases h2:n=2
 ·rw[if_pos h2];unfold M.pop;by_cases hk:m.fr≠[]∧(aU m.fr).k=2
  ·rw[if_pos hk];dsimp only
   have h1:=(h.mW (fT _ hf)).push (aU m.fr).x;split
   ·exact h1.done
   ·exact aX.done (r:=(_,_)) (h1.aK _)
  ·rw[if_neg hk];exact h.throw _
 rw[if_neg h2];by_cases h3:n=3
 ·rw[if_pos h3];split
  ·exact(h.push _).done
  ·exact h.throw _
 rw[if_neg h3];by_cases h4:n=4
 ·rw[if_pos h4];exact h.index 0
 rw[if_neg h4];by_cases h5:n=5
 ·rw[if_pos h5];exact h.index 1
 rw[if_neg h5];by_cases h6:n=6
 ·rw[if_pos h6];exact h.leave.done
 rw[if_neg h6];by_cases h7:n=7
 ·rw[if_pos h7];exact h.aM 1 _ (fun l m' h'=>h'.named _)
 rw[if_neg h7];by_cases h8:n=8
 ·rw[if_pos h8];refine h.aM 1 _ (fun l m' h'=> ?_);dsimp only
  have h1:=h'.named (l.getD 0 0);have e1:(m'.named (l.getD 0 0)).2.fr=m'.fr:=by unfold M.named;split<;>rfl
  generalize m'.named (l.getD 0 0)=r at h1 e1;split
  ·exact h1
  ·split
   ·exact h1.at_ _ _ 0
   ·exact(h1.mW (L:=r.2.fr++[⟨1,m'.df,m'.on,0,0,[]⟩,⟨5,m'.S.st.length,m'.I.outer.length,m'.I.cur.on,0,[]⟩]) (by rw[e1,List.length_append];simp;omega)).at_ 0 0 _
 ·rw[if_neg h8];split
  ·exact h.throw _
  ·exact aX.done (r:=(_,_)) (h.iO (fT _ hs))
theorem aX.deferred{m:M}(h:aX K R m)(n:Int):aX K R (m.deferred n).2:=by
 unfold M.deferred;split
 ·exact h.throw _
 ·split
  ·exact h.at_ _ _ n
  ·exact h.throw _
theorem aX.execute{D:Int→PS→Int×PS}(hD:pK K D){m:M}(h:aX K R m)(xt:Int):aX K R (m.execute D xt).2:=by
 unfold M.execute;split
 ·exact h.throw _
 ·rename_i k n w _;obtain⟨d1,d2⟩:=hD n m.S h.st h.ok;split
  ·exact aX.done (r:=(_,_)) (h.turn (m':={m with S:=(D n m.S).2}) d1 d2 h.fr rfl rfl rfl rfl)
  split
  ·exact(h.call n).done
  split
  ·exact(h.push w).done
  split
  ·dsimp only
   split
   ·exact h.throw _
   ·have hq:=(h.push w).call n;generalize (m.push w).2.call n=q at hq;split
    ·exact hq
    ·exact(hq.iO (fT _ hq.st)).throw _
  split
  ·exact h.deferred n
  split
  ·exact h.control n
  ·exact h
theorem aX.returns{m:M}(h:aX K R m):aX K R m.returns.2:=by
 have hf:=h.fr;unfold M.returns;split
 ·exact h
 split
 ·exact(h.mW (fT _ hf)).at_ _ _ _
 split
 ·dsimp only
  have hp:=h.push 0;split
  ·exact hp.mW (fT _ hp.fr)
  ·exact hp.done
 ·exact h.throw _
theorem aX.jump{m:M}(h:aX K R m)(b:Bool)(n:Int):aX K R (m.jump b n).2:=by
 unfold M.jump;split
 ·exact h.at_ _ n _
 ·exact h
theorem aX.loop{m:M}(h:aX K R m)(b n:Int):aX K R (m.loop b n).2:=by
 have hf:=h.fr;unfold M.loop;split
 ·exact h
 ·rename_i hk;dsimp only
  split
  ·exact h.mW (fT _ hf)
  ·have h0:m.fr≠[]:=fun e=>hk (.inl e);have:0<m.fr.length:=List.length_pos_iff.2 h0;exact(h.mW (L:=m.fr.dropLast++[{aU m.fr with x:=wrap64 ((aU m.fr).x+b)}]) (by simp;omega)).at_ _ n _
theorem aX.begins{m:M}(h:aX K R m)(l:List Int):aX K R (m.begins l).2:=h.aK _
theorem aX.does{D:Int→PS→Int×PS}(hD:pK K D){m:M}(h:aX K R m)(op a w:Int):aX K R (m.does D op a w).2:=by
 have hf:=h.fr;unfold M.does;by_cases h1:op=1
 ·rw[if_pos h1];exact(h.push w).done
 rw[if_neg h1];by_cases h2:op=2
 ·rw[if_pos h2];exact h.execute hD a
 rw[if_neg h2];by_cases h3:op=3
 ·rw[if_pos h3];exact(h.jump true a).done
 rw[if_neg h3];by_cases h4:op=4
 ·rw[if_pos h4];exact h.aM 1 _ (fun l m' h'=>h'.jump _ _)
 rw[if_neg h4];by_cases h5:op=5
 ·rw[if_pos h5];exact h.aM 2 _ (fun l m' h'=>h'.begins _)
 rw[if_neg h5];by_cases h6:op=6
 ·rw[if_pos h6];refine h.aM 2 _ (fun l m' h'=> ?_);split
  ·exact h'.jump _ _
  ·exact h'.begins _
 rw[if_neg h6];by_cases h7:op=7
 ·rw[if_pos h7];exact(h.loop 1 a).done
 rw[if_neg h7];by_cases h8:op=8
 ·rw[if_pos h8];exact h.aM 1 _ (fun l m' h'=>h'.loop _ _)
 rw[if_neg h8];by_cases h9:op=9
 ·rw[if_pos h9];refine aX.done (r:=(_,_)) ?_;dsimp only
  split
  ·exact h.leave.at_ _ a _
  ·exact h
 rw[if_neg h9];by_cases h10:op=10
 ·rw[if_pos h10];refine h.aM 2 _ (fun l m' h'=> ?_);split
  ·exact h'
  ·exact(h'.push _).jump _ _
 rw[if_neg h10];by_cases h11:op=11
 ·rw[if_pos h11];exact h.aM 1 _ (fun l m' h'=>h')
 rw[if_neg h11];by_cases Ct:op=12
 ·rw[if_pos Ct];exact h.aM a _ (fun l m' h'=>h'.aK _)
 rw[if_neg Ct];by_cases Wd:op=13
 ·rw[if_pos Wd];split
  ·exact h.throw _
  ·split
   ·exact(h.push _).done
   ·exact h.throw _
 rw[if_neg Wd];by_cases Wh:op=14
 ·rw[if_pos Wh];refine h.aM 1 _ (fun l m' h'=> ?_);dsimp only
  split
  ·exact h'
  ·split
   ·exact h'.mW (by rw[List.length_set];exact h'.fr)
   ·exact h'
 ·rw[if_neg Wh];refine(h.mW (L:=if(aU m.fr).k=4 then m.fr.dropLast else m.fr) ?_).at_ 0 0 _;split
  ·exact fT _ hf
  ·exact hf
theorem aX.step{D:Int→PS→Int×PS}(hD:pK K D){m:M}(h:aX K R m):aX K R (m.step D).2:=by
 unfold M.step;split
 ·exact(h.at_ _ _ 0).execute hD _
 split
 ·exact h
 split
 ·exact h.returns
 split
 ·exact h.throw _
 ·exact(h.at_ _ _ _).does hD _ _ _
end
end En
end Go.Proofs.YtdokeddjcpnmiaaGreatDoor
