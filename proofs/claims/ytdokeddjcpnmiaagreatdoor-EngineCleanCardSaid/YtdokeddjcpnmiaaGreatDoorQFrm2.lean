/- Of EngineClean: Mem2 PState RowC Frm Frm2 Frm3 Frm4 Same. -/
import Derived.Test.YtdokeddjcpnmiaaGreatDoorQMemC
import Derived.Laws.MakeOwn
import Derived.Deep.Cut
set_option maxRecDepth 100000
set_option maxHeartbeats 3200000
namespace Go.Proofs.YtdokeddjcpnmiaaGreatDoor
open Go.RowKit Go.Proofs.Tryz
open Go.Lib(hid)
theorem WE:(prog.info? 5).map (fun i=>(i.zero,i.size,i.bytes))=some (some (.int .u8 0),1,1):=by kernel_rfl
theorem Rp:∃i0,prog.info? 5=some i0∧i0.zero=some (.int .u8 0)∧i0.size=1∧i0.bytes=1:=by
 have h:=WE;cases hi:prog.info? 5 with
 |none=>rw[hi]at h;cases h
 |some i=>rw[hi]at h;simp at h;exact⟨i,rfl,h.1,h.2.1,h.2.2⟩
section
variable {w w':World} {m g n here:Nat} {bs:List Int}
theorem JG(n:Nat)(hn:n≤65536)(w:World):(Instr.makeSlice 90 (.int .i64 (n:Int)) (.int .i64 (n:Int))).run prog w=.ok (.slice (some ⟨w.heap.size,0,none⟩) n n) (w.alloc (.cells (aL (List.replicate n 0)).toArray 5)):=by
 obtain⟨i0,zI,hz0,hz1,hz2⟩:=Rp;have h:=run_makeSlice (w:=w) (P:=prog) 90 5 i0 _ underlying90 zI hz0 .i64 .i64 n n (by omega) (Int.le_refl _) (by rw[hz1];omega) (by rw[hz2];omega) (by omega);rw[hz1]at h;have e:madeCells (Value.cells (.int .u8 0)) ((n:Int).toNat*1)=(aL (List.replicate n 0)).toArray:=by
  apply Array.ext
  ·simp[madeCells,aL]
  ·intro i h1 h2;simp[madeCells,aL,Nat.mod_one,Value.cells]
 rw[e]at h;simpa using h
theorem WG(n:Nat)(h1:1024≤n)(h2:n≤65536)(h3:n%8=0)(w:World):Calls prog 50 #[.int .i64 n] w fun e w'=>e=.returned (.tuple #[.pointer (some ⟨w.heap.size+1,0,none⟩),.int .i64 0])∧aY w' (w.heap.size+1) w.heap.size n (List.replicate n 0) 0∧Touch [] w w':=by
 have hm:=JG n h2;have g1:¬(n:Int)<1024:=by omega
 have g2:¬(n:Int)>65536:=by omega
 have g3:(n:Int).tmod 8=0:=by rw[Int.tmod_eq_emod_of_nonneg (by omega)];omega
 have g4:(n:Int)%8=0:=by omega
 have bR:=(aF.new w 5 (aL (List.replicate n 0)).toArray).alloc (.cells #[.slice (some ⟨w.heap.size,0,none⟩) n n,.int .i64 0] 144);have bM:=aF.dG (n:=w.heap.size+1) (w.alloc (.cells (aL (List.replicate n 0)).toArray 5)) (by simp) 144 #[.slice (some ⟨w.heap.size,0,none⟩) n n,.int .i64 0];have t:=((tR w).alloc (.cells (aL (List.replicate n 0)).toArray 5)).alloc (.cells #[.slice (some ⟨w.heap.size,0,none⟩) n n,.int .i64 0] 144);have dw:aY _ (w.heap.size+1) w.heap.size n (List.replicate n 0) 0:=⟨bM,bR,by simp,fun x hx=>by rw[List.eq_of_mem_replicate hx];decide,h2,Nat.zero_le _⟩;have HF:=hid (And.intro dw t);clear dw t bR bM h1 h2 h3;go_enter func50,ntmps50;go_wp2_with fail;go_ret2;exact⟨rfl,HF.out.1,HF.out.2⟩
theorem zZ(h:aY w m g n bs here)(k:Int)(h1:k≤n-512-here)(h2: -(here:Int)≤k)(here':Nat)(hh:(here':Int)=here+k)(h3:512≤n):Calls prog 89 #[.pointer (some ⟨m,0,none⟩),.int .i64 k] w fun e w'=>e=.returned (.int .i64 0)∧aY w' m g n bs here'∧Touch [m] w w':=by
 have c0:=h.blk.cell 0;have c1:=h.blk.cell 1;have f1:=h.blk.frozen 1;have hs:=h.small;have hl:=h.low;have e1:IntKind.i64.wrap ((n:Int)-512)=n-512:=by rw[IntKind.wrap_i64];omega
 have e2:IntKind.i64.wrap ((n:Int)-512-here)=n-512-here:=by rw[IntKind.wrap_i64];omega
 have e3:IntKind.i64.wrap (-(here:Int))= -here:=by rw[IntKind.wrap_i64];omega
 have e4:IntKind.i64.wrap ((here:Int)+k)=here':=by rw[IntKind.wrap_i64];omega
 have g1:¬k>n-512-here:=by omega
 have g2:¬k< -(here:Int):=by omega
 have jX:here'≤n:=by omega
 have H:=hid (And.intro h jX);clear h h1 h2 hh h3 jX;go_enter func89,ntmps89;go_upto_region 3 with fail;go_quiet (fail)
 go_wp2_with fail;go_ret;refine⟨rfl,⟨(H.out.1.blk.drewN nq).bJ 1 _,(H.out.1.row.drewN nq).far (fun e=>H.out.1.ne e.symm) _,H.out.1.len,H.out.1.byte,H.out.1.small,H.out.2⟩,((Touch.refl [m] w).drewN nq).setCell (by simp) _⟩
theorem xk(h:aY w m g n bs here)(k:Int)(hk:(n:Int)-512-here<k∨k< -(here:Int))(h3:512≤n):Calls prog 89 #[.pointer (some ⟨m,0,none⟩),.int .i64 k] w fun e w'=>e=.returned (.int .i64 (-8))∧Touch [] w w':=by
 have c0:=h.blk.cell 0;have c1:=h.blk.cell 1;have hs:=h.small;have hl:=h.low;have e1:IntKind.i64.wrap ((n:Int)-512)=n-512:=by rw[IntKind.wrap_i64];omega
 have e2:IntKind.i64.wrap ((n:Int)-512-here)=n-512-here:=by rw[IntKind.wrap_i64];omega
 have e3:IntKind.i64.wrap (-(here:Int))= -here:=by rw[IntKind.wrap_i64];omega
 have hc:k>n-512-here∨(¬k>n-512-here∧k< -(here:Int)):=by omega
 clear h hk h3;rcases hc with g1|⟨g1,g2⟩
 all_goals
  go_enter func89,ntmps89;go_upto_region 3 with fail;go_quiet (fail)
  go_wp2_with fail;go_ret;exact⟨rfl,(tR w).drewN _⟩
theorem Gs(h:aY w m g n bs here)(x:Int)(h8:here%8=0)(h1:here+8+512≤n):Calls prog 51 #[.pointer (some ⟨m,0,none⟩),.int .i64 x] w fun e w'=>e=.returned (.int .i64 0)∧aY w' m g n (vH bs here x 8) (here+8)∧Touch [m,g] w w':=by
 have hH:=nE h;have hA:=zZ h 8 (by omega) (by omega) (here+8) (by omega) (by omega);have e1:(here:Int)%8=0:=by omega
 have H:=hid h8;clear h;go_enter func51,ntmps51;go_wp2_with fail;refine hH.mono ?_;rintro _ _ ⟨rfl,rfl⟩;clear hH;go_wp2_with fail;refine hA.mono ?_;rintro _ w1 ⟨rfl,hM,t1⟩;have hP:=Mh hM here x (by omega) H.out;clear hA hM;go_wp2_with fail;refine hP.mono ?_;rintro _ w2 ⟨rfl,hM,t2⟩;clear hP;go_wp2_with fail;go_ret;exact⟨rfl,hM,(t1.mono (G:=[m,g]) (by simp)).trans t2 (by simp)⟩
end
structure PS where
 t:Nat
 k:Nat
 m:Nat
 g:Nat
 n:Nat
 st:List Int
 bs:List Int
 here:Nat
 out:List Int
 made:List Int
def zo(w:World)(b:Nat)(ty:TypeId):Prop:=∃cs fz,w.heap[b]? =some (.cells cs ty fz)
theorem zo.ne{w:World}{a b:Nat}{t u:TypeId}(h:zo w a t)(k:zo w b u)(hn:t≠u):a≠b:=by
 rintro rfl;obtain⟨_,_,e1⟩:=h;obtain⟨_,_,e2⟩:=k;rw[e1]at e2;injection e2 with e2;injection e2 with _ e3 _;exact hn e3
theorem aF.ty{w:World}{b:Nat}{t:TypeId}{cs:Array Value}(h:aF w b t cs):zo w b t:=⟨_,_,h⟩
theorem jY{w:World}{base n s:Nat}{e:TypeId}{v:Value}{xs:List Value}(h:w.ownsRow base e s v n xs):∀x∈rowOf v,zo w x e:=by
 intro x hx;rcases h.2 with⟨rfl,_⟩|⟨g,cap,cur,rfl,_,hg,_⟩
 ·simp[rowOf]at hx
 ·simp[rowOf]at hx;subst hx;exact⟨_,_,hg⟩
theorem ZQ{w:World}{b:Nat}{F:List Nat}{L:List Int}(h:aG w b F L):∀x∈F,zo w x 94∨zo w x 33:=by
 obtain⟨v,hb,rfl,_,hr⟩:=h;intro x hx;rcases List.mem_cons.1 hx with rfl|hx
 ·exact .inl hb.ty
 ·exact .inr (jY hr x hx)
def vI(w:World)(v:Value)(l:List Int):Prop:=w.ownsRow 0 5 1 v l.length (aL l)∧Bytes l
structure iB(w:World)(s:Nat)(FS:List Nat)(ov mv:Value)(S:PS):Prop where
 blk:aF w s 92 #[.pointer (some ⟨S.t,0,none⟩),.pointer (some ⟨S.k,0,none⟩),.pointer (some ⟨S.m,0,none⟩),mv]
 QX:aF w S.t 110 #[ov]
 iO:aG w S.k FS S.st
 mem:aY w S.m S.g S.n S.bs S.here
 out:vI w ov S.out
 made:vI w mv S.made
 go:S.g∉rowOf ov
 gm:S.g∉rowOf mv
 om:∀x∈rowOf ov,x∉rowOf mv
def foot(s:Nat)(S:PS)(FS:List Nat)(ov mv:Value):List Nat:=s::S.t::S.m::S.g::(FS++(rowOf ov++rowOf mv))
def aC(w:World)(s:Nat)(F:List Nat)(S:PS):Prop:=∃FS ov mv,iB w s FS ov mv S∧F=foot s S FS ov mv
section
variable {w w':World} {s:Nat} {FS:List Nat} {ov mv:Value} {S:PS}
theorem iB.sG(h:iB w s FS ov mv S):s∉FS∧S.t∉FS∧S.m∉FS∧S.g∉FS∧(∀x∈rowOf ov,x∉FS)∧∀x∈rowOf mv,x∉FS:=by
 have hk:=ZQ h.iO;have key:∀a t,zo w a t→t≠94→t≠33→a∉FS:=fun a t ha h1 h2 hf=>by
  rcases hk a hf with h|h
  ·exact ha.ne h h1 rfl
  ·exact ha.ne h h2 rfl
 exact⟨key _ _ h.blk.ty (by decide) (by decide),key _ _ h.QX.ty (by decide) (by decide),key _ _ h.mem.blk.ty (by decide) (by decide),key _ _ h.mem.row.ty (by decide) (by decide),fun x hx=>key _ _ (jY h.out.1 x hx) (by decide) (by decide),fun x hx=>key _ _ (jY h.made.1 x hx) (by decide) (by decide)⟩
theorem iB.quiet{G:List Nat}(h:iB w s FS ov mv S)(t:Touch G w w')(hn:∀x∈foot s S FS ov mv,x∉G):iB w' s FS ov mv S:=by
 have hm:∀x,x∈foot s S FS ov mv↔x=s∨x=S.t∨x=S.m∨x=S.g∨x∈FS∨x∈rowOf ov∨x∈rowOf mv:=by simp[foot]
 refine⟨h.blk.touch t (hn _ ((hm _).2 (by simp))),h.QX.touch t (hn _ ((hm _).2 (by simp))),h.iO.touch t (fun f hf=>hn _ ((hm _).2 (by simp[hf]))),h.mem.touch t (hn _ ((hm _).2 (by simp))) (hn _ ((hm _).2 (by simp))),⟨aj h.out.1 t (fun x hx=>hn _ ((hm _).2 (by simp[hx]))),h.out.2⟩,⟨aj h.made.1 t (fun x hx=>hn _ ((hm _).2 (by simp[hx]))),h.made.2⟩,h.go,h.gm,h.om⟩
theorem aC.quiet{F:List Nat}(h:aC w s F S)(t:Touch [] w w'):aC w' s F S:=by
 obtain⟨FS,ov,mv,h,rfl⟩:=h;exact⟨FS,ov,mv,h.quiet t (by simp),rfl⟩
theorem iB.stack{yH:List Nat}{L:List Int}(h:iB w s FS ov mv S)(hs:aG w' S.k yH L)(t:Touch FS w w'):iB w' s yH ov mv {S with st:=L}:=by
 obtain⟨a1,a2,a3,a4,a5,a6⟩:=h.sG;exact⟨h.blk.touch t a1,h.QX.touch t a2,hs,h.mem.touch t a3 a4,⟨aj h.out.1 t a5,h.out.2⟩,⟨aj h.made.1 t a6,h.made.2⟩,h.go,h.gm,h.om⟩
theorem dV{yH:List Nat}{L:List Int}(hs:Sub w FS yH):Sub w (foot s S FS ov mv) (foot s {S with st:=L} yH ov mv):=by
 intro f hf;simp only[foot,List.mem_cons,List.mem_append]at hf⊢;rcases hf with h|h|h|h|h|h|h
 ·exact .inl (.inl h)
 ·exact .inl (.inr (.inl h))
 ·exact .inl (.inr (.inr (.inl h)))
 ·exact .inl (.inr (.inr (.inr (.inl h))))
 ·rcases hs f h with h|h
  ·exact .inl (.inr (.inr (.inr (.inr (.inl h)))))
  ·exact .inr h
 ·exact .inl (.inr (.inr (.inr (.inr (.inr (.inl h))))))
 ·exact .inl (.inr (.inr (.inr (.inr (.inr (.inr h))))))
theorem aI:∀x∈FS,x∈foot s S FS ov mv:=fun x hx=>by simp[foot,hx]
theorem iB.memory{pg:List Int}{here':Nat}(h:iB w s FS ov mv S)(hm:aY w' S.m S.g S.n pg here')(t:Touch [S.m,S.g] w w'):iB w' s FS ov mv {S with bs:=pg,here:=here'}:=by
 obtain⟨a1,a2,a3,a4,a5,a6⟩:=h.sG;have key:∀a ty,zo w a ty→ty≠144→ty≠5→a∉[S.m,S.g]:=fun a ty ha h1 h2 hf=>by
  simp only[List.mem_cons,List.not_mem_nil,or_false]at hf;rcases hf with rfl|rfl
  ·exact ha.ne h.mem.blk.ty h1 rfl
  ·exact ha.ne h.mem.row.ty h2 rfl
 have PJ:∀v,(∀x∈rowOf v,zo w x 5)→S.g∉rowOf v→∀x∈rowOf v,x∉[S.m,S.g]:=fun v hv hg x hx hf=>by
  simp only[List.mem_cons,List.not_mem_nil,or_false]at hf;rcases hf with rfl|rfl
  ·exact(hv _ hx).ne h.mem.blk.ty (by decide) rfl
  ·exact hg hx
 exact⟨h.blk.touch t (key _ _ h.blk.ty (by decide) (by decide)),h.QX.touch t (key _ _ h.QX.ty (by decide) (by decide)),h.iO.touch t (fun f hf hg=>by
  simp only[List.mem_cons,List.not_mem_nil,or_false]at hg;rcases hg with rfl|rfl
  ·exact a3 hf
  ·exact a4 hf),hm,⟨aj h.out.1 t (PJ ov (jY h.out.1) h.go),h.out.2⟩,⟨aj h.made.1 t (PJ mv (jY h.made.1) h.gm),h.made.2⟩,h.go,h.gm,h.om⟩
end
theorem WH(n:Nat)(h1:1024≤n)(h2:n≤65536)(h3:n%8=0)(w:World):Calls prog 29 #[.int .i64 n] w fun e w'=>∃s F S,e=.returned (.tuple #[.pointer (some ⟨s,0,none⟩),.int .i64 0])∧aC w' s F S∧(∀x∈F,w.heap.size≤x)∧Touch [] w w'∧S.n=n∧S.st=[]∧S.bs=vH (List.replicate n 0) 0 10 8∧S.here=8∧S.out=[]∧S.made=[]:=by
 have hM:=WG n h1 h2 h3 w;have hS:=fun W=>Wy W;go_enter func29,ntmps29;go_wp2_with fail;refine hM.mono ?_;rintro _ w1 ⟨rfl,hm,t1⟩;have hC:=Gs hm 10 (by decide) (by omega);have s1:=t1.size;clear hM;go_wp2_with fail;refine hC.mono ?_;rintro _ w2 ⟨rfl,hm,t2⟩;clear hC;go_upto_region 5 with fail;have pj:=hm.touch ((tR w2).alloc (.cells #[.slice none 0 0] 110)) (by simp) (by simp);have bT:=aF.new w2 110 #[.slice none 0 0];have T2:=(t1.trans t2 (fun g hg=>by simp only[List.mem_cons,List.not_mem_nil,or_false]at hg;omega)).alloc (.cells #[.slice none 0 0] 110);have s2:=T2.size;have Rs:=hS (w2.alloc (.cells #[.slice none 0 0] 110));have z2:w.heap.size+2≤w2.heap.size:=by
  have h1:=hm.blk.lt;have h2:=t2.size;omega
 have sT:(w2.alloc (.cells #[.slice none 0 0] 110)).heap.size=w2.heap.size+1:=by simp
 have HH:=hid (And.intro pj (And.intro bT (And.intro T2 (And.intro z2 sT))));clear hm pj bT T2 t1 t2 s1 s2 hS z2 sT;go_wp2_with fail;refine Rs.mono ?_;rintro _ w3 ⟨rfl,hk,t3⟩;clear Rs;obtain⟨pj,bT,T2,z2,sT⟩:=HH.out;rw[sT]at hk;have t4:=(tR w3).alloc (.cells #[.pointer (some ⟨w2.heap.size,0,none⟩),.pointer (some ⟨w2.heap.size+1,0,none⟩),.pointer (some ⟨w.heap.size+1,0,none⟩),.slice none 0 0] 92);have bS:=aF.new w3 92 #[.pointer (some ⟨w2.heap.size,0,none⟩),.pointer (some ⟨w2.heap.size+1,0,none⟩),.pointer (some ⟨w.heap.size+1,0,none⟩),.slice none 0 0];have t34:=t3.trans t4 (by simp);have z3:=t3.size;have dw:aC (w3.alloc (.cells #[.pointer (some ⟨w2.heap.size,0,none⟩),.pointer (some ⟨w2.heap.size+1,0,none⟩),.pointer (some ⟨w.heap.size+1,0,none⟩),.slice none 0 0] 92)) w3.heap.size (foot w3.heap.size ⟨w2.heap.size,(w2.heap.size+1),w.heap.size+1,w.heap.size,n,[],vH (List.replicate n 0) 0 10 8,8,[],[]⟩ [w2.heap.size+1] (.slice none 0 0) (.slice none 0 0)) ⟨w2.heap.size,(w2.heap.size+1),w.heap.size+1,w.heap.size,n,[],vH (List.replicate n 0) 0 10 8,8,[],[]⟩:=
  ⟨_,_,_,⟨bS,bT.touch t34 (by simp),hk.touch t4 (by simp),pj.touch t34 (by simp) (by simp),⟨World.ownsRow_nil _ _ _ _,by simp[Bytes]⟩,⟨World.ownsRow_nil _ _ _ _,by simp[Bytes]⟩,by simp[rowOf],by simp[rowOf],by simp[rowOf]⟩,rfl⟩
 have hF:∀x∈foot w3.heap.size ⟨w2.heap.size,(w2.heap.size+1),w.heap.size+1,w.heap.size,n,[],vH (List.replicate n 0) 0 10 8,8,[],[]⟩ [w2.heap.size+1] (.slice none 0 0) (.slice none 0 0),w.heap.size≤x:=by
  intro x hx;simp only[foot,rowOf,List.mem_cons,List.mem_append,List.not_mem_nil,or_false]at hx;have h1:=t3.size;have h2:=T2.size;omega
 have HF:=hid (And.intro dw (And.intro hF (T2.trans t34 (by simp))));clear dw hF t3 t4 t34 bS hk pj bT T2 z2 z3;go_wp2_with fail;go_ret2;exact⟨_,_,_,rfl,HF.out.1,HF.out.2.1,HF.out.2.2,rfl,rfl,rfl,rfl,rfl,rfl⟩
theorem ah{w w':World}{p:Addr}{u:Value}(t:Touch [] w w')(h:w.cell? p=some u):w'.cell? p=some u:=(t.cell (World.block_lt_of_cell? w p h) (by simp)).trans h
theorem dD{w:World}{base n:Nat}{e:TypeId}{size:Nat}{v:Value}{xs:List Value}(h:w.ownsRow base e size v n xs):∃a c,v=.slice a n c:=by
 rcases h.2 with⟨rfl,h0⟩|⟨g,cap,cur,rfl,_⟩
 ·exact⟨none,0,by rw[h0]⟩
 ·exact⟨_,_,rfl⟩
theorem Mt{w:World}{base n:Nat}{e:TypeId}{size:Nat}{v:Value}{xs:List Value}(h:w.ownsRow base e size v n xs):w.ownsRow 0 e size v n xs:=by
 refine⟨h.1,?_⟩;rcases h.2 with h|⟨g,cap,cur,h1,_,h3⟩
 ·exact .inl h
 ·exact .inr ⟨g,cap,cur,h1,Nat.zero_le _,h3⟩
def bH(w:World)(cv:Value)(cs:List Int):Prop:=
 (cv=.slice none 0 0∧cs=[])∨∃ad c,cv=.slice (some ad) cs.length c∧∀j u,(cells cs)[j]? =some u→w.cell? (ad.add j)=some u
theorem bH.quiet{w w':World}{cv:Value}{cs:List Int}(h:bH w cv cs)(t:Touch [] w w'):bH w' cv cs:=by
 rcases h with h|⟨ad,c,e,hc⟩
 ·exact .inl h
 ·exact .inr ⟨ad,c,e,fun j u hj=>ah t (hc j u hj)⟩
theorem bH.touch{F:List Nat}{w w':World}{base:Nat}{cv:Value}{cs:List Int}(h:w.ownsRow base 33 1 cv cs.length (cells cs))(t:Touch F w w')(hn:∀x∈rowOf cv,x∉F):w'.ownsRow base 33 1 cv cs.length (cells cs):=aj h t hn
theorem gu{w:World}{base:Nat}{v:Value}{cs:List Int}(h:w.ownsRow base 33 1 v cs.length (cells cs)):bH w v cs:=by
 rcases h.2 with⟨e,h0⟩|⟨g,cap,cur,e,_⟩
 ·exact .inl ⟨e,List.eq_nil_of_length_eq_zero h0⟩
 ·subst e;exact .inr ⟨⟨g,0,none⟩,cap,rfl,fun j u hj=>h.cells (g:=g) rfl j u hj⟩
theorem bH.form{w:World}{cv:Value}{cs:List Int}(h:bH w cv cs):∃a c,cv=.slice a cs.length c:=by
 rcases h with⟨rfl,rfl⟩|⟨ad,c,rfl,_⟩
 ·exact⟨none,0,rfl⟩
 ·exact⟨_,_,rfl⟩
theorem bH.get{w:World}{cv:Value}{cs:List Int}(h:bH w cv cs){i:Nat}(hi:i<cs.length):∃ad c,cv=.slice (some ad) cs.length c∧w.cell? (ad.add i)=some (.int .i64 (cs.getD i 0)):=by
 rcases h with⟨_,rfl⟩|⟨ad,c,e,hc⟩
 ·simp at hi
 ·exact⟨ad,c,e,hc i _ (eH cs i hi)⟩
theorem bH.blk{w:World}{g:Nat}{t:TypeId}{cs:List Int}(h:aF w g t (cells cs).toArray)(c:Nat):bH w (.slice (some ⟨g,0,none⟩) cs.length c) cs:=
 .inr ⟨⟨g,0,none⟩,c,rfl,fun j u hj=>by rw[gG,Nat.zero_add];exact(h.cell j).trans (by simpa using hj)⟩
theorem jc(w:World)(b:Nat)(F:List Nat)(L:List Int)(h:aG w b F L)(cv:Value)(M:List Int)(hc:bH w cv M)(hl:L.length+M.length≤128):
 Calls prog 16 #[.pointer (some ⟨b,0,none⟩),cv] w fun e w'=>∃F',e=.returned (.int .i64 0)∧aG w' b F' (L++M)∧Touch F w w'∧Sub w F F':=by
 rcases hc with⟨rfl,rfl⟩|⟨ad,c,rfl,hc⟩
 ·exact(Gq w b F L h (by simpa using hl)).mono fun e w' ⟨h1,h2,h3⟩=>⟨F,h1,by simpa using h2,h3,Sub.refl _ _⟩
 ·exact ZP w b F L h ad c M hl hc
theorem NM{w:World}{a:Option Addr}{cap n:Nat}{xs:List Value}(h:w.ownsRow 0 33 1 (.slice a n cap) n xs):w.ownsRow 0 33 1 (.slice a 0 cap) 0 []:=by
 refine⟨rfl,?_⟩;rcases h.2 with⟨e,h0⟩|⟨g,c,cur,e,hb,hg,h1,h2,h3,h4⟩
 ·injection e with e1 e2 e3;exact .inl ⟨by rw[e1,e3],rfl⟩
 ·injection e with e1 e2 e3;subst e1 e3;exact .inr ⟨g,cap,cur,rfl,hb,hg,Nat.zero_le _,h2,h3,by simp⟩
theorem lK(w:World)(b:Nat)(F:List Nat)(L:List Int)(h:aG w b F L):
 Calls prog 76 #[.pointer (some ⟨b,0,none⟩),.int .i64 0] w fun e w'=>e=.returned (.tuple #[])∧aG w' b F []∧Touch F w w':=by
 obtain⟨v,hb,rfl,jG,hr⟩:=h;have c0:=hb.cell 0;have f0:=hb.frozen 0;obtain⟨a,cap,rfl⟩:=dD hr;go_enter func76,ntmps76;have RH:min (0:Int) 128=0:=rfl;have qZ:¬((L.length:Int)<0):=by omega
 have Cv:=fun u=>(Touch.refl [b] w).setCell (p:=⟨b,0,none⟩) (by simp) u;have H:=hid (And.intro hb (And.intro hr Cv));clear hb Cv;go_wp2_with fail;go_loopw [9] (fun _ wr=>wr=w) (fun _ _=>0)
 case atStart=>rfl
 case round=>
  obtain rfl:=hrel;go_wp2_with fail;go_end0
  have hs:=H.out.1.bJ 0 (.slice a 0 cap);refine⟨rfl,⟨_,hs,?_,?_,?_⟩,(H.out.2.2 _).mono (fun k hk=>.inl (by simp at hk;simp[hk]))⟩
  ·cases a<;>rfl
  ·exact fun h=>jG (by cases a<;>exact h)
  ·exact aj (NM H.out.2.1) (H.out.2.2 _) (fun k hk hkb=>jG (by rw[List.mem_singleton.1 hkb]at hk;cases a<;>exact hk))
namespace En
structure Fq where
 f:Fr
 v:Value
def dO(q:Fq):List Value:=[.int .i64 q.f.k,.int .i64 q.f.a,.int .i64 q.f.b,.int .i64 q.f.x,.int .i64 q.f.y,q.v]
def Fq.ok(w:World)(q:Fq):Prop:=(q.f.k≠4→q.f.l=[]∧q.v=.slice none 0 0)∧q.f.l.length≤1000∧w.ownsRow 0 33 1 q.v q.f.l.length (cells q.f.l)
def Fq.nil(f:Fr):Fq:=⟨f,.slice none 0 0⟩
theorem Fq.ZV(w:World)(f:Fr)(h:f.l=[]):(Fq.nil f).ok w:=⟨fun _=>⟨h,rfl⟩,by show f.l.length≤1000;rw[h];decide,by show w.ownsRow 0 33 1 (.slice none 0 0) f.l.length (cells f.l);rw[h];exact World.ownsRow_nil _ _ _ _⟩
theorem Fq.ok.form{w:World}{q:Fq}(h:q.ok w):∃a c,q.v=.slice a q.f.l.length c:=bn h.2.2
theorem Fq.ok.touch{w w':World}{G:List Nat}{q:Fq}(h:q.ok w)(t:Touch G w w')(hn:∀x∈rowOf q.v,x∉G):q.ok w':=⟨h.1,h.2.1,aj h.2.2 t hn⟩
theorem Fq.ok.lt{w:World}{q:Fq}(h:q.ok w):∀x∈rowOf q.v,x<w.heap.size:=fun _ hx=>fG h.2.2 hx
theorem Gy{w:World}{q:Fq}(h:q.ok w):∀u∈dO q,u.oneCell'=true:=by
 obtain⟨a,c,e⟩:=h.form;intro u hu;simp[dO]at hu;rcases hu with rfl|rfl|rfl|rfl|rfl|rfl
 ·rfl
 ·rfl
 ·rfl
 ·rfl
 ·rfl
 ·rw[e];rfl
def eP(Q:List Fq):List Nat:=Q.flatMap fun q=>rowOf q.v
theorem xB(A B:List Fq):eP (A++B)=eP A++eP B:=List.flatMap_append
theorem jP{Q:List Fq}{x:Nat}:x∈eP Q↔∃q∈Q,x∈rowOf q.v:=List.mem_flatMap
structure kN(w:World)(b:Nat)(v:Value)(Q:List Fq):Prop where
 blk:aF w b 97 #[v]
 row:w.ownsRow 0 45 6 v Q.length (Q.flatMap dO)
 ok:∀q∈Q,q.ok w
 nd:(b::(rowOf v++eP Q)).Nodup
def aP(w:World)(b:Nat)(F:List Nat)(L:List Fr):Prop:=∃v Q,kN w b v Q∧L=Q.map (·.f)∧(∀x,x∈b::(rowOf v++eP Q)→x∈F)∧∀x∈F,x<w.heap.size
section
variable {w w':World} {b:Nat} {v:Value} {Q:List Fq} {F G:List Nat} {L:List Fr}
theorem kN.Mw(h:kN w b v Q):b∉rowOf v:=fun e=>(List.nodup_cons.1 h.nd).1 (List.mem_append_left _ e)
theorem kN.Mx(h:kN w b v Q):b∉eP Q:=fun e=>(List.nodup_cons.1 h.nd).1 (List.mem_append_right _ e)
theorem kN.zJ(h:kN w b v Q):∀x∈rowOf v,x∉eP Q:=fun x hx hy=>(List.nodup_append.1 (List.nodup_cons.1 h.nd).2).2.2 x hx x hy rfl
theorem kN.touch(h:kN w b v Q)(t:Touch G w w')(hn:∀x,x∈b::(rowOf v++eP Q)→x∉G):kN w' b v Q:=
 ⟨h.blk.touch t (hn b (by simp)),aj h.row t (fun x hx=>hn x (by simp[hx])),fun q hq=>(h.ok q hq).touch t (fun x hx=>hn x (by
   have:x∈eP Q:=jP.2 ⟨q,hq,hx⟩;simp[this])),h.nd⟩
theorem kN.lt(h:kN w b v Q):∀x,x∈b::(rowOf v++eP Q)→x<w.heap.size:=by
 intro x hx;rcases List.mem_cons.1 hx with rfl|hx
 ·exact h.blk.lt
 ·rcases List.mem_append.1 hx with hx|hx
  ·exact fG h.row hx
  ·obtain⟨q,hq,hx⟩:=jP.1 hx;exact(h.ok q hq).lt x hx
theorem aP.touch(h:aP w b F L)(ht:Touch G w w')(hn:∀f,f∈F→f∉G):aP w' b F L:=by
 obtain⟨v,Q,hr,rfl,hF,hl⟩:=h;exact⟨v,Q,hr.touch ht (fun x hx=>hn x (hF x hx)),rfl,hF,fun x hx=>Nat.lt_of_lt_of_le (hl x hx) ht.size⟩
theorem aP.lt(h:aP w b F L):∀f,f∈F→f<w.heap.size:=by
 obtain⟨v,Q,hr,rfl,hF,hl⟩:=h;exact hl
theorem aP.YU(h:aP w b F L):∀f∈L,f.k≠4→f.l=[]:=by
 obtain⟨v,Q,hr,rfl,_,_⟩:=h;intro f hf hk;obtain⟨q,hq,rfl⟩:=List.mem_map.1 hf;exact((hr.ok q hq).1 hk).1
end
theorem RP(w:World):Calls prog 53 #[] w fun e w'=>e=.returned (.pointer (some ⟨w.heap.size,0,none⟩))∧aP w' w.heap.size [w.heap.size] []∧Touch [] w w':=by
 go_enter func53,ntmps53;go_wp2;go_ret;exact⟨rfl,⟨.slice none 0 0,[],⟨aF.new _ _ _,World.ownsRow_nil _ _ _ _,(fun _ h=>(by cases h)),by simp[rowOf,eP]⟩,rfl,by simp[rowOf,eP],by simp⟩,(Touch.refl _ _).alloc _⟩
theorem JQ{w:World}{v:Value}{n:Nat}{xs:List Value}{e:TypeId}(h:w.ownsRow 0 e 6 v n xs):∃a c,v=.slice a n c:=by
 rcases Go.Joins.ownsRow_forms h with⟨rfl,rfl⟩|⟨g,cap,rfl⟩
 ·exact⟨none,0,rfl⟩
 ·exact⟨_,_,rfl⟩
theorem qz(w:World)(b:Nat)(F:List Nat)(L:List Fr)(h:aP w b F L):Calls prog 22 #[.pointer (some ⟨b,0,none⟩)] w fun e w'=>e=.returned (.int .i64 L.length)∧w=w':=by
 obtain⟨v,Q,hr,rfl,hF,hl⟩:=h;obtain⟨a,c,rfl⟩:=JQ hr.row;have c0:=hr.blk.cell 0;clear hr hF hl;rw[List.length_map];go_enter func22,ntmps22;go_wp2;go_ret;exact⟨rfl,rfl⟩
abbrev uJ(f:Fr):Array Value:= #[.int .i64 f.k,.int .i64 f.a,.int .i64 f.b,.int .i64 f.x,.int .i64 f.y,.slice none 0 0]
theorem nZ{w:World}{g:Nat}{t:TypeId}{a b c d e f:Value}(h:aF w g t #[a,b,c,d,e,f])(x y z u v r:Value):
 aF ((((((w.setCell ⟨g,0,none⟩ x).setCell ⟨g,1,none⟩ y).setCell ⟨g,2,none⟩ z).setCell ⟨g,3,none⟩ u).setCell ⟨g,4,none⟩ v).setCell ⟨g,5,none⟩ r) g t #[x,y,z,u,v,r]:=
 (((((h.bJ 0 x).bJ 1 y).bJ 2 z).bJ 3 u).bJ 4 v).bJ 5 r
theorem gB{w0 w:World}{F:List Nat}{b:Nat}(h:Touch F w0 w)(hb:b∈F∨w0.heap.size≤b)(x y z u v r:Value):Touch F w0 ((((((w.setCell ⟨b,0,none⟩ x).setCell ⟨b,1,none⟩ y).setCell ⟨b,2,none⟩ z).setCell ⟨b,3,none⟩ u).setCell ⟨b,4,none⟩ v).setCell ⟨b,5,none⟩ r):=
 (((((h.setCell hb x).setCell hb y).setCell hb z).setCell hb u).setCell hb v).setCell hb r
theorem MB(k a b x y:Int)(w:World):Calls prog 42 #[.agg #[.int .i64 k,.int .i64 a,.int .i64 b,.int .i64 x,.int .i64 y,.slice none 0 0]] w fun e w'=>
 e=.returned (.agg #[.int .i64 k,.int .i64 a,.int .i64 b,.int .i64 x,.int .i64 y,.slice none 0 0])∧Touch [] w w':=by
 have hC:=fun W=>sF 0 0 W;go_enter func42,ntmps42;go_upto_region 1 with(fail);have bA:=(aF.new w 45 #[.int .i64 k,.int .i64 a,.int .i64 b,.int .i64 x,.int .i64 y,.slice none 0 0]).alloc (.cells #[.int .i64 0,.int .i64 0,.int .i64 0,.int .i64 0,.int .i64 0,.slice none 0 0] 45);have bB:=aF.dG (n:=w.heap.size+1) (w.alloc (.cells #[.int .i64 k,.int .i64 a,.int .i64 b,.int .i64 x,.int .i64 y,.slice none 0 0] 45)) (by simp) 45 #[.int .i64 0,.int .i64 0,.int .i64 0,.int .i64 0,.int .i64 0,.slice none 0 0];have tw:=((tR w).alloc (.cells #[.int .i64 k,.int .i64 a,.int .i64 b,.int .i64 x,.int .i64 y,.slice none 0 0] 45)).alloc (.cells #[.int .i64 0,.int .i64 0,.int .i64 0,.int .i64 0,.int .i64 0,.slice none 0 0] 45);generalize (w.alloc (.cells #[.int .i64 k,.int .i64 a,.int .i64 b,.int .i64 x,.int .i64 y,.slice none 0 0] 45)).alloc (.cells #[.int .i64 0,.int .i64 0,.int .i64 0,.int .i64 0,.int .i64 0,.slice none 0 0] 45)=wA at*;obtain⟨z,hz⟩:∃z,w.heap.size=z:=⟨_,rfl⟩;rw[hz]at bA bB⊢;have a5:=bA.cell 5;have fa:=bA.frozen 5;go_wp2_with fail;refine(hC _).mono ?_;rintro _ _ ⟨rfl,rfl⟩;have JR:=bA.bJ 5 (.slice none 0 0);have xC:=bB.far (p:=⟨z,5,none⟩) (by simp) (.slice none 0 0);have NS:=tw.setCell (p:=⟨z,5,none⟩) (.inr (by show w.heap.size≤z;omega)) (.slice none 0 0);have k0:=JR.cell 0;have k1:=JR.cell 1;have k2:=JR.cell 2;have k3:=JR.cell 3;have k4:=JR.cell 4;have k5:=JR.cell 5;go_upto_region 2 with(fail);generalize wA.setCell ⟨z,5,none⟩ (.slice none 0 0)=wB at*;have c0:=xC.cell 0;have c1:=xC.cell 1;have c2:=xC.cell 2;have c3:=xC.cell 3;have c4:=xC.cell 4;have c5:=xC.cell 5;have f0:=xC.frozen 0;have f1:=xC.frozen 1;have f2:=xC.frozen 2;have f3:=xC.frozen 3;have f4:=xC.frozen 4;have f5:=xC.frozen 5;clear a5 fa bA bB JR tw hC;go_wp2_with fail;have bR:=nZ xC (.int .i64 k) (.int .i64 a) (.int .i64 b) (.int .i64 x) (.int .i64 y) (.slice none 0 0);have r0:=bR.cell 0;have r1:=bR.cell 1;have r2:=bR.cell 2;have r3:=bR.cell 3;have r4:=bR.cell 4;have r5:=bR.cell 5;refine bodyPost_ret (by simp[results,results42,go_sem,r0,r1,r2,r3,r4,r5];try rfl) rfl ?_;exact⟨rfl,gB NS (.inr (by show w.heap.size≤z+1;omega)) _ _ _ _ _ _⟩
theorem Gz{w:World}{A B n s:Nat}{e:TypeId}{v:Value}{xs:List Value}(h:w.ownsRow A e s v n xs)(hB:B≤A):w.ownsRow B e s v n xs:=by
 obtain⟨h1,h2⟩:=h;refine⟨h1,h2.imp id ?_⟩;rintro⟨g,cap,cur,hv,hg,hh⟩;exact⟨g,cap,cur,hv,Nat.le_trans hB hg,hh⟩
def pE(w:World)(v:Value)(l:List Int):Prop:=(v=.slice none 0 0∧l=[])∨∃g c,v=.slice (some ⟨g,0,none⟩) l.length c∧∀j u,(cells l)[j]? =some u→w.cell? ⟨g,j,none⟩=some u
theorem NT{w:World}{base:Nat}{v:Value}{l:List Int}(h:w.ownsRow base 33 1 v l.length (cells l)):pE w v l:=by
 rcases h.2 with⟨e,h0⟩|⟨g,cap,cur,e,_⟩
 ·exact .inl ⟨e,List.eq_nil_of_length_eq_zero h0⟩
 ·subst e;refine .inr ⟨g,cap,rfl,fun j u hj=> ?_⟩;have:=h.cells (g:=g) rfl j u hj;rw[gG,Nat.zero_add]at this;exact this
theorem pE.form{w:World}{v:Value}{l:List Int}(h:pE w v l):∃a c,v=.slice a l.length c:=by
 rcases h with⟨e,rfl⟩|⟨g,c,e,_⟩
 ·exact⟨_,_,e⟩
 ·exact⟨_,_,e⟩
theorem pE.quiet{w w':World}{v:Value}{l:List Int}(h:pE w v l)(t:Touch [] w w'):pE w' v l:=by
 rcases h with h|⟨g,c,e,hc⟩
 ·exact .inl h
 ·exact .inr ⟨g,c,e,fun j u hj=>ah t (hc j u hj)⟩
theorem JU{w:World}{v:Value}{L:List Int}(h:pE w v L)(hL:L.length≤1000000):Calls prog 44 #[v] w fun e w'=>
 ∃v,e=.returned v∧w'.ownsRow w.heap.size 33 1 v L.length (cells L)∧Touch [] w w':=by
 rcases h with⟨rfl,rfl⟩|⟨g,cap,rfl,hc⟩
 ·refine(sF 0 0 w).mono ?_;rintro _ _ ⟨rfl,rfl⟩;exact⟨_,rfl,World.ownsRow_nil _ _ _ _,Touch.refl _ _⟩
 ·refine(wX g 0 cap L w hL (fun j u hj=> ?_)).mono ?_
  ·rw[Nat.zero_add];exact hc j u hj
  ·rintro _ w' ⟨v',rfl,h1,_,h3⟩;exact⟨v',rfl,h1,h3⟩
theorem WR(k a b x y:Int)(v:Value)(l:List Int)(hl:l.length≤1000)(w:World)(hr:pE w v l):Calls prog 42 #[.agg #[.int .i64 k,.int .i64 a,.int .i64 b,.int .i64 x,.int .i64 y,v]] w fun e w'=>
 ∃v',e=.returned (.agg #[.int .i64 k,.int .i64 a,.int .i64 b,.int .i64 x,.int .i64 y,v'])∧w'.ownsRow w.heap.size 33 1 v' l.length (cells l)∧Touch [] w w':=by
 obtain⟨va,vc,rfl⟩:=hr.form;obtain⟨n,hn⟩:∃n,l.length=n:=⟨_,rfl⟩;have hC:=hid (fun W (t:Touch [] w W)=>JU (hr.quiet t) (by omega:l.length≤1000000));rw[hn]at hC⊢;clear hr;go_enter func42,ntmps42;go_upto_region 1 with(fail);have bA:=(aF.new w 45 #[.int .i64 k,.int .i64 a,.int .i64 b,.int .i64 x,.int .i64 y,.slice va n vc]).alloc (.cells #[.int .i64 0,.int .i64 0,.int .i64 0,.int .i64 0,.int .i64 0,.slice none 0 0] 45);have bB:=aF.dG (n:=w.heap.size+1) (w.alloc (.cells #[.int .i64 k,.int .i64 a,.int .i64 b,.int .i64 x,.int .i64 y,.slice va n vc] 45)) (by simp) 45 #[.int .i64 0,.int .i64 0,.int .i64 0,.int .i64 0,.int .i64 0,.slice none 0 0];have tw:=((tR w).alloc (.cells #[.int .i64 k,.int .i64 a,.int .i64 b,.int .i64 x,.int .i64 y,.slice va n vc] 45)).alloc (.cells #[.int .i64 0,.int .i64 0,.int .i64 0,.int .i64 0,.int .i64 0,.slice none 0 0] 45);have hsz:((w.alloc (.cells #[.int .i64 k,.int .i64 a,.int .i64 b,.int .i64 x,.int .i64 y,.slice va n vc] 45)).alloc (.cells #[.int .i64 0,.int .i64 0,.int .i64 0,.int .i64 0,.int .i64 0,.slice none 0 0] 45)).heap.size=w.heap.size+2:=by simp
 generalize (w.alloc (.cells #[.int .i64 k,.int .i64 a,.int .i64 b,.int .i64 x,.int .i64 y,.slice va n vc] 45)).alloc (.cells #[.int .i64 0,.int .i64 0,.int .i64 0,.int .i64 0,.int .i64 0,.slice none 0 0] 45)=wA at*;obtain⟨z,hz⟩:∃z,w.heap.size=z:=⟨_,rfl⟩;rw[hz]at bA bB hsz⊢;have a5:=bA.cell 5;have ZW:=hid (And.intro hsz hz);clear hsz hz;go_wp2_with fail;refine(hC.out _ tw).mono ?_;rintro _ w3 ⟨v',rfl,hown,t3⟩;rw[ZW.out.1]at hown;obtain⟨YV,YW,rfl⟩:∃a c,v'=.slice a n c:=by
  rcases Go.Joins.ownsRow_forms hown with⟨rfl,h0⟩|⟨g,cap,rfl⟩
  ·exact⟨none,0,by rw[h0]⟩
  ·exact⟨_,_,rfl⟩
 have HO:=hid hown;clear a5;have a5:=(bA.touch t3 (by simp)).cell 5;have fa:=(bA.touch t3 (by simp)).frozen 5;have JR:=(bA.touch t3 (by simp)).bJ 5 (.slice YV n YW);have xC:=(bB.touch t3 (by simp)).far (p:=⟨z,5,none⟩) (by simp) (.slice YV n YW);have NS:=(tw.trans t3 (by simp)).setCell (p:=⟨z,5,none⟩) (.inr (by show w.heap.size≤z;rw[ZW.out.2];exact Nat.le_refl _)) (.slice YV n YW);have t33:=(Touch.refl [z,z+1] w3).setCell (p:=⟨z,5,none⟩) (by simp) (.slice YV n YW);have k0:=JR.cell 0;have k1:=JR.cell 1;have k2:=JR.cell 2;have k3:=JR.cell 3;have k4:=JR.cell 4;have k5:=JR.cell 5;clear hown t3;go_upto_region 2 with(fail);generalize w3.setCell ⟨z,5,none⟩ (.slice YV n YW)=wB at*;have c0:=xC.cell 0;have c1:=xC.cell 1;have c2:=xC.cell 2;have c3:=xC.cell 3;have c4:=xC.cell 4;have c5:=xC.cell 5;have f0:=xC.frozen 0;have f1:=xC.frozen 1;have f2:=xC.frozen 2;have f3:=xC.frozen 3;have f4:=xC.frozen 4;have f5:=xC.frozen 5;clear a5 fa bA bB JR tw hC;go_wp2_with fail;have bR:=nZ xC (.int .i64 k) (.int .i64 a) (.int .i64 b) (.int .i64 x) (.int .i64 y) (.slice YV n YW);have r0:=bR.cell 0;have r1:=bR.cell 1;have r2:=bR.cell 2;have r3:=bR.cell 3;have r4:=bR.cell 4;have r5:=bR.cell 5;refine bodyPost_ret (by simp[results,results42,go_sem,r0,r1,r2,r3,r4,r5];try rfl) rfl ?_;have t34:=gB t33 (b:=z+1) (.inl (by simp)) (.int .i64 k) (.int .i64 a) (.int .i64 b) (.int .i64 x) (.int .i64 y) (.slice YV n YW);have t2w:=gB NS (b:=z+1) (.inr (by rw[ZW.out.2];omega)) (.int .i64 k) (.int .i64 a) (.int .i64 b) (.int .i64 x) (.int .i64 y) (.slice YV n YW);refine⟨_,rfl,?_,t2w⟩;have h1:=aj HO.out t34 (fun g hg=>by
  have h2:=(World.ownsRow.lt HO.out g (aB.1 hg)).1;simp only[List.mem_cons,List.not_mem_nil,or_false];omega)
 exact Gz h1 (by have:=ZW.out.2;omega)
theorem J9:(prog.info? 45).map (fun i=>(i.zero,i.size,i.bytes))=some (some (.agg #[.int .i64 0,.int .i64 0,.int .i64 0,.int .i64 0,.int .i64 0,.slice none 0 0]),6,64):=by kernel_rfl
theorem GR:∃i0,prog.info? 45=some i0∧i0.zero=some (.agg #[.int .i64 0,.int .i64 0,.int .i64 0,.int .i64 0,.int .i64 0,.slice none 0 0])∧i0.size=6∧i0.bytes=64:=by
 have h:=J9;cases hi:prog.info? 45 with
 |none=>rw[hi]at h;cases h
 |some i=>
  rw[hi]at h;simp only[Option.map_some,Option.some.injEq,Prod.mk.injEq]at h;exact⟨i,rfl,h.1,h.2.1,h.2.2⟩
theorem row_one{v:Value}{y:Nat}{r:List Nat}(h:rowOf v=y::r):r=[]:=by
 cases v with
 |slice a n c=>
  cases a with
  |none=>cases h
  |some a=>injection h with _ h2;exact h2.symm
 |_=>cases h
theorem R8{w W w1:World}{b:Nat}{Q:List Fq}{v:Value}{g cap n:Nat}(q:Fq)(h:kN w b v Q)(t:Touch [] w W)(hn:Q.length=n){F:List Nat}(hF:∀x,x∈b::(rowOf v++eP Q)→x∈F)(iN:∀x∈F,x<w.heap.size)(hq:q.ok W)(ld:∀x∈rowOf q.v,w.heap.size≤x)
 (hown:w1.ownsRow 0 45 6 (.slice (some ⟨g,0,none⟩) (n+1) cap) (n+1) (Q.flatMap dO++dO q))
 (hgr:W.grownBy w1 v.ownBlock) (hat:v.ownBlock=some g∨g=W.heap.size):
 ∃F',aP (w1.setCell ⟨b,0,none⟩ (.slice (some ⟨g,0,none⟩) (n+1) cap)) b F' (Q.map (·.f)++[q.f])∧Touch F w (w1.setCell ⟨b,0,none⟩ (.slice (some ⟨g,0,none⟩) (n+1) cap))∧Sub w F F':=by
 have hbl:=h.blk.lt;have hz:=t.size;have hlt:=h.lt;have jG:=h.Mw;have hgb:g≠b:=by
  rintro rfl;rcases hat with h|h
  ·exact jG (aB.2 h)
  ·omega
 have QQ:=hq.lt;have pD:∀x∈eP Q,x≠g:=by
  rintro x hx rfl;rcases hat with e|e
  ·exact h.zJ _ (aB.2 e) hx
  ·have:=hlt x (by simp[hx]);omega
 have hgq:∀x∈rowOf q.v,x≠g:=by
  rintro x hx rfl;rcases hat with e|e
  ·have h1:=hlt x (by simp[aB.2 e]);have h2:=ld x hx;omega
  ·have:=QQ x hx;omega
 have V6:Touch (rowOf v) W w1:=(Touch.refl _ W).grown hgr fun k hk=>.inl (aB.2 hk);have tb:Touch [b] w1 (w1.setCell ⟨b,0,none⟩ (.slice (some ⟨g,0,none⟩) (n+1) cap)):=(Touch.refl [b] w1).setCell (by simp) _;have hb1:aF w1 b 97 #[v]:=(h.blk.touch t (by simp)).touch V6 jG;have h1:Touch F w w1:=(t.mono (by simp)).trans V6 (fun k hk=>.inl (hF k (by simp[hk])));have NZ:g<(w1.setCell ⟨b,0,none⟩ (.slice (some ⟨g,0,none⟩) (n+1) cap)).heap.size:=by
  have:=(World.ownsRow.lt hown g rfl).2;exact Nat.lt_of_lt_of_le this tb.size
 have hqs:∀x∈rowOf q.v,x<(w1.setCell ⟨b,0,none⟩ (.slice (some ⟨g,0,none⟩) (n+1) cap)).heap.size:=fun x hx=>Nat.lt_of_lt_of_le (QQ x hx) (Nat.le_trans V6.size tb.size);refine⟨F++(g::rowOf q.v),⟨.slice (some ⟨g,0,none⟩) (n+1) cap,Q++[q],⟨hb1.bJ 0 _,?_,?_,?_⟩,by simp,?_,?_⟩,h1.trans tb (fun k hk=>.inl (by rw[List.mem_singleton.1 hk];exact hF b (by simp))),?_⟩
 ·have e:(Q++[q]).flatMap dO=Q.flatMap dO++dO q:=by simp
  have el:(Q++[q]).length=n+1:=by simp[hn]
  rw[e,el];exact aj hown tb (by simp[rowOf];omega)
 ·intro x hx;rcases List.mem_append.1 hx with hx|hx
  ·have yz:∀y∈rowOf x.v,y∈eP Q:=fun y hy=>jP.2 ⟨x,hx,hy⟩;refine((((h.ok x hx).touch t (by simp)).touch V6 (fun y hy hv=>h.zJ y hv (yz y hy))).touch tb (fun y hy hb=> ?_));rw[List.mem_singleton.1 hb]at hy;exact h.Mx (yz b hy)
  ·rw[List.mem_singleton.1 hx];refine((hq.touch V6 (fun y hy hv=> ?_)).touch tb (fun y hy hb=> ?_))
   ·have h1:=hlt y (by simp[hv]);have h2:=ld y hy;omega
   ·rw[List.mem_singleton.1 hb]at hy;have h2:=ld b hy;omega
 ·have e1:rowOf (Value.slice (some ⟨g,0,none⟩) (n+1) cap)=[g]:=rfl;rw[e1,xB,List.nodup_cons,List.singleton_append,List.nodup_cons];have e2:eP [q]=rowOf q.v:=by simp[eP]
  rw[e2];refine⟨?_,?_,?_⟩
  ·simp only[List.mem_cons,List.mem_append];rintro(e|e|e)
   ·exact hgb e.symm
   ·exact h.Mx e
   ·have:=ld b e;omega
  ·simp only[List.mem_append];rintro(e|e)
   ·exact pD g e rfl
   ·exact hgq g e rfl
  ·refine List.nodup_append.2 ⟨(List.nodup_append.1 (List.nodup_cons.1 h.nd).2).2.1,?_,fun x hx y hy e=> ?_⟩
   ·rcases hr:rowOf q.v with _|⟨y,r⟩
    ·exact List.nodup_nil
    ·have:r=[]:=row_one hr;rw[this];simp
   ·subst e;have h1:=hlt x (by simp[hx]);have h2:=ld x hy;omega
 ·intro x hx;rw[xB]at hx;have e2:eP [q]=rowOf q.v:=by simp[eP]
  rw[e2]at hx;simp only[rowOf,List.mem_cons,List.mem_append,List.not_mem_nil,or_false]at hx;rcases hx with rfl|rfl|hx|hx
  ·exact List.mem_append_left _ (hF _ (by simp))
  ·exact List.mem_append_right _ (by simp)
  ·exact List.mem_append_left _ (hF _ (by simp[hx]))
  ·exact List.mem_append_right _ (List.mem_cons_of_mem _ hx)
 ·intro x hx;rcases List.mem_append.1 hx with hx|hx
  ·exact Nat.lt_of_lt_of_le (iN x hx) (Nat.le_trans hz (Nat.le_trans V6.size tb.size))
  ·rcases List.mem_cons.1 hx with rfl|hx
   ·exact NZ
   ·exact hqs x hx
 ·intro x hx;rcases List.mem_append.1 hx with hx|hx
  ·exact .inl hx
  ·rcases List.mem_cons.1 hx with rfl|hx
   ·rcases hat with h|h
    ·exact .inl (hF _ (by simp[aB.2 h]))
    ·exact .inr (by omega)
   ·exact .inr (ld x hx)
def MH(w:World)(f:Fr)(v:Value):Prop:=Calls prog 42 #[.agg #[.int .i64 f.k,.int .i64 f.a,.int .i64 f.b,.int .i64 f.x,.int .i64 f.y,v]] w fun e w'=>
 ∃v',e=.returned (.agg #[.int .i64 f.k,.int .i64 f.a,.int .i64 f.b,.int .i64 f.x,.int .i64 f.y,v'])∧(Fq.mk f v').ok w'∧(∀x∈rowOf v',w.heap.size≤x)∧Touch [] w w'
theorem Aw(w:World)(f:Fr)(hf:f.l=[]):MH w f (.slice none 0 0):=by
 refine(MB f.k f.a f.b f.x f.y w).mono ?_;rintro _ w' ⟨rfl,t⟩;exact⟨_,rfl,Fq.ZV w' f hf,by simp[rowOf],t⟩
theorem Ay(w:World)(f:Fr)(v:Value)(hk:f.k=4)(hl:f.l.length≤1000)(hr:pE w v f.l):MH w f v:=by
 refine(WR f.k f.a f.b f.x f.y v f.l hl w hr).mono ?_;rintro _ w' ⟨v',rfl,h1,t⟩;exact⟨v',rfl,⟨fun h=>absurd hk h,hl,Gz h1 (Nat.zero_le _)⟩,fun x hx=>(World.ownsRow.lt h1 x (aB.1 hx)).1,t⟩
theorem R9{w:World}{q:Fq}(h:q.ok w):MH w q.f q.v:=by
 by_cases hk:q.f.k=4
 ·exact Ay w q.f q.v hk h.2.1 (NT h.2.2)
 ·obtain⟨h1,h2⟩:=h.1 hk;rw[h2];exact Aw w q.f h1
theorem DI(w:World)(b:Nat)(F:List Nat)(L:List Fr)(h:aP w b F L)(hL:L.length<128)(f:Fr)(fv:Value)(DG:∃a n c,fv=.slice a n c)(hO:∀W,Touch [] w W→MH W f fv):
 Calls prog 18 #[.pointer (some ⟨b,0,none⟩),.agg #[.int .i64 f.k,.int .i64 f.a,.int .i64 f.b,.int .i64 f.x,.int .i64 f.y,fv]] w fun e w'=>e=.returned (.int .i64 0)∧∃F',aP w' b F' (L++[f])∧Touch F w w'∧Sub w F F':=by
 obtain⟨ga,gn,gc,rfl⟩:=DG;obtain⟨v,Q,hR,rfl,hF,iN⟩:=h;rw[List.length_map]at hL;obtain⟨va,vc,QR⟩:=JQ hR.row;obtain⟨n,hn⟩:∃n,Q.length=n:=⟨_,rfl⟩;rw[hn]at QR hL;have hr:=hR.row;rw[hn]at hr;subst QR;obtain⟨i0,hi,hz0,hz1,hz2⟩:=GR;have HA:Hid (n+1≤maxLen):=by show _≤maxLen;unfold maxLen;omega
 have HB:Hid ((n+1)*64≤140737488355328):=by show(n+1)*64≤140737488355328;omega
 have HR:=hid (fun W (t:Touch [] w W)=>aj hr t (by simp));have HV:Hid (some b≠(Value.slice va n vc).ownBlock):=fun e=>hR.Mw (aB.2 e.symm);have WT:=hid hR.blk;have fK:=hid hO;have HE:=hid (fun(W w1:World) (g cap:Nat) (q:Fq)=>R8 (W:=W) (w1:=w1) (g:=g) (cap:=cap) q hR (n:=n) (v:=.slice va n vc) (hF:=hF) (iN:=iN));have c0:=(hR.blk.alloc (.cells #[.int .i64 f.k,.int .i64 f.a,.int .i64 f.b,.int .i64 f.x,.int .i64 f.y,.slice ga gn gc] 45)).cell 0;have hlt:¬(n:Int)≥128:=by omega
 have HN:=hid hn;clear hr hR hn hO hF iN;go_enter func18,ntmps18;go_upto_region 5 with(fail);have tw:=(tR w).alloc (.cells #[.int .i64 f.k,.int .i64 f.a,.int .i64 f.b,.int .i64 f.x,.int .i64 f.y,.slice ga gn gc] 45);have bX:=aF.new w 45 #[.int .i64 f.k,.int .i64 f.a,.int .i64 f.b,.int .i64 f.x,.int .i64 f.y,.slice ga gn gc];have x0:=bX.cell 0;have x1:=bX.cell 1;have x2:=bX.cell 2;have x3:=bX.cell 3;have x4:=bX.cell 4;have x5:=bX.cell 5;generalize w.alloc (.cells #[.int .i64 f.k,.int .i64 f.a,.int .i64 f.b,.int .i64 f.x,.int .i64 f.y,.slice ga gn gc] 45)=wA at*;go_region_law (first
  |(go_simp;go_at_call 42;refine(fK.out _ tw.drew).mono ?_;rintro _ w5 ⟨v5,rfl,WU,lh,t5⟩;obtain⟨qa,qc,rfl⟩:∃a c,v5=.slice a f.l.length c:=WU.form;obtain⟨ln,qm⟩:∃ln,f.l.length=ln:=⟨_,rfl⟩;rw[qm]at WU lh⊢;have HQ:=hid (And.intro WU (show∀x∈rowOf (.slice qa ln qc),w.heap.size≤x from fun x hx=>Nat.le_trans tw.size (lh x hx)));have ae:=hid (tw.drew.trans t5 (by simp));have c0:=((WT.out.touch ae.out (by simp)).alloc (.cells #[.int .i64 f.k,.int .i64 f.a,.int .i64 f.b,.int .i64 f.x,.int .i64 f.y,.slice qa ln qc] 45)).cell 0;have c00:=(WT.out.touch ae.out (by simp)).cell 0;clear t5 WU lh qm)
  |(refine step_append_lies _ rfl (.tmp 19) (.tmp 22) 95 rfl 0 45 i0 _ 6 64 underlying95 hi hz0 hz1 hz2 rfl (by omega) (.slice va n vc) n (Q.flatMap dO) (by simp[Act.eval]) (HR.out _ (ae.out.alloc _)) ⟨_,0,none⟩ 1 1 (dO ⟨f,.slice qa ln qc⟩) (by simp[Act.eval]) rfl (World.news_of_block (heap_alloc_new _ _)) (Gy HQ.out.1) (by omega) HA.out HB.out (Nat.zero_le _) _ rfl ?_;intro g cap w1 hown hgr hat xg;have HG:=hid (HE.out _ _ _ _ ⟨f,.slice qa ln qc⟩ (ae.out.alloc _) HN.out (HQ.out.1.touch ((tR _).alloc _) (by simp)) HQ.out.2 hown hgr hat);have hb1:=((WT.out.touch ae.out (by simp)).alloc (.cells #[.int .i64 f.k,.int .i64 f.a,.int .i64 f.b,.int .i64 f.x,.int .i64 f.y,.slice qa ln qc] 45)).grown hgr HV.out;have d0:=hb1.cell 0;have g0:=hb1.frozen 0;clear hown hgr hat xg hb1))
 all_goals go_wp2_with fail
 all_goals go_ret
 all_goals exact⟨rfl,HG.out⟩
theorem Sb(w:World)(b:Nat)(F:List Nat)(L:List Fr)(h:aP w b F L)(hL:L.length<128)(f:Fr)(hf:f.l=[]):
 Calls prog 18 #[.pointer (some ⟨b,0,none⟩),.agg (uJ f)] w fun e w'=>e=.returned (.int .i64 0)∧∃F',aP w' b F' (L++[f])∧Touch F w w'∧Sub w F F':=
 DI w b F L h hL f (.slice none 0 0) ⟨_,_,_,rfl⟩ fun W _=>Aw W f hf
theorem N9(w:World)(b:Nat)(F:List Nat)(L:List Fr)(h:aP w b F L)(hL:L.length<128)(f:Fr)(v:Value)(hk:f.k=4)(hl:f.l.length≤1000)(hr:pE w v f.l):
 Calls prog 18 #[.pointer (some ⟨b,0,none⟩),.agg #[.int .i64 f.k,.int .i64 f.a,.int .i64 f.b,.int .i64 f.x,.int .i64 f.y,v]] w fun e w'=>e=.returned (.int .i64 0)∧∃F',aP w' b F' (L++[f])∧Touch F w w'∧Sub w F F':=
 DI w b F L h hL f v (by obtain⟨a,c,e⟩:=hr.form;exact⟨_,_,_,e⟩) fun W t=>Ay W f v hk hl (hr.quiet t)
theorem xM(L:List Fq):(L.flatMap dO).length=L.length*6:=by
 induction L with
 |nil=>rfl
 |cons f r ih=>
  rw[List.flatMap_cons,List.length_append,ih];show 6+r.length*6=(r.length+1)*6;omega
theorem WV(L:List Fq)(m i:Nat)(f:Fq)(h:L[m]? =some f)(hi:i<6):(L.flatMap dO)[m*6+i]? =(dO f)[i]? :=by
 induction L generalizing m with
 |nil=>simp at h
 |cons x r ih=>
  rw[List.flatMap_cons];cases m with
  |zero=>
   simp at h;subst h;rw[Nat.zero_mul,Nat.zero_add,List.getElem?_append_left (by show i<6;exact hi)]
  |succ m=>
   rw[List.getElem?_append_right (by show 6≤(m+1)*6+i;omega)];rw[show(m+1)*6+i-(dO x).length=m*6+i by show(m+1)*6+i-6=_;omega];exact ih m (by simpa using h)
theorem oz{w:World}{g cap n:Nat}{L:List Fq}(hr:w.ownsRow 0 45 6 (.slice (some ⟨g,0,none⟩) n cap) n (L.flatMap dO)){m:Nat}{q:Fq}(h:L[m]? =some q):
 w.cell? ⟨g,m*6,none⟩=some (.int .i64 q.f.k)∧w.cell? ⟨g,m*6+1,none⟩=some (.int .i64 q.f.a)∧w.cell? ⟨g,m*6+2,none⟩=some (.int .i64 q.f.b)∧w.cell? ⟨g,m*6+3,none⟩=some (.int .i64 q.f.x)∧w.cell? ⟨g,m*6+4,none⟩=some (.int .i64 q.f.y)∧w.cell? ⟨g,m*6+5,none⟩=some q.v:=by
 have hc:=hr.cells (g:=g) rfl;have key:∀i u,i<6→(dO q)[i]? =some u→w.cell? ⟨g,m*6+i,none⟩=some u:=fun i u hi hu=>by
  have:=hc (m*6+i) u (by rw[WV L m i q h hi,hu]);rw[gG,Nat.zero_add]at this;exact this
 exact⟨key 0 _ (by decide) rfl,key 1 _ (by decide) rfl,key 2 _ (by decide) rfl,key 3 _ (by decide) rfl,key 4 _ (by decide) rfl,key 5 _ (by decide) rfl⟩
theorem yN(w:World)(b:Nat)(F:List Nat)(L:List Fr)(h:aP w b F L)(hL:128≤L.length)(f:Fr)(fv:Value)(DG:∃a n c,fv=.slice a n c):
 Calls prog 18 #[.pointer (some ⟨b,0,none⟩),.agg #[.int .i64 f.k,.int .i64 f.a,.int .i64 f.b,.int .i64 f.x,.int .i64 f.y,fv]] w fun e w'=>e=.returned (.int .i64 (-5))∧Touch [] w w':=by
 obtain⟨ga,gn,gc,rfl⟩:=DG;obtain⟨v,Q,hR,rfl,hF,iN⟩:=h;rw[List.length_map]at hL;obtain⟨va,vc,rfl⟩:=JQ hR.row;have c0:=(hR.blk.alloc (.cells #[.int .i64 f.k,.int .i64 f.a,.int .i64 f.b,.int .i64 f.x,.int .i64 f.y,.slice ga gn gc] 45)).cell 0;have ql:(Q.length:Int)≥128:=by omega
 clear hR hF iN;go_enter func18,ntmps18;go_wp2_with fail;go_ret;exact⟨rfl,(Touch.refl _ _).alloc _⟩
theorem Ka(w:World)(b:Nat)(F:List Nat)(L:List Fr)(h:aP w b F L)(hL:128≤L.length)(f:Fr):
 Calls prog 18 #[.pointer (some ⟨b,0,none⟩),.agg (uJ f)] w fun e w'=>e=.returned (.int .i64 (-5))∧Touch [] w w':=
 yN w b F L h hL f (.slice none 0 0) ⟨_,_,_,rfl⟩
theorem Sc(w:World)(b:Nat)(F:List Nat)(h:aP w b F []):
 Calls prog 21 #[.pointer (some ⟨b,0,none⟩)] w fun e w'=>e=.returned (.tuple #[.agg (uJ Fr.none),.bool false])∧Touch [] w w':=by
 have hD:=qz _ b F [] (h.touch ((tR w).alloc (.cells #[.int .i64 0,.int .i64 0,.int .i64 0,.int .i64 0,.int .i64 0,.slice none 0 0] 45)) (by simp));have bR:=aF.new w 45 #[.int .i64 0,.int .i64 0,.int .i64 0,.int .i64 0,.int .i64 0,.slice none 0 0];have tw:=(tR w).alloc (.cells #[.int .i64 0,.int .i64 0,.int .i64 0,.int .i64 0,.int .i64 0,.slice none 0 0] 45);have f0:=bR.frozen 0;have f1:=bR.frozen 1;have f2:=bR.frozen 2;have f3:=bR.frozen 3;have f4:=bR.frozen 4;have f5:=bR.frozen 5;have c0:=bR.cell 0;have c1:=bR.cell 1;have c2:=bR.cell 2;have c3:=bR.cell 3;have c4:=bR.cell 4;have c5:=bR.cell 5;clear h;unfold uJ Fr.none;go_enter func21,ntmps21;go_wp2_with fail;refine hD.mono ?_;rintro _ _ ⟨rfl,rfl⟩;clear hD;obtain⟨z,hz⟩:∃z,w.heap.size=z:=⟨_,rfl⟩;rw[hz]at bR f0 f1 f2 f3 f4 f5 c0 c1 c2 c3 c4 c5⊢;generalize w.alloc (.cells #[.int .i64 0,.int .i64 0,.int .i64 0,.int .i64 0,.int .i64 0,.slice none 0 0] 45)=wA at*;go_wp2_with fail;have bS:=nZ bR (.int .i64 0) (.int .i64 0) (.int .i64 0) (.int .i64 0) (.int .i64 0) (.slice none 0 0);have r0:=bS.cell 0;have r1:=bS.cell 1;have r2:=bS.cell 2;have r3:=bS.cell 3;have r4:=bS.cell 4;have r5:=bS.cell 5;refine bodyPost_ret (by simp[results,results21,go_sem,r0,r1,r2,r3,r4,r5];try rfl) rfl ?_;exact⟨rfl,gB tw (.inr (by omega)) _ _ _ _ _ _⟩
theorem Sd(w:World)(b:Nat)(v:Value)(Q:List Fq)(q:Fq)(h:kN w b v (Q++[q]))(hQ:Q.length<1000):
 Calls prog 21 #[.pointer (some ⟨b,0,none⟩)] w fun e w'=>(∃v',e=.returned (.tuple #[.agg #[.int .i64 q.f.k,.int .i64 q.f.a,.int .i64 q.f.b,.int .i64 q.f.x,.int .i64 q.f.y,v'],.bool true])∧(Fq.mk q.f v').ok w')∧Touch [] w w':=by
 have tw:=(tR w).alloc (.cells #[.int .i64 0,.int .i64 0,.int .i64 0,.int .i64 0,.int .i64 0,.slice none 0 0] 45);have hA:=h.touch tw (by simp);have hD:=qz _ b (b::(rowOf v++eP (Q++[q]))) _ ⟨v,Q++[q],hA,rfl,fun _ h=>h,hA.lt⟩;have bR:=aF.new w 45 #[.int .i64 0,.int .i64 0,.int .i64 0,.int .i64 0,.int .i64 0,.slice none 0 0];obtain⟨z,hz⟩:∃z,w.heap.size=z:=⟨_,rfl⟩;rw[hz]at bR;generalize Gf:w.alloc (.cells #[.int .i64 0,.int .i64 0,.int .i64 0,.int .i64 0,.int .i64 0,.slice none 0 0] 45)=wA at*;obtain⟨hb,hr,bW,_⟩:=hA;obtain⟨n,hn⟩:∃n,Q.length=n:=⟨_,rfl⟩;have hlen:(Q++[q]).length=n+1:=by simp[hn]
 rw[List.length_map]at hD;rw[hlen]at hr hD;have uz:∃g cap,v=.slice (some ⟨g,0,none⟩) (n+1) cap:=by
  rcases Go.Joins.ownsRow_forms hr with⟨_,h0⟩|⟨g,cap,rfl⟩
  ·omega
  ·exact⟨g,cap,rfl⟩
 obtain⟨g,cap,rfl⟩:=uz;have qF:(Q++[q])[n]? =some q:=by rw[←hn];simp
 obtain⟨e0,e1,e2,e3,e4,e5⟩:=oz hr qF;have hq:=bW q (by simp);obtain⟨f,fv⟩:=q;dsimp only at e0 e1 e2 e3 e4 e5 hq⊢
 obtain⟨fa,fc,rfl⟩:∃a c,fv=.slice a f.l.length c:=hq.form;obtain⟨fl,Jy⟩:∃fl,f.l.length=fl:=⟨_,rfl⟩;rw[Jy]at e5 hq;have fK:=hid (fun W (t:Touch [] wA W)=>R9 (hq.touch t (by simp)));have c0:=hb.cell 0;have hne:(((n+1:Nat):Int)==0)=false:=by rw[beq_eq_false_iff_ne];omega
 have hw:IntKind.i64.wrap (n:Int)=(n:Int):=by rw[IntKind.wrap_i64];omega
 have hlt:(n:Int)<(n:Int)+1:=by omega
 have h0:(0:Int)≤n:=by omega
 clear hr h hn hlen qF hb bW hq Jy;go_enter func21,ntmps21;go_upto_region 1 with(fail);go_wp2_with fail;refine hD.mono ?_;rintro _ _ ⟨rfl,rfl⟩;clear hD;go_upto_region 3 with(fail);go_region_law (first
  |(go_simp;go_at_call 42;refine(fK.out _ (tR wA).drew).mono ?_;rintro _ w5 ⟨v5,rfl,WU,lh,t5⟩;obtain⟨qa,qc,rfl⟩:∃a c,v5=.slice a f.l.length c:=WU.form;obtain⟨ln,qm⟩:∃ln,f.l.length=ln:=⟨_,rfl⟩;rw[qm]at WU lh⊢;have HO:=hid (And.intro WU (And.intro lh (bR.lt)));clear WU qm;have xO:=bR.touch ((tR wA).drew.trans t5 (by simp)) (by simp);have ae:=tw.drew.trans t5 (by simp);have f0:=xO.frozen 0;have f1:=xO.frozen 1;have f2:=xO.frozen 2;have f3:=xO.frozen 3;have f4:=xO.frozen 4;have f5:=xO.frozen 5;have k0:=xO.cell 0;have k1:=xO.cell 1;have k2:=xO.cell 2;have k3:=xO.cell 3;have k4:=xO.cell 4;have k5:=xO.cell 5))
 all_goals go_wp2_with fail
 all_goals
  have bS:=nZ xO (.int .i64 f.k) (.int .i64 f.a) (.int .i64 f.b) (.int .i64 f.x) (.int .i64 f.y) (.slice qa ln qc);have r0:=bS.cell 0;have r1:=bS.cell 1;have r2:=bS.cell 2;have r3:=bS.cell 3;have r4:=bS.cell 4;have r5:=bS.cell 5;refine bodyPost_ret (by simp[results,results21,go_sem,r0,r1,r2,r3,r4,r5];try rfl) rfl ?_;have t6:=gB (Touch.refl [z] w5) (b:=z) (.inl (by simp)) (.int .i64 f.k) (.int .i64 f.a) (.int .i64 f.b) (.int .i64 f.x) (.int .i64 f.y) (.slice qa ln qc);refine⟨⟨_,rfl,HO.out.1.touch t6 (fun x hx hz=> ?_)⟩,gB ae (.inr (by omega)) _ _ _ _ _ _⟩;have h1:=HO.out.2.1 x hx;have h2:=HO.out.2.2;rw[List.mem_singleton.1 hz]at h1;exact absurd h1 (by show¬wA.drew.heap.size≤z;rw[show wA.drew.heap.size=wA.heap.size from rfl];omega)
theorem EN{Q:List Fr}{f:Fr}{R:List Fq}(h:Q++[f]=R.map (·.f)):∃R0 q,R=R0++[q]∧Q=R0.map (·.f)∧q.f=f:=by
 have hne:R≠[]:=by
  rintro rfl;simp at h
 refine⟨R.dropLast,R.getLast hne,(List.dropLast_concat_getLast hne).symm,?_⟩;rw[←List.dropLast_concat_getLast hne,List.map_append]at h;obtain⟨h1,h2⟩:=List.append_inj' h rfl;refine⟨by rw[h1],?_⟩;simp at h2;exact h2.symm
theorem Sg(w:World)(b:Nat)(F:List Nat)(Q:List Fr)(f:Fr)(h:aP w b F (Q++[f]))(hQ:Q.length<1000):
 Calls prog 21 #[.pointer (some ⟨b,0,none⟩)] w fun e w'=>(∃v',e=.returned (.tuple #[.agg #[.int .i64 f.k,.int .i64 f.a,.int .i64 f.b,.int .i64 f.x,.int .i64 f.y,v'],.bool true])∧(Fq.mk f v').ok w')∧Touch [] w w':=by
 obtain⟨v,R,hR,hL,_,_⟩:=h;obtain⟨R0,q,rfl,rfl,rfl⟩:=EN hL;exact Sd w b v R0 q hR (by simpa using hQ)
end En
def xS(w:World)(v:Value)(cs:List Int):Prop:=∃a c,v=.slice a cs.length c∧∀i,i<cs.length→∃g off,a=some ⟨g,off,none⟩∧w.cell? ⟨g,off+i,none⟩=some (.int .i64 (cs.getD i 0))
theorem xS.quiet{w w':World}{v:Value}{cs:List Int}(h:xS w v cs)(t:Touch [] w w'):xS w' v cs:=by
 obtain⟨a,c,e,k⟩:=h;exact⟨a,c,e,fun i hi=>by obtain⟨g,off,e,hc⟩:=k i hi;exact⟨g,off,e,ah t hc⟩⟩
theorem xS.blk{w:World}{g:Nat}{t:TypeId}{cs:List Int}(h:aF w g t (cells cs).toArray)(c:Nat):xS w (.slice (some ⟨g,0,none⟩) cs.length c) cs:=
 ⟨_,_,rfl,fun i hi=>⟨g,0,rfl,by rw[Nat.zero_add];exact(h.cell i).trans (by simpa using eH cs i hi)⟩⟩
theorem Xx(v1 v2:Value)(cs:List Int)(w:World)(h1:xS w v1 cs)(h2:xS w v2 cs)(hl:cs.length≤9223372036854775807):
 Calls prog 25 #[v1,v2] w fun e w'=>e=.returned (.bool true)∧Touch [] w w':=by
 obtain⟨a1,c1,rfl,k1⟩:=h1;obtain⟨a2,c2,rfl,k2⟩:=h2;obtain⟨n,hn⟩:∃n,cs.length=n:=⟨_,rfl⟩;rw[hn]at k1 k2 hl⊢;have hnn:((n:Int) != n)=false:=by simp
 have HK:=hid (And.intro k1 (And.intro k2 hn));clear k1 k2 hn;go_enter func25,ntmps25;go_wp2_with fail;go_loopw [5] (fun i wr=>∃j:Nat,j≤n∧i=.int .i64 j∧∃d,wr=w.drewN d) (fun i _=>n-(intOf i).toNat)
 case atStart=>exact⟨0,Nat.zero_le _,rfl,0,rfl⟩
 case round=>
  obtain⟨j,hj,rfl,d,rfl⟩:=hrel;by_cases hlt:j<n
  ·have ai:decide ((j:Int)<n)=true:=by simp;omega
   obtain⟨g1,o1,rfl,e1⟩:=HK.out.1 j hlt;obtain⟨g2,o2,rfl,e2⟩:=HK.out.2.1 j hlt;obtain⟨z,hz⟩:∃z,cs.getD j 0=z:=⟨_,rfl⟩;rw[hz]at e1 e2;have hzz:(z != z)=false:=by simp
   have ek:IntKind.i64.wrap ((j:Int)+1)=(j+1:Nat):=by rw[IntKind.wrap_i64];omega
   clear hz;go_wp2_with fail;go_region
   all_goals go_wp2_with fail
   all_goals go_roundw
   case rel=>exact⟨j+1,by omega,nW (by omega),d+1,by simp⟩
   case measure=>simp only[intOf];omega
  ·have ai:decide ((j:Int)<n)=false:=by simp;omega
   go_wp2_with fail;go_ret;exact⟨rfl,(tR w).drewN d⟩
end Go.Proofs.YtdokeddjcpnmiaaGreatDoor
