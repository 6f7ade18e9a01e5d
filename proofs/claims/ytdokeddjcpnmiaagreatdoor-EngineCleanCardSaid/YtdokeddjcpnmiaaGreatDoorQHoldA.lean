/- Of EngineClean: HoldA. -/
import Derived.Test.YtdokeddjcpnmiaaGreatDoorQDo
import Derived.Test.YtdokeddjcpnmiaaGreatDoorQSignA
set_option maxRecDepth 100000
set_option maxHeartbeats 4000000
namespace Go.Proofs.YtdokeddjcpnmiaaGreatDoor
open Go.RowKit Go.Proofs.Tryz
open Go.Lib(hid)
theorem Eh(L:List Int):∀u∈aL L,u.oneCell'=true:=by
 intro u hu;obtain⟨x,_,rfl⟩:=List.mem_map.1 hu;rfl
theorem Dl(L:List Int):(aL L).length=L.length:=List.length_map _
theorem Lh(g off c:Nat)(L:List Int)(w:World)(hL:L.length≤1000000)(hc:∀j u,(aL L)[j]? =some u→w.cell? ⟨g,off+j,none⟩=some u):
 Calls prog 297 #[.slice (some ⟨g,off,none⟩) L.length c] w fun e w'=>
  ∃v,e=.returned v∧w'.ownsRow w.heap.size 5 1 v L.length (aL L)∧Touch [] w w':=by
 obtain⟨i0,hi,hz0,hz1,hz2⟩:=jO;have q:∀(w:World) (a:Option Addr) (n c n' c':Nat),(binOp .eql 90 (.slice a n c) (.slice none n' c')).run prog w=.ok (.bool a.isNone) w:=fun w a n c n' c'=>Lib.run_eql_slice_nil w _ _ a n c n' c' underlying90;obtain⟨n,hn⟩:∃n,L.length=n:=⟨_,rfl⟩;have kM:(aL L).length=n:=by rw[Dl,hn]
 rw[hn]at hL⊢;have A:=hid hc;clear hc hn;go_enter func297,ntmps297;go_wp2_with (at_builtin;refine wpList_append_own _ rfl _ _ 90 rfl w.heap.size 5 i0 (.int .u8 0) 1 1 underlying90 hi hz0 hz1 hz2 rfl (by decide) _ _ _ rfl (World.ownsRow_made w #[] 0 (Nat.le_refl _) (Nat.zero_le _) rfl) ⟨g,off,none⟩ n c (aL L) rfl ?CM ?Gn ?Nt ?Nu ?Nw ?ZM ?_)
 case CM=>omega
 case Gn=>
  intro j u hj;rw[Addr.add_lit];exact Lib.cell?_alloc_some _ (A.out j u hj)
 case Nt=>exact Eh L
 case Nu=>unfold maxLen;omega
 case Nw=>omega
 case ZM=>simp
 intro v' w1 hown hgrow hnil;go_wp2;go_ret;refine⟨v',rfl,by simpa using hown,Touch.dh ?_ _⟩;exact((Below.refl _ w).alloc (Nat.le_refl _) _).grown hgrow (by simp) (by intro k hk;simp[Value.ownBlock]at hk;omega)
theorem Li(n c:Nat)(w:World):Calls prog 297 #[.slice none n c] w fun e w'=>e=.returned (.slice none 0 0)∧w=w':=by
 have q:∀(w:World) (a:Option Addr) (n c n' c':Nat),(binOp .eql 90 (.slice a n c) (.slice none n' c')).run prog w=.ok (.bool a.isNone) w:=fun w a n c n' c'=>Lib.run_eql_slice_nil w _ _ a n c n' c' underlying90;go_enter func297,ntmps297;go_wp2;go_ret;exact⟨rfl,rfl⟩
theorem Lj{w:World}{v:Value}{L:List Int}(h:vI w v L)(hL:L.length≤1000000):Calls prog 297 #[v] w fun e w'=>
 ∃v,e=.returned v∧w'.ownsRow w.heap.size 5 1 v L.length (aL L)∧Touch [] w w':=by
 rcases h.1.2 with⟨rfl,h0⟩|⟨g,cap,cur,rfl,_⟩
 ·obtain rfl:=List.eq_nil_of_length_eq_zero h0;refine(Li 0 0 w).mono ?_;rintro _ _ ⟨rfl,rfl⟩;exact⟨_,rfl,World.ownsRow_nil _ _ _ _,Touch.refl _ _⟩
 ·exact Lh g 0 cap L w hL (fun j u hj=>by
   have:=h.1.cells (g:=g) rfl j u hj;rw[gG]at this;exact this)
section
variable {w w':World} {s:Nat} {F FS:List Nat} {ov mv:Value} {S:PS}
theorem iB.Yn(h:iB w s FS ov mv S):s∉rowOf mv:=fun hm=>h.blk.ty.ne (jY h.made.1 _ hm) (by decide) rfl
theorem iB.making{PY:Value}{made':List Int}(h:iB w s FS ov mv S)(hb:aF w' s 92 #[.pointer (some ⟨S.t,0,none⟩),.pointer (some ⟨S.k,0,none⟩),.pointer (some ⟨S.m,0,none⟩),PY])(hr:vI w' PY made')(t:Touch (s::rowOf mv) w w')(hs:∀x∈rowOf PY,x∈rowOf mv∨w.heap.size≤x):iB w' s FS ov PY {S with made:=made'}:=by
 have key:∀a ty,zo w a ty→ty≠92→a∉rowOf mv→a∉s::rowOf mv:=fun a ty ha h1 h2 hf=>by
  rcases List.mem_cons.1 hf with rfl|hf
  ·exact ha.ne h.blk.ty h1 rfl
  ·exact h2 hf
 obtain⟨a1,a2,a3,a4,a5,a6⟩:=h.sG;have hg:S.g∉rowOf PY:=fun hm=>by
  rcases hs _ hm with h1|h1
  ·exact h.gm h1
  ·have:=h.mem.row.lt;omega
 refine⟨hb,h.QX.touch t (key _ _ h.QX.ty (by decide) (fun hm=>h.QX.ty.ne (jY h.made.1 _ hm) (by decide) rfl)),h.iO.touch t (fun f hf hm=> ?_),h.mem.touch t (key _ _ h.mem.blk.ty (by decide) (fun hm=>h.mem.blk.ty.ne (jY h.made.1 _ hm) (by decide) rfl)) (key _ _ h.mem.row.ty (by decide) h.gm),⟨aj h.out.1 t (fun x hx=>key _ _ (jY h.out.1 x hx) (by decide) (fun hm=>h.om x hx hm)),h.out.2⟩,hr,h.go,hg,fun x hx hm=> ?_⟩
 ·rcases List.mem_cons.1 hm with rfl|hm
  ·exact a1 hf
  ·exact a6 _ hm hf
 ·rcases hs _ hm with h1|h1
  ·exact h.om x hx h1
  ·have:=fG h.out.1 hx;omega
theorem IW{PY:Value}{made':List Int}(hs:∀x∈rowOf PY,x∈rowOf mv∨w.heap.size≤x):Sub w (foot s S FS ov mv) (foot s {S with made:=made'} FS ov PY):=by
 intro f hf;simp only[foot,List.mem_cons,List.mem_append]at hf⊢;rcases hf with h|h|h|h|h|h|h
 ·exact .inl (.inl h)
 ·exact .inl (.inr (.inl h))
 ·exact .inl (.inr (.inr (.inl h)))
 ·exact .inl (.inr (.inr (.inr (.inl h))))
 ·exact .inl (.inr (.inr (.inr (.inr (.inl h)))))
 ·exact .inl (.inr (.inr (.inr (.inr (.inr (.inl h))))))
 ·rcases hs f h with h|h
  ·exact .inl (.inr (.inr (.inr (.inr (.inr (.inr h))))))
  ·exact .inr h
theorem Dm:∀x∈s::rowOf mv,x∈foot s S FS ov mv:=fun x hx=>by
 rcases List.mem_cons.1 hx with rfl|hx
 ·simp[foot]
 ·simp[foot,hx]
theorem rT{PY:Value}{made':List Int}(h:iB w s FS ov mv S)(hb:aF w' s 92 #[.pointer (some ⟨S.t,0,none⟩),.pointer (some ⟨S.k,0,none⟩),.pointer (some ⟨S.m,0,none⟩),PY])(hr:vI w' PY made')(t:Touch (s::rowOf mv) w w')(hs:∀x∈rowOf PY,x∈rowOf mv∨w.heap.size≤x):Done w s (foot s S FS ov mv) S {S with made:=made'} w':=
 ⟨_,⟨FS,ov,PY,h.making hb hr t hs,rfl⟩,⟨rfl,rfl,rfl,rfl,rfl,rfl⟩,t.mono (fun g hg=>.inl (Dm g hg)),IW hs⟩
theorem wG(h:aC w s F S)(hl:S.made.length<200)(c:Int)(hc:0≤c∧c≤255):
 Calls prog 241 #[.pointer (some ⟨s,0,none⟩),.int .u8 c] w fun e w'=>e=.returned (.int .i64 0)∧Done w s F S {S with made:=S.made++[c]} w':=by
 obtain⟨i0,hi,hz0,hz1,hz2⟩:=jO;obtain⟨FS,ov,mv,hp,rfl⟩:=h;have s3:=hp.blk.cell 3;have hbl:=hp.blk.lt;obtain⟨n,hn⟩:∃n,S.made.length=n:=⟨_,rfl⟩;have hr:=hp.made.1;rw[hn]at hl hr;obtain⟨a,cap,rfl⟩:=dD hr;have jG:=hp.Yn;have hrA:=aj hr ((tR w).alloc (.cells #[.int .u8 c] 5)) (by simp);have bC:=aF.new w 5 #[.int .u8 c];have g1:¬(n:Int)≥200:=by omega
 have HP:=hid (And.intro hp (And.intro hn hc));clear hp hn hc hr;go_enter func241,ntmps241;go_wp2_with (at_builtin;refine wpList_append_own_at _ rfl _ _ 90 rfl 0 5 i0 (.int .u8 0) 1 1 underlying90 hi hz0 hz1 hz2 rfl (by decide) _ _ _ rfl hrA ⟨w.heap.size,0,none⟩ 1 1 (aL [c]) rfl rfl ?Gn ?Nt ?Nu ?Nw (Nat.zero_le _) ?_)
 case Gn=>
  intro j u hj;have h2:=(List.getElem?_eq_some_iff.1 hj).1;have ZN:j=0:=by simp[aL]at h2;omega
  subst ZN
  first|simpa[aL]using hj|(rw[gG,bC.cell (0+0)];simpa[aL]using hj)
 case Nt=>exact Eh [c]
 case Nu=>unfold maxLen;omega
 case Nw=>omega
 intro v' w1 hown hgrow hnil hloc;have ru:=HP.out.1.blk.alloc (.cells #[.int .u8 c] 5);have hB:=ru.grown hgrow (fun e=>jG (aB.2 e.symm));have hf3:=hB.frozen 3;have c3:=hB.cell 3;have Cv:=fun u=>(((Touch.refl (s::rowOf (.slice a n cap)) w).alloc (.cells #[.int .u8 c] 5)).grown hgrow (fun k hk=>.inl (by simp[aB,hk]))).setCell (p:=⟨s,3,none⟩) (by simp) u;have hat:∀x∈rowOf v',x∈rowOf (.slice a n cap)∨w.heap.size≤x:=fun x hx=>by
  rcases hloc with e|e
  ·exact .inl (aB.2 (e▸aB.1 hx))
  ·rw[aB.1 hx]at e;simp at e;exact .inr (by omega)
 have uf:s∉rowOf v':=fun hm=>by
  rcases hat s hm with h|h
  ·exact jG h
  ·omega
 clear hloc hnil hgrow hrA bC;obtain⟨a',c',rfl⟩:=dD hown;have H1:=hid (And.intro Cv (And.intro hown (And.intro hat (And.intro hB uf))));clear Cv hown hat hB ru s3 jG uf;go_wp2_with fail;go_ret;obtain⟨Cv,hown,hat,hB,uf⟩:=H1.out;obtain⟨hp,hn,hc⟩:=HP.out;refine⟨rfl,rT hp (hB.bJ 3 _) ⟨?_,hp.made.2.append (fun x hx=>by rw[List.mem_singleton.1 hx];exact hc)⟩ (Cv _) hat⟩;have e:(S.made++[c]).length=n+1:=by rw[List.length_append,hn];rfl
 rw[e,iF];exact aj hown ((Touch.refl [s] w1).setCell (by simp) _) (fun k hk hkb=>uf (by rw[List.mem_singleton.1 hkb]at hk;exact hk))
theorem tH(h:aC w s F S)(hl:¬S.made.length<200)(c:Int):
 Calls prog 241 #[.pointer (some ⟨s,0,none⟩),.int .u8 c] w fun e w'=>e=.returned (.int .i64 (-17))∧w=w':=by
 obtain⟨FS,ov,mv,hp,rfl⟩:=h;have s3:=hp.blk.cell 3;obtain⟨n,hn⟩:∃n,S.made.length=n:=⟨_,rfl⟩;have hr:=hp.made.1;rw[hn]at hl hr;obtain⟨a,cap,rfl⟩:=dD hr;have g1:(n:Int)≥200:=by omega
 clear hr hp hn;go_enter func241,ntmps241;go_wp2_with fail;go_ret;exact⟨rfl,rfl⟩
end
theorem pQ:cu 102 0 (fun _ _=>True) (fun _ S=>(([],0),{S with made:=[]})):=by
 intro W B s F S t f first cap l lv bW hS hF eO;obtain⟨b,C,hC,hb,hA,hB⟩:=dQ eO rfl rfl;obtain⟨g,_,hg,rfl,rfl,rfl,rfl⟩:=aW (hA:aQ C 0 281 132 (.func (.func 238) #[] #[.pointer (some ⟨b,0,none⟩)]) _ W) (Nat.zero_le _);refine⟨rfl,enters_of func281 (by kernel_rfl) rfl,fun hl bG hc=>aR.post (bU hg (enters_of func238 (by kernel_rfl) rfl) ?_)⟩;show Calls prog _ _ W fun e w'=>e=.returned (.int .i64 0)∧Done W s F S {S with made:=[]} w';obtain⟨FS,ov,mv,hp,rfl⟩:=hS;have b0:=hB.cell 0;have s3:=hp.blk.cell 3;have f3:=hp.blk.frozen 3;have HD:Hid (Done W s (foot s S FS ov mv) S {S with made:=[]} (W.setCell ⟨s,3,none⟩ (.slice none 0 0))):=
  rT hp (hp.blk.bJ 3 _) ⟨World.ownsRow_nil _ _ _ _,fun x hx=>by cases hx⟩ ((Touch.refl _ W).setCell (by simp) _) (fun x hx=>by simp[rowOf]at hx)
 clear hB hA hg eO hc hF hp;show Calls prog 238 #[lv,.pointer (some ⟨b,0,none⟩)] W _;go_enter func238,ntmps238;go_wp2_with fail;go_ret;exact⟨rfl,HD.out⟩
def uH(l:List Int)(S:PS):(List Int×Int)×PS:=if S.made.length<200 then(([],0),{S with made:=S.made++[l.getD 0 0%256]})else(([],-17),S)
theorem UO:cu 105 1 (fun _ _=>True) uH:=by
 intro W B s F S t f first cap l lv bW hS hF eO;obtain⟨b,C,hC,hb,hA,hB⟩:=dQ eO rfl rfl;obtain⟨g,_,hg,rfl,rfl,rfl,rfl⟩:=aW (hA:aQ C 1 281 132 (.func (.func 240) #[] #[.pointer (some ⟨b,0,none⟩)]) _ W) (Nat.zero_le _);refine⟨rfl,enters_of func281 (by kernel_rfl) rfl,fun hl bG hc=> ?_⟩;have key:∀(x:Int) (T:PS),(∀w,Touch [] W w→Calls prog 241 #[.pointer (some ⟨s,0,none⟩),.int .u8 (l.getD 0 0%256)] w fun e w'=>e=.returned (.int .i64 x)∧Done W s F S T w')→Calls prog 240 (#[]++ #[lv]++ #[.pointer (some ⟨b,0,none⟩)]) W fun e w'=>e=.returned (.int .i64 x)∧Done W s F S T w':=by
  intro x T hH;obtain⟨ad,c,q,e,rfl,cq⟩:=hc.one hl;subst e;rw[List.getD_cons_zero]at hH;have hH:=hH _ (tR W).drew;have b0:=(hB.touch ((tR W).drew) (by simp)).cell 0;have x0:=ah ((tR W).drew) cq;clear hS hB hA hg eO hc hF cq;show Calls prog 240 #[.slice (some ⟨ad,0,none⟩) 1 c,.pointer (some ⟨b,0,none⟩)] W _;go_enter func240,ntmps240;go_upto_region 1 with fail;go_region_with (go_at_call 241;refine hH.mono ?_;rintro _ w1 ⟨rfl,hd⟩;have HD:=hid hd;clear hd)
  all_goals go_wp2_with fail
  all_goals go_ret
  all_goals exact⟨rfl,HD.out⟩
 by_cases hlt:S.made.length<200
 ·have e:uH l S=(([],0),{S with made:=S.made++[l.getD 0 0%256]}):=by unfold uH;rw[if_pos hlt]
  rw[e];refine aR.post (bU hg (enters_of func240 (by kernel_rfl) rfl) (key 0 _ fun w t=>(wG (hS.quiet t) hlt _ (by omega)).mono ?_));rintro _ w' ⟨rfl,F',h1,h2,h3,h4⟩;exact⟨rfl,F',h1,h2,(t.mono (by simp)).trans h3 (fun g hg=>.inl hg),h4.lower t.size⟩
 ·have e:uH l S=(([],-17),S):=by unfold uH;rw[if_neg hlt]
  rw[e];refine aR.post (bU hg (enters_of func240 (by kernel_rfl) rfl) (key (-17) _ fun w t=>(tH (hS.quiet t) hlt _).mono ?_));rintro _ _ ⟨rfl,rfl⟩;exact⟨rfl,Done.self hS t⟩
theorem mO(ad n c:Nat)(x y:Int)(w:World)(hn:2≤n)(h0:w.cell? ⟨ad,0,none⟩=some (.int .i64 x))(h1:w.cell? ⟨ad,1,none⟩=some (.int .i64 y)):
 Calls prog 163 #[.slice (some ⟨ad,0,none⟩) n c] w fun e w'=>e=.returned (.agg #[.int .i64 x,.int .i64 y])∧Touch [] w w':=by
 have bR:=aF.new w 213 #[.int .i64 0,.int .i64 0];have e1:(1:Int)<n:=by omega
 have e0:(0:Int)<n:=by omega
 have tR:=(tR w).alloc (.cells #[.int .i64 0,.int .i64 0] 213);have x0:=ah tR.drew h0;have x1:=ah tR.drew h1;go_enter func163,ntmps163;have bD:=bR.drew;have f0:=bD.frozen 0;have f1:=bD.frozen 1;have r0:=bD.cell 0;have r1:=bD.cell 1;clear h0 h1 bR tR bD;go_upto_region 1 with fail;go_region
 all_goals go_wp2_with fail
 all_goals go_returns
 all_goals exact⟨rfl,((tR w).alloc _).drew⟩
def Kept(W:World)(s:Nat)(F K:List Nat)(w:World)(U:PS):Prop:=∃F',aC w s F' U∧Touch F W w∧Sub W F F'∧∀x∈K,x∉F'∧x<w.heap.size
section
variable {W w w':World} {s:Nat} {F K:List Nat} {S U U':PS}
theorem Kept.quiet(h:Kept W s F K w U)(t:Touch [] w w'):Kept W s F K w' U:=by
 obtain⟨F',h1,h2,h3,h4⟩:=h;exact⟨F',h1.quiet t,h2.trans t (by simp),h3,fun x hx=>⟨(h4 x hx).1,Nat.lt_of_lt_of_le (h4 x hx).2 t.size⟩⟩
theorem Kept.size(h:Kept W s F K w U):W.heap.size≤w.heap.size:=by
 obtain⟨F',h1,h2,h3,h4⟩:=h;exact h2.size
theorem Kept.more{b:Nat}(h:Kept W s F K w U)(t:Touch [] w w')(hb:w.heap.size≤b)(hlt:b<w'.heap.size):Kept W s F (b::K) w' U:=by
 have hq:=h.quiet t;obtain⟨F',h1,h2,h3,h4⟩:=h;refine⟨F',h1.quiet t,h2.trans t (by simp),h3,fun x hx=> ?_⟩;rcases List.mem_cons.1 hx with rfl|hx
 ·exact⟨fun hm=>by have:=h1.lt _ hm;omega,hlt⟩
 ·exact⟨(h4 x hx).1,Nat.lt_of_lt_of_le (h4 x hx).2 t.size⟩
theorem Kept.own{b:Nat}(h:Kept W s F K w U)(hb:b∈K)(hW:W.heap.size≤b)(t:Touch [b] w w'):Kept W s F K w' U:=by
 obtain⟨F',h1,h2,h3,h4⟩:=h;refine⟨F',?_,h2.trans t (fun g hg=>.inr (by rw[List.mem_singleton.1 hg];exact hW)),h3,fun x hx=>⟨(h4 x hx).1,Nat.lt_of_lt_of_le (h4 x hx).2 t.size⟩⟩;obtain⟨FS,ov,mv,hp,rfl⟩:=h1;exact⟨FS,ov,mv,hp.quiet t (fun x hx hm=>(h4 b hb).1 (by rw[←List.mem_singleton.1 hm];exact hx)),rfl⟩
theorem Kept.step{P:Program}{f:FuncId}{args:Array Value}{e0:Ending}(h:Kept W s F K w U)(hC:∀F',aC w s F' U→Calls P f args w fun e w'=>e=e0∧Done w s F' U U' w'):
 Calls P f args w fun e w'=>e=e0∧Kept W s F K w' U'∧On K w w':=by
 obtain⟨F1,h1,h2,h3,h4⟩:=h;refine(hC F1 h1).mono ?_;rintro _ w' ⟨rfl,F2,k1,_,k2,k3⟩;refine⟨rfl,⟨F2,k1,h2.trans k2 (fun g hg=>h3 g hg),Sub.trans h3 k3 h2.size,fun x hx=>⟨fun hm=> ?_,Nat.lt_of_lt_of_le (h4 x hx).2 k2.size⟩⟩,fun x hx=>k2.block x (h4 x hx).2 (h4 x hx).1⟩;rcases k3 x hm with hm|hm
 ·exact(h4 x hx).1 hm
 ·have:=(h4 x hx).2;omega
theorem Kept.done(h:Kept W s F K w U)(hs:PS.same S U):Done W s F S U w:=by
 obtain⟨F',h1,h2,h3,_⟩:=h;exact⟨F',h1,hs,h2,h3⟩
end
def oU(B n:Nat):List Int:=(mM (kF B n)).reverse
theorem x9(B n:Nat)(h:n<B):oU B n=[((ng n).toNat:Int)]:=by
 unfold oU;rw[qL B n h];rfl
theorem yc(B n:Nat)(h2:2≤B)(h:B≤n):oU B n=((ng (n%B)).toNat:Int)::oU B (n / B):=by
 unfold oU;rw[uX B n h2 h];simp[mM]
def rU(w:World)(p:Nat):Nat:=match w.cell? ⟨p,0,none⟩,w.cell? ⟨p,1,none⟩with
 |some (.int _ u),some (.int _ v)=>jv v*18446744073709551616+jv u
 |_,_=>0
theorem oH{w:World}{p m:Nat}(h:aF w p 213 #[.int .i64 (pl m),.int .i64 (ph m)])(hm:m<340282366920938463463374607431768211456):rU w p=m:=by
 unfold rU;rw[h.cell 0,h.cell 1];show jv (ph m)*18446744073709551616+jv (pl m)=m;rw[UE,UF m hm];omega
structure Yo(W:World)(s g1 g2 p:Nat)(F:List Nat)(S:PS)(B n:Nat)(more:Bool)(wr:World)(m:Nat)(acc:List Int):Prop where
 kept:Kept W s F [p,g1,g2] wr {S with made:=S.made++acc}
 pair:aF wr p 213 #[.int .i64 (pl m),.int .i64 (ph m)]
 b1:aF wr g1 37 #[.pointer (some ⟨s,0,none⟩)]
 b2:aF wr g2 4 #[.bool true]
 small:m<340282366920938463463374607431768211456
 text:oU B n=acc++(if more then oU B m else [])
 stop:more=false→m=0
theorem IX(W:World)(s g1 g2 ad c n B:Nat)(F:List Nat)(S:PS)(hS:aC W s F S)(bW:S.ok)(hB:S.base=B)(ru:2≤B)(Zk:B≤36)(hn:n<340282366920938463463374607431768211456)(hlen:S.made.length+(oU B n).length≤200)
 (hg1:g1∉F) (hg2:g2∉F) (b1:aF W g1 37 #[.pointer (some ⟨s,0,none⟩)]) (b2:aF W g2 4 #[.bool true]) (h0:W.cell? ⟨ad,0,none⟩=some (.int .i64 (pl n))) (h1:W.cell? ⟨ad,1,none⟩=some (.int .i64 (ph n))):
 Calls prog 295 #[.slice (some ⟨ad,0,none⟩) 2 c,.pointer (some ⟨g1,0,none⟩),.pointer (some ⟨g2,0,none⟩)] W (aR W s F S (([0,0],0),{S with made:=S.made++oU B n})):=by
 have zS:=zO hS bW.2.2.1 (by rw[hB];omega);rw[hB]at zS;have Wo:Kept W s F [g1,g2] W S:=⟨F,hS,Touch.refl _ _,Sub.refl _ _,fun x hx=>by
  simp only[List.mem_cons,List.not_mem_nil,or_false]at hx;rcases hx with rfl|rfl
  ·exact⟨hg1,b1.lt⟩
  ·exact⟨hg2,b2.lt⟩⟩
 have d0:=b1.cell 0;have s0:∃mv,W.cell? ⟨s,3,none⟩=some mv∧∃a cap,mv=.slice a S.made.length cap:=by
  obtain⟨FS,ov,mv,hp,_⟩:=hS;exact⟨mv,hp.blk.cell 3,dD hp.made.1⟩
 obtain⟨mv,s3,ma,mc,rfl⟩:=s0;obtain⟨ml,qo⟩:∃ml,S.made.length=ml:=⟨_,rfl⟩;rw[qo]at s3 hlen;have hst:=fun m (hm:m<340282366920938463463374607431768211456) W=>UD m B hm ru Zk W;obtain⟨q,hq⟩:∃q,pl n=q:=⟨_,rfl⟩;obtain⟨qh,UQ⟩:∃q,ph n=q:=⟨_,rfl⟩;rw[hq]at h0;rw[UQ]at h1;have HQ:=hid (And.intro hq UQ);have HH:=hid (And.intro Wo (And.intro b1 (And.intro b2 (And.intro qo hlen))));clear hq UQ Wo hS hg1 hg2 b1 b2 bW hB qo hlen;go_enter func295,ntmps295;go_wp2_with fail;refine zS.mono ?_;rintro _ w1 ⟨rfl,t1⟩;clear zS d0;have d1:=(HH.out.2.1.touch t1.drew (by simp)).cell 0;have s1:=ah t1.drew s3;have hA:=fun w (t:Touch [] W w)=>mO ad 2 c q qh w (Nat.le_refl _) (ah t h0) (ah t h1);have HT:=hid t1;clear t1;go_upto_region 2 with fail;go_cut [8,9]from 17 to 23 (fun pv nv wx=>∃p,pv=.pointer (some ⟨p,0,none⟩)∧nv=.int .i64 (ml:Int)∧aF wx p 213 #[.int .i64 q,.int .i64 qh]∧W.heap.size≤p∧Touch [] W wx)
 case first=>
  have vu:Hid (g1<w1.heap.size):=(HH.out.2.1.touch HT.out (by simp)).lt;have wE:Hid (s<w1.heap.size):=World.block_lt_of_cell? _ _ s1;have e1:=fun o=>ah (((tR w1).alloc o).drew) ((HH.out.2.1.touch HT.out (by simp)).cell 0);have f1:=fun o=>ah (((tR w1).alloc o).drew) (ah HT.out s3);go_region_with (go_at_call 163;refine(hA _ (by first|exact HT.out.drew|exact HT.out.drew.alloc _)).mono ?_;rintro _ w2 ⟨rfl,t2⟩;have T2:=Touch.trans (by first|exact HT.out.drew|exact HT.out.drew.alloc _) t2 (by simp);have d2:=(HH.out.2.1.touch T2 (by simp)).cell 0;have s2:=ah T2 s3;have e2:=fun o=>ah ((tR w2).alloc o) d2;have f2:=fun o=>ah ((tR w2).alloc o) s2;try(have bP:=((aF.new w1 213 #[.int .i64 0,.int .i64 0]).drew).touch t2 (by simp));try(have p0:=bP.cell 0);try(have p1:=bP.cell 1);try(have z0:=bP.frozen 0);try(have z1:=bP.frozen 1);try(have d3:=fun i u j v=>iG (((Touch.refl [w1.heap.size] w2).setCell (p:=⟨w1.heap.size,i,none⟩) (by simp) u).setCell (p:=⟨w1.heap.size,j,none⟩) (by simp) v) d2 (fun hm=>absurd (List.mem_singleton.1 hm) (Nat.ne_of_lt vu.out)));try(have s3':=fun i u j v=>iG (((Touch.refl [w1.heap.size] w2).setCell (p:=⟨w1.heap.size,i,none⟩) (by simp) u).setCell (p:=⟨w1.heap.size,j,none⟩) (by simp) v) s2 (fun hm=>absurd (List.mem_singleton.1 hm) (Nat.ne_of_lt wE.out))))
  all_goals(go_wp2_with fail;go_meet;first|exact⟨_,rfl,rfl,aF.new w2 _ _,T2.size,T2.alloc _⟩|exact⟨_,rfl,rfl,bP.jF _ _,HT.out.size,(T2.setCell (.inr HT.out.size) _).setCell (.inr HT.out.size) _⟩)
 case rest=>
  obtain⟨p,rfl,rfl,bP,Rf,tc⟩:=hcut;have HD:Hid (Yo W s g1 g2 p F S B n true wc n []):=⟨by
   have hk:=HH.out.1.more tc Rf bP.lt;rwa[show({S with made:=S.made++[]}:PS)=S from by rw[List.append_nil]],by rw[HQ.out.1,HQ.out.2];exact bP,HH.out.2.1.touch tc (by simp),HH.out.2.2.1.touch tc (by simp),hn,by simp,fun h=>by simp at h⟩
  have HW:=hid Rf;have HG:Hid (g1≠p∧g2≠p):=⟨fun e=>by have:=HH.out.2.1.lt;omega,fun e=>by have:=HH.out.2.2.1.lt;omega⟩;clear hA s3 h0 h1 d1 s1 bP Rf tc;go_wp2_with fail;go_loopw [7,10] (fun ev mv wr=>∃more m acc,ev=.int .i64 0∧mv=.bool more∧Yo W s g1 g2 p F S B n more wr m acc) (fun _ mv wr=>2*rU wr p+(match mv with| .bool true=>1|_=>0))
  case atStart=>exact⟨true,n,[],rfl,rfl,HD.out⟩
  case round=>
   obtain⟨more,m,acc,rfl,rfl,hD⟩:=hrel;cases more with
   |false=>
    obtain rfl:=hD.stop rfl;have p0:wr.cell? ⟨p,0,none⟩=some (.int .i64 0):=hD.pair.cell 0;have p1:wr.cell? ⟨p,1,none⟩=some (.int .i64 0):=hD.pair.cell 1;have ht:=hD.text;rw[if_neg (by simp),List.append_nil]at ht;have HF:Hid (Done W s F S {S with made:=S.made++oU B n} wr):=by
     rw[ht];exact hD.kept.done ⟨rfl,rfl,rfl,rfl,rfl,rfl⟩
    clear hD ht;go_wp2_with fail;go_ret2;exact⟨_,rfl,bH.blk (cs:=[0,0]) (aF.new wr _ _) 2,HF.out.alloc _⟩
   |true=>
    have hs:=hst m hD.small;obtain⟨c8,Ll⟩:∃c8,ng (m%B)=c8:=⟨_,rfl⟩;obtain⟨m2,vP⟩:∃m2,m / B=m2:=⟨_,rfl⟩;rw[Ll,vP]at hs;have qW:m2<340282366920938463463374607431768211456:=by rw[←vP];exact Nat.lt_of_le_of_lt (Nat.div_le_self _ _) hD.small
    have HC:=hid (And.intro Ll vP);have p0:=hD.pair.cell 0;have p1:=hD.pair.cell 1;have FH:=hid hD;clear Ll vP hD;go_wp2_with fail;refine(hs _).mono ?_;rintro _ w1 ⟨rfl,t1⟩;have bP:=FH.out.pair.touch t1 (by simp);have Xp:=hid t1;clear t1 hs p0 p1;have p0:=bP.cell 0;have p1:=bP.cell 1;have z0:=bP.frozen 0;have z1:=bP.frozen 1;go_upto_region 8 with fail;have zQ:=bP.jF (.int .i64 (pl m2)) (.int .i64 (ph m2));have sI:=(FH.out.kept.quiet Xp.out).own (by simp) HW.out (((Touch.refl [p] w1).setCell (p:=⟨p,0,none⟩) (by simp) (.int .i64 (pl m2))).setCell (p:=⟨p,1,none⟩) (by simp) (.int .i64 (ph m2)));have tP:=((Touch.refl [p] w1).setCell (p:=⟨p,0,none⟩) (by simp) (.int .i64 (pl m2))).setCell (p:=⟨p,1,none⟩) (by simp) (.int .i64 (ph m2));have bb1:=(FH.out.b1.touch Xp.out (by simp)).touch tP (fun hm=>HG.out.1 (List.mem_singleton.1 hm));have bb2:=(FH.out.b2.touch Xp.out (by simp)).touch tP (fun hm=>HG.out.2 (List.mem_singleton.1 hm));clear p0 p1 z0 z1 bP tP;generalize (w1.setCell ⟨p,0,none⟩ (.int .i64 (pl m2))).setCell ⟨p,1,none⟩ (.int .i64 (ph m2))=w2 at*;have d0:=bb1.cell 0;have kM:0≤((c8.toNat:Nat):Int)∧((c8.toNat:Nat):Int)≤255:=by have:=c8.toNat_lt;omega
    have UR:S.made.length+acc.length<200:=by
     have h1:=HH.out.2.2.2.2;have h2:=FH.out.text;have h3:=HH.out.2.2.2.1;rw[if_pos rfl]at h2;have h4:=congrArg List.length h2;rw[List.length_append]at h4;have h5:1≤(oU B m).length:=by
      rcases Nat.lt_or_ge m B with h|h
      ·rw[x9 B m h];exact Nat.le_refl _
      ·rw[yc B m ru h];simp
     omega
    have hH:=sI.step (fun F' hS=>wG hS (by show(S.made++acc).length<200;rw[List.length_append];exact UR) _ kM);have Nb:=hid (And.intro zQ (And.intro bb1 bb2));clear zQ bb1 bb2 sI UR kM;go_wp2_with fail;refine hH.mono ?_;rintro _ w3 ⟨rfl,hk3,Nc⟩;have Dk:=Nc.blk (by simp) Nb.out.1;have bb1:=Nc.blk (by simp) Nb.out.2.1;have bb2:=Nc.blk (by simp) Nb.out.2.2;have d2:=bb2.cell 0;have p0:=Dk.cell 0;have p1:=Dk.cell 1;have heq:=fun W=>wC (pl m2) (ph m2) 0 0 W;rw[BF m2 qW]at heq;have hgd:=uW;have hk4:Kept W s F [p,g1,g2] w3 {S with made:=S.made++(acc++[((c8.toNat:Nat):Int)])}:=by
     have h:=hk3;have e:S.made++acc++[((c8.toNat:Nat):Int)]=S.made++(acc++[((c8.toNat:Nat):Int)]):=List.append_assoc _ _ _;rw[←e];exact h
    have hnu:rU wr p=m:=oH FH.out.pair FH.out.small;have vz:rU w3 p=m2:=oH Dk qW;have Rh:=hid (And.intro Dk (And.intro bb1 (And.intro bb2 (And.intro hk4 (And.intro hnu vz)))));clear Dk bb1 bb2 hk4 hnu vz hk3 Nc hH d0;by_cases hz:m2=0
    ·rw[decide_eq_true hz]at heq;have Jz:m<B:=by
      have:=HC.out.2;rw[hz]at this;exact(Nat.div_eq_zero_iff_lt (by omega)).1 this
     have HF:Hid (Yo W s g1 g2 p F S B n false w3 m2 (acc++[((c8.toNat:Nat):Int)])):=by
      have ht:=FH.out.text;refine⟨Rh.out.2.2.2.1,Rh.out.1,Rh.out.2.1,Rh.out.2.2.1,qW,?_,fun _=>hz⟩;rw[ht,if_pos rfl,if_neg (by simp),x9 B m Jz,←HC.out.1,Nat.mod_eq_of_lt Jz];simp
     clear hz Jz;go_wp2_with fail;refine⟨⟨false,m2,_,rfl,rfl,HF.out⟩,?_⟩;have h1:=Rh.out.2.2.2.2.1;have h2:=Rh.out.2.2.2.2.2;have h3:=HF.out.stop rfl;simp only[h1,h2,h3];omega
    ·rw[decide_eq_false hz]at heq;have hBm:B≤m:=by
      rcases Nat.lt_or_ge m B with h|h
      ·exact absurd (by rw[←HC.out.2,Nat.div_eq_of_lt h]) hz
      ·exact h
     have HF:Hid (Yo W s g1 g2 p F S B n true w3 m2 (acc++[((c8.toNat:Nat):Int)])):=by
      have ht:=FH.out.text;refine⟨Rh.out.2.2.2.1,Rh.out.1,Rh.out.2.1,Rh.out.2.2.1,qW,?_,fun h=>by simp at h⟩;rw[ht,if_pos rfl,if_pos rfl,yc B m ru hBm,HC.out.1,HC.out.2];simp
     have JX:Hid (m2<m):=by
      show m2<m;rw[←HC.out.2];exact Nat.div_lt_self (by omega) (by omega)
     clear hz hBm;go_wp2_with fail;refine⟨⟨true,m2,_,rfl,rfl,HF.out⟩,?_⟩;have h1:=Rh.out.2.2.2.2.1;have h2:=Rh.out.2.2.2.2.2;have h3:=JX.out;simp only[h1,h2];omega
theorem Lm{l:List Int}(h:Bytes l):(strOfNums l).size=l.length:=by
 have e:=congrArg List.length (Iz h);rwa[pX]at e
theorem Yp(W:World)(s:Nat)(F:List Nat)(S:PS)(lv:Value)(hS:aC W s F S)(bW:S.ok)(hn:S.n=1024):
 Calls prog 243 #[.pointer (some ⟨s,0,none⟩),lv] W (aR W s F S (([((768-S.made.length:Nat):Int),(S.made.length:Int)],0),{S with bs:=oP S.bs (768-S.made.length) S.made.reverse})):=by
 have vA:=bW.2.1;obtain⟨k,hk⟩:∃k,S.made.length=k:=⟨_,rfl⟩;obtain⟨p,hp⟩:∃p,768-k=p:=⟨_,rfl⟩;rw[hk]at vA;rw[hk,hp];have e1:IntKind.i64.wrap ((1024:Int)-256)=768:=by decide
 have e2:IntKind.i64.wrap ((768:Int)-(k:Int))=(p:Int):=by rw[IntKind.wrap_i64];omega
 have Ba:∃mv,W.cell? ⟨s,3,none⟩=some mv∧vI W mv S.made∧W.cell? ⟨s,2,none⟩=some (.pointer (some ⟨S.m,0,none⟩)):=by
  obtain⟨FS,ov,mv,h,_⟩:=hS;exact⟨mv,h.blk.cell 3,h.made,h.blk.cell 2⟩
 obtain⟨mv,s3,hr,s2⟩:=Ba;have hC:=Lj hr (by omega);have hrv:Bytes S.made.reverse:=fun x hx=>hr.2 x (List.mem_reverse.1 hx);have HS:=hid (And.intro hS (And.intro hrv (And.intro hk hn)));clear hS hr hrv bW;go_enter func243,ntmps243;go_wp2_with fail;refine hC.mono ?_;rintro _ w1 ⟨v,rfl,hown,t1⟩;have hR:=M7 w1 W.heap.size v S.made hown;obtain⟨a,c,rfl⟩:=dD hown;rw[hk]at hR hown;have jX:=dF hown;have H1:=hid (And.intro jX t1);clear hC hown jX t1 s3;go_wp2_with fail;refine hR.mono ?_;rintro _ w2 ⟨rfl,hown,t2⟩;have T2:Touch [] W w2:=H1.out.2.trans t2 (fun g hg=>.inr (H1.out.1 g hg));have fh:=HS.out.1.mem.quiet T2;have UU:=zX fh;rw[HS.out.2.2.2]at UU;have q2:=ah T2 s2;have q3:=ah T2.drew s2;have q4:=ah (T2.alloc (.cells #[.int .i64 (p:Int),.int .i64 (k:Int)] 33)).drew s2;have hrow:∀w,Touch [] w2 w→vI w (.slice a k c) S.made.reverse:=fun w t=>⟨by rw[List.length_reverse,hk];exact aj (Mt hown) t (by simp),HS.out.2.1⟩;have hcv:=Br (hrow _ (tR w2).drew);have L3:=Br (hrow _ ((tR w2).alloc (.cells #[.int .i64 (p:Int),.int .i64 (k:Int)] 33)).drew);have pP:(strOfNums S.made.reverse).size=k:=by rw[Lm HS.out.2.1,List.length_reverse];exact HS.out.2.2.1
 have hsl:=Iz HS.out.2.1;obtain⟨X,hX⟩:∃X,strOfNums S.made.reverse=X:=⟨_,rfl⟩;rw[hX]at hcv L3 pP hsl;have hWr:=fun w (t:Touch [] w2 w)=>PE (fh.quiet t) p X (by rw[pP,HS.out.2.2.2];omega);rw[hsl]at hWr;have HT:=hid T2;clear hR hown t2 T2 hrow hX fh hsl pP s2;go_wp2_with fail;refine UU.mono ?_;rintro _ _ ⟨rfl,rfl⟩;clear UU q2;go_upto_region 4 with fail;go_region_with (go_at_call 299;refine(hWr _ (by first|exact(tR w2).drew|exact((tR w2).alloc _).drew)).mono ?_;rintro _ w3 ⟨rfl,hm,t3⟩;have HM:=hid (And.intro hm t3);clear hm t3)
 all_goals go_wp2_with fail
 all_goals go_ret2
 all_goals have hne:w2.heap.size∉[S.g]:=fun hm=>absurd (HS.out.1.mem.quiet HT.out).row.lt (by rw[List.mem_singleton.1 hm];exact Nat.lt_irrefl _)
 all_goals first|exact⟨_,rfl,bH.blk (cs:=[(p:Int),(k:Int)]) (aF.new w3 _ _) 2,(Done.mem HS.out.1 HM.out.1 (HT.out.mono (by simp) |>.trans HM.out.2.aO (fun g hg=>.inl (by rw[List.mem_singleton.1 hg];simp)))).alloc _⟩|exact⟨_,rfl,bH.blk (cs:=[(p:Int),(k:Int)]) ((aF.new w2 _ _).drew.touch HM.out.2 hne) 2,Done.mem HS.out.1 HM.out.1 (Touch.trans (G:=[S.g]) (((HT.out.alloc _).drew).mono (by simp)) HM.out.2 (fun g hg=>.inl (by rw[List.mem_singleton.1 hg];simp)))⟩
theorem Yq:cu 107 2 (fun _ S=>S.n=1024) (fun _ S=>(([((768-S.made.length:Nat):Int),(S.made.length:Int)],0),{S with bs:=oP S.bs (768-S.made.length) S.made.reverse})):=by
 intro W B' s F S t f first cap l lv bW hS hF eO;obtain⟨b,C,hC,hb,hA,hB⟩:=dQ eO rfl rfl;have e:(Value.agg #[.int .i64 t,.func (.func f) first cap])=.agg #[.int .i64 2,.func (.func 243) #[.pointer (some ⟨s,0,none⟩)] #[]]:=hA;injection e with e;injection e with e;injection e with e1 e;injection e1 with _ e1;injection e with e2 _;injection e2 with e2 e3 e4;injection e2 with e2;subst e1 e2 e3 e4;exact⟨rfl,enters_of func243 (by kernel_rfl) rfl,fun hl bG hc=>aR.post (Yp W s F S lv hS bW bG)⟩

end Go.Proofs.YtdokeddjcpnmiaaGreatDoor
