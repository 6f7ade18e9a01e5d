/- Of EngineClean: Say Say2 Mem3 TotMem. -/
import Derived.Test.YtdokeddjcpnmiaaGreatDoorQFindNone
import Derived.Lib.AppendStr
import Derived.Shelf.Bytes.SlSmallAll
import Derived.Lib.BufferWrite
import Derived.Lib.SlBuf
import Derived.Laws.IdiomCopy
set_option maxRecDepth 100000
set_option maxHeartbeats 1000000
namespace Go.Proofs.YtdokeddjcpnmiaaGreatDoor
open Go.RowKit Go.Proofs.Tryz
open Go.Lib(hid)
def oO(s:ByteArray):List Int:=s.data.toList.map fun b=>(b.toNat:Int)
theorem pX(s:ByteArray):(oO s).length=s.size:=by
 unfold oO;rw[List.length_map];exact Array.length_toList
theorem Bp(s:ByteArray):Bytes (oO s):=by
 intro x hx;obtain⟨b,_,rfl⟩:=List.mem_map.1 hx;have:=b.toNat_lt;omega
theorem Bq(s:ByteArray):aL (oO s)=Lib.strCells s:=by
 unfold aL oO Lib.strCells;rw[List.map_map];rfl
theorem iF(a b:List Int):aL (a++b)=aL a++aL b:=List.map_append
theorem Bytes.append{a b:List Int}(h:Bytes a)(k:Bytes b):Bytes (a++b):=fun x hx=>by
 rcases List.mem_append.1 hx with h1|h1
 ·exact h x h1
 ·exact k x h1
theorem Po(s:ByteArray)(k:Nat):oO (s.extract 0 k)=(oO s).take k:=by
 unfold oO;rw[←List.map_take];congr 1;rw[ByteArray.data_extract,Array.toList_extract];simp
def iy(out:List Int)(s:ByteArray):List Int:=out++(oO s).take (4000-out.length)
theorem wo{out:List Int}(h:out.length≤4000)(s:ByteArray):(iy out s).length≤4000:=by
 unfold iy;rw[List.length_append,List.length_take];omega
theorem Pp:(prog.info? 5).map (fun i=>(i.zero,i.size,i.bytes))=some (some (.int .u8 0),1,1):=by kernel_rfl
theorem jO:∃i0,prog.info? 5=some i0∧i0.zero=some (.int .u8 0)∧i0.size=1∧i0.bytes=1:=by
 have h:=Pp;cases hi:prog.info? 5 with
 |none=>rw[hi]at h;cases h
 |some i=>
  rw[hi]at h;simp only[Option.map_some,Option.some.injEq,Prod.mk.injEq]at h;exact⟨i,rfl,h.1,h.2.1,h.2.2⟩
section
variable {P:Program} {w:World}
theorem zy{ops:Array Oper}{o:Oper}{a:Act}{K:Act→World→Prop}{Q:Exit→Act→World→Prop}{E:Prop}(hgd:o.guard=none)(sl x:Operand)(t u:TypeId)
 (ho:o.op=.call {callee:=.builtin .append,args:= #[sl,x],argTypes:= #[t,u]})
 (e:TypeId) (i:TypeInfo) (ht:P.underlying t=some (.slice e)) (hu:P.underlying u=some .string) (hi:P.info? e=some i) (hz:i.zero=some (.int .u8 0))
 (hsize:i.size=1) (hby:i.bytes=1)
 (v:Value) (n:Nat) (xs:List Value) (hs:a.eval sl=v) (hown:w.ownsRow 0 e 1 v n xs) (s:ByteArray) (hx:a.eval x=.string s)
 (h63:n+s.size≤140737488355328)
 (h:∀b c w',w'.ownsRow 0 e 1 (.slice b (n+s.size) c) (n+s.size) (xs++Lib.strCells s)→w.grownBy w' v.ownBlock→(∀g∈rowOf (.slice b (n+s.size) c),g∈rowOf v∨w.heap.size≤g)→K (a.put o.dst (.slice b (n+s.size) c)) w'):
 if Region.wanted o (yielded ops a.tmps)=true then Oper.wp P o a w K Q else E:=by
 have hw:Region.wanted o (yielded ops a.tmps)=true:=by simp[Region.wanted,hgd]
 rw[if_pos hw];obtain⟨v',w',hr,h2,h3,h4⟩:=Lib.run_append_own_string (P:=P) (w:=w) 0 t u o.type e i ht hu hi hz hsize hby v n xs hown s (by unfold maxLen;omega) h63 (Nat.zero_le _);obtain⟨b,c,rfl⟩:=dD h2;unfold Oper.wp execOp;simp only[ho,resolve,invoke,builtin,Sem.run_bind,Sem.run_pure,Result.andThen_ok,List.map_toArray,List.map_cons,List.map_nil,hs,hx,hr];refine h b c w' h2 h3 ?_;rcases hown.2 with⟨rfl,rfl⟩|⟨g,cap,cur,rfl,hbg,hg,WK,hcm,hcs,qU⟩
 ·obtain⟨v',w'',uS,k2,_⟩:=Lib.run_append_own_string (P:=P) (w:=w) w.heap.size t u o.type e i ht hu hi hz hsize hby (.slice none 0 0) 0 xs ⟨hown.1,.inl ⟨rfl,rfl⟩⟩ s (by unfold maxLen;omega) h63 (Nat.le_refl _);rw[hr]at uS;injection uS with e1 e2;subst e1 e2;exact fun x hx=>.inr (dF k2 x hx)
 ·have Ln:xs.length=n:=by simpa using hown.1
  by_cases hroom:n+s.size≤cap
  ·have hcz:cur.size=cap:=by simpa using hcs
   have uS:=Lib.run_append_room_string (P:=P) w t u o.type e i ht hu hi hsize g n cap cur hg s hroom (by omega);rw[hr]at uS;injection uS with e1 e2;injection e1 with e1 _ _;subst e1;intro x hx;exact .inl (by simpa[rowOf]using hx)
  ·have holds:∀j u,xs[j]? =some u→w.cell? ((⟨g,0,none⟩:Addr).add j)=some u:=hown.cells (g:=g) rfl;have uS:=Lib.run_append_grow_string (P:=P) w t u o.type e i (.int .u8 0) ht hu hi hz ⟨g,0,none⟩ n cap xs (by rw[hsize];simpa using Ln) holds s (by omega) (by omega) (by rw[hby];exact growslice_fits (by omega) (by omega));rw[hr]at uS;injection uS with e1 e2;injection e1 with e1 _ _;subst e1;intro x hx;simp[rowOf]at hx;exact .inr (by omega)
end
theorem X9{w w1:World}{t k:Nat}{v ba:Value}{out:List Int}{s:ByteArray}(hb:aF w t 110 #[v])(hr:vI w v out)(hn:t∉rowOf v)(hk:min s.size (4000-out.length)=k)
 (hown:w1.ownsRow 0 5 1 ba (out.length+k) (aL out++Lib.strCells (s.extract 0 k))) (hgr:w.drew.grownBy w1 v.ownBlock) (hat:∀g∈rowOf ba,g∈rowOf v∨w.heap.size≤g):
 aF (w1.setCell ⟨t,0,none⟩ ba) t 110 #[ba]∧vI (w1.setCell ⟨t,0,none⟩ ba) ba (iy out s)∧Touch (t::rowOf v) w (w1.setCell ⟨t,0,none⟩ ba)∧(∀x∈rowOf ba,x∈rowOf v∨w.heap.size≤x):=by
 have hbl:=hb.lt;have hnt:t∉rowOf ba:=fun hm=>by
  rcases hat t hm with h|h
  ·exact hn h
  ·omega
 have hb1:=(hb.drew).grown hgr (fun e=>hn (aB.2 e.symm));have h1:Touch (t::rowOf v) w w1:=((Touch.refl _ w).drew).grown hgr fun k hk=>.inl (by simp[aB,hk]);have hs:iy out s=out++oO (s.extract 0 k):=by
  unfold iy;rw[Po,←hk];congr 1;rw[List.take_eq_take_iff,pX];omega
 have zr:(s.extract 0 k).size=k:=by simp;omega
 refine⟨hb1.bJ 0 _,⟨?_,?_⟩,h1.setCell (by simp) _,hat⟩
 ·rw[hs,List.length_append,pX,zr,iF,Bq];exact aj hown (F:=[t]) ((Touch.refl _ _).setCell (by simp) _) (fun g hg hm=>hnt (by rw[List.mem_singleton.1 hm]at hg;exact hg))
 ·rw[hs];exact hr.2.append (Bp _)
theorem Um(w:World)(t:Nat)(v:Value)(out:List Int)(hb:aF w t 110 #[v])(hr:vI w v out)(hn:t∉rowOf v)(hl:out.length≤4000)(s:ByteArray):
 Calls prog 282 #[.pointer (some ⟨t,0,none⟩),.string s] w fun e w'=>∃v',e=.returned (.tuple #[])∧aF w' t 110 #[v']∧vI w' v' (iy out s)∧Touch (t::rowOf v) w w'∧(∀x∈rowOf v',x∈rowOf v∨w.heap.size≤x):=by
 obtain⟨i0,hi,hz,h1,h8⟩:=jO;obtain⟨a,c,rfl⟩:=dD hr.1;have c0:=hb.cell 0;have f0:=hb.frozen 0;have e1:IntKind.i64.wrap (4000-(out.length:Int))=(4000-out.length:Nat):=by rw[IntKind.wrap_i64];omega
 have RH:min (s.size:Int) ((4000-out.length:Nat):Int)=(min s.size (4000-out.length):Nat):=by omega
 have hle:min s.size (4000-out.length)≤s.size:=Nat.min_le_left _ _;obtain⟨k,hk⟩:∃k,min s.size (4000-out.length)=k:=⟨_,rfl⟩;rw[hk]at RH hle;go_enter func282,ntmps282;go_wp2_with fail;have HV:Hid (some t≠(Value.slice a out.length c).ownBlock):=fun e=>hn (aB.2 e.symm);have sN:(s.extract 0 k).size=k:=by simp;omega
 have HR:=hid hr.1;have HK:=hid sN;go_region_law (refine zy rfl (.tmp 10) (.tmp 21) 90 9 rfl 5 i0 underlying90 underlying9 hi hz h1 h8 (.slice a out.length c) out.length (aL out) (by simp[Act.eval,Act.put];try rfl) HR.out.drew (s.extract 0 k) (by simp[Act.eval,Act.put];try rfl) (by rw[HK.out];omega) ?_;intro ba ca w1 hown hgr hat;have d0:=((hb.drew).grown hgr HV.out).cell 0;have g0:=((hb.drew).grown hgr HV.out).frozen 0;have HG:=hid (And.intro hown (And.intro hgr hat));clear hown hgr hat)
 all_goals go_wp2_with fail
 all_goals go_end0
 all_goals exact⟨_,rfl,X9 hb hr hn hk (by have h:=HG.out.1;rw[HK.out]at h;exact h) HG.out.2.1 (by have h:=HG.out.2.2;rw[HK.out]at h;exact h)⟩
theorem Ur(s:ByteArray):strOfNums (oO s)=s:=by
 apply ByteArray.ext;apply Array.ext';rw[strOfNums_data,oO,List.map_map];exact(List.map_congr_left (fun b _=>by simp)).trans (List.map_id _)
theorem Iz{l:List Int}(h:Bytes l):oO (strOfNums l)=l:=by
 unfold oO;rw[strOfNums_data,List.map_map];refine(List.map_congr_left (g:=id) (fun x hx=> ?_)).trans (List.map_id _);have hx:=h x hx;simp only[Function.comp,id];rw[UInt8.toNat_ofNat'];omega
theorem Br{w:World}{v:Value}{l:List Int}(h:vI w v l):(convert 90 9 v).run prog w=.ok (.string (strOfNums l)) w:=by
 rcases h.1.2 with⟨rfl,h0⟩|⟨g,cap,cur,rfl,_⟩
 ·obtain rfl:=List.eq_nil_of_length_eq_zero h0;exact run_convert_bytes_zero w _ _ underlying90 underlying5 none 0 _ underlying9
 ·refine run_convert_bytes_arg (P:=prog) w _ _ underlying90 underlying5 g 0 l.length cap l rfl (fun i hi=> ?_) _ underlying9;have:=h.1.cells (g:=g) rfl i (.int .u8 (l.getD i 0)) (by simp[aL,List.getD,List.getElem?_eq_getElem hi]);rw[gG]at this;exact this
section
variable {w w':World} {s:Nat} {F FS:List Nat} {ov mv:Value} {S:PS}
theorem iB.Yg(h:iB w s FS ov mv S):S.t∉rowOf ov:=fun hm=>h.QX.ty.ne (jY h.out.1 _ hm) (by decide) rfl
theorem iB.told{Zo:Value}{out':List Int}(h:iB w s FS ov mv S)(hb:aF w' S.t 110 #[Zo])(hr:vI w' Zo out')(t:Touch (S.t::rowOf ov) w w')(hs:∀x∈rowOf Zo,x∈rowOf ov∨w.heap.size≤x):iB w' s FS Zo mv {S with out:=out'}:=by
 have key:∀a ty,zo w a ty→ty≠110→a∉rowOf ov→a∉S.t::rowOf ov:=fun a ty ha h1 h2 hf=>by
  rcases List.mem_cons.1 hf with rfl|hf
  ·exact ha.ne h.QX.ty h1 rfl
  ·exact h2 hf
 obtain⟨a1,a2,a3,a4,a5,a6⟩:=h.sG;have hg:S.g∉rowOf Zo:=fun hm=>by
  rcases hs _ hm with h1|h1
  ·exact h.go h1
  ·have:=h.mem.row.lt;omega
 refine⟨h.blk.touch t (key _ _ h.blk.ty (by decide) (fun hm=>h.blk.ty.ne (jY h.out.1 _ hm) (by decide) rfl)),hb,h.iO.touch t (fun f hf hm=> ?_),h.mem.touch t (key _ _ h.mem.blk.ty (by decide) (fun hm=>h.mem.blk.ty.ne (jY h.out.1 _ hm) (by decide) rfl)) (key _ _ h.mem.row.ty (by decide) h.go),hr,⟨aj h.made.1 t (fun x hx=>key _ _ (jY h.made.1 x hx) (by decide) (fun hm=>h.om x hm hx)),h.made.2⟩,hg,h.gm,fun x hx hm=> ?_⟩
 ·rcases List.mem_cons.1 hm with rfl|hm
  ·exact a2 hf
  ·exact a5 _ hm hf
 ·rcases hs _ hx with h1|h1
  ·exact h.om x h1 hm
  ·have:=fG h.made.1 hm;omega
theorem Pz{Zo:Value}{out':List Int}(hs:∀x∈rowOf Zo,x∈rowOf ov∨w.heap.size≤x):Sub w (foot s S FS ov mv) (foot s {S with out:=out'} FS Zo mv):=by
 intro f hf;simp only[foot,List.mem_cons,List.mem_append]at hf⊢;rcases hf with h|h|h|h|h|h|h
 ·exact .inl (.inl h)
 ·exact .inl (.inr (.inl h))
 ·exact .inl (.inr (.inr (.inl h)))
 ·exact .inl (.inr (.inr (.inr (.inl h))))
 ·exact .inl (.inr (.inr (.inr (.inr (.inl h)))))
 ·rcases hs f h with h|h
  ·exact .inl (.inr (.inr (.inr (.inr (.inr (.inl h))))))
  ·exact .inr h
 ·exact .inl (.inr (.inr (.inr (.inr (.inr (.inr h))))))
theorem FB:∀x∈S.t::rowOf ov,x∈foot s S FS ov mv:=fun x hx=>by
 rcases List.mem_cons.1 hx with rfl|hx
 ·simp[foot]
 ·simp[foot,hx]
theorem wz(h:aC w s F S)(hl:S.out.length≤4000)(x:ByteArray):
 Calls prog 221 #[.pointer (some ⟨s,0,none⟩),.string x] w fun e w'=>∃F',e=.returned (.tuple #[])∧aC w' s F' {S with out:=iy S.out x}∧Touch F w w'∧Sub w F F':=by
 obtain⟨FS,ov,mv,hp,rfl⟩:=h;have hT:=Um w S.t ov S.out hp.QX hp.out hp.Yg hl x;have s0:=hp.blk.cell 0;have HP:=hid hp;clear hp;go_enter func221,ntmps221;go_wp2_with fail;refine hT.mono ?_;rintro _ w1 ⟨v',rfl,k1,k2,t1,k3⟩;have dw:=HP.out.told k1 k2 t1 k3;have HF:=hid (And.intro dw (And.intro (t1.mono (G:=foot s S FS ov mv) (fun g hg=>.inl (FB g hg))) (Pz (s:=s) (S:=S) (FS:=FS) (mv:=mv) (out':=iy S.out x) k3)));clear hT dw k1 k2 t1 k3 s0;go_wp2_with fail;go_end0
 exact⟨_,rfl,⟨_,_,_,HF.out.1,rfl⟩,HF.out.2.1,HF.out.2.2⟩
def PS.base(S:PS):Int:=zY S.bs 0
theorem zO(h:aC w s F S)(hn:1024≤S.n)(hb:2≤S.base∧S.base≤36):Calls prog 293 #[.pointer (some ⟨s,0,none⟩)] w fun e w'=>e=.returned (.tuple #[.int .i64 S.base,.int .i64 0])∧Touch [] w w':=by
 obtain⟨FS,ov,mv,hp,rfl⟩:=h;have s2:=hp.blk.cell 2;have hG:=JF hp.mem 0 (by omega) (by decide);have e:zY S.bs 0=S.base:=rfl;rw[e]at hG;clear e hp;generalize S.base=b at*;have g1:¬b<2:=by omega
 have g2:¬b>36:=by omega
 go_enter func293,ntmps293;go_wp2_with fail;refine hG.mono ?_;rintro _ w1 ⟨rfl,t1⟩;clear hG;go_wp2_with fail;go_ret2;exact⟨rfl,t1⟩
theorem Bu(h:aC w s F S)(hn:1024≤S.n)(hb:¬(2≤S.base∧S.base≤36)):Calls prog 293 #[.pointer (some ⟨s,0,none⟩)] w fun e w'=>e=.returned (.tuple #[.int .i64 0,.int .i64 (-40)])∧Touch [] w w':=by
 obtain⟨FS,ov,mv,hp,rfl⟩:=h;have s2:=hp.blk.cell 2;have hG:=JF hp.mem 0 (by omega) (by decide);have e:zY S.bs 0=S.base:=rfl;rw[e]at hG;clear e hp;generalize S.base=b at*;by_cases g1:b<2
 all_goals try have g2:b>36:=by omega
 all_goals
  go_enter func293,ntmps293;go_wp2_with fail;refine hG.mono ?_;rintro _ w1 ⟨rfl,t1⟩;clear hG;go_wp2_with fail;go_ret2;exact⟨rfl,t1⟩
end
section
variable {w w':World} {m g n here:Nat} {bs:List Int}
def mZ(bs:List Int)(p k:Nat):List Int:=(bs.drop p).take k
theorem IB{bs:List Int}{p k:Nat}(h:p+k≤bs.length):(mZ bs p k).length=k:=by unfold mZ;rw[List.length_take,List.length_drop];omega
theorem Lb(h:Bytes bs)(p k:Nat):Bytes (mZ bs p k):=fun x hx=>h x (List.mem_of_mem_drop (List.mem_of_mem_take hx))
theorem IC{bs:List Int}{p k i:Nat}(hi:i<k):(mZ bs p k).getD i 0=bs.getD (p+i) 0:=by
 unfold mZ;simp[List.getD,hi,List.getElem?_drop]
theorem Us(h:aY w m g n bs here)(p k:Nat)(hk:p+k≤n):Calls prog 232 #[.pointer (some ⟨m,0,none⟩),.int .i64 p,.int .i64 k] w fun e w'=>e=.returned (.tuple #[.string (strOfNums (mZ bs p k)),.int .i64 0])∧Touch [] w w':=by
 have hP:=jW h p k hk;have Ec:∀a W,(0<k→a=(⟨g,p,none⟩:Addr))→Touch [] w W→(convert 90 9 (.slice (some a) k k)).run prog W=.ok (.string (strOfNums (mZ bs p k))) W:=by
  intro a W ha t;rcases Nat.eq_zero_or_pos k with rfl|h0
  ·rw[run_convert_bytes_zero W _ _ underlying90 underlying5 (some a) 0 _ underlying9];rfl
  ·rw[ha h0];refine run_convert_bytes_arg (P:=prog) W _ _ underlying90 underlying5 g p k k _ (IB (by rw[h.len];exact hk)) (fun i hi=> ?_) _ underlying9;rw[IC hi];exact(h.touch t (by simp) (by simp)).cell (by omega)
 clear h;obtain⟨q,hq⟩:∃q,strOfNums (mZ bs p k)=q:=⟨_,rfl⟩;rw[hq]at Ec⊢;clear hq;go_enter func232,ntmps232;go_wp2_with fail;refine hP.mono ?_;rintro _ w1 ⟨a,rfl,ha,t1⟩;have hc:=Ec a w1 ha t1;clear Ec hP ha;go_wp2_with fail;go_ret2;exact⟨rfl,t1⟩
theorem PD(h:aY w m g n bs here)(p k:Int)(hk:p<0∨n<p∨k<0∨n-p<k):Calls prog 232 #[.pointer (some ⟨m,0,none⟩),.int .i64 p,.int .i64 k] w fun e w'=>e=.returned (.tuple #[.string .empty,.int .i64 (-9)])∧Touch [] w w':=by
 have hP:=nA h p k hk;have hc:=fun W=>run_convert_bytes_nil (P:=prog) W _ _ underlying90 underlying5 0 0 _ underlying9;clear h hk;go_enter func232,ntmps232;go_wp2_with fail;refine hP.mono ?_;rintro _ w1 ⟨rfl,t1⟩;clear hP;go_wp2_with fail;go_ret2;exact⟨rfl,t1⟩
def oP(bs:List Int)(p:Nat)(l:List Int):List Int:=bs.take p++l++bs.drop (p+l.length)
theorem IE{bs l:List Int}{p:Nat}(h:p+l.length≤bs.length):(oP bs p l).length=bs.length:=by
 unfold oP;simp only[List.length_append,List.length_take,List.length_drop];omega
theorem Bv{l:List Int}(h:Bytes bs)(k:Bytes l)(p:Nat):Bytes (oP bs p l):=by
 unfold oP;exact Bytes.append (Bytes.append (fun x hx=>h x (List.mem_of_mem_take hx)) k) (fun x hx=>h x (List.mem_of_mem_drop hx))
theorem Ut(h:aY w m g n bs here)(p:Nat)(s:ByteArray)(hk:p+s.size≤n)(a:Addr)(ha:0<s.size→a=⟨g,p,none⟩):
 ∃v w',(Builtin.copy_ #[90,9] 3 #[.slice (some a) s.size s.size,.string s]).run prog w=.ok v w'∧aY w' m g n (oP bs p (oO s)) here∧Touch [g] w w':=by
 obtain⟨i0,hi,_,hz1,_⟩:=jO;rcases Nat.eq_zero_or_pos s.size with h0|h0
 ·refine⟨_,_,Lib.run_copy_empty_string w _ _ _ 5 (some a) _ _ s underlying90 (by rw[hi];rfl) h0,?_,Touch.refl _ _⟩;have:oO s=[]:=List.eq_nil_of_length_eq_zero (by rw[pX];exact h0);rw[this];have e:oP bs p []=bs:=by simp[oP]
  rw[e];exact h
 ·rw[ha h0];have hsz:(aL bs).toArray.size=n:=by simp[aL,h.len]
  refine⟨_,_,Lib.run_copy_row_string w _ _ _ 5 g p _ _ s _ 5 underlying90 (by rw[hi];simp[hz1]) h.row (Nat.le_refl _) (by rw[hsz];exact hk),⟨?_,?_,?_,Bv h.byte (Bp s) p,h.small,h.low⟩,⟨rfl,rfl,rfl,by simp,fun k hk hn=>setRow_other w g k _ (by simpa using hn)⟩⟩
  ·show _=_;rw[setRow_other w g m _ h.ne];exact h.blk
  ·have h1:=setRow_heap w g _ (((aL bs).toArray.toList.take p++Lib.byteCells s.data.toList++(aL bs).toArray.toList.drop (p+s.size)).toArray) _ _ h.row;have e:((aL bs).toArray.toList.take p++Lib.byteCells s.data.toList++(aL bs).toArray.toList.drop (p+s.size)).toArray=(aL (oP bs p (oO s))).toArray:=by
    have e2:aL (oP bs p (oO s))=(aL bs).take p++Lib.byteCells s.data.toList++(aL bs).drop (p+s.size):=by
     have e3:aL (oO s)=Lib.byteCells s.data.toList:=Bq s;unfold oP;rw[iF,iF,pX,e3];unfold aL;rw[List.map_take,List.map_drop]
    rw[e2]
   unfold aF;rw[←e];exact h1
  ·rw[IE (by rw[pX,h.len];exact hk),h.len]
theorem PE(h:aY w m g n bs here)(p:Nat)(s:ByteArray)(hk:p+s.size≤n):Calls prog 299 #[.pointer (some ⟨m,0,none⟩),.int .i64 p,.string s] w fun e w'=>e=.returned (.int .i64 0)∧aY w' m g n (oP bs p (oO s)) here∧Touch [g] w w':=by
 have hP:=jW h p s.size hk;have H:=hid h;clear h;go_enter func299,ntmps299;go_wp2_with fail;refine hP.mono ?_;rintro _ w1 ⟨a,rfl,ha,t1⟩;obtain⟨v,w2,hr,hm,t2⟩:=Ut (H.out.touch t1 (by simp) (by simp)) p s hk a ha;have HF:=hid (And.intro hm ((t1.mono (G:=[g]) (by simp)).trans t2 (fun x hx=>.inl hx)));clear hP ha t1 hm t2;go_wp2_with (at_builtin;refine Lib.wpList_copy_run _ rfl _ _ 90 9 rfl _ _ rfl rfl hr ?_);go_ret;exact⟨rfl,HF.out⟩
def Yh(bs:List Int)(p:Nat)(c:Int):Nat→List Int
 |0=>bs
 |i+1=>(Yh bs p c i).set (p+i) c
theorem Uu(h:aY w m g n bs here)(p k:Nat)(c:Int)(hc:0≤c∧c≤255)(hk:p+k≤n):Calls prog 206 #[.pointer (some ⟨m,0,none⟩),.int .i64 p,.int .i64 k,.int .u8 c] w fun e w'=>e=.returned (.int .i64 0)∧aY w' m g n (Yh bs p c k) here∧Touch [g] w w':=by
 have hP:=jW h p k hk;have hs:=h.small;have H:=hid h;have HC:=hid hc;clear h hc;go_enter func206,ntmps206;go_wp2_with fail;refine hP.mono ?_;rintro _ w1 ⟨a,rfl,ha,t1⟩;clear hP;go_wp2_with fail;have jC:=H.out.touch t1 (by simp) (by simp);have t1':=t1.mono (G:=[g]) (by simp);have HA:=hid ha;clear ha t1;go_loopw [21] (fun i wr=>∃j:Nat,j≤k∧i=.int .i64 j∧aY wr m g n (Yh bs p c j) here∧Touch [g] w wr) (fun i _=>k-(intOf i).toNat)
 case atStart=>exact⟨0,Nat.zero_le _,rfl,jC,t1'⟩
 case round=>
  obtain⟨j,hj,rfl,hm,t2⟩:=hrel;clear jC t1';by_cases hlt:j<k
  ·have xg:(j:Int)<k:=by omega
   obtain rfl:=HA.out (by omega);have ej:IntKind.i64.wrap ((j:Int)+1)=(j+1:Nat):=by rw[IntKind.wrap_i64];omega
   have hcell:=hm.cell (i:=p+j) (by omega);have hfz:=hm.row.frozen (p+j);have HF:=hid (And.intro (hm.store (p+j) HC.out) (t2.setCell (p:=⟨g,p+j,none⟩) (by simp) (.int .u8 c)));clear hm t2;go_wp2_with fail;go_roundw
   case rel=>exact⟨j+1,by omega,nW (by omega),HF.out.1,HF.out.2⟩
   case measure=>simp only[intOf];omega
  ·obtain rfl:j=k:=by omega
   have HF:=hid (And.intro hm t2);clear hm t2 hlt;go_wp2_with fail;go_ret;exact⟨rfl,HF.out⟩
theorem IG(h:aY w m g n bs here)(p:Nat)(hp:p<n):Calls prog 197 #[.pointer (some ⟨m,0,none⟩),.int .i64 p] w fun e w'=>e=.returned (.tuple #[.int .u8 (bs.getD p 0),.int .i64 0])∧Touch [] w w':=by
 have hP:=jW h p 1 (by omega);have H:=hid h;clear h;go_enter func197,ntmps197;go_wp2_with fail;refine hP.mono ?_;rintro _ w1 ⟨a,rfl,ha,t1⟩;obtain rfl:=ha (by decide);have hcell:=(H.out.touch t1 (by simp) (by simp)).cell hp;clear hP ha;go_wp2_with fail;go_ret2;exact⟨rfl,t1⟩
end
section
variable {w w':World} {m g n here:Nat} {bs:List Int}
def Vw(n:Nat)(p:Int):Prop:=0≤p∧p+8≤n∧p%8=0
instance(n:Nat)(p:Int):Decidable (Vw n p):=by unfold Vw;infer_instance
def eU(n:Nat)(p:Int):Int:=if Vw n p then 0 else if 0≤p∧p+8≤n then -23 else -9
def ny(bs:List Int)(n:Nat)(p:Int):Int:=if Vw n p then zY bs p.toNat else 0
theorem wO(h:aY w m g n bs here)(p:Int):Calls prog 195 #[.pointer (some ⟨m,0,none⟩),.int .i64 p] w fun e w'=>e=.returned (.tuple #[.int .i64 (ny bs n p),.int .i64 (eU n p)])∧Touch [] w w':=by
 by_cases hp:Vw n p
 ·obtain⟨q,rfl⟩:∃q:Nat,p=q:=⟨p.toNat,by unfold Vw at hp;omega⟩;have e1:ny bs n (q:Int)=zY bs q:=by unfold ny;rw[if_pos hp];rfl
  have e2:eU n (q:Int)=0:=by unfold eU;rw[if_pos hp]
  rw[e1,e2];unfold Vw at hp;exact JF h q (by omega) (by omega)
 ·have e1:ny bs n p=0:=by unfold ny;rw[if_neg hp]
  have e2:eU n p=if 0≤p∧p+8≤n then -23 else -9:=by unfold eU;rw[if_neg hp]
  rw[e1,e2];exact WC h p hp
def nT(bs:List Int)(n:Nat)(p x:Int):List Int:=if Vw n p then vH bs p.toNat x 8 else bs
theorem Vx(h:aY w m g n bs here)(p x:Int)(hp:¬(0≤p∧p+8≤n∧p%8=0)):Calls prog 90 #[.pointer (some ⟨m,0,none⟩),.int .i64 p,.int .i64 x] w fun e w'=>e=.returned (.int .i64 (if 0≤p∧p+8≤n then -23 else -9))∧Touch [] w w':=by
 have hC:=Gr h p hp;clear h hp;obtain⟨c,hc⟩:∃c:Int,(if 0≤p∧p+8≤(n:Int)then(-23:Int)else -9)=c:=⟨_,rfl⟩;rw[hc]at hC⊢;clear hc;go_enter func90,ntmps90;go_wp2_with fail;refine hC.mono ?_;rintro _ w1 ⟨⟨_,rfl,rfl⟩,t1⟩;clear hC;go_wp2_with fail;go_loopw [18] (fun i wr=>i=.int .i64 0∧Touch [] w wr) (fun i _=>8-(intOf i).toNat)
 case atStart=>exact⟨rfl,t1⟩
 case round=>
  obtain⟨rfl,t2⟩:=hrel;clear t1;go_wp2_with fail;go_ret;exact⟨rfl,t2⟩
theorem wP(h:aY w m g n bs here)(p x:Int):Calls prog 90 #[.pointer (some ⟨m,0,none⟩),.int .i64 p,.int .i64 x] w fun e w'=>e=.returned (.int .i64 (eU n p))∧aY w' m g n (nT bs n p x) here∧Touch [m,g] w w':=by
 by_cases hp:Vw n p
 ·obtain⟨q,rfl⟩:∃q:Nat,p=q:=⟨p.toNat,by unfold Vw at hp;omega⟩;have e1:nT bs n (q:Int) x=vH bs q x 8:=by unfold nT;rw[if_pos hp];rfl
  have e2:eU n (q:Int)=0:=by unfold eU;rw[if_pos hp]
  rw[e1,e2];unfold Vw at hp;refine(Mh h q x (by omega) (by omega)).mono ?_;rintro _ w' ⟨rfl,hm,t⟩;exact⟨rfl,hm,t.mono (fun a ha=>.inl (by simp only[List.mem_singleton]at ha;subst ha;simp))⟩
 ·have e1:nT bs n p x=bs:=by unfold nT;rw[if_neg hp]
  have e2:eU n p=if 0≤p∧p+8≤n then -23 else -9:=by unfold eU;rw[if_neg hp]
  rw[e1,e2];refine(Vx h p x hp).mono ?_;rintro _ w' ⟨rfl,t⟩;exact⟨rfl,h.touch t (by simp) (by simp),t.mono (by simp)⟩
def uq(n:Nat)(p k:Int):Prop:=0≤p∧0≤k∧p+k≤n
instance(n:Nat)(p k:Int):Decidable (uq n p k):=by unfold uq;infer_instance
def lC(n:Nat)(p k:Int):Int:=if uq n p k then 0 else -9
def Qt(bs:List Int)(n:Nat)(p:Int):Int:=if uq n p 1 then bs.getD p.toNat 0 else 0
theorem Jg(h:aY w m g n bs here)(p:Int):0≤Qt bs n p∧Qt bs n p≤255:=by
 unfold Qt;split
 ·exact h.byte.getD _
 ·omega
theorem Jh(h:aY w m g n bs here)(p:Int)(hp:¬uq n p 1):Calls prog 197 #[.pointer (some ⟨m,0,none⟩),.int .i64 p] w fun e w'=>e=.returned (.tuple #[.int .u8 0,.int .i64 (-9)])∧Touch [] w w':=by
 have hP:=nA h p 1 (by unfold uq at hp;omega);clear h hp;go_enter func197,ntmps197;go_wp2_with fail;refine hP.mono ?_;rintro _ w1 ⟨rfl,t1⟩;clear hP;go_wp2_with fail;go_ret2;exact⟨rfl,t1⟩
theorem zl(h:aY w m g n bs here)(p:Int):Calls prog 197 #[.pointer (some ⟨m,0,none⟩),.int .i64 p] w fun e w'=>e=.returned (.tuple #[.int .u8 (Qt bs n p),.int .i64 (lC n p 1)])∧Touch [] w w':=by
 unfold Qt lC;by_cases hp:uq n p 1
 ·obtain⟨q,rfl⟩:∃q:Nat,p=q:=⟨p.toNat,by unfold uq at hp;omega⟩;rw[if_pos hp,if_pos hp];exact IG h q (by unfold uq at hp;omega)
 ·rw[if_neg hp,if_neg hp];exact Jh h p hp
def FR(bs:List Int)(n:Nat)(p k c:Int):List Int:=if uq n p k then Yh bs p.toNat c k.toNat else bs
theorem Qu(h:aY w m g n bs here)(p k c:Int)(hp:¬uq n p k):Calls prog 206 #[.pointer (some ⟨m,0,none⟩),.int .i64 p,.int .i64 k,.int .u8 c] w fun e w'=>e=.returned (.int .i64 (-9))∧Touch [] w w':=by
 have hP:=nA h p k (by unfold uq at hp;omega);clear h hp;go_enter func206,ntmps206;go_wp2_with fail;refine hP.mono ?_;rintro _ w1 ⟨rfl,t1⟩;clear hP;go_wp2_with fail;go_loopw [21] (fun i wr=>i=.int .i64 0∧Touch [] w wr) (fun i _=>8-(intOf i).toNat)
 case atStart=>exact⟨rfl,t1⟩
 case round=>
  obtain⟨rfl,t2⟩:=hrel;clear t1;go_wp2_with fail;go_ret;exact⟨rfl,t2⟩
theorem Ji(h:aY w m g n bs here)(p k c:Int)(hc:0≤c∧c≤255):Calls prog 206 #[.pointer (some ⟨m,0,none⟩),.int .i64 p,.int .i64 k,.int .u8 c] w fun e w'=>e=.returned (.int .i64 (lC n p k))∧aY w' m g n (FR bs n p k c) here∧Touch [m,g] w w':=by
 unfold FR lC;by_cases hp:uq n p k
 ·obtain⟨q,rfl⟩:∃q:Nat,p=q:=⟨p.toNat,by unfold uq at hp;omega⟩;obtain⟨j,rfl⟩:∃q:Nat,k=q:=⟨k.toNat,by unfold uq at hp;omega⟩;rw[if_pos hp,if_pos hp];refine(Uu h q j c hc (by unfold uq at hp;omega)).mono ?_;rintro _ w' ⟨rfl,hm,t⟩;exact⟨rfl,hm,t.mono (fun a ha=>.inl (by simp only[List.mem_singleton]at ha;subst ha;simp))⟩
 ·rw[if_neg hp,if_neg hp];refine(Qu h p k c hp).mono ?_;rintro _ w' ⟨rfl,t⟩;exact⟨rfl,h.touch t (by simp) (by simp),t.mono (by simp)⟩
theorem zm(h:aY w m g n bs here)(p c:Int)(hc:0≤c∧c≤255):Calls prog 201 #[.pointer (some ⟨m,0,none⟩),.int .i64 p,.int .u8 c] w fun e w'=>e=.returned (.int .i64 (lC n p 1))∧aY w' m g n (FR bs n p 1 c) here∧Touch [m,g] w w':=by
 have hF:=Ji h p 1 c hc;clear h;go_enter func201,ntmps201;go_wp2_with fail;refine hF.mono ?_;rintro _ w1 ⟨rfl,hm,t1⟩;clear hF;go_wp2_with fail;go_ret;exact⟨rfl,hm,t1⟩
def Cc(bs:List Int)(n:Nat)(p k:Int):ByteArray:=if uq n p k then strOfNums (mZ bs p.toNat k.toNat)else .empty
theorem Vy(h:aY w m g n bs here)(p k:Int):Calls prog 232 #[.pointer (some ⟨m,0,none⟩),.int .i64 p,.int .i64 k] w fun e w'=>e=.returned (.tuple #[.string (Cc bs n p k),.int .i64 (lC n p k)])∧Touch [] w w':=by
 unfold Cc lC;by_cases hp:uq n p k
 ·obtain⟨q,rfl⟩:∃q:Nat,p=q:=⟨p.toNat,by unfold uq at hp;omega⟩;obtain⟨j,rfl⟩:∃q:Nat,k=q:=⟨k.toNat,by unfold uq at hp;omega⟩;rw[if_pos hp,if_pos hp];exact Us h q j (by unfold uq at hp;omega)
 ·rw[if_neg hp,if_neg hp];exact PD h p k (by unfold uq at hp;omega)
theorem LQ(L:List Int):∀u∈aL L,u.oneCell'=true:=by
 intro u hu;obtain⟨x,_,rfl⟩:=List.mem_map.1 hu;rfl
theorem Vz(h:aY w m g n bs here)(p q k:Nat)(hp:p+k≤n)(hq:q+k≤n)(a b:Addr)(ha:0<k→a=⟨g,p,none⟩)(hb:0<k→b=⟨g,q,none⟩):
 ∃v w',(Builtin.copy_ #[90,90] 3 #[.slice (some b) k k,.slice (some a) k k]).run prog w=.ok v w'∧aY w' m g n (oP bs q (mZ bs p k)) here∧Touch [g] w w':=by
 obtain⟨i0,hi,_,hz1,_⟩:=jO;have hlen:=IB (bs:=bs) (p:=p) (k:=k) (by rw[h.len];exact hp);rcases Nat.eq_zero_or_pos k with rfl|h0
 ·refine⟨_,_,run_copy_none (P:=prog) w _ _ _ 5 (some b) (some a) 0 0 0 0 underlying90 (by rw[hi];simp[hz1]) (by simp),?_,Touch.refl _ _⟩;have e:oP bs q (mZ bs p 0)=bs:=by simp[oP,mZ]
  rw[e];exact h
 ·rw[ha h0,hb h0];have hsz:(aL bs).toArray.size=n:=by simp[aL,h.len]
  have hl2:(aL (mZ bs p k)).length=k:=by unfold aL;rw[List.length_map,hlen]
  refine⟨_,_,run_copy_row (P:=prog) w _ _ _ 5 g q k k ⟨g,p,none⟩ k k _ 5 (aL (mZ bs p k)) underlying90 (by rw[hi];simp[hz1]) h.row (by rw[hl2];exact(Nat.min_self k).symm) ?_ (by rw[hl2,hsz];exact hq) ?_,⟨?_,?_,?_,Bv h.byte (Lb h.byte p k) q,h.small,h.low⟩,⟨rfl,rfl,rfl,by simp,fun k hk hn=>setRow_other w g k _ (by simpa using hn)⟩⟩
  ·intro j v hj;have hjk:j<k:=by have:=(List.getElem?_eq_some_iff.1 hj).1;omega
   have hc:=h.cell (i:=p+j) (by omega);have e:(⟨g,p,none⟩:Addr).add j=⟨g,p+j,none⟩:=by unfold Addr.add;split<;>simp_all
   rw[e,hc];unfold aL at hj;rw[List.getElem?_map]at hj;rw[←IC (bs:=bs) (p:=p) hjk,←hj];rw[List.getElem?_eq_getElem (by omega)];simp[List.getD,List.getElem?_eq_getElem (show j<(mZ bs p k).length by omega)]
  ·exact LQ _
  ·show _=_;rw[setRow_other w g m _ h.ne];exact h.blk
  ·have h1:=setRow_heap w g _ (((aL bs).toArray.toList.take q++aL (mZ bs p k)++(aL bs).toArray.toList.drop (q+(aL (mZ bs p k)).length)).toArray) _ _ h.row;have e:((aL bs).toArray.toList.take q++aL (mZ bs p k)++(aL bs).toArray.toList.drop (q+(aL (mZ bs p k)).length)).toArray=(aL (oP bs q (mZ bs p k))).toArray:=by
    unfold oP;rw[iF,iF,hl2,hlen];unfold aL;rw[List.map_take,List.map_drop]
   unfold aF;rw[←e];exact h1
  ·rw[IE (by rw[hlen,h.len];exact hq),h.len]
def FT(bs:List Int)(n:Nat)(p q k:Int):List Int:=if uq n p k∧uq n q k then oP bs q.toNat (mZ bs p.toNat k.toNat)else bs
def zC(n:Nat)(p q k:Int):Int:=if uq n p k∧uq n q k then 0 else -9
theorem VA(h:aY w m g n bs here)(p q k:Int):Calls prog 208 #[.pointer (some ⟨m,0,none⟩),.int .i64 p,.int .i64 q,.int .i64 k] w fun e w'=>e=.returned (.int .i64 (zC n p q k))∧aY w' m g n (FT bs n p q k) here∧Touch [m,g] w w':=by
 by_cases hp:uq n p k
 ·by_cases hq:uq n q k
  ·have e1:zC n p q k=0:=by unfold zC;rw[if_pos ⟨hp,hq⟩]
   have e2:FT bs n p q k=oP bs q.toNat (mZ bs p.toNat k.toNat):=by unfold FT;rw[if_pos ⟨hp,hq⟩]
   rw[e1,e2];unfold uq at hp hq;obtain⟨p,rfl⟩:∃x:Nat,p=x:=⟨p.toNat,by omega⟩;obtain⟨q,rfl⟩:∃x:Nat,q=x:=⟨q.toNat,by omega⟩;obtain⟨k,rfl⟩:∃x:Nat,k=x:=⟨k.toNat,by omega⟩;have hp:p+k≤n:=by omega
   have hq:q+k≤n:=by omega
   show Calls _ _ _ _ fun e w'=>e=.returned (.int .i64 0)∧aY w' m g n (oP bs q (mZ bs p k)) here∧Touch [m,g] w w';have hP:=jW h p k hp;have hQ:=fun w (h:aY w m g n bs here)=>jW h q k hq;have H:=hid (And.intro h (And.intro hp hq));clear h e1 e2;go_enter func208,ntmps208;go_wp2_with fail;refine hP.mono ?_;rintro _ w1 ⟨a,rfl,ha,t1⟩;have hQ:=hQ _ (H.out.1.touch t1 (by simp) (by simp));have H1:=hid (And.intro ha t1);clear hP ha t1;go_wp2_with fail;refine hQ.mono ?_;rintro _ w2 ⟨b,rfl,hb,t2⟩;obtain⟨v,w3,hr,hm,t3⟩:=Vz ((H.out.1.touch H1.out.2 (by simp) (by simp)).touch t2 (by simp) (by simp)) p q k H.out.2.1 H.out.2.2 a b H1.out.1 hb;have HF:=hid (And.intro hm (((H1.out.2.mono (G:=[m,g]) (by simp)).trans t2 (by simp)).trans t3 (fun x hx=>.inl (by simp only[List.mem_singleton]at hx;subst hx;simp))));clear hQ hb t2 hm t3;go_wp2_with (at_builtin;refine Lib.wpList_copy_run _ rfl _ _ 90 90 rfl _ _ rfl rfl hr ?_);go_ret;exact⟨rfl,HF.out⟩
  ·have e1:zC n p q k= -9:=by unfold zC;rw[if_neg (fun x=>hq x.2)]
   have e2:FT bs n p q k=bs:=by unfold FT;rw[if_neg (fun x=>hq x.2)]
   rw[e1,e2];have hq:q<0∨n<q∨k<0∨n-q<k:=by unfold uq at hq;omega
   unfold uq at hp;obtain⟨p,rfl⟩:∃x:Nat,p=x:=⟨p.toNat,by omega⟩;obtain⟨k,rfl⟩:∃x:Nat,k=x:=⟨k.toNat,by omega⟩;have hP:=jW h p k (by omega);have hQ:=fun w (h:aY w m g n bs here)=>nA h q k hq;obtain⟨i0,hi,_,hz1,_⟩:=jO;have hr:=fun(w:World) a=>run_copy_none (P:=prog) w 90 90 3 5 none a 0 0 k k underlying90 (by rw[hi];simp[hz1]) (Nat.min_zero k);have H:=hid h;clear h e1 e2 hp hq hi hz1;go_enter func208,ntmps208;go_wp2_with fail;refine hP.mono ?_;rintro _ w1 ⟨a,rfl,_,t1⟩;have hQ:=hQ _ (H.out.touch t1 (by simp) (by simp));have H1:=hid t1;clear hP t1;go_wp2_with fail;refine hQ.mono ?_;rintro _ w2 ⟨rfl,t2⟩;have hr:=hr w2 (some a);have HF:=hid (H1.out.trans t2 (by simp));clear hQ t2;go_wp2_with (at_builtin;refine Lib.wpList_copy_run _ rfl _ _ 90 90 rfl _ _ rfl rfl hr ?_);go_ret;exact⟨rfl,H.out.touch HF.out (by simp) (by simp),HF.out.mono (by simp)⟩
 ·have e1:zC n p q k= -9:=by unfold zC;rw[if_neg (fun x=>hp x.1)]
  have e2:FT bs n p q k=bs:=by unfold FT;rw[if_neg (fun x=>hp x.1)]
  rw[e1,e2];have hP:=nA h p k (by unfold uq at hp;omega);have H:=hid h;clear h e1 e2 hp;go_enter func208,ntmps208;go_wp2_with fail;refine hP.mono ?_;rintro _ w1 ⟨rfl,t1⟩;clear hP;go_wp2_with fail;go_ret;exact⟨rfl,H.out.touch t1 (by simp) (by simp),t1.mono (by simp)⟩
def JD(n here:Nat)(k:Int):Prop:=k≤n-512-here∧-(here:Int)≤k
instance(n here:Nat)(k:Int):Decidable (JD n here k):=by unfold JD;infer_instance
def rY(n here:Nat)(k:Int):Int:=if JD n here k then 0 else -8
def rZ(n here:Nat)(k:Int):Nat:=if JD n here k then(here+k).toNat else here
theorem Ew(h:aY w m g n bs here)(h3:512≤n)(k:Int):Calls prog 89 #[.pointer (some ⟨m,0,none⟩),.int .i64 k] w fun e w'=>e=.returned (.int .i64 (rY n here k))∧aY w' m g n bs (rZ n here k)∧Touch [m,g] w w':=by
 unfold rY rZ;by_cases hk:JD n here k
 ·rw[if_pos hk,if_pos hk];unfold JD at hk;refine(zZ h k hk.1 hk.2 (here+k).toNat (by omega) h3).mono ?_;rintro _ w' ⟨rfl,hm,t⟩;exact⟨rfl,hm,t.mono (fun a ha=>.inl (by simp only[List.mem_singleton]at ha;subst ha;simp))⟩
 ·rw[if_neg hk,if_neg hk];unfold JD at hk;refine(xk h k (by omega) h3).mono ?_;rintro _ w' ⟨rfl,t⟩;exact⟨rfl,h.touch t (by simp) (by simp),t.mono (by simp)⟩
def qQ(here:Nat):Int:=bits .and .i64 (wrap64 (-(here:Int))) 7
theorem Qv(h:aY w m g n bs here)(h3:512≤n):Calls prog 215 #[.pointer (some ⟨m,0,none⟩)] w fun e w'=>e=.returned (.int .i64 (rY n here (qQ here)))∧aY w' m g n bs (rZ n here (qQ here))∧Touch [m,g] w w':=by
 have hH:=nE h;have hA:=Ew h h3 (qQ here);clear h;unfold qQ at hA⊢;go_enter func215,ntmps215;go_wp2_with fail;refine hH.mono ?_;rintro _ _ ⟨rfl,rfl⟩;clear hH;go_wp2_with fail;refine hA.mono ?_;rintro _ w1 ⟨rfl,hm,t1⟩;have HF:=hid (And.intro hm t1);clear hA hm t1;go_wp2_with fail;go_ret;exact⟨rfl,HF.out⟩
def zD(n here:Nat):Int:=if here%8=0 then rY n here 8 else -23
def FU(bs:List Int)(n here:Nat)(x:Int):List Int:=if here%8=0∧JD n here 8 then vH bs here x 8 else bs
def FV(n here:Nat):Nat:=if here%8=0 then rZ n here 8 else here
theorem Qw(h:aY w m g n bs here)(h3:512≤n)(x:Int):Calls prog 51 #[.pointer (some ⟨m,0,none⟩),.int .i64 x] w fun e w'=>e=.returned (.int .i64 (zD n here))∧aY w' m g n (FU bs n here x) (FV n here)∧Touch [m,g] w w':=by
 by_cases h8:here%8=0
 ·by_cases hk:JD n here 8
  ·have e1:zD n here=0:=by unfold zD rY;rw[if_pos h8,if_pos hk]
   have e2:FU bs n here x=vH bs here x 8:=by unfold FU;rw[if_pos ⟨h8,hk⟩]
   have e3:FV n here=here+8:=by unfold FV rZ;rw[if_pos h8,if_pos hk];omega
   rw[e1,e2,e3];exact Gs h x h8 (by unfold JD at hk;omega)
  ·have e1:zD n here= -8:=by unfold zD rY;rw[if_pos h8,if_neg hk]
   have e2:FU bs n here x=bs:=by unfold FU;rw[if_neg (fun z=>hk z.2)]
   have e3:FV n here=here:=by unfold FV rZ;rw[if_pos h8,if_neg hk]
   rw[e1,e2,e3];have hH:=nE h;have hA:=xk h 8 (by unfold JD at hk;omega) h3;have g1:(here:Int)%8=0:=by omega
   have H:=hid h;clear h e1 e2 e3 hk;go_enter func51,ntmps51;go_wp2_with fail;refine hH.mono ?_;rintro _ _ ⟨rfl,rfl⟩;clear hH;go_wp2_with fail;refine hA.mono ?_;rintro _ w1 ⟨rfl,t1⟩;clear hA;go_wp2_with fail;go_ret;exact⟨rfl,H.out.touch t1 (by simp) (by simp),t1.mono (by simp)⟩
 ·have e1:zD n here= -23:=by unfold zD;rw[if_neg h8]
  have e2:FU bs n here x=bs:=by unfold FU;rw[if_neg (fun z=>h8 z.1)]
  have e3:FV n here=here:=by unfold FV;rw[if_neg h8]
  rw[e1,e2,e3];have hH:=nE h;have g1:¬(here:Int)%8=0:=by omega
  have g2:((here:Int)%8 != 0)=true:=by simpa using g1
  have H:=hid h;clear h e1 e2 e3 h8;go_enter func51,ntmps51;go_wp2_with fail;refine hH.mono ?_;rintro _ _ ⟨rfl,rfl⟩;clear hH;go_wp2_with fail;go_ret;exact⟨rfl,H.out,Touch.refl _ _⟩
def Jj(n here:Nat):Int:=rY n here 1
def LU(bs:List Int)(n here:Nat)(c:Int):List Int:=if JD n here 1 then FR bs n here 1 c else bs
theorem LV(h:aY w m g n bs here)(h3:512≤n)(c:Int)(hc:0≤c∧c≤255):Calls prog 213 #[.pointer (some ⟨m,0,none⟩),.int .u8 c] w fun e w'=>e=.returned (.int .i64 (Jj n here))∧aY w' m g n (LU bs n here c) (rZ n here 1)∧Touch [m,g] w w':=by
 by_cases hk:JD n here 1
 ·have e1:Jj n here=0:=by unfold Jj rY;rw[if_pos hk]
  have e2:LU bs n here c=FR bs n here 1 c:=by unfold LU;rw[if_pos hk]
  have e3:rZ n here 1=here+1:=by unfold rZ;rw[if_pos hk];omega
  have hE:lC n here 1=0:=by unfold lC;rw[if_pos];unfold uq;unfold JD at hk;omega
  rw[e1,e2,e3];have hH:=nE h;have hA:=zZ h 1 (by unfold JD at hk;omega) (by omega) (here+1) (by omega) h3;have hP:=fun w (h:aY w m g n bs (here+1))=>zm h here c hc;rw[hE]at hP;clear h e1 e2 e3 hk hE;go_enter func213,ntmps213;go_wp2_with fail;refine hH.mono ?_;rintro _ _ ⟨rfl,rfl⟩;clear hH;go_wp2_with fail;refine hA.mono ?_;rintro _ w1 ⟨rfl,hm,t1⟩;have hP:=hP _ hm;have T1:=hid t1;clear hA hm t1;go_wp2_with fail;refine hP.mono ?_;rintro _ w2 ⟨rfl,hm,t2⟩;have HF:=hid (And.intro hm ((T1.out.mono (G:=[m,g]) (fun a ha=>.inl (by simp only[List.mem_singleton]at ha;subst ha;simp))).trans t2 (fun a ha=>.inl ha)));clear hP hm t2;go_wp2_with fail;go_ret;exact⟨rfl,HF.out⟩
 ·have e1:Jj n here= -8:=by unfold Jj rY;rw[if_neg hk]
  have e2:LU bs n here c=bs:=by unfold LU;rw[if_neg hk]
  have e3:rZ n here 1=here:=by unfold rZ;rw[if_neg hk]
  rw[e1,e2,e3];have hH:=nE h;have hA:=xk h 1 (by unfold JD at hk;omega) h3;have H:=hid h;clear h e1 e2 e3 hk;go_enter func213,ntmps213;go_wp2_with fail;refine hH.mono ?_;rintro _ _ ⟨rfl,rfl⟩;clear hH;go_wp2_with fail;refine hA.mono ?_;rintro _ w1 ⟨rfl,t1⟩;clear hA;go_wp2_with fail;go_ret;exact⟨rfl,H.out.touch t1 (by simp) (by simp),t1.mono (by simp)⟩
end
end Go.Proofs.YtdokeddjcpnmiaaGreatDoor
