/- Of EngineClean: DefOpen. -/
import Derived.Test.YtdokeddjcpnmiaaGreatDoorQEngRunC
import Derived.Deep.Slices
set_option maxRecDepth 100000
set_option maxHeartbeats 200000
namespace Go.Proofs.YtdokeddjcpnmiaaGreatDoor
section
open Go.ChangeShapes Go.WideShapes Go.ChangeAt Go.RowKit Go.Deep
namespace En
section
variable {H:Type} {enc:TypeId×Value→H} {P:Program} {w:World}
theorem V5{ts t e:TypeId}{f g0 g1 g2:Field}{v:Value}{d:DataW H}{p:List MemPlace}{b0:Nat}(hs:P.underlying ts=some (.struct #[f]))(f0:f.offset=0)(ft:f.type=t)(tc:P.cellsOf t=1)(sc:P.cellsOf ts=1)
 (ht:P.underlying t=some (.slice e)) (he:P.underlying e=some (.struct #[g0,g1,g2])) (ce:P.cellsOf e=3) (o0:g0.offset=0) (o1:g1.offset=1) (o2:g2.offset=2) (c0:P.cellsOf g0.type=1) (c1:P.cellsOf g1.type=1) (c2:P.cellsOf g2.type=1)
 (u0:P.underlying g0.type=some (.int .u8)) (u1:P.underlying g1.type=some (.int .i64)) (u2:P.underlying g2.type=some (.int .i64))
 (hv:Value.okWide P w .any b0 ts v) (h:DataW.Trod enc P w 0 (fun _=>true) true ts v d p):∃lv,v=.agg #[lv]∧ZJ w lv:=by
 obtain⟨cs,rfl,hsz,_⟩:∃cs,v=.agg cs∧cs.size=P.cellsOf ts∧Row.okWide P w .any b0 ts cs:=by
  unfold Value.okWide at hv;rw[hs]at hv;exact hv
 rw[sc]at hsz;obtain⟨lv,rfl⟩:∃lv,cs= #[lv]:=by
  refine⟨cs[0]'(by omega),?_⟩;apply Array.ext
  ·simp[hsz]
  ·intro i h1 h2;have:i=0:=by simp at h2;exact h2
   subst this;rfl
 refine⟨lv,rfl,?_⟩;obtain⟨fuel,hf⟩:=h;obtain⟨xs,k,_,_,_,Ln,hfi⟩:=DataW.trod_struct hs hf;have h0:=hfi 0 f rfl;rw[f0,ft,tc]at h0;have hx0:(0:Nat)<xs.length:=by rw[Ln];exact Nat.one_pos
 rw[List.getElem?_eq_getElem hx0]at h0;have h0:DataW.trod enc P w 0 (fun _=>true) true k t [lv]=some xs[0]:=h0;rcases open_slice ht h0 with⟨hcs,_⟩|⟨a,len,cap,m,n,D,Pl,hcs,_,hl,hm,JX,_,hx⟩
 ·injection hcs with hcs;exact⟨none,0,0,0,[],hcs,by omega,by omega,by omega,rfl,(by intro x hx;cases hx),fun W _=>.inl ⟨rfl,_,_,rfl⟩,fun h=>absurd h (by omega)⟩
 ·injection hcs with hcs;subst hcs;have hmc:m=cap:=JX;have each:∀i,i<m→∃q:Int×Int×Int,w.cell? (a.add (i*3))=some (.int .u8 q.1)∧w.cell? (a.add (i*3+1))=some (.int .i64 q.2.1)∧w.cell? (a.add (i*3+2))=some (.int .i64 q.2.2)∧(0≤q.1∧q.1<256)∧au q.2.2:=by
   intro i hi;obtain⟨cs',h1,h2⟩:=hx i hi;rw[ce]at h1;obtain⟨_,hlen,hcell⟩:=World.cells?_some h1;obtain⟨ys,k2,_,_,_,Sx,hg⟩:=DataW.trod_struct he h2;match ys,Sx,cs',hlen with
   |[y0,y1,y2],_,[v0,v1,v2],_=>
    have k0:=hg 0 g0 rfl;have k1:=hg 1 g1 rfl;have k2:=hg 2 g2 rfl;simp[o0,o1,o2,c0,c1,c2]at k0 k1 k2;obtain⟨z0,e0,_,w0⟩:=DataW.trod_int u0 k0;obtain⟨z1,e1,_,w1⟩:=DataW.trod_int u1 k1;obtain⟨z2,e2,_,w2⟩:=DataW.trod_int u2 k2;injection e0 with e0;injection e1 with e1;injection e2 with e2;subst e0 e1 e2;have d0:=hcell 0 (by omega);have d1:=hcell 1 (by omega);have d2:=hcell 2 (by omega);rw[add_add]at d0 d1 d2;have b0:=wf_u8 w0;exact⟨(z0,z1,z2),by simpa using d0,by simpa using d1,by simpa using d2,⟨b0.1,by show z0<256;omega⟩,wf_i64 w2⟩
  obtain⟨q,hq⟩:=choose_lt each;have hkm:min len 60≤m:=by omega
  have ag:((List.range (min len 60)).map q).length=min len 60:=by simp
  refine⟨some a,len,cap,min len 60,(List.range (min len 60)).map q,rfl,by omega,by omega,by omega,ag,fun x hx=> ?_,fun W t=> ?_,fun h0 b hb=> ?_⟩
  ·obtain⟨i,hi,rfl⟩:=List.mem_map.1 hx;have:=hq i (by have:=List.mem_range.1 hi;omega);exact⟨this.2.2.2.1,this.2.2.2.2⟩
  ·rcases Nat.eq_zero_or_pos (min len 60)with h0|h0
   ·exact .inl ⟨by rw[h0];rfl,_,_,by rw[h0]⟩
   ·obtain⟨b,off,spot⟩:=a;have hsp:spot=none:=by simpa[Addr.add]using World.cell?_spot (hq 0 (by omega)).1
    subst hsp;refine .inr ⟨b,off,cap,by rw[ag],fun i x hx=> ?_⟩;rw[List.getElem?_map]at hx;obtain⟨j,hj,rfl⟩:=Option.map_eq_some_iff.1 hx;have Pr:i<min len 60:=by
     rcases Nat.lt_or_ge i (min len 60)with h'|h'
     ·exact h'
     ·rw[List.getElem?_eq_none (by simpa using h')]at hj;cases hj
    rw[List.getElem?_range Pr]at hj;cases hj;obtain⟨r0,r1,r2,_⟩:=hq i (by omega);rw[gG]at r0 r1 r2;exact⟨ah t r0,ah t (by rw[Nat.add_assoc];exact r1),ah t (by rw[Nat.add_assoc];exact r2)⟩
  ·simp only[rowOf,List.mem_cons,List.not_mem_nil,or_false]at hb;rw[hb];exact World.block_lt_of_cell? w _ (hq 0 (by omega)).1
end
end En
end
end Go.Proofs.YtdokeddjcpnmiaaGreatDoor
