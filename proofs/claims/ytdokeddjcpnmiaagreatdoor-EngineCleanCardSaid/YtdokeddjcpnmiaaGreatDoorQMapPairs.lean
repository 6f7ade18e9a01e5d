/- Of EngineClean: MapPairs. -/
import Derived.Test.YtdokeddjcpnmiaaGreatDoorQMakers
import Derived.Shelf.Abstract
set_option maxRecDepth 100000
set_option maxHeartbeats 4000000
namespace Go.Proofs.YtdokeddjcpnmiaaGreatDoor
open Go.RowKit Go.Proofs.Tryz
open Go.Lib(hid)
def rF:oK:=⟨45,[2,3,999,4,999,5,999,6,999,7,999,8,999,9,999,10,999,11,999,12,999,13,999,14,999,15,999,16,999,17,999,18,19,999,20,21,999,22,999,23,999,24,999,25,0],[(2,43),(4,44),(6,45),(8,46),(10,51),(12,52),(14,53),(16,54),(18,47),(20,48),(22,49),(24,50),(26,55),(28,56),(30,57),(33,59),(36,58),(38,60),(40,71),(42,72)],2,43,25,44,0⟩
def jD(B b:Nat):Nat→Value→World→Prop
 |1,v,W=>aQ B 1 270 218 (.func (.func 159) #[] #[]) v W
 |3,v,W=>aQ B 4 270 218 (.func (.func 161) #[] #[]) v W
 |5,v,W=>aQ B 4 270 218 (.func (.func 165) #[] #[]) v W
 |7,v,W=>aQ B 2 270 218 (.func (.func 167) #[] #[]) v W
 |9,v,W=>aQ B 2 270 218 (.func (.func 168) #[] #[]) v W
 |11,v,W=>aQ B 2 270 218 (.func (.func 170) #[] #[]) v W
 |13,v,W=>aQ B 2 270 218 (.func (.func 172) #[] #[]) v W
 |15,v,W=>aQ B 2 270 218 (.func (.func 173) #[] #[]) v W
 |17,v,W=>aQ B 2 270 218 (.func (.func 175) #[] #[]) v W
 |19,v,W=>aQ B 4 274 223 (.func (.func 177) #[] #[]) v W
 |21,v,W=>aQ B 4 274 223 (.func (.func 179) #[] #[]) v W
 |23,v,W=>aQ B 4 274 223 (.func (.func 181) #[] #[]) v W
 |25,v,W=>aQ B 3 278 215 (.func (.func 183) #[] #[]) v W
 |27,v,W=>aQ B 3 278 215 (.func (.func 185) #[] #[]) v W
 |29,v,W=>aQ B 3 278 215 (.func (.func 186) #[] #[]) v W
 |31,v,_=>v=.func (.func 155) #[] #[]
 |32,v,W=>aQ B 3 278 215 (.func (.func 155) #[] #[]) v W
 |34,v,_=>v=.func (.func 188) #[] #[.pointer (some ⟨b,0,none⟩)]
 |35,v,W=>aQ B 3 149 182 (.func (.func 188) #[] #[.pointer (some ⟨b,0,none⟩)]) v W
 |37,v,W=>aQ B 2 278 215 (.func (.func 189) #[] #[]) v W
 |39,v,W=>aQ B 1 274 223 (.func (.func 190) #[] #[]) v W
 |41,v,W=>aQ B 1 149 182 (.func (.func 192) #[] #[]) v W
 |_,_,_=>True
def fE(k:Int):Nat:=(([(43,1),(44,3),(45,5),(46,7),(51,9),(52,11),(53,13),(54,15),(47,17),(48,19),(49,21),(50,23),(55,25),(56,27),(57,29),(59,32),(58,35),(60,37),(71,39),(72,41)]:List (Int×Nat)).find? fun p=>p.1==k).elim 0 (·.2)
def rG(B b:Nat)(k:Int)(v:Value)(W:World):Prop:=fE k≠0∧jD B b (fE k) v W
theorem yJ(B b:Nat):qB (jD B b) (rG B b):=by
 have hp:∀A C,EG A C→∀j v,jD B b j v A→jD B b j v C:=by
  intro A C o j v h;unfold jD at h⊢;split at h<;>first|exact h.on o|exact h
 exact⟨hp,fun A C o k v h=>⟨h.1,hp A C o _ v h.2⟩⟩
theorem Ai:rF.ok=true:=by kernel_rfl
theorem Dz(w:World):Calls prog 133 #[] w fun e w'=>∃mb l b,e=.returned (.map (some mb))∧w.heap.size≤b∧eZ w' mb l∧(∀k v,atKey l k=some v→rG w.heap.size b k v w')∧(∀p∈rF.ins,(atKey l p.2).isSome=true)∧Touch [] w w'∧aF w' b 215 #[.func (.func 155) #[] #[]]:=by
 have bN:=aF.new w 215 #[.func (.func 155) #[] #[]];have tN:=(tR w).alloc (.cells #[.func (.func 155) #[] #[]] 215);have bO:=aF.new w 215 #[.nilFunc];have Ah:=j6 (P:=prog) (bO.cell 0) (bO.frozen 0) 155 #[];clear bO;go_enter func133,ntmps133;go_upto_region 2 with(fail);clear Ah;generalize w.alloc (Obj.cells #[Value.func (Fn.func 155) #[] #[]] 215)=W0 at*;have HN:=hid (And.intro bN tN);have hw0:=tN.size;clear bN tN;have xH:=enters_of func182 (by kernel_rfl) rfl;have EI:=enters_of func176 (by kernel_rfl) rfl;have RX:=enters_of func124 (by kernel_rfl) rfl;have Z4:=enters_of func158 (by kernel_rfl) rfl;have F9:∀(fn:Fn) (first cap:Array Value) (w:World),(Instr.makeFunc fn first cap).run prog w=.ok (.func fn first cap) w:=fun _ _ _ _=>rfl;have JX:= @run_makeMap prog;have hS:=yJ w.heap.size w.heap.size;refine kV (fun listed a Wx=>∃f:Nat→Value,a={tmps:= #[f 0,Value.pointer (some ⟨w.heap.size,0,none⟩),f 2,f 3,f 4,f 5,f 6,f 7,f 8,f 9,f 10,f 11,f 12,f 13,f 14,f 15,f 16,f 17,f 18,f 19,f 20,f 21,f 22,f 23,f 24,f 25],defers:=[]}∧jJ rF (jD w.heap.size w.heap.size) (rG w.heap.size w.heap.size) W0 listed f Wx) (by kernel_rfl) (by kernel_rfl) ?h0 ?step ?fin
 case h0=>
  intro listed hs hl;exact⟨fun j=>if j=0 then .map none else undef,rfl,jJ.start hl (tR W0).drew⟩
 case step=>
  rintro listed a Wx ⟨f,rfl,hI⟩ hC i o ho oV aS;try dsimp only
  have hi:i<45:=(Array.getElem?_eq_some_iff.1 ho).1;have HI:=hid hI;have t:=hI.t;have hz:w.heap.size≤Wx.heap.size:=by have:=t.size;omega
  clear hI;rcases(by omega:i=0∨i=1∨i=2∨i=3∨i=4∨i=5∨i=6∨i=7∨i=8∨i=9∨i=10∨i=11∨i=12∨i=13∨i=14∨i=15∨i=16∨i=17∨i=18∨i=19∨i=20∨i=21∨i=22∨i=23∨i=24∨i=25∨i=26∨i=27∨i=28∨i=29∨i=30∨i=31∨i=32∨i=33∨i=34∨i=35∨i=36∨i=37∨i=38∨i=39∨i=40∨i=41∨i=42∨i=43∨i=44)with rfl|rfl|rfl|rfl|rfl|rfl|rfl|rfl|rfl|rfl|rfl|rfl|rfl|rfl|rfl|rfl|rfl|rfl|rfl|rfl|rfl|rfl|rfl|rfl|rfl|rfl|rfl|rfl|rfl|rfl|rfl|rfl|rfl|rfl|rfl|rfl|rfl|rfl|rfl|rfl|rfl|rfl|rfl|rfl|rfl
  all_goals cases (show some _=some o from ho)
  all_goals refine gP ho rfl ?_
  have hn:∀p∈rF.ins,listed.getD p.1 false=false:=by
   intro p hp;simp only[rF,List.mem_cons,List.not_mem_nil,or_false]at hp;rcases hp with rfl|rfl|rfl|rfl|rfl|rfl|rfl|rfl|rfl|rfl|rfl|rfl|rfl|rfl|rfl|rfl|rfl|rfl|rfl|rfl
   all_goals exact gH (fun e=>hC _ _ (by rfl) e ⟨0,.data⟩ (by simp) rfl) oV
  have h1:listed.getD 43 false=false:=gH (fun e=>hC 43 _ rfl e ⟨0,.data⟩ (by simp) rfl) oV;have h2:listed.getD 44 false=false:=gH (fun e=>hC 44 _ rfl e ⟨0,.phase⟩ (by simp) rfl) oV;refine ay (v:=.map (some Wx.heap.size)) (w1:=Wx.alloc (.map #[] 0)) ?_ ⟨_,rfl,HI.out.made hS Ai (fun _ _=>trivial) hn h1 h2⟩;rotate_left;refine aJ (f:=158) (args:= #[.int .i64 1,.func (.func 159) #[] #[]]) (w1:=Wx) ?_ ((kg 1 (.func 159) #[] #[] Wx).mono (HI.out.lF hS 1 3 (by kernel_rfl) (fun _ _ h=>h.low hz) fun _=>rfl));rotate_left;rotate_left;refine aJ (f:=158) (args:= #[.int .i64 4,.func (.func 161) #[] #[]]) (w1:=Wx) ?_ ((kg 4 (.func 161) #[] #[] Wx).mono (HI.out.lF hS 3 4 (by kernel_rfl) (fun _ _ h=>h.low hz) fun _=>rfl));rotate_left;rotate_left;refine aJ (f:=158) (args:= #[.int .i64 4,.func (.func 165) #[] #[]]) (w1:=Wx) ?_ ((kg 4 (.func 165) #[] #[] Wx).mono (HI.out.lF hS 5 5 (by kernel_rfl) (fun _ _ h=>h.low hz) fun _=>rfl));rotate_left;rotate_left;refine aJ (f:=158) (args:= #[.int .i64 2,.func (.func 167) #[] #[]]) (w1:=Wx) ?_ ((kg 2 (.func 167) #[] #[] Wx).mono (HI.out.lF hS 7 6 (by kernel_rfl) (fun _ _ h=>h.low hz) fun _=>rfl));rotate_left;rotate_left;refine aJ (f:=158) (args:= #[.int .i64 2,.func (.func 168) #[] #[]]) (w1:=Wx) ?_ ((kg 2 (.func 168) #[] #[] Wx).mono (HI.out.lF hS 9 7 (by kernel_rfl) (fun _ _ h=>h.low hz) fun _=>rfl));rotate_left;rotate_left;refine aJ (f:=158) (args:= #[.int .i64 2,.func (.func 170) #[] #[]]) (w1:=Wx) ?_ ((kg 2 (.func 170) #[] #[] Wx).mono (HI.out.lF hS 11 8 (by kernel_rfl) (fun _ _ h=>h.low hz) fun _=>rfl));rotate_left;rotate_left;refine aJ (f:=158) (args:= #[.int .i64 2,.func (.func 172) #[] #[]]) (w1:=Wx) ?_ ((kg 2 (.func 172) #[] #[] Wx).mono (HI.out.lF hS 13 9 (by kernel_rfl) (fun _ _ h=>h.low hz) fun _=>rfl));rotate_left;rotate_left;refine aJ (f:=158) (args:= #[.int .i64 2,.func (.func 173) #[] #[]]) (w1:=Wx) ?_ ((kg 2 (.func 173) #[] #[] Wx).mono (HI.out.lF hS 15 10 (by kernel_rfl) (fun _ _ h=>h.low hz) fun _=>rfl));rotate_left;rotate_left;refine aJ (f:=158) (args:= #[.int .i64 2,.func (.func 175) #[] #[]]) (w1:=Wx) ?_ ((kg 2 (.func 175) #[] #[] Wx).mono (HI.out.lF hS 17 11 (by kernel_rfl) (fun _ _ h=>h.low hz) fun _=>rfl));rotate_left;rotate_left;refine aJ (f:=176) (args:= #[.int .i64 4,.func (.func 177) #[] #[]]) (w1:=Wx) ?_ ((kW 4 (.func 177) #[] #[] Wx).mono (HI.out.lF hS 19 12 (by kernel_rfl) (fun _ _ h=>h.low hz) fun _=>rfl));rotate_left;rotate_left;refine aJ (f:=176) (args:= #[.int .i64 4,.func (.func 179) #[] #[]]) (w1:=Wx) ?_ ((kW 4 (.func 179) #[] #[] Wx).mono (HI.out.lF hS 21 13 (by kernel_rfl) (fun _ _ h=>h.low hz) fun _=>rfl));rotate_left;rotate_left;refine aJ (f:=176) (args:= #[.int .i64 4,.func (.func 181) #[] #[]]) (w1:=Wx) ?_ ((kW 4 (.func 181) #[] #[] Wx).mono (HI.out.lF hS 23 14 (by kernel_rfl) (fun _ _ h=>h.low hz) fun _=>rfl));rotate_left;rotate_left;refine aJ (f:=182) (args:= #[.int .i64 3,.func (.func 183) #[] #[]]) (w1:=Wx) ?_ ((iQ 3 (.func 183) #[] #[] Wx).mono (HI.out.lF hS 25 15 (by kernel_rfl) (fun _ _ h=>h.low hz) fun _=>rfl));rotate_left;rotate_left;refine aJ (f:=182) (args:= #[.int .i64 3,.func (.func 185) #[] #[]]) (w1:=Wx) ?_ ((iQ 3 (.func 185) #[] #[] Wx).mono (HI.out.lF hS 27 16 (by kernel_rfl) (fun _ _ h=>h.low hz) fun _=>rfl));rotate_left;rotate_left;refine aJ (f:=182) (args:= #[.int .i64 3,.func (.func 186) #[] #[]]) (w1:=Wx) ?_ ((iQ 3 (.func 186) #[] #[] Wx).mono (HI.out.lF hS 29 17 (by kernel_rfl) (fun _ _ h=>h.low hz) fun _=>rfl));rotate_left;rotate_left;have cn:=(HN.out.1.touch t (by simp)).cell 0;refine ay (v:=.func (.func 155) #[] #[]) (w1:=Wx) ?_ ⟨_,rfl,HI.out.v0 hS 31 18 (by kernel_rfl) rfl⟩;rotate_left;have g31:f 18=_:=HI.out.pv 31 (by decide) (aS ⟨31,.data⟩ (by simp) rfl);refine aJ (f:=182) (args:= #[.int .i64 3,.func (.func 155) #[] #[]]) (w1:=Wx) ?_ ((iQ 3 (.func 155) #[] #[] Wx).mono (HI.out.lF hS 32 19 (by kernel_rfl) (fun _ _ h=>h.low hz) fun _=>rfl));rotate_left;rotate_left;refine ay (v:=.func (.func 188) #[] #[.pointer (some ⟨w.heap.size,0,none⟩)]) (w1:=Wx) ?_ ⟨_,rfl,HI.out.v0 hS 34 20 (by kernel_rfl) rfl⟩;rotate_left;have g34:f 20=_:=HI.out.pv 34 (by decide) (aS ⟨34,.data⟩ (by simp) rfl);refine aJ (f:=124) (args:= #[.int .i64 3,.func (.func 188) #[] #[.pointer (some ⟨w.heap.size,0,none⟩)]]) (w1:=Wx) ?_ ((mU 3 (.func 188) #[] #[.pointer (some ⟨w.heap.size,0,none⟩)] Wx).mono (HI.out.lF hS 35 21 (by kernel_rfl) (fun _ _ h=>h.low hz) fun _=>rfl));rotate_left;rotate_left;refine aJ (f:=182) (args:= #[.int .i64 2,.func (.func 189) #[] #[]]) (w1:=Wx) ?_ ((iQ 2 (.func 189) #[] #[] Wx).mono (HI.out.lF hS 37 22 (by kernel_rfl) (fun _ _ h=>h.low hz) fun _=>rfl));rotate_left;rotate_left;refine aJ (f:=176) (args:= #[.int .i64 1,.func (.func 190) #[] #[]]) (w1:=Wx) ?_ ((kW 1 (.func 190) #[] #[] Wx).mono (HI.out.lF hS 39 23 (by kernel_rfl) (fun _ _ h=>h.low hz) fun _=>rfl));rotate_left;rotate_left;refine aJ (f:=124) (args:= #[.int .i64 1,.func (.func 192) #[] #[]]) (w1:=Wx) ?_ ((mU 1 (.func 192) #[] #[] Wx).mono (HI.out.lF hS 41 24 (by kernel_rfl) (fun _ _ h=>h.low hz) fun _=>rfl));rotate_left;rotate_left;refine ay (v:=f 2) (w1:=Wx) ?_ ⟨_,rfl,HI.out.move Ai (fun _ _=>trivial)⟩;rotate_left;refine ay (v:=f 25) (w1:=Wx) ?_ ⟨_,rfl,HI.out.assign Ai (fun _ _=>trivial) (aS ⟨43,.data⟩ (by simp) rfl)⟩;rotate_left
  all_goals try exact JW HI.out hS _ (fE _) rfl (by kernel_rfl) (by exact fun _ _=>trivial) rfl (aS ⟨0,.data⟩ (by simp) rfl) rfl (aS ⟨_,.data⟩ (Array.mem_of_getElem? (i:=1) rfl) rfl) (by decide) (fun h=>⟨by decide,h⟩) fun _ h=>⟨f,rfl,h⟩
  all_goals clear aS hC oV ho
  all_goals first|(go_simp;done)|(go_simp;rfl)
 case fin=>
  rintro listed a Wx hl ⟨f,rfl,hI⟩;obtain⟨mb,l,em,k1,k2,k3,k4⟩:=hI.map (hl 0 (by decide));have e6:f 0=.map (some mb):=(hI.fin (hl 44 (by decide))).trans em;have hz:∀p∈rF.ins,p.1<45:=by decide
  have dw:eZ Wx mb l∧(∀k v,atKey l k=some v→rG w.heap.size w.heap.size k v Wx)∧(∀p∈rF.ins,(atKey l p.2).isSome=true)∧Touch [] w Wx:=⟨k2,k3,fun p hp=>k4 p hp (hl p.1 (hz p hp)),HN.out.2.trans hI.t (by simp)⟩;have HF:=hid (And.intro dw (HN.out.1.touch hI.t (by simp)));clear dw hI k1 k2 k3 k4 em hl hS F9 JX xH EI RX Z4;rw[e6];clear e6;go_wp2;go_ret;exact⟨mb,l,w.heap.size,rfl,Nat.le_refl _,HF.out.1.1,HF.out.1.2.1,HF.out.1.2.2.1,HF.out.1.2.2.2,HF.out.2⟩
end Go.Proofs.YtdokeddjcpnmiaaGreatDoor
