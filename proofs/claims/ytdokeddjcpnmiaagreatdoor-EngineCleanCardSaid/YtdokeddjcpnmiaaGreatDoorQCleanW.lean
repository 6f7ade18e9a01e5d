/- Of EngineClean: CleanW. -/
import Derived.Test.YtdokeddjcpnmiaaGreatDoorQEngRunC
set_option maxRecDepth 100000
set_option maxHeartbeats 6400000
namespace Go.Proofs.YtdokeddjcpnmiaaGreatDoor
open Go.RowKit Go.Proofs.Tryz
open Go.Lib(hid)
namespace En
theorem yC(lv v:Value)(l:List Int)(w:World)(hd:ZJ w lv)(hl:QS w v l)(CD:∀x∈l,au x)(hT:zF w)(ml:Int)(qo:w.cell? ⟨3,0,none⟩=some (.int .i64 ml)):Calls prog 3 #[.agg #[lv],v] w fun e w'=>e=.returned (.bool true)∧Touch [] w w':=by
 obtain⟨da,dn,dc,dk,L,rfl,hdm,hdk,hdc,yG,x7,x8,yb⟩:=hd;obtain⟨a,n,c,q,rfl,RH,hq,UI,hlen,Bf⟩:=hl.x6 20;have RH:min (n:Int) 20=(q:Int):=RH;obtain⟨ys,np⟩:∃ys,l.take 20=ys:=⟨_,rfl⟩;rw[np]at hlen Bf;have ye:All64 ys:=fun x hx=>CD x (List.mem_of_mem_take (by rw[np];exact hx));have HD:=hid (And.intro yG (And.intro x7 (And.intro x8 yb)));have HC:=hid (And.intro Bf (And.intro hlen ye));have XB:=hid (And.intro qo hT);have b0:=aF.new w 24 #[.slice da dn dc];have t0:=(tR w).alloc (.cells #[.slice da dn dc] 24);obtain⟨z,hz⟩:∃z,w.heap.size=z:=⟨_,rfl⟩;rw[hz]at b0;clear hl CD hT qo yG x7 x8 yb Bf hlen ye np;go_enter func3,ntmps3;go_upto_region 1 with fail;generalize w.alloc (.cells #[.slice da dn dc] 24)=w0 at*;have hS:=OW w0 ml (ah t0 XB.out.1);have sX:=hid (And.intro b0 t0);clear b0 t0 hz;go_wp2_with fail;refine hS.mono ?_;rintro _ w1 ⟨rfl,t1⟩;have V6:=sX.out.2.trans t1 (by simp);have hB:=O5 w1 ml (ah V6 XB.out.1);have Xp:=hid (And.intro t1 V6);clear hS t1 V6;go_wp2_with fail;refine hB.mono ?_;rintro _ w2 ⟨g,p,F,S,rfl,hE,hF,t2,hn,hst,lj,hh,hout,Ba⟩;have bW:K8 S:=⟨⟨by rw[hout];decide,by rw[Ba];decide,by rw[hn];decide,by rw[hn]⟩,hn⟩;have JC:∀x∈F,w.heap.size≤x:=fun x hx=>Nat.le_trans Xp.out.2.size (hF x hx);have H0:QT w g p {M.new S kC with words:=dM} [] [] (.slice none 0 0) (.slice none 0 0) w2:=⟨⟨F,hE,JC,by simp[rowOf],by simp[rowOf]⟩,sU.none _ _,sV.none _ _,by simp[rowOf],Xp.out.2.trans t2 (by simp)⟩;have HS:=hid (And.intro hst (And.intro bW hout));have x0:w2.cell? ⟨z,0,none⟩=some (.slice da dn dc):=ah (Xp.out.1.trans t2 (by simp)) (sX.out.1.cell 0);clear hE hF t2 hn hst lj hh hout Ba bW hB JC;obtain⟨F',hE,EO,_,kK⟩:=H0.call;have Ie:=KM hE (Nat.zero_le _) (Nat.le_of_ble_eq_true rfl) L (by have:=HD.out.1;omega) (fun x hx=>(HD.out.2.1 x hx).1) (by show dM.length≤1000000;rw[jN];decide) (.slice da dk dc) (HD.out.2.2.1 w2 H0.touch) (fun h0 b hb=>⟨Nat.lt_of_lt_of_le (HD.out.2.2.2 (by rw[←HD.out.1];exact h0) b hb) H0.touch.size,fun hx=>by have h1:=HD.out.2.2.2 (by rw[←HD.out.1];exact h0) b hb;have h2:=EO b hx;omega⟩);rw[show((({M.new S kC with words:=dM}:M).ends.length:Nat):Int)+1=1 from rfl]at Ie;have N4:=hid kK;clear hE EO kK H0;go_wp2_with fail;refine Ie.mono ?_;rintro _ w3 (⟨rfl,K3⟩|⟨hM,rfl,K3⟩)
 ·have yf:=hid (N4.out _ _ K3).touch;clear Ie K3 x0;go_wp2_with fail;go_ret;exact⟨rfl,yf.out⟩
 ·have yf:=N4.out _ _ K3;have HM:=hid (TA hM (by show dM.length≤1000000;rw[jN];decide) (by have:=HD.out.1;omega));obtain⟨F',hE,EO,_,kK⟩:=yf.call;have hAdd:=KA hE (by show dM.length<600;rw[jN];decide) 5 1 0 (.inr (.inl ⟨.inl rfl,by decide,by show(1:Int)≤(1:Int);decide⟩)) ml (ah yf.touch XB.out.1);rw[show(((({M.new S kC with words:=dM}:M).laid L).words.length:Nat):Int)+1=181 by show((dM.length:Nat):Int)+1=_;rw[jN];rfl]at hAdd;have HCB:=hid kK;clear hE EO kK yf K3 Ie N4 hM x0;go_wp2_with fail;refine hAdd.mono ?_;rintro _ w4 ⟨rfl,K4⟩;have N5:QT w g p (Jt S L) [] [] (.slice none 0 0) (.slice none 0 0) w4:=HCB.out _ _ K4;clear hAdd K4 HCB;go_upto_region 9 with fail;have yi:=N5.call;obtain⟨F4,yi,N8,_,VY⟩:=yi;have N6:=hid yi;have yl:Hid (∀W,Touch [] w4 W→Calls prog 16 #[.pointer (some ⟨S.k,0,none⟩),.slice a q c] W fun e w'=>e=.returned (.int .i64 0)∧QT w g p {Jt S L with S:={S with st:=ys}} [] [] (.slice none 0 0) (.slice none 0 0) w'):=hid (fun W t=>by
   refine(kt (yi.touch t (by simp)) (HC.out.1 W (N5.touch.trans t (by simp))) (by show S.st.length+ys.length≤128;rw[HS.out.1,HC.out.2.1];show 0+q≤128;omega)).mono ?_;rintro _ w' ⟨rfl,K⟩;have h9:=VY _ _ (K.pre t);have e:({Jt S L with S:={(Jt S L).S with st:=(Jt S L).S.st++ys}}:M)={Jt S L with S:={S with st:=ys}}:=by
    show({Jt S L with S:={S with st:=S.st++ys}}:M)=_;rw[HS.out.1];rfl
   rw[e]at h9;exact⟨rfl,h9⟩)
  clear yi N8 VY N5;refine QU (fun g_ f=> #[g_ 0,.slice a n c,g_ 2,g_ 3,.bool false,.bool true,.pointer (some ⟨g,0,none⟩),g_ 7,g_ 8,.int .i64 181,.int .i64 0,g_ 11,g_ 12,g_ 13,g_ 14,g_ 15,g_ 16,g_ 17,g_ 18,g_ 19,g_ 20,g_ 21,g_ 22,g_ 23,g_ 24,g_ 25,g_ 26,g_ 27,g_ 28,g_ 29,g_ 30,g_ 31,g_ 32,g_ 33,g_ 34,g_ 35,g_ 36,g_ 37,g_ 38,g_ 39,g_ 40,f 41,f 42,f 43,f 44,f 45,f 46,f 47,f 48,f 49,g_ 50,g_ 51,g_ 52,g_ 53,g_ 54,g_ 55,g_ 56,g_ 57,g_ 58,g_ 59,g_ 60,g_ 61,g_ 62,g_ 63,g_ 64,g_ 65,g_ 66,g_ 67,g_ 68,g_ 69,g_ 70,g_ 71,g_ 72,g_ 73,g_ 74,g_ 75,g_ 76,g_ 77,g_ 78,g_ 79,g_ 80,g_ 81,g_ 82,g_ 83,g_ 84,g_ 85,g_ 86,g_ 87,g_ 88,g_ 89,g_ 90,g_ 91,g_ 92,g_ 93,g_ 94,g_ 95,g_ 96,g_ 97,g_ 98,g_ 99,g_ 100,g_ 101,g_ 102,g_ 103,g_ 104,g_ 105,g_ 106,g_ 107,g_ 108,g_ 109,g_ 110,g_ 111,g_ 112,g_ 113,g_ 114,g_ 115,g_ 116,g_ 117,g_ 118,g_ 119,g_ 120,g_ 121,g_ 122,g_ 123]) rfl (fun g_ f=> ?_);refine Ju (fun listed a_ Wx=>∃f:Nat→Value,a_={tmps:= #[g_ 0,.slice a n c,g_ 2,g_ 3,.bool false,.bool true,.pointer (some ⟨g,0,none⟩),g_ 7,g_ 8,.int .i64 181,.int .i64 0,g_ 11,g_ 12,g_ 13,g_ 14,g_ 15,g_ 16,g_ 17,g_ 18,g_ 19,g_ 20,g_ 21,g_ 22,g_ 23,g_ 24,g_ 25,g_ 26,g_ 27,g_ 28,g_ 29,g_ 30,g_ 31,g_ 32,g_ 33,g_ 34,g_ 35,g_ 36,g_ 37,g_ 38,g_ 39,g_ 40,f 41,f 42,f 43,f 44,f 45,f 46,f 47,f 48,f 49,g_ 50,g_ 51,g_ 52,g_ 53,g_ 54,g_ 55,g_ 56,g_ 57,g_ 58,g_ 59,g_ 60,g_ 61,g_ 62,g_ 63,g_ 64,g_ 65,g_ 66,g_ 67,g_ 68,g_ 69,g_ 70,g_ 71,g_ 72,g_ 73,g_ 74,g_ 75,g_ 76,g_ 77,g_ 78,g_ 79,g_ 80,g_ 81,g_ 82,g_ 83,g_ 84,g_ 85,g_ 86,g_ 87,g_ 88,g_ 89,g_ 90,g_ 91,g_ 92,g_ 93,g_ 94,g_ 95,g_ 96,g_ 97,g_ 98,g_ 99,g_ 100,g_ 101,g_ 102,g_ 103,g_ 104,g_ 105,g_ 106,g_ 107,g_ 108,g_ 109,g_ 110,g_ 111,g_ 112,g_ 113,g_ 114,g_ 115,g_ 116,g_ 117,g_ 118,g_ 119,g_ 120,g_ 121,g_ 122,g_ 123],defers:=[]}∧kQ (kJ p.s S.k g a n c q) listed f∧(listed.getD 8 false=false→Touch [] w4 Wx)∧(listed.getD 8 false=true→QT w g p {Jt S L with S:={S with st:=ys}} [] [] (.slice none 0 0) (.slice none 0 0) Wx)) (by kernel_rfl) (by kernel_rfl) ?h0 ?step ?fin
  case h0=>
   intro listed hs hl;exact⟨f,rfl,fun x _ h=>(by rw[hl]at h;cases h),fun _=>(tR w4).drew,fun h=>(by rw[hl]at h;cases h)⟩
  case step=>
   rintro listed a_ Wx ⟨f,rfl,hT,hA,hB⟩ hC i o_ ho oV aS;try dsimp only
   have hi:i<9:=(Array.getElem?_eq_some_iff.1 ho).1;rcases(by omega:i=0∨i=1∨i=2∨i=3∨i=4∨i=5∨i=6∨i=7∨i=8)with rfl|rfl|rfl|rfl|rfl|rfl|rfl|rfl|rfl
   ·cases (show some _=some o_ from ho);have h8:listed.getD 8 false=false:=by
     cases e_:listed.getD 8 false with
     |false=>rfl
     |true=>
      have l2:=hC 8 _ rfl e_ {on:=2,ground:=.data} (by simp) rfl;have l1:=hC 2 _ rfl l2 {on:=1,ground:=.data} (by simp) rfl;have l0:=hC 1 _ rfl l1 {on:=0,ground:=.data} (by simp) rfl;rw[gN oV]at l0;cases l0
    have tq:=hA h8;refine gP ho rfl ?_;refine ay (v:=.pointer (some ⟨g,0,none⟩)) (w1:=Wx) ?_ ⟨_,rfl,hT.step (i:=0) (d:=41) (v:=.pointer (some ⟨g,0,none⟩)) (by intro x hx;simp only[kJ,List.mem_cons,List.not_mem_nil,or_false]at hx;rcases hx with rfl|rfl|rfl|rfl|rfl|rfl|rfl|rfl|rfl<;>simp),fun _=>tq,fun h=>(by rw[getD_set_ne (by omega),h8]at h;cases h)⟩;clear aS hC oV ho hT hA hB tq
    first|(go_simp;done)|(go_simp;rfl)
   ·cases (show some _=some o_ from ho);have h8:listed.getD 8 false=false:=by
     cases e_:listed.getD 8 false with
     |false=>rfl
     |true=>
      have l2:=hC 8 _ rfl e_ {on:=2,ground:=.data} (by simp) rfl;have l1:=hC 2 _ rfl l2 {on:=1,ground:=.data} (by simp) rfl;rw[gN oV]at l1;cases l1
    have tq:=hA h8;have g0:f 41=.pointer (some ⟨g,0,none⟩):=hT (0,41,.pointer (some ⟨g,0,none⟩)) (by simp[kJ]) (aS {on:=0,ground:=.data} (by simp) rfl);refine gP ho rfl ?_;refine aJ (f:=14) (args:= #[.pointer (some ⟨g,0,none⟩)]) (w1:=Wx) ?_ (Calls.mono (sP (N6.out.touch tq (by simp))) ?_)
    ·clear aS hC oV ho hT hA hB
     first|(go_simp;done)|(go_simp;rfl)
    ·rintro _ _ ⟨rfl,rfl⟩;exact⟨_,rfl,_,rfl,hT.step (i:=1) (d:=42) (v:=.pointer (some ⟨p.s,0,none⟩)) (by intro x hx;simp only[kJ,List.mem_cons,List.not_mem_nil,or_false]at hx;rcases hx with rfl|rfl|rfl|rfl|rfl|rfl|rfl|rfl|rfl<;>simp),fun _=>tq,fun h=>(by rw[getD_set_ne (by omega),h8]at h;cases h)⟩
   ·cases (show some _=some o_ from ho);have h8:listed.getD 8 false=false:=by
     cases e_:listed.getD 8 false with
     |false=>rfl
     |true=>
      have l2:=hC 8 _ rfl e_ {on:=2,ground:=.data} (by simp) rfl;rw[gN oV]at l2;cases l2
    have tq:=hA h8;have g1:f 42=.pointer (some ⟨p.s,0,none⟩):=hT (1,42,.pointer (some ⟨p.s,0,none⟩)) (by simp[kJ]) (aS {on:=1,ground:=.data} (by simp) rfl);refine gP ho rfl ?_;refine aJ (f:=15) (args:= #[.pointer (some ⟨p.s,0,none⟩)]) (w1:=Wx) ?_ (Calls.mono ((N6.out.touch tq (by simp)).iU) ?_)
    ·clear aS hC oV ho hT hA hB
     first|(go_simp;done)|(go_simp;rfl)
    ·rintro _ _ ⟨rfl,rfl⟩;exact⟨_,rfl,_,rfl,hT.step (i:=2) (d:=43) (v:=.pointer (some ⟨S.k,0,none⟩)) (by intro x hx;simp only[kJ,List.mem_cons,List.not_mem_nil,or_false]at hx;rcases hx with rfl|rfl|rfl|rfl|rfl|rfl|rfl|rfl|rfl<;>simp),fun _=>tq,fun h=>(by rw[getD_set_ne (by omega),h8]at h;cases h)⟩
   ·cases (show some _=some o_ from ho);have h8:listed.getD 8 false=false:=by
     cases e_:listed.getD 8 false with
     |false=>rfl
     |true=>
      have l7:=hC 8 _ rfl e_ {on:=7,ground:=.data} (by simp) rfl;have l3:=hC 7 _ rfl l7 {on:=3,ground:=.data} (by simp) rfl;rw[gN oV]at l3;cases l3
    have tq:=hA h8;refine gP ho rfl ?_;refine ay (v:=.slice a n c) (w1:=Wx) ?_ ⟨_,rfl,hT.step (i:=3) (d:=44) (v:=.slice a n c) (by intro x hx;simp only[kJ,List.mem_cons,List.not_mem_nil,or_false]at hx;rcases hx with rfl|rfl|rfl|rfl|rfl|rfl|rfl|rfl|rfl<;>simp),fun _=>tq,fun h=>(by rw[getD_set_ne (by omega),h8]at h;cases h)⟩;clear aS hC oV ho hT hA hB tq
    first|(go_simp;done)|(go_simp;rfl)
   ·cases (show some _=some o_ from ho);have h8:listed.getD 8 false=false:=by
     cases e_:listed.getD 8 false with
     |false=>rfl
     |true=>
      have l7:=hC 8 _ rfl e_ {on:=7,ground:=.data} (by simp) rfl;have l6:=hC 7 _ rfl l7 {on:=6,ground:=.data} (by simp) rfl;have l5:=hC 6 _ rfl l6 {on:=5,ground:=.data} (by simp) rfl;have l4:=hC 5 _ rfl l5 {on:=4,ground:=.data} (by simp) rfl;rw[gN oV]at l4;cases l4
    have tq:=hA h8;refine gP ho rfl ?_;refine ay (v:=.slice a n c) (w1:=Wx) ?_ ⟨_,rfl,hT.step (i:=4) (d:=45) (v:=.slice a n c) (by intro x hx;simp only[kJ,List.mem_cons,List.not_mem_nil,or_false]at hx;rcases hx with rfl|rfl|rfl|rfl|rfl|rfl|rfl|rfl|rfl<;>simp),fun _=>tq,fun h=>(by rw[getD_set_ne (by omega),h8]at h;cases h)⟩;clear aS hC oV ho hT hA hB tq
    first|(go_simp;done)|(go_simp;rfl)
   ·cases (show some _=some o_ from ho);have h8:listed.getD 8 false=false:=by
     cases e_:listed.getD 8 false with
     |false=>rfl
     |true=>
      have l7:=hC 8 _ rfl e_ {on:=7,ground:=.data} (by simp) rfl;have l6:=hC 7 _ rfl l7 {on:=6,ground:=.data} (by simp) rfl;have l5:=hC 6 _ rfl l6 {on:=5,ground:=.data} (by simp) rfl;rw[gN oV]at l5;cases l5
    have tq:=hA h8;have g4:f 45=.slice a n c:=hT (4,45,.slice a n c) (by simp[kJ]) (aS {on:=4,ground:=.data} (by simp) rfl);refine gP ho rfl ?_;refine ay (v:=.int .i64 n) (w1:=Wx) ?_ ⟨_,rfl,hT.step (i:=5) (d:=46) (v:=.int .i64 n) (by intro x hx;simp only[kJ,List.mem_cons,List.not_mem_nil,or_false]at hx;rcases hx with rfl|rfl|rfl|rfl|rfl|rfl|rfl|rfl|rfl<;>simp),fun _=>tq,fun h=>(by rw[getD_set_ne (by omega),h8]at h;cases h)⟩;clear aS hC oV ho hT hA hB tq
    first|(go_simp;done)|(go_simp;rfl)
   ·cases (show some _=some o_ from ho);have h8:listed.getD 8 false=false:=by
     cases e_:listed.getD 8 false with
     |false=>rfl
     |true=>
      have l7:=hC 8 _ rfl e_ {on:=7,ground:=.data} (by simp) rfl;have l6:=hC 7 _ rfl l7 {on:=6,ground:=.data} (by simp) rfl;rw[gN oV]at l6;cases l6
    have tq:=hA h8;have g5:f 46=.int .i64 n:=hT (5,46,.int .i64 n) (by simp[kJ]) (aS {on:=5,ground:=.data} (by simp) rfl);refine gP ho rfl ?_;refine ay (v:=.int .i64 q) (w1:=Wx) ?_ ⟨_,rfl,hT.step (i:=6) (d:=47) (v:=.int .i64 q) (by intro x hx;simp only[kJ,List.mem_cons,List.not_mem_nil,or_false]at hx;rcases hx with rfl|rfl|rfl|rfl|rfl|rfl|rfl|rfl|rfl<;>simp),fun _=>tq,fun h=>(by rw[getD_set_ne (by omega),h8]at h;cases h)⟩;clear aS hC oV ho hT hA hB tq
    first|(go_simp;done)|(go_simp;rfl)
   ·cases (show some _=some o_ from ho);have h8:listed.getD 8 false=false:=by
     cases e_:listed.getD 8 false with
     |false=>rfl
     |true=>
      have l7:=hC 8 _ rfl e_ {on:=7,ground:=.data} (by simp) rfl;rw[gN oV]at l7;cases l7
    have tq:=hA h8;have g3:f 44=.slice a n c:=hT (3,44,.slice a n c) (by simp[kJ]) (aS {on:=3,ground:=.data} (by simp) rfl);have g6:f 47=.int .i64 q:=hT (6,47,.int .i64 q) (by simp[kJ]) (aS {on:=6,ground:=.data} (by simp) rfl);refine gP ho rfl ?_;refine ay (v:=.slice a q c) (w1:=Wx) ?_ ⟨_,rfl,hT.step (i:=7) (d:=48) (v:=.slice a q c) (by intro x hx;simp only[kJ,List.mem_cons,List.not_mem_nil,or_false]at hx;rcases hx with rfl|rfl|rfl|rfl|rfl|rfl|rfl|rfl|rfl<;>simp),fun _=>tq,fun h=>(by rw[getD_set_ne (by omega),h8]at h;cases h)⟩;clear aS hC oV ho hT hA hB tq
    first|(go_simp;done)|(go_simp;rfl)
   ·cases (show some _=some o_ from ho);have tq:=hA (gN oV);have g2:f 43=.pointer (some ⟨S.k,0,none⟩):=hT (2,43,.pointer (some ⟨S.k,0,none⟩)) (by simp[kJ]) (aS {on:=2,ground:=.data} (by simp) rfl);have g7:f 48=.slice a q c:=hT (7,48,.slice a q c) (by simp[kJ]) (aS {on:=7,ground:=.data} (by simp) rfl);refine gP ho rfl ?_;refine aJ (f:=16) (args:= #[.pointer (some ⟨S.k,0,none⟩),.slice a q c]) (w1:=Wx) ?_ (Calls.mono (yl.out Wx tq) ?_)
    ·clear aS hC oV ho hT hA hB
     first|(go_simp;done)|(go_simp;rfl)
    ·rintro _ W1 ⟨rfl,hK⟩;exact⟨_,rfl,_,rfl,hT.step (i:=8) (d:=49) (v:=.int .i64 0) (by intro x hx;simp only[kJ,List.mem_cons,List.not_mem_nil,or_false]at hx;rcases hx with rfl|rfl|rfl|rfl|rfl|rfl|rfl|rfl|rfl<;>simp),fun h=>(by rw[uy oV]at h;cases h),fun _=>hK⟩
  case fin=>
   rintro listed a_ Wx hl ⟨f,rfl,hT,_,hB⟩;have e8:f 49=.int .i64 0:=hT (8,49,.int .i64 0) (by simp[kJ]) (hl 8 (by decide));have H5:=hid (hB (hl 8 (by decide)));clear hT hl hB;clear N6 yl;rw[e8];clear e8;obtain⟨F',hE,EO,_,kK⟩:=H5.out.call;have Hu:=nO hE;have oZ:=jL hE (uQ 3) rfl Wx (tR Wx);rw[show({Jt S L with S:={S with st:=ys}}:M).aK (uQ 3)=(0,{Jt S L with S:={S with st:=ys},fr:=[uQ 3]})from rfl]at oZ;dsimp only at oZ
   have ZK:=hid kK;clear hE EO kK H5;go_wp2_with fail;refine Hu.mono ?_;rintro _ _ ⟨rfl,rfl⟩;clear Hu;go_wp2_with fail;refine oZ.mono ?_;rintro _ w6 ⟨rfl,K6⟩;have ud:QT w g p {Jt S L with S:={S with st:=ys},fr:=[uQ 3]} [] [] (.slice none 0 0) (.slice none 0 0) w6:=ZK.out _ _ K6;obtain⟨F',hE,EO,_,kK⟩:=ud.call;have Hu:=nO hE;have oZ:=jL hE tok rfl w6 (tR w6);rw[show({Jt S L with S:={S with st:=ys},fr:=[uQ 3]}:M).aK tok=(0,{Jt S L with S:={S with st:=ys},fr:=base})from rfl]at oZ;dsimp only at oZ
   have ZK:=hid kK;clear hE EO kK ud K6;go_wp2_with fail;refine Hu.mono ?_;rintro _ _ ⟨rfl,rfl⟩;clear Hu;go_wp2_with fail;refine oZ.mono ?_;rintro _ w7 ⟨rfl,K7⟩;have hR7:QT w g p {Jt S L with S:={S with st:=ys},fr:=base} [] [] (.slice none 0 0) (.slice none 0 0) w7:=ZK.out _ _ K7;obtain⟨F',hE,EO,_,kK⟩:=hR7.call;have Zd:=Ht hE (by show(dM++[((5:Int),(1:Int),(0:Int))]).length≤1000000;rw[List.length_append,jN];decide) 181 (5,1,0) (Nr S L);have ZK:=hid kK;clear hE EO kK hR7 K7 oZ;go_wp2_with fail;refine Zd.mono ?_;rintro _ w8 ⟨rfl,K8⟩;have Ok:QT w g p (Md S L ys) [] [] (.slice none 0 0) (.slice none 0 0) w8:=ZK.out _ _ K8;obtain⟨F',hE,EO,_,kK⟩:=Ok.call;have hop:∀x∈L,(0≤x.1∧x.1<256)∧0≤x.2.1∧x.2.1≤1000000:=fun x hx=>(HM.out x hx).1;have yG:L.length≤60:=by rw[HD.out.1];exact hdk
   have kA:=QO XB.out.2 hE (YQ S L ys yG hop (by rw[HC.out.2.1];exact hq) HS.out.2.1) EO Ok.touch (xT S L ys hop (fun x hx=>(HD.out.2.1 x hx).2) HC.out.2.2) (dE (XI _ _ O7 rfl)) ((VX S L ys yG hop).N3 (fun x hx=>(HM.out x hx).2)) (kp S L ys) 400 (by decide) (by decide);rw[show((400:Nat):Int)=400 from rfl]at kA;have ZK:=hid kK;clear hE EO kK Ok K8 Zd hop yG;go_wp2_with fail;refine kA.mono ?_;rintro _ w9 ⟨⟨k,s1,s2⟩,mf,rfl,K9,OS⟩;have hR9:=ZK.out _ _ K9;have bS:=aF.new w9 48 #[.int .i64 k,.int .i64 s1,.int .i64 s2];have tS:=(tR w9).alloc (.cells #[.int .i64 k,.int .i64 s1,.int .i64 s2] 48);have O2:=hR9.quiet tS;obtain⟨y,hy⟩:∃y,w9.heap.size=y:=⟨_,rfl⟩;rw[hy]at bS;unfold jK;dsimp only
   clear hR9 K9 kA tS ZK;go_upto_region 13 with fail;generalize w9.alloc (.cells #[.int .i64 k,.int .i64 s1,.int .i64 s2] 48)=wT at*;clear hy;have y0:wT.cell? ⟨y,0,none⟩=some (.int .i64 k):=bS.cell 0;have y1:wT.cell? ⟨y,1,none⟩=some (.int .i64 s1):=bS.cell 1;have HT:=hid O2.touch;obtain⟨F',hE,EO,_,kK⟩:=O2.call;have Hu:=nO hE;have Wu:=oD hE;have HBS:=hid bS;clear EO kK O2 bS;rcases OS with⟨hk,hI⟩|⟨hk,hI⟩|⟨hk,hb,hs⟩|⟨hk,hb,hs⟩
   ·have hk:k=1:=hk;subst hk;obtain⟨R,lQ,_,_⟩:=hI;have qm:mf.fr.length=2+R.length:=by rw[lQ,List.length_append];rfl
    rw[qm]at Wu;have g2:(2:Int)≤((2+R.length:Nat):Int):=by omega
    have g3:decide (((2+R.length:Nat):Int)≥2)=true:=by simpa using g2
    clear hE qm lQ;go_wp2_with fail;refine Hu.mono ?_;rintro _ _ ⟨rfl,rfl⟩;clear Hu;go_wp2_with fail;refine Wu.mono ?_;rintro _ _ ⟨rfl,rfl⟩;clear Wu;go_wp2_with fail;go_ret;exact⟨by first|rfl|(simp;done)|(simp;omega),HT.out⟩
   ·have hk:k=2:=hk;subst hk;obtain⟨R,lQ,_,_⟩:=hI;have qm:mf.fr.length=2+R.length:=by rw[lQ,List.length_append];rfl
    rw[qm]at Wu;have g2:(2:Int)≤((2+R.length:Nat):Int):=by omega
    have g3:decide (((2+R.length:Nat):Int)≥2)=true:=by simpa using g2
    clear hE qm lQ;go_wp2_with fail;refine Hu.mono ?_;rintro _ _ ⟨rfl,rfl⟩;clear Hu;go_wp2_with fail;refine Wu.mono ?_;rintro _ _ ⟨rfl,rfl⟩;clear Wu;go_wp2_with fail;go_ret;exact⟨by first|rfl|(simp;done)|(simp;omega),HT.out⟩
   ·have hk:k=3:=hk;have hs:s1=6:=hs;have hb:mf.fr=base:=hb;subst hk hs;have kB:=ER hE (by rw[hb];decide);rw[hb,show aU base=tok from rfl,show tok.k=6 from rfl,show tok.a=0 from rfl,show tok.b=0 from rfl,show tok.x=0 from rfl,show tok.y=0 from rfl]at kB;have hD2:=fun W (t:Touch [] wT W)=>oD (hE.touch t (by simp));have hF2:=fun W (t:Touch [] wT W)=>nO (hE.touch t (by simp));have CH:=hid (And.intro hD2 (And.intro hF2 hb));clear hE hb hD2 hF2 Wu;go_wp2_with fail;refine Hu.mono ?_;rintro _ _ ⟨rfl,rfl⟩;clear Hu;go_wp2_with fail;refine kB.mono ?_;rintro _ wU ⟨⟨ta,tn,tc,rfl⟩,tU⟩;have bF:=aF.new wU 45 #[.int .i64 6,.int .i64 0,.int .i64 0,.int .i64 0,.int .i64 0,.slice ta tn tc];have tF:=(tR wU).alloc (.cells #[.int .i64 6,.int .i64 0,.int .i64 0,.int .i64 0,.int .i64 0,.slice ta tn tc] 45);have tW:=tU.trans tF (by simp);obtain⟨x,hx⟩:∃x,wU.heap.size=x:=⟨_,rfl⟩;rw[hx]at bF;clear kB tF;go_upto_region 16 with fail;generalize wU.alloc (.cells #[.int .i64 6,.int .i64 0,.int .i64 0,.int .i64 0,.int .i64 0,.slice ta tn tc] 45)=wV at*;clear hx;have x0:wV.cell? ⟨x,0,none⟩=some (.int .i64 6):=bF.cell 0;have y1:=ah tW y1;have MG:=CH.out.2.1 wV tW;have Zj:=CH.out.1 wV tW;rw[CH.out.2.2,show((base.length:Nat):Int)=2 from rfl]at Zj;have HTW:=hid (HT.out.trans tW (by simp));clear tU tW bF y0 CH;go_wp2_with fail;refine MG.mono ?_;rintro _ _ ⟨rfl,rfl⟩;clear MG;go_wp2_with fail;refine Zj.mono ?_;rintro _ _ ⟨rfl,rfl⟩;clear Zj;go_wp2_with fail;go_ret;exact⟨rfl,HTW.out⟩
   ·have hk:k=4:=hk;have hs:mf.S.st=[]:=hs;have hb:mf.fr=[]:=hb;subst hk;have ug:=sP hE;have ub:=hE.iU;have bj:=yP hE;rw[hb]at Wu;rw[hs]at bj;clear hE hb hs;generalize mf.S.k=kz at*;go_wp2_with fail;refine Hu.mono ?_;rintro _ _ ⟨rfl,rfl⟩;clear Hu;go_wp2_with fail;refine Wu.mono ?_;rintro _ _ ⟨rfl,rfl⟩;clear Wu;go_wp2_with fail;refine ug.mono ?_;rintro _ _ ⟨rfl,rfl⟩;clear ug;go_wp2_with fail;refine ub.mono ?_;rintro _ _ ⟨rfl,rfl⟩;clear ub;go_wp2_with fail;refine bj.mono ?_;rintro _ _ ⟨rfl,rfl⟩;clear bj;go_wp2_with fail;go_ret;exact⟨rfl,HT.out⟩
end En
end Go.Proofs.YtdokeddjcpnmiaaGreatDoor
