/- Of EngineClean: PHead. -/
import Derived.Test.YtdokeddjcpnmiaaGreatDoorQFindNone
set_option maxRecDepth 100000
set_option maxHeartbeats 200000
namespace Go.Proofs.YtdokeddjcpnmiaaGreatDoor
open Go.RowKit Go.Proofs.Tryz
theorem Sub.touch{w w1:World}{F:List Nat}(hF:∀x∈F,w.heap.size≤x)(t:Touch [] w w1){w2:World}(t2:Touch F w1 w2):Touch [] w w2:=t.trans t2 (fun g hg=>.inr (hF g hg))
theorem Sub.new{w w1:World}{F F':List Nat}(hF:∀x∈F,w.heap.size≤x)(hs:Sub w1 F F')(hz:w.heap.size≤w1.heap.size):∀x∈F',w.heap.size≤x:=fun x hx=>by
 rcases hs x hx with h|h
 ·exact hF x h
 ·omega
theorem tM{w:World}{s:Nat}{F:List Nat}{S:PS}(h:aC w s F S)(hl:S.st.length≤128):Calls prog 26 #[.pointer (some ⟨S.k,0,none⟩)] w fun e w'=>∃v,e=.returned v∧w'.ownsRow w.heap.size 33 1 v S.st.length (cells S.st)∧Touch [] w w':=by
 obtain⟨FS,ov,mv,hp,_⟩:=h;exact vF w S.k FS S.st hp.iO (by omega)
end Go.Proofs.YtdokeddjcpnmiaaGreatDoor
