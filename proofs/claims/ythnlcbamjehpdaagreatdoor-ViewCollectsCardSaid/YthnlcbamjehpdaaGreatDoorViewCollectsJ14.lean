/- Part 14. -/
import Derived.Test.YthnlcbamjehpdaaGreatDoorViewCollectsJ13
import Derived.WideKeyEntry
namespace Go.Proofs.YthnlcbamjehpdaaGreatDoor
set_option linter.unusedVariables false
set_option maxHeartbeats 16000000
set_option maxRecDepth 100000
section
open Go Go.RowKit
open Go.ChangeMaps Go.MapKept Go.WideElems in
section
variable {w w':World} {Z:Pz} {P:Pgr} {z:Nat} {t:TypeId}
def zH1:List TypeId:= [199,246,145,288,3,78,5]
theorem Pg.other(p:Pg w Z P)(hz:z0G w z=some (some t))(ht:t∉zH1)(hg:w.grownBy w' (some z)):Pg w' Z P:=by
 have hne:∀ {u:TypeId},u∈zH1->z0G w z≠some (some u):=fun hu e=>by
  rw [hz]at e;injection e with e
  injection e with e
  exact ht (by rw [e];exact hu)
 have hbk:∀ {g:Nat} {u:TypeId} {cs:Array Value},Blk w g u cs->u∈zH1->Blk w' g u cs:=fun {g u cs} hb hu=>hb.grown hg fun e=>by
  injection e with e
  subst e;exact hne hu (z0I hb)
 have hmap:∀ {b:Nat},z0G w b=some none->b≠z:=fun hb e=>by
  subst e;rw [hz]at hb;cases hb
 refine⟨p.dk.other hz ?_ hg,⟨hbk p.mt.blk (by simp [zH1])⟩,hbk p.blk (by simp [zH1]),⟨p.tb.in90,p.tb.mp.other (hmap p.tb.kind) hg⟩,⟨p.wr.in90,p.wr.mp.other (hmap p.wr.kind) (hne (by simp [zH1])) hg⟩,⟨p.gn.in90,p.gn.mp.other (hmap p.gn.kind) hg⟩,p.n1,p.n2,p.n3,p.m1,p.m2,p.m3⟩;intro hm;apply ht;simp only [y9,yH,yp]at hm;simp only [zH1,y9,yH,yp];rcases hm with h|h|h|h|h<;>simp [h]
end
end
end Go.Proofs.YthnlcbamjehpdaaGreatDoor
