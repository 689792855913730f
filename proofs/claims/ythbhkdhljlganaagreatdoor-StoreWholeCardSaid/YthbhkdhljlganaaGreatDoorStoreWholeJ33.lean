/- Part 33. -/
import Derived.Test.YthbhkdhljlganaaGreatDoorStoreWholeJ19
import Derived.Test.YthbhkdhljlganaaGreatDoorStoreWholeJ27
namespace Go.Proofs.YthbhkdhljlganaaGreatDoor
set_option linter.unusedVariables false
set_option maxHeartbeats 16000000
set_option maxRecDepth 100000
section
open Go Go.RowKit
set_option linter.unusedSimpArgs false
section
variable {P:Program} {ops:Array Oper} {st:List TrP} {w0:World}
variable {Q:Act→World→Prop} {a:Act} {o:Oper} {rest:List Oper} {Ds:List DP} {env:List (Value×VP)}
theorem zG1{D:DP}(hw:Region.wanted o (yielded ops a.tmps)=true)(hs:st.find? (fun p=>p.i==env.length)=none)
 (h1:∀w,Turn (trX ops st env.length) w0 w→(∀e∈o.after,Region.binds .any e=true→∀ (x:Value) (W:VP),env[e.on]? =some (x,W)→W x w)→z06 P o a w (D (yOf env)))
 (h2:∀x,(∃w,Turn (trE st) w0 w∧D (yOf env) x w)→∀K:Act→Prop,(∀a',z27 P ops (trR ops st w0) Q rest Ds (env++ [(x,D (yOf env))]) a'→K a')→K (a.put o.dst x)):z27 P ops (trR ops st w0) Q (o::rest) (D::Ds) env a:=by
 refine⟨?_,fun x hx=>h2 x hx _ fun _ h=>h⟩;rw [if_pos hw];intro w hC hf;have h3:=h1 w hC hf;have eS:(trR ops st w0).S env.length=fun w w'=>Below w.heap.size w w':=by funext w w';simp only [trR,zGO,hs]
 rw [eS];unfold z06 at h3;unfold steps
 revert h3
 cases (execOp a.eval o).run P w with
 |ok n w'=>
  cases n<;>simp only [z0J,z0l]<;>first|exact fun h=>h|exact fun h=>h.2.mono fun e w'' ⟨v,he,hb,hv⟩=>⟨v,he,z1O h.1 hb,hv⟩
 |halt x w'=>simp only [z0J,z0l];exact fun h=>h
theorem zCC{c:Value}(hw:Region.wanted o (yielded ops a.tmps)=true)(hs:st.find? (fun p=>p.i==env.length)=none)
 (h1:∀w,Turn (trX ops st env.length) w0 w→(∀e∈o.after,Region.binds .any e=true→∀ (x:Value) (W:VP),env[e.on]? =some (x,W)→W x w)→z06 P o a w (Is c))
 (h2:∀K:Act→Prop,(∀a',z27 P ops (trR ops st w0) Q rest Ds (env++ [(c,Is c)]) a'→K a')→K (a.put o.dst c)):z27 P ops (trR ops st w0) Q (o::rest) (DIs c::Ds) env a:=
 zG1 (D:=DIs c) hw hs h1 fun x ⟨_,_,hx⟩=>by
  obtain rfl:x=c:=hx;exact h2
def TrP.put(i g:Nat)(t:TypeId)(n:Nat):TrP:=⟨i,fun b=>b=g,zEM ⟨i,g,t,0,n⟩,fun _ _ h=>zB1 h⟩
theorem zBk{i g n:Nat}{t:TypeId}{V:VP}{w:World}(ty:TypeId)(x y:Operand){cs:Array Value}(ho:o.op= .store ty x y)(hx:a.eval x= .pointer (some ⟨g,0,none⟩))(hy:a.eval y= .agg cs)(hi:(P.info? ty).map (·.size)=some cs.size)(h1:cs.all (·.oneCell')=true)
 {old:Array Value} (hb:Blk w g t old) (hold:old.size=cs.size) (hn:n=cs.size) (hV:V undef (w.setRow g cs)):steps P o a w (zEM ⟨i,g,t,0,n⟩) V:=by
 have hrun:(execOp a.eval o).run P w= .ok .skip (w.setRow g cs):=by
  unfold execOp;simp only [ho,hx,hy,Instr.storeAt,Instr.sureAddr,Sem.run_bind,Sem.run_pure,Result.andThen_ok,run_storeVar_row w g t ty old cs hb hi hold h1]
 have hpt:zEM ⟨i,g,t,0,n⟩ w (w.setRow g cs):=⟨old,cs,hb,hold.symm,fun k hk=>by
  have:cs.size≤k:=by
   rcases Nat.lt_or_ge k cs.size with h5|h5
   ·exact absurd ⟨rfl,Nat.zero_le _,by simp only;omega⟩ hk
   ·exact h5
  rw [Array.getElem?_eq_none this,Array.getElem?_eq_none (by omega)],rfl⟩
 unfold steps;rw [hrun];exact⟨hpt,hV⟩
theorem okD_v2{V:VP}{j i:Nat}(h1:Stays V)(hw:z15 ops j i=true)(h2:∀p∈st,p.i=j∨p.i=i):okD ops st j (DV V):=z9B h1 fun p hp hn hwt=>by
 rcases h2 p hp with h|h
 ·exact absurd h hn
 ·rw [h,hw]at hwt;cases hwt
theorem zBN(w:World)(g:Nat)(cs:Array Value):Turn (fun b=>b=g) w (w.setRow g cs):=⟨rfl,rfl,rfl,by rw [z3k];exact Nat.le_refl _,fun b _ hn=>z2m w g cs b hn⟩
theorem zIq{j b:Nat}(h:∀p∈st,p.i=j∨z15 ops p.i j=true∨¬p.F b):¬trX ops st j b:=by
 rintro⟨p,hp,h1,h2,h3⟩;rcases h p hp with h4|h4|h4
 ·exact h1 h4
 ·rw [h4]at h2;cases h2
 ·exact h4 h3
theorem z59{j:Nat}(h:∀p∈st,p.i=j∨z15 ops p.i j=true){w:World}(hT:Turn (trX ops st j) w0 w):Below w0.heap.size w0 w:=
 ⟨hT.os,hT.tape,hT.output,hT.size,fun b hb=>hT.block b hb (by
   rintro⟨p,hp,h1,h2,_⟩;rcases h p hp with h3|h3
   ·exact h1 h3
   ·rw [h3]at h2;cases h2)⟩
end
end
end Go.Proofs.YthbhkdhljlganaaGreatDoor
