/- Part 32. -/
import Derived.Test.YthnlcbamjehpdaaGreatDoorViewCollectsJ18
import Derived.Test.YthnlcbamjehpdaaGreatDoorViewCollectsJ26
namespace Go.Proofs.YthnlcbamjehpdaaGreatDoor
set_option linter.unusedVariables false
set_option maxHeartbeats 16000000
set_option maxRecDepth 100000
section
open Go Go.RowKit
set_option linter.unusedSimpArgs false
section
variable {P:Program} {ops:Array Oper} {st:List TrP} {w0:World}
variable {Q:Act->World->Prop} {a:Act} {o:Oper} {rest:List Oper} {Ds:List DP} {env:List (Value×VP)}
theorem zGu{D:DP}(hw:Region.wanted o (yielded ops a.tmps)=true)(hs:st.find? (fun p=>p.i==env.length)=none)
 (h1:∀w,Turn (trX ops st env.length) w0 w->(∀e∈o.after,Region.binds .any e=true->∀ (x:Value) (W:VP),env[e.on]? =some (x,W)->W x w)->z03 P o a w (D (yOf env)))
 (h2:∀x,(∃w,Turn (trE st) w0 w/\D (yOf env) x w)->∀K:Act->Prop,(∀a',z21 P ops (trR ops st w0) Q rest Ds (env++ [(x,D (yOf env))]) a'->K a')->K (a.put o.dst x)):z21 P ops (trR ops st w0) Q (o::rest) (D::Ds) env a:=by
 refine⟨?_,fun x hx=>h2 x hx _ fun _ h=>h⟩;rw [yB hw];intro w hC hf;have h3:=h1 w hC hf;have eS:(trR ops st w0).S env.length=fun w w'=>Below w.heap.size w w':=by funext w w';simp only [trR,zGO,hs]
 rw [eS];unfold z03 at h3;unfold steps
 revert h3
 cases (execOp a.eval o).run P w with
 |ok n w'=>
  cases n<;>simp only [z0H,z0i]<;>first|exact fun h=>h|exact fun h=>h.2.mono fun e w'' ⟨v,he,hb,hv⟩=>⟨v,he,z1M h.1 hb,hv⟩
 |halt x w'=>simp only [z0H,z0i];exact fun h=>h
theorem z4Y{c:Value}(hw:Region.wanted o (yielded ops a.tmps)=true)(hs:st.find? (fun p=>p.i==env.length)=none)
 (h1:∀w,Turn (trX ops st env.length) w0 w->(∀e∈o.after,Region.binds .any e=true->∀ (x:Value) (W:VP),env[e.on]? =some (x,W)->W x w)->z03 P o a w (Is c))
 (h2:∀K:Act->Prop,(∀a',z21 P ops (trR ops st w0) Q rest Ds (env++ [(c,Is c)]) a'->K a')->K (a.put o.dst c)):z21 P ops (trR ops st w0) Q (o::rest) (DIs c::Ds) env a:=
 zGu (D:=DIs c) hw hs h1 fun x ⟨_,_,hx⟩=>by
  obtain rfl:x=c:=hx;exact h2
def TrP.put(i g:Nat)(t:TypeId)(n:Nat):TrP:=⟨i,fun b=>b=g,zDB ⟨i,g,t,0,n⟩,fun _ _ h=>zAm h⟩
theorem zBn{i g n:Nat}{t:TypeId}{V:VP}{w:World}(ty:TypeId)(x y:Operand){cs:Array Value}(ho:o.op= .store ty x y)(hx:a.eval x= .pointer (some ⟨g,0,none⟩))(hy:a.eval y= .agg cs)(hi:(P.info? ty).map (·.size)=some cs.size)(h1:cs.all (·.oneCell')=true)
 {old:Array Value} (hb:Blk w g t old) (hold:old.size=cs.size) (hn:n=cs.size) (hV:V undef (w.setRow g cs)):steps P o a w (zDB ⟨i,g,t,0,n⟩) V:=by
 have hrun:(execOp a.eval o).run P w= .ok .skip (w.setRow g cs):=by
  unfold execOp;simp only [ho,hx,hy,Instr.storeAt,Instr.sureAddr,ZV,ZW,Ym,run_storeVar_row w g t ty old cs hb hi hold h1]
 have hpt:zDB ⟨i,g,t,0,n⟩ w (w.setRow g cs):=⟨old,cs,hb,hold.symm,fun k hk=>by
  have:cs.size<=k:=by
   rcases Y5 k cs.size with h5|h5
   .exact absurd ⟨rfl,yU _,by simp only;omega⟩ hk
   .exact h5
  rw [YK this,YK (by omega)],rfl⟩
 unfold steps;rw [hrun];exact⟨hpt,hV⟩
theorem zIv{V:VP}{j i:Nat}(h1:Stays V)(hw:z0t ops j i=true)(h2:∀p∈st,p.i=j∨p.i=i):okD ops st j (DV V):=z7C h1 fun p hp hn hwt=>by
 rcases h2 p hp with h|h
 .exact absurd h hn
 .rw [h,hw]at hwt;cases hwt
theorem z7e(w:World)(g:Nat)(cs:Array Value):Turn (fun b=>b=g) w (w.setRow g cs):=⟨rfl,rfl,rfl,by rw [z2k];exact y5 _,fun b _ hn=>z1T w g cs b hn⟩
theorem zBq{j b:Nat}(h:∀p∈st,p.i=j∨z0t ops p.i j=true∨¬p.F b):¬trX ops st j b:=by
 rintro⟨p,hp,h1,h2,h3⟩;rcases h p hp with h4|h4|h4
 .exact h1 h4
 .rw [h4]at h2;cases h2
 .exact h4 h3
theorem z1s{j:Nat}(h:∀p∈st,p.i=j∨z0t ops p.i j=true){w:World}(hT:Turn (trX ops st j) w0 w):Below w0.heap.size w0 w:=
 ⟨hT.os,hT.tape,hT.output,hT.size,fun b hb=>hT.block b hb (by
   rintro⟨p,hp,h1,h2,_⟩;rcases h p hp with h3|h3
   .exact h1 h3
   .rw [h3]at h2;cases h2)⟩
end
end
end Go.Proofs.YthnlcbamjehpdaaGreatDoor
