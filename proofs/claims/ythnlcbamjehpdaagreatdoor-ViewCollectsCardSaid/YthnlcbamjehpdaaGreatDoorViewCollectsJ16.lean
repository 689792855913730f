/- Part 16. -/
import Derived.Test.YthnlcbamjehpdaaGreatDoorViewCollectsJ15
namespace Go.Proofs.YthnlcbamjehpdaaGreatDoor
set_option linter.unusedVariables false
set_option maxHeartbeats 16000000
set_option maxRecDepth 100000
section
open Go Go.RowKit
theorem zBf{l:List UInt8}{q:Nat}{t:List UInt8}{n:Nat}(h:z1h l=some ((q,t),n)):t.length<=65536:=by
 unfold z1h at h
 split at h
 .cases h
 .split at h
  .cases h
  .rename_i f hf;have h1:=(zCf f (e:=0) (by omega)).2.2;have:=(zAd (z16 f 0).2.1 (e:=(z16 f 0).2.2) h1).1
   split at h
   .simp only [YH,Ze]at h;rw [<-h.1.2];exact this
   .cases h
theorem zE8{o:Option (List UInt8)}{q:Nat}{t:List UInt8}(h:z2l o=some (q,t)):t.length<=65536:=by
 cases o with
 |none=>cases h
 |some s=>
  have h:z7c s=some (q,t):=h;unfold z7c at h
  split at h
  .rename_i q' t' n hg
   split at h
   .simp only [YH,Ze]at h;rw [<-h.2];exact zBf hg
   .cases h
  .cases h
theorem z8R(f:SF)(a:Int)(x:Nat×Int×List UInt8)(i:Int)(h:x.2.2.length<=65536):(z5x f a x i).2.2.length<=65536:=by
 rw [z44];cases ht:z2l (f (a+i))with
 |none=>exact h
 |some p=>
  obtain⟨q,t⟩:=p;simp only
  split
  .exact zE8 ht
  .exact h
theorem zDg(f:SF)(a:Int):(z1q f a).2.2.length<=65536:=z8R f a _ 1 (z8R f a _ 0 (by simp))
def PoPost(h:Zn)(D:Dsk)(a:Int)(n:Nat)(w:World)(e:Ending)(w':World):Prop:=
 ((∃P Z,z8Y D a n=some P/\e= .returned (.tuple #[.pointer (some ⟨Z.g,0,none⟩),.int .i64 0])/\Pg w' Z P/\Z.h=h/\P.tag<U64/\∀b,Z.has b->h.has b∨w.heap.size<=b)∨
   (z8Y D a n=none/\e= .returned (.tuple #[.pointer none,.int .i64 134])))/\Below w.heap.size w w'
theorem Pg.made{w:World}{h:Zn}{D:Dsk}{gm:Nat}{a:Int}{num:Nat}{last:Int}(n:Nat)(hd:Dk w h D)(hm:Mk w gm h a num last):
 Pg ((((w.alloc (.map #[] 0)).alloc (.map #[] 0)).alloc (.map #[] 0)).alloc (.cells #[.pointer (some ⟨h.g,0,none⟩),.pointer (some ⟨gm,0,none⟩),.int .i64 a,.int .i64 (n:Int),.int .u64 0,.map (some w.heap.size),.map (some (w.heap.size+1)),.map (some (w.heap.size+1+1))] 199))
  ⟨w.heap.size+1+1+1,gm,w.heap.size,w.heap.size+1,w.heap.size+1+1,h⟩ (z20 D a n num last (0,fun _=>none)):=by
 have s1:(w.alloc (.map #[] 0)).heap.size=w.heap.size+1:=by simp
 have s2:((w.alloc (.map #[] 0)).alloc (.map #[] 0)).heap.size=w.heap.size+1+1:=by simp
 have s3:(((w.alloc (.map #[] 0)).alloc (.map #[] 0)).alloc (.map #[] 0)).heap.size=w.heap.size+1+1+1:=by simp
 have q1:Below w.heap.size w (w.alloc (.map #[] 0)):=(y7 _ _).alloc (y5 _) _;have q2:Below (w.heap.size+1) (w.alloc (.map #[] 0)) ((w.alloc (.map #[] 0)).alloc (.map #[] 0)):=by
  have:=(y7 (w.alloc (.map #[] 0)).heap.size (w.alloc (.map #[] 0))).alloc (y5 _) (.map #[] 0)
  rwa [s1]at this
 have q3:Below (w.heap.size+1+1) ((w.alloc (.map #[] 0)).alloc (.map #[] 0)) (((w.alloc (.map #[] 0)).alloc (.map #[] 0)).alloc (.map #[] 0)):=by
  have:=(y7 ((w.alloc (.map #[] 0)).alloc (.map #[] 0)).heap.size ((w.alloc (.map #[] 0)).alloc (.map #[] 0))).alloc (y5 _) (.map #[] 0)
  rwa [s2]at this
 have q4:=fun o=>(y7 (((w.alloc (.map #[] 0)).alloc (.map #[] 0)).alloc (.map #[] 0)).heap.size (((w.alloc (.map #[] 0)).alloc (.map #[] 0)).alloc (.map #[] 0))).alloc (y5 _) o
 have q13:=fun o=>((q1.trans (q2.mono (by omega))).trans (q3.mono (by omega))).trans ((q4 o).mono (by rw [s3];omega))
 have t1:=Tbl.made w;have t2:=Wrt.made (w.alloc (.map #[] 0));have t3:=Gon.made ((w.alloc (.map #[] 0)).alloc (.map #[] 0));rw [s1]at t2;rw [s2]at t3;have b4:=Blk.new (((w.alloc (.map #[] 0)).alloc (.map #[] 0)).alloc (.map #[] 0)) 199 #[.pointer (some ⟨h.g,0,none⟩),.pointer (some ⟨gm,0,none⟩),.int .i64 a,.int .i64 (n:Int),.int .u64 0,.map (some w.heap.size),.map (some (w.heap.size+1)),.map (some (w.heap.size+1+1))];rw [s3]at b4;have hlt:∀b,h.has b->b<w.heap.size:=fun b hb=>hd.lt hb
 refine⟨hd.later (q13 _),hm.later (q13 _),b4,?_,?_,t3.later (by rw [s3]at q4;rw [s3];exact q4 _),by simp,by simp;omega,by simp,fun e=> ?_,fun e=> ?_,fun e=> ?_⟩
 .exact((t1.later (by rw [s1];exact q2)).later (by rw [s2];exact q3)).later (q4 _)
 .exact(t2.later (by rw [s2];exact q3)).later (q4 _)
 .have:=hlt _ e;simp at this
 .have:=hlt _ e;simp at this;omega
 .have:=hlt _ e;simp at this;omega
end
end Go.Proofs.YthnlcbamjehpdaaGreatDoor
