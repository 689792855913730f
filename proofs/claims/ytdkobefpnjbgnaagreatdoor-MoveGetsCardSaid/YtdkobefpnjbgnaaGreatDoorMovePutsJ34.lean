/- Part 34. -/
import Derived.Test.YtdkobefpnjbgnaaGreatDoorMovePutsJ30
import Derived.Test.YtdkobefpnjbgnaaGreatDoorMovePutsJ31
import Derived.Test.YtdkobefpnjbgnaaGreatDoorMovePutsJ33
namespace Go.Proofs.YtdkobefpnjbgnaaGreatDoor
set_option linter.unusedVariables false
set_option maxHeartbeats 16000000
set_option maxRecDepth 100000
section
open Go Go.RowKit
end
section
open Go
def fP(n:Nat):Pgr:=z1Q (Dsk.new n) 0 200 0 1 (0,fun _=>none)
theorem zFI(n:Nat)(i:Int):(fP n).has i=false:=rfl
theorem zF5(n:Nat)(c:Int→List UInt8):RepP (fP n) c []:=by
 have hp:∀i,(fP n).pg c i=none:=fun i=>by unfold Pgr.pg Pgr.page;rw [zFI];rfl
 refine⟨⟨fun i p=> ?_,by simp,fun q hq=>by cases hq⟩,fun i=>by rw [zFI,hp];rfl⟩;rw [hp];constructor
 ·intro h;cases h
 ·rintro⟨m,_,h⟩;cases h
theorem zBw:POk (true,0,[]):=by
 refine POk.mk' (by decide) rfl ?_;have:=z4z (next:=0) (cs:= []) (by omega) (by simp);show z4W ((0:Nat):Int) []≤2048;simp [z0D]at this;simp;omega
def fT(n:Nat):Pgr:=(fP n).wp 0 (true,0,[])
theorem z94(Q:Prm)(n:Nat)(c:Int→List UInt8):Tree Q (fT n) c 0 (show Ct 0 from(0,[])):=by
 have h:=(zF5 n c).new (i:=0) (x:=(true,0,[])) (by simp) (by omega) zBw;refine⟨h,⟨List.Pairwise.nil,fun x hx=>by cases hx⟩,fun q hq=> ?_,⟨rfl,trivial⟩,trivial,by unfold zD0 Ct.n;simp⟩;obtain rfl:=List.mem_singleton.1 (show q∈ [(0,((true,0,[]):Pag))]from hq);exact⟨zBw,by unfold KOk;simp⟩
theorem opP_fP(n:Nat):opP (fP n)=fT n:=by
 have:(fP n).pages.length=0:=by
  have:=(zF5 n (fun _=> [])).len;simpa using this
 unfold opP;rw [if_pos this];rfl
end
section
open Go Go.RowKit
end
section
open Go
variable {P:Pgr} {c:Int→List UInt8} {cs:List Cel}
end
section
open Go Go.RowKit
section
variable {w0 w:World} {g:Nat} {Z:Pz} {P:Pgr} {c:Int→List UInt8} {cs:List Cel}
end
end
section
open Go
section
variable {j:Nat} {ks:List (Kid j)} {a:Nat}
end
end
section
open Go Go.RowKit
theorem Tree.on{Q:Prm}{P:Pgr}{c:Int→List UInt8}{D:Nat}{t:Ct D}(T:Tree Q P c D t)(D':Dsk):Tree Q (P.on D') c D t:=by
 obtain⟨⟨a1,a2⟩,h2,h3,h4,h5,h6⟩:=T;exact⟨⟨a1,a2⟩,h2,h3,h4,h5,h6⟩
theorem z7X:∀ (l:List Chg) (L:List Cel),(z3Z L l).length≤L.length+z2N l
 | [],L=>Nat.le_add_right _ _
 |x::r,L=>by
  have h1:=z7X r (z9W L x);have h2:=zGe L x;rw [zCv];show(z3Z (z9W L x) r).length≤_;omega
structure Zero(P:Pgr):Prop where
 a:P.a=0
 n:P.n=200
 num:P.num=0
 last:P.last=1
 tag:P.tag=0
 tb:P.tb=fun _=>none
structure Only(l:Wl):Prop where
 a:l.a=802
 n:l.n=8
 size:l.size=16
 out:∀y,(y<802∨930≤y)→l.D.view y=none
 siz:l.D.size=1000
 lim:l.D.limit=1000
section
variable {Q:Prm} {w W W':World} {gs g gl hdd:Nat} {Z Z':Pz} {P P':Pgr} {c:Int→List UInt8} {l l':Wl} {R:List (List UInt8)} {L:List Cel}
theorem Sop.to_below(o:Sop gl Z W Z' W')(hb:Below w.heap.size w W)(hn:∀b,Z.has b→w.heap.size≤b)(hl:w.heap.size≤gl):Below w.heap.size w W'∧∀b,Z'.has b→w.heap.size≤b:=by
 refine⟨Turn.below hb o.turn hb.size fun b h=>h.elim (hn b) fun e=>e▸hl,fun b h=> ?_⟩;rcases o.has b h with h|h
 ·exact hn b h
 ·exact Nat.le_trans hb.size h
theorem Kin.zero{P P':Pgr}(k:Kin P P')(z:Zero P):Zero P':=⟨k.a.trans z.a,k.n.trans z.n,k.num.trans z.num,k.last.trans z.last,k.tag.trans z.tag,k.tb.trans z.tb⟩
theorem Kin.chgsP(c:Int→List UInt8):∀ (l:List Chg) (P:Pgr) (L:List Cel),Kin P (chgsP c P L l)
 | [],P,L=>Kin.refl P
 |x::r,P,L=>(Kin.chgP P c L x).trans (Kin.chgsP c r _ _)
theorem Zero.on(z:Zero P)(D:Dsk):Zero (P.on D):=⟨z.a,z.n,z.num,z.last,z.tag,z.tb⟩
end
theorem Zero.new(D:Dsk):Zero (opP (z1Q D 0 200 0 1 (0,fun _=>none))):=by
 have e:opP (z1Q D 0 200 0 1 (0,fun _=>none))=(z1Q D 0 200 0 1 (0,fun _=>none)).wp 0 (true,0,[]):=rfl;rw [e];exact(Kin.wp _ _ _).zero ⟨rfl,rfl,rfl,rfl,rfl,rfl⟩
theorem fP_on(D:Dsk)(n:Nat):z1Q D 0 200 0 1 (0,fun _=>none)=(fP n).on D:=rfl
theorem z8H(D:Dsk)(n:Nat):opP (z1Q D 0 200 0 1 (0,fun _=>none))=(fT n).on D:=by
 have h:opP (fP n)=fT n:=opP_fP n;have e:∀P:Pgr,P.pages.length=0→opP (P.on D)=(opP P).on D:=fun P hP=>by
  unfold opP;rw [if_pos hP,if_pos (show(P.on D).pages.length=0 from hP)];unfold Pgr.wp Pgr.write
  split<;>rfl
 have h0:(fP n).pages.length=0:=by
  unfold Pgr.pages;rw [List.length_eq_zero_iff,List.filter_eq_nil_iff];intro i _;rw [zFI];simp
 rw [fP_on D n,e _ h0,h]
structure Bare(D:Dsk):Prop where
 ok:D.Ok
 out:∀y,(y<802∨930≤y)→D.view y=none
 siz:D.size=1000
 lim:D.limit=1000
 pend:D.pend= []
 ground:D.ground=D.view
 ng:D.ng=D.nv
 low:∀y,(D.view y).isSome=true→y<D.size
theorem Bare.pr{D:Dsk}(b:Bare D)(c:Int→List UInt8):Pr (z1Q D 0 200 0 1 (0,fun _=>none)) c:=by
 refine⟨b.ok,fun i p l h=>(by cases h),fun x q h=>(by cases h),by simp [z1Q],by simp [z1Q]⟩
theorem Bare.new:Bare (Dsk.new 1000):=⟨Dsk.Ok.new (by omega) (by omega),fun _ _=>rfl,rfl,rfl,rfl,rfl,rfl,fun y h=>by cases h⟩
end
end Go.Proofs.YtdkobefpnjbgnaaGreatDoor
