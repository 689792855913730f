/- Part 38. -/
import Derived.Test.YthnlcbamjehpdaaGreatDoorViewCollectsJ35
import Derived.Test.YthnlcbamjehpdaaGreatDoorViewCollectsJ37
namespace Go.Proofs.YthnlcbamjehpdaaGreatDoor
set_option linter.unusedVariables false
set_option maxHeartbeats 16000000
set_option maxRecDepth 100000
section
open Go Go.RowKit
end
section
open Go
def fP(n:Nat):Pgr:=z20 (Dsk.new n) 0 200 0 1 (0,fun _=>none)
theorem zF1(n:Nat)(i:Int):(fP n).has i=false:=rfl
theorem zF2(n:Nat)(c:Int->List UInt8):RepP (fP n) c []:=by
 have hp:∀i,(fP n).pg c i=none:=fun i=>by unfold Pgr.pg Pgr.page;rw [zF1];rfl
 refine⟨⟨fun i p=> ?_,by simp,fun q hq=>by cases hq⟩,fun i=>by rw [zF1,hp];rfl⟩;rw [hp];constructor
 .intro h;cases h
 .rintro⟨m,_,h⟩;cases h
theorem zCV:POk (true,0,[]):=by
 refine POk.mk' (by decide) rfl ?_;have:=z5K (next:=0) (cs:= []) (by omega) (by simp);show z2v ((0:Nat):Int) []<=2048;simp [z07]at this;simp;omega
def fT(n:Nat):Pgr:=(fP n).wp 0 (true,0,[])
theorem zBF(Q:Prm)(n:Nat)(c:Int->List UInt8):Tree Q (fT n) c 0 (show Ct 0 from(0,[])):=by
 have h:=(zF2 n c).new (i:=0) (x:=(true,0,[])) (by simp) (by omega) zCV;refine⟨h,⟨List.Pairwise.nil,fun x hx=>by cases hx⟩,fun q hq=> ?_,⟨rfl,trivial⟩,trivial,by unfold z9S Ct.n;simp⟩;obtain rfl:=yJ.1 (show q∈ [(0,((true,0,[]):Pag))]from hq);exact⟨zCV,by unfold KOk;simp⟩
theorem opP_fP(n:Nat):opP (fP n)=fT n:=by
 have:(fP n).pages.length=0:=by
  have:=(zF2 n (fun _=> [])).len;simpa using this
 unfold opP;rw [yB this];rfl
end
section
open Go Go.RowKit
theorem z5i(S S':Nat->Prop)(va vb:Value)(us vs:List Cel)(w:World)(ha:Cs S w va us)(hb:Cs S' w vb vs):
 Calls Tryz.prog 23 #[va,vb] w fun e w'=>e= .returned (.bool (decide (us=vs)))/\Below w.heap.size w w':=by
 obtain⟨A,c,rfl,hlc,hcm,hA0,hA⟩:=ha.at;obtain⟨B,d,rfl,hld,hdm,hB0,hB⟩:=hb.at;have HA:=zz hA;have HB:=zz hB;have hm:us.length<=9223372036854775807:=by unfold maxLen at hcm;omega
 clear hA hB ha hb;by_cases hlen:us.length=vs.length
 .have HL:=zz hlen;have hlen1:us.length<=vs.length:=by omega
  have hlen2:((us.length:Int) != (vs.length:Int))=false:=by rw [hlen];simp
  clear hlen;go_enter Tryz.func23,Tryz.ntmps23
  go_wp2_with fail
  go_loopw [5] (fun iv wr=>∃i:Nat,iv= .int .i64 (i:Int)/\i<=us.length/\Hid (us.take i=vs.take i)/\∃n,wr=w.drewN n) (fun iv _=>us.length-(intOf iv).toNat)
  case atStart=>exact⟨0,rfl,by omega,by simp [Hid],0,rfl⟩
  case round=>
   obtain⟨i,rfl,hi,ht,n,rfl⟩:=hrel;by_cases hil:i<us.length
   .obtain⟨b,o,rfl,_,hca⟩:=HA.out (by omega);obtain⟨b',o',rfl,_,hcb⟩:=HB.out (by omega);have hvl:i<vs.length:=by omega
    have c0:=(hca i hil).1;have c1:=(hca i hil).2;have d0:=(hcb i hvl).1;have d1:=(hcb i hvl).2;have HS:Hid (us[i]=vs[i]->us.take (i+1)=vs.take (i+1)):=fun h=>by rw [yO hil,yO hvl,h,ht.out]
    have HN:Hid (us[i]≠vs[i]->decide (us=vs)=false):=fun h=>yZ (fun e=>h (by subst e;rfl))
    clear hca hcb;generalize us[i]=x at*;generalize vs[i]=y at*;obtain⟨q,t⟩:=x;obtain⟨q',t'⟩:=y;simp only at c0 c1 d0 d1;by_cases hxy:q=q'/\t=t'
    .obtain⟨rfl,rfl⟩:=hxy;have HE:=zz (HS.out rfl);go_wp2_with fail
     go_quiet (fail)
     go_wp2_with fail
     go_roundw
     case rel=>exact⟨i+1,by go_num,by omega,HE,_,rfl⟩
     case measure=>simp [intOf];omega
    .have HE:=zz (HN.out (fun e=>hxy (by injection e with a b;exact⟨a,b⟩)));by_cases hq:q=q'
     .subst hq;have ht':¬t=t':=fun e=>hxy ⟨rfl,e⟩
      go_wp2_with fail
      go_quiet (fail)
      go_wp2_with fail
      go_ret
      exact⟨by rw [HE.out];rfl,below_drewN (below_drewN (y7 _ _) _) _⟩
     .go_wp2_with fail
      go_quiet (fail)
      go_wp2_with fail
      go_ret
      exact⟨by rw [HE.out];rfl,below_drewN (below_drewN (y7 _ _) _) _⟩
   .obtain rfl:i=us.length:=by omega
    have HE:Hid (decide (us=vs)=true):=by
     have:=ht.out;rw [YG,HL.out,YG]at this;simp [Hid,this]
    go_wp2_with fail
    go_ret
    exact⟨by rw [HE.out];rfl,below_drewN (y7 _ _) _⟩
 .have HE:Hid (decide (us=vs)=false):=yZ (fun e=>hlen (by rw [e]));have t1:((us.length:Int) != (vs.length:Int))=true:=by rw [Yn];omega
  clear hlen;go_enter Tryz.func23,Tryz.ntmps23
  go_wp2_with fail
  go_ret
  exact⟨by rw [HE.out];rfl,y7 _ _⟩
end
section
open Go
variable {P:Pgr} {c:Int->List UInt8} {cs:List Cel}
end
section
open Go Go.RowKit
end
section
open Go
end
section
open Go Go.RowKit
theorem Tree.on{Q:Prm}{P:Pgr}{c:Int->List UInt8}{D:Nat}{t:Ct D}(T:Tree Q P c D t)(D':Dsk):Tree Q (P.on D') c D t:=by
 obtain⟨⟨a1,a2⟩,h2,h3,h4,h5,h6⟩:=T;exact⟨⟨a1,a2⟩,h2,h3,h4,h5,h6⟩
theorem z8E:∀ (l:List Chg) (L:List Cel),(z2P L l).length<=L.length+z2A l
 | [],L=>Zv _ _
 |x::r,L=>by
  have h1:=z8E r (z8v L x);have h2:=zHH L x;rw [zDt];show(z2P (z8v L x) r).length<=_;omega
structure Only(l:Wl):Prop where
 a:l.a=802
 n:l.n=8
 size:l.size=16
 out:∀y,(y<802∨930<=y)->l.D.view y=none
 siz:l.D.size=1000
 lim:l.D.limit=1000
section
variable {Q:Prm} {w W W':World} {gs g gl hdd:Nat} {Z Z':Pz} {P P':Pgr} {c:Int->List UInt8} {l l':Wl} {R:List (List UInt8)} {L:List Cel}
theorem Sop.to_below(o:Sop gl Z W Z' W')(hb:Below w.heap.size w W)(hn:∀b,Z.has b->w.heap.size<=b)(hl:w.heap.size<=gl):Below w.heap.size w W'/\∀b,Z'.has b->w.heap.size<=b:=by
 refine⟨Turn.below hb o.turn hb.size fun b h=>h.elim (hn b) fun e=>e▸hl,fun b h=> ?_⟩;rcases o.has b h with h|h
 .exact hn b h
 .exact yD hb.size h
theorem Kin.chgsP(c:Int->List UInt8):∀ (l:List Chg) (P:Pgr) (L:List Cel),Kin P (chgsP c P L l)
 | [],P,L=>Kin.refl P
 |x::r,P,L=>(Kin.chgP P c L x).trans (Kin.chgsP c r _ _)
end
theorem fP_on(D:Dsk)(n:Nat):z20 D 0 200 0 1 (0,fun _=>none)=(fP n).on D:=rfl
theorem zBR(D:Dsk)(n:Nat):opP (z20 D 0 200 0 1 (0,fun _=>none))=(fT n).on D:=by
 have h:opP (fP n)=fT n:=opP_fP n;have e:∀P:Pgr,P.pages.length=0->opP (P.on D)=(opP P).on D:=fun P hP=>by
  unfold opP;rw [yB hP,yB (show(P.on D).pages.length=0 from hP)];unfold Pgr.wp Pgr.write
  split<;>rfl
 have h0:(fP n).pages.length=0:=by
  unfold Pgr.pages;rw [List.length_eq_zero_iff,YX];intro i _;rw [zF1];simp
 rw [fP_on D n,e _ h0,h]
structure Bare(D:Dsk):Prop where
 ok:D.Ok
 out:∀y,(y<802∨930<=y)->D.view y=none
 siz:D.size=1000
 lim:D.limit=1000
 pend:D.pend= []
 ground:D.ground=D.view
 ng:D.ng=D.nv
 low:∀y,(D.view y).isSome=true->y<D.size
theorem Bare.pr{D:Dsk}(b:Bare D)(c:Int->List UInt8):Pr (z20 D 0 200 0 1 (0,fun _=>none)) c:=by
 refine⟨b.ok,fun i p l h=>(by cases h),fun x q h=>(by cases h),by simp [z20],by simp [z20]⟩
theorem Bare.new:Bare (Dsk.new 1000):=⟨Dsk.Ok.new (by omega) (by omega),fun _ _=>rfl,rfl,rfl,rfl,rfl,rfl,fun y h=>by cases h⟩
end
end Go.Proofs.YthnlcbamjehpdaaGreatDoor
