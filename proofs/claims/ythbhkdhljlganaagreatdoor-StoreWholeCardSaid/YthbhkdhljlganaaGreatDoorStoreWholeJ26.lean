/- Part 26. -/
import Derived.Test.YthbhkdhljlganaaGreatDoorStoreWholeJ12
import Derived.Test.YthbhkdhljlganaaGreatDoorStoreWholeJ25
namespace Go.Proofs.YthbhkdhljlganaaGreatDoor
set_option linter.unusedVariables false
set_option maxHeartbeats 16000000
set_option maxRecDepth 100000
section
open Go Go.RowKit
theorem z3P(g:Nat)(Z:Pz)(P:Pgr)(c:Int→List UInt8)(S:Nat→Prop)(leaf:Bool)(n:Nat)(v0:Value)(cs:List Cel)(w:World)(ht:Tg w g Z P c)(hm:Mid cs)(hn:n≤1000000)(hr:Cs S w v0 cs):
 Calls Tryz.prog 112 #[.pointer (some ⟨g,0,none⟩),.agg #[.bool leaf,.int .i64 (n:Int),v0]] w fun e w'=>e= .returned (.int .i64 ((P.al (leaf,n,cs)).2:Int))∧z1S g Z (P.al (leaf,n,cs)).1 c w w':=by
 have HT:=zz ht;have HR:=zz hr.lt;obtain⟨A,c1,rfl,_⟩:=hr.at;have HQ0:=zz ((Below.refl w.heap.size w).alloc (Nat.le_refl _) (.cells #[.bool leaf,.int .i64 (n:Int),.slice A cs.length c1] 36));have hb0:Blk (w.alloc (.cells #[.bool leaf,.int .i64 (n:Int),.slice A cs.length c1] 36)) w.heap.size 36 #[.bool leaf,.int .i64 (n:Int),.slice A cs.length c1]:=Blk.new _ _ _;have HT0:=zz (ht.later HQ0.out);have HR0:=zz (HR.out.up HQ0.out);clear ht hr;have d0:(w.alloc (.cells #[.bool leaf,.int .i64 (n:Int),.slice A cs.length c1] 36)).cell? ⟨w.heap.size,0,none⟩=some (.bool leaf):=hb0.cell 0;have d1:(w.alloc (.cells #[.bool leaf,.int .i64 (n:Int),.slice A cs.length c1] 36)).cell? ⟨w.heap.size,1,none⟩=some (.int .i64 (n:Int)):=hb0.cell 1;have d2:(w.alloc (.cells #[.bool leaf,.int .i64 (n:Int),.slice A cs.length c1] 36)).cell? ⟨w.heap.size,2,none⟩=some (.slice A cs.length c1):=hb0.cell 2;clear hb0;go_enter Tryz.func112,Tryz.ntmps112
 generalize hW:w.alloc (.cells #[.bool leaf,.int .i64 (n:Int),.slice A cs.length c1] 36)=W at*;go_wp2_with fail
 refine(z7U _ leaf (n:Int) _ cs W HT0.out.bits (by omega) hm HR0.out).mono ?_;rintro e w1 ⟨hok,hno,hb1⟩;have HT1:=zz (HT0.out.later hb1);have HQ1:=zz (HQ0.out.trans (hb1.mono HQ0.out.size));have e0:w1.cell? ⟨g,0,none⟩=some (.pointer (some ⟨Z.g,0,none⟩)):=HT1.out.blk.cell 0;have HPB:Hid (pgB (leaf,n,cs)=if z1M (n:Int) cs=0 then z7O (pgF leaf (n:Int) cs)else []):=rfl;have HL:=zGL (leaf,n,cs);have HWP:Hid (P.al (leaf,n,cs)=((P.alloc (pgB (leaf,n,cs))).1,(P.alloc (pgB (leaf,n,cs))).2.1)):=rfl;generalize pgB (leaf,n,cs)=b at*;have fin:∀ (w2:World),z6a Z (P.alloc b).1 w1 w2→z1S g Z (P.al (leaf,n,cs)).1 c w w2:=fun w2 hd=>by
  rw [HWP.out];exact⟨HT1.out.done hd (Kin.alloc P b),(Ptp.below HQ1.out).trans hd.2⟩
 have FIN:=zz fin;clear fin;by_cases hc:z1M (n:Int) cs=0
 ·obtain⟨A2,k2,c2,rfl,hob⟩:=hok hc;rw [if_pos hc]at HPB;have HB:=HPB.out;subst HB;have HOB:=zz hob;clear hok hno hb1 hob hc;go_wp2_with fail
  refine(z8V Z P _ _ _ w1 HT1.out.pg HOB.out.bs (by omega)).mono ?_;rintro e w2 ⟨rfl,hd⟩;go_wp2_with fail
  go_ret
  exact⟨by rw [HWP.out];rfl,FIN.out w2 hd⟩
 ·obtain rfl:=hno hc;rw [if_neg hc]at HPB;have HB:=HPB.out;subst HB;clear hok hno hb1 hc;go_wp2_with fail
  refine(z8V Z P (fun _=>True) _ [] w1 HT1.out.pg (Bs.nilv _ _) (by simp)).mono ?_;rintro e w2 ⟨rfl,hd⟩;go_wp2_with fail
  go_ret
  exact⟨by rw [HWP.out];rfl,FIN.out w2 hd⟩
theorem zDT(S:Nat→Prop)(leaf:Bool)(n:Nat)(v0:Value)(cs:List Cel)(key:List UInt8)(w:World)(hl:cs.length≤100000)(hr:Cs S w v0 cs)(hri:RisesP cs):
 Calls Tryz.prog 87 #[.agg #[.bool leaf,.int .i64 (n:Int),v0],.string (st key)] w fun e w'=>e= .returned (.int .i64 (z1w cs key:Int))∧Below w.heap.size w w':=by
 have HR:=zz hr.lt;obtain⟨A,c1,rfl,_⟩:=hr.at;have HQ0:=zz ((Below.refl w.heap.size w).alloc (Nat.le_refl _) (.cells #[.bool leaf,.int .i64 (n:Int),.slice A cs.length c1] 36));have hb0:Blk (w.alloc (.cells #[.bool leaf,.int .i64 (n:Int),.slice A cs.length c1] 36)) w.heap.size 36 #[.bool leaf,.int .i64 (n:Int),.slice A cs.length c1]:=Blk.new _ _ _;have HR0:=zz (HR.out.up HQ0.out);clear hr;have d0:(w.alloc (.cells #[.bool leaf,.int .i64 (n:Int),.slice A cs.length c1] 36)).cell? ⟨w.heap.size,0,none⟩=some (.bool leaf):=hb0.cell 0;have d1:(w.alloc (.cells #[.bool leaf,.int .i64 (n:Int),.slice A cs.length c1] 36)).cell? ⟨w.heap.size,1,none⟩=some (.int .i64 (n:Int)):=hb0.cell 1;have d2:(w.alloc (.cells #[.bool leaf,.int .i64 (n:Int),.slice A cs.length c1] 36)).cell? ⟨w.heap.size,2,none⟩=some (.slice A cs.length c1):=hb0.cell 2;clear hb0;go_enter Tryz.func87,Tryz.ntmps87
 generalize hW:w.alloc (.cells #[.bool leaf,.int .i64 (n:Int),.slice A cs.length c1] 36)=W at*;go_wp2_with fail
 refine(z4L _ leaf (n:Int) _ cs key W (by omega) HR0.out hri).mono ?_;rintro e w1 ⟨rfl,hb1⟩;have HQ1:=zz (HQ0.out.trans (hb1.mono HQ0.out.size));have hK:=z1W cs key;have HBN:Hid (z1w cs key=if isK cs key then z03 cs key else z03 cs key-1):=rfl;generalize z03 cs key=K at*;clear hb1 hri;cases hk:isK cs key with
 |true=>
  rw [hk,if_pos rfl]at HBN;have h1:(if(K:Int)<0 then(0:Int)else(K:Int))=(K:Int):=if_neg (by omega);go_wp2_with fail
  go_ret
  exact⟨by rw [HBN.out];rfl,HQ1.out⟩
 |false=>
  rw [hk]at HBN;simp only [Bool.false_eq_true,if_false]at HBN;have h2:IntKind.i64.wrap ((K:Int)-1)=(K:Int)-1:=z1B (by omega) (by omega);go_wp2_with fail
  go_ret
  have h3:max ((K:Int)-1) 0=((K-1:Nat):Int):=by omega
  exact⟨by rw [HBN.out,←h3];rfl,HQ1.out⟩
def stC(s:TStp)(v:Value):List Value:= [.int .i64 s.id,.int .i64 (s.at_:Int),.bool s.pg.1,.int .i64 (s.pg.2.1:Int),v]
abbrev z8C:=List (TStp×Value)
def wsC(l:z8C):List Value:=l.flatMap fun x=>stC x.1 x.2
theorem zBu(a b:z8C):wsC (a++b)=wsC a++wsC b:=by simp [wsC]
theorem zFb(s:TStp)(v:Value):wsC [(s,v)]=stC s v:=by simp [wsC]
theorem zBG(l:z8C):(wsC l).length=l.length*5:=by
 induction l with
 |nil=>rfl
 |cons x l ih=>
  have e:wsC (x::l)=stC x.1 x.2++wsC l:=by simp [wsC]
  rw [e,List.length_append,ih,List.length_cons];simp [stC];omega
theorem z9E:Elem Tryz.prog 104 138 (.agg #[.int .i64 0,.int .i64 0,.bool false,.int .i64 0,.slice none 0 0]) 5 56:=Elem.mk' Tryz.underlying104 (by kernel_rfl) rfl (by omega)
theorem Sl.newb{S:Nat→Prop}(w:World)(e:TypeId)(cs:List Value){g:Nat}(hg:g=w.heap.size)(hS:S g):Sl S (w.alloc (.cells cs.toArray e)) cs.length (.slice (some ⟨g,0,none⟩) 1 1) 1 cs:=by
 subst hg;refine⟨by simp,_,1,rfl,by omega,by simp [maxLen],(fun h=>by cases h),fun _=>⟨_,0,rfl,hS,fun j u hu=> ?_⟩⟩;rw [Nat.zero_add];have:=(Blk.new w e cs.toArray).cell j;rw [this,List.getElem?_toArray];exact hu
structure Wy(w:World)(B:Nat)(v:Value)(l:z8C):Prop where
 own:w.ownsRow B 138 5 v l.length (wsC l)
 cs:∀x∈l,Cs (fun b=>B≤b∧b<w.heap.size∧v.ownBlock≠some b) w x.2 x.1.pg.2.2
structure Wsl(S:Nat→Prop)(w:World)(v:Value)(l:z8C):Prop where
 sl:Sl S w 5 v l.length (wsC l)
 cs:∀x∈l,Cs S w x.2 x.1.pg.2.2
section
variable {w w':World} {B:Nat} {v:Value} {l:z8C}
theorem z0n{e:TypeId}{size n:Nat}{xs:List Value}(h:w.ownsRow B e size v n xs)(hb:Below w.heap.size w w'):w'.ownsRow B e size v n xs:=by
 obtain⟨h1,h2⟩:=h;refine⟨h1,?_⟩;rcases h2 with h2|⟨g,cap,cur,hv,hg,hh,r⟩
 ·exact .inl h2
 ·exact .inr ⟨g,cap,cur,hv,hg,(hb.block g (lt_of_block hh)).trans hh,r⟩
theorem Wy.nil(w:World)(B:Nat):Wy w B (.slice none 0 0) []:=⟨World.ownsRow_nil w B _ 5,fun x hx=>by cases hx⟩
theorem Wy.later(h:Wy w B v l)(hb:Below w.heap.size w w'):Wy w' B v l:=
 ⟨z0n h.own hb,fun x hx=>(Sl.below (h.cs x hx) hb fun b h=>h.2.1).more fun b h=>⟨h.1,Nat.lt_of_lt_of_le h.2.1 hb.size,h.2.2⟩⟩
theorem Wy.push{w2:World}{v':Value}(h:Wy w B v l){s:TStp}{u:Value}(hown:w2.ownsRow B 138 5 v' (l.length+1) (wsC l++stC s u))(hg:w.grownBy w2 v.ownBlock)(hat:v'.ownBlock=v.ownBlock∨v'.ownBlock=some w.heap.size)
 (hu:Cs (fun b=>B≤b∧b<w.heap.size∧v.ownBlock≠some b) w u s.pg.2.2):Wy w2 B v' (l++ [(s,u)]):=by
 have keep:∀ {u:Value} {cs:List Cel},Cs (fun b=>B≤b∧b<w.heap.size∧v.ownBlock≠some b) w u cs→Cs (fun b=>B≤b∧b<w2.heap.size∧v'.ownBlock≠some b) w2 u cs:=fun h=>
  (Sl.grown h hg (fun b h=>h.2.1) (fun b h e=>h.2.2 e.symm)).more fun b h=>⟨h.1,Nat.lt_of_lt_of_le h.2.1 hg.size,fun e=>by
    rcases hat with h5|h5
    ·exact h.2.2 (h5▸e)
    ·rw [h5]at e;injection e with e
     have:=h.2.1;omega⟩
 refine⟨?_,fun x hx=> ?_⟩
 ·rw [List.length_append,zBu,zFb];exact hown
 ·rcases List.mem_append.1 hx with hx|hx
  ·exact keep (h.cs x hx)
  ·obtain rfl:=List.mem_singleton.1 hx;exact keep hu
theorem Wy.step{w0 w3:World}{v':Value}(h:Wy w w0.heap.size v l)(hB:Below w0.heap.size w0 w){o:Obj}{s:TStp}{u:Value}(hown:w3.ownsRow w0.heap.size 138 5 v' (l.length+1) (wsC l++stC s u))(hg:(w.alloc o).grownBy w3 v.ownBlock)
 (hat:v'.ownBlock=v.ownBlock∨v'.ownBlock=some (w.alloc o).heap.size) (hu:Cs (fun b=>w0.heap.size≤b∧b<w.heap.size∧v.ownBlock≠some b) w u s.pg.2.2):Wy w3 w0.heap.size v' (l++ [(s,u)])∧Below w0.heap.size w0 w3:=by
 have q:=(Below.refl w.heap.size w).alloc (Nat.le_refl _) o;have h2:=h.later q;have hB2:=hB.alloc hB.size o;refine⟨h2.push hown hg hat ((Sl.below hu q fun b h=>h.2.1).more fun b h=>⟨h.1,Nat.lt_of_lt_of_le h.2.1 q.size,h.2.2⟩),z01 hB2 h2.own hg hB2.size⟩
theorem Wy.wsl(h:Wy w B v l):Wsl (fun b=>B≤b∧b<w.heap.size) w v l:=⟨Sl.of_own (by omega) h.own,fun x hx=>(h.cs x hx).more fun b h=>⟨h.1,h.2.1⟩⟩
end
def sLen:Value→Nat| .slice _ n _=>n|_=>0
structure WaySt(w wr:World)(pf:Int→Pag)(key:List UInt8)(L:List TStp)(v:Value)(done:z8C)(rest:List TStp)(i:Int)(n:Nat):Prop where
 own:Wy wr w.heap.size v done
 way:z38 pf key n i=some rest
 all:done.map (·.1)++rest=L
 below:Below w.heap.size w wr
 ini:InI i
theorem z1X(v:List UInt8):InI (z0E v):=by
 rcases z8R v with h|h
 ·rw [h];unfold InI;omega
 ·unfold InI;omega
theorem z0p{x:Pag}(h:POk x):x.2.2.length≤1100∧x.2.1≤256:=by
 have h1:=zAl (x:=x);have h2:=h.parts;omega
theorem Cs.get{S:Nat→Prop}{w:World}{b o c:Nat}{cs:List Cel}(h:Cs S w (.slice (some ⟨b,o,none⟩) cs.length c) cs){j:Nat}(hj:j<cs.length):
 w.cell? ⟨b,o+j*2,none⟩=some (.string (st cs[j].1))∧w.cell? ⟨b,o+j*2+1,none⟩=some (.string (st cs[j].2)):=by
 obtain⟨A,c',hv,_,_,_,hA⟩:=h.at;injection hv with hv _ _
 obtain⟨b',o',hb,_,hc⟩:=hA (by omega);rw [←hv]at hb;injection hb with hb
 injection hb with h1 h2
 subst h1 h2;exact hc j hj
theorem Cs.some{S:Nat→Prop}{w:World}{A:Option Addr}{n c:Nat}{cs:List Cel}(h:Cs S w (.slice A n c) cs)(h0:0<cs.length):∃b o,A=some ⟨b,o,none⟩:=by
 obtain⟨A',c',hv,_,_,_,hA⟩:=h.at;injection hv with hv _ _
 obtain⟨b',o',hb,_,hc⟩:=hA h0;exact⟨b',o',hv.trans hb⟩
theorem z1C{cs:List Cel}{j:Nat}(h:j<cs.length):cellAt cs j=cs[j]:=by
 unfold cellAt;rw [List.getElem?_eq_getElem h];rfl
def zIf(L:List TStp)(w:World)(e:Ending)(w':World):Prop:=
 ∃A k c' ls,e= .returned (.slice A k c')∧Wsl (fun b=>w.heap.size≤b∧b<w'.heap.size) w' (.slice A k c') ls∧ls.map (·.1)=L∧Below w.heap.size w w'
theorem z6U(g:Nat)(Z:Pz)(P:Pgr)(c:Int→List UInt8)(key:List UInt8)(n0:Nat)(L:List TStp)(w:World)(ht:Tg w g Z P c)(hw:z38 (P.pgD c) key n0 0=some L)(hL:L.length≤100000):
 Calls Tryz.prog 44 #[.pointer (some ⟨g,0,none⟩),.string (st key)] w (zIf L w):=by
 have HT:=zz ht;have R0:Hid (WaySt w w (P.pgD c) key L (.slice none 0 0) [] L 0 n0):=⟨Wy.nil _ _,hw,rfl,Below.refl _ _,by unfold InI;omega⟩;clear ht hw;go_enter Tryz.func44,Tryz.ntmps44
 go_wp2_with fail
 go_loopw [5,6] (fun lv iv wr=>∃ (A:Option Addr) (k c':Nat) (done:z8C) (rest:List TStp) (i:Int) (n:Nat),lv= .slice A k c'∧iv= .int .i64 i∧Hid (WaySt w wr (P.pgD c) key L (.slice A k c') done rest i n)) (fun lv _ _=>L.length-sLen lv)
 case atStart=>exact⟨none,0,0,[],L,0,n0,rfl,rfl,R0⟩
 case round=>
  clear R0;obtain⟨A,k,c',done,rest,i,n,rfl,rfl,R⟩:=hrel;have HTR:=zz (HT.out.later R.out.below);have hk:k=done.length:=z0Q R.out.own.own;subst hk;go_wp2_with fail
  refine(z2W g Z P c i wr HTR.out R.out.ini).mono ?_;rintro e w1 ⟨v,rfl,⟨A1,c1,rfl,hcs⟩,hb1⟩;have hok:=z77 P c i;have hlen:=z0p hok;have hstep:(((P.pgD c i).1=true∨(P.pgD c i).2.2= [])∧rest= [⟨i,0,P.pgD c i⟩])∨(¬ ((P.pgD c i).1=true∨(P.pgD c i).2.2= [])∧∃n' rest',z38 (P.pgD c) key n' (z0E (cellAt (P.pgD c i).2.2 (z1w (P.pgD c i).2.2 key)).2)=some rest'∧rest=⟨i,z1w (P.pgD c i).2.2 key,P.pgD c i⟩::rest'):=by
   have h:=R.out.way;rcases n with _|n
   ·cases h
   ·rw [z38]at h
    split at h
    ·rename_i hc;injection h with h
     exact .inl ⟨hc,h.symm⟩
    ·rename_i hc;rw [Option.map_eq_some_iff]at h;obtain⟨r,h1,h2⟩:=h;exact .inr ⟨hc,n,r,h1,h2.symm⟩
  have HSTEP:=zz hstep;have HOK:=zz hok;have HI:=zz R.out.ini;have HQ1:=zz (R.out.below.trans (hb1.mono R.out.below.size));have HY1:=zz (R.out.own.later hb1);have HALL:=zz R.out.all;have hwr:=R.out.below.size;have HCS:Hid (Cs (fun b=>w.heap.size≤b∧b<w1.heap.size∧(Value.slice A done.length c').ownBlock≠some b) w1 (.slice A1 (P.pgD c i).2.2.length c1) (P.pgD c i).2.2):=hcs.more fun b h=>⟨by omega,h.2,fun e=>by have:=R.out.own.own.lt b e;omega⟩
  have hz1:=hb1.size;clear hok hstep hcs hb1 R HTR;have hdl:done.length≤L.length:=by rw [←HALL.out];simp
  generalize P.pgD c i=X at*;obtain⟨leaf,nx,cs⟩:=X;simp only at HCS hlen ⊢;have hb0:Blk (w1.alloc (.cells #[.bool leaf,.int .i64 (nx:Int),.slice A1 cs.length c1] 36)) w1.heap.size 36 #[.bool leaf,.int .i64 (nx:Int),.slice A1 cs.length c1]:=Blk.new _ _ _;have d0:(w1.alloc (.cells #[.bool leaf,.int .i64 (nx:Int),.slice A1 cs.length c1] 36)).cell? ⟨w1.heap.size,0,none⟩=some (.bool leaf):=hb0.cell 0;have d1:(w1.alloc (.cells #[.bool leaf,.int .i64 (nx:Int),.slice A1 cs.length c1] 36)).cell? ⟨w1.heap.size,1,none⟩=some (.int .i64 (nx:Int)):=hb0.cell 1;have d2:(w1.alloc (.cells #[.bool leaf,.int .i64 (nx:Int),.slice A1 cs.length c1] 36)).cell? ⟨w1.heap.size,2,none⟩=some (.slice A1 cs.length c1):=hb0.cell 2;have QA:=(Below.refl w1.heap.size w1).alloc (Nat.le_refl _) (.cells #[.bool leaf,.int .i64 (nx:Int),.slice A1 cs.length c1] 36);have HQA:=zz QA;have HB0:=zz hb0;have HYA:=zz (HY1.out.later QA);have HCSA:Hid (Cs (fun b=>w.heap.size≤b∧b<(w1.alloc (.cells #[.bool leaf,.int .i64 (nx:Int),.slice A1 cs.length c1] 36)).heap.size∧(Value.slice A done.length c').ownBlock≠some b) (w1.alloc (.cells #[.bool leaf,.int .i64 (nx:Int),.slice A1 cs.length c1] 36)) (.slice A1 cs.length c1) cs):=
   (Sl.below HCS.out QA fun b h=>h.2.1).more fun b h=>⟨h.1,by have:=h.2.1;simp;omega,h.2.2⟩
  have HQ2:=zz (HQ1.out.trans (QA.mono HQ1.out.size));clear hb0 QA HY1 HCS HQ1;by_cases hend:leaf=true∨cs= []
  ·have hrest:rest= [⟨i,0,(leaf,nx,cs)⟩]:=by
    rcases HSTEP.out with h|h
    ·exact h.2
    ·exact absurd hend h.1
   subst hrest;have HF:Hid (done.map (·.1)++ [⟨i,0,(leaf,nx,cs)⟩]=L):=HALL.out;clear HSTEP HALL;cases leaf with
   |true=>
    go_wp2_with (at_builtin;refine z02 _ rfl (.tmp 24) (.tmp 28) z9E rfl (z0n HYA.out.own ((Below.refl _ _).alloc (Nat.le_refl _) _)) (Sl.newb (S:=fun _=>True) _ _ (stC ⟨i,0,(true,nx,cs)⟩ (.slice A1 cs.length c1)) (by simp) trivial) rfl rfl (by intro y hy;simp [stC]at hy;rcases hy with rfl|rfl|rfl|rfl|rfl<;>rfl) (by simp only [maxLen];omega) (by omega) (by simp;omega) ?_;intro A3 k3 c3 w3 hown3 hg3 hat3)
    obtain⟨y1,y2⟩:=HYA.out.step HQ2.out hown3 hg3 hat3 HCSA.out;go_ret
    exact⟨A3,k3,c3,_,rfl,y1.wsl,by rw [←HF.out];simp,y2⟩
   |false=>
    have hcs0:cs= []:=hend.resolve_left (by simp);have hcl0:((cs.length:Int)==0)=true:=by rw [hcs0];rfl
    clear hcs0 hend;go_wp2_with (at_builtin;refine z02 _ rfl (.tmp 24) (.tmp 28) z9E rfl (z0n HYA.out.own ((Below.refl _ _).alloc (Nat.le_refl _) _)) (Sl.newb (S:=fun _=>True) _ _ (stC ⟨i,0,(false,nx,cs)⟩ (.slice A1 cs.length c1)) (by simp) trivial) rfl rfl (by intro y hy;simp [stC]at hy;rcases hy with rfl|rfl|rfl|rfl|rfl<;>rfl) (by simp only [maxLen];omega) (by omega) (by simp;omega) ?_;intro A3 k3 c3 w3 hown3 hg3 hat3)
    obtain⟨y1,y2⟩:=HYA.out.step HQ2.out hown3 hg3 hat3 HCSA.out;go_ret
    exact⟨A3,k3,c3,_,rfl,y1.wsl,by rw [←HF.out];simp,y2⟩
  ·obtain⟨n',rest',hwf,hrest⟩:∃n' rest',z38 (P.pgD c) key n' (z0E (cellAt cs (z1w cs key)).2)=some rest'∧rest=⟨i,z1w cs key,(leaf,nx,cs)⟩::rest':=by
    rcases HSTEP.out with h|h
    ·exact absurd h.1 hend
    ·exact h.2
   subst hrest;have HWF:=zz hwf;have HF:Hid (done.map (·.1)++⟨i,z1w cs key,(leaf,nx,cs)⟩::rest'=L):=HALL.out;have hlf:leaf=false:=by cases leaf with
    |true=>exact absurd (.inl rfl) hend
    |false=>rfl
   subst hlf;have hcl:0<cs.length:=List.length_pos_iff.2 fun e=>hend (.inr e)
   have hcl0:¬ (cs.length:Int)=0:=by omega
   clear HSTEP HALL hend hwf;go_wp2_with fail
   generalize hW1:w1.alloc (.cells #[.bool false,.int .i64 (nx:Int),.slice A1 cs.length c1] 36)=W1 at*;refine(zDT _ false nx _ cs key W1 (by omega) HCSA.out HOK.out.asc.rises).mono ?_;rintro e w2 ⟨rfl,hb2⟩;have HY2:=zz (HYA.out.later hb2);have HQ3:=zz (HQ2.out.trans (hb2.mono HQ2.out.size));have HCS2:Hid (Cs (fun b=>w.heap.size≤b∧b<w2.heap.size∧(Value.slice A done.length c').ownBlock≠some b) w2 (.slice A1 cs.length c1) cs):=(Sl.below HCSA.out hb2 fun b h=>h.2.1).more fun b h=>⟨h.1,Nat.lt_of_lt_of_le h.2.1 hb2.size,h.2.2⟩
   have hb0:=HB0.out.later hb2;have d0:w2.cell? ⟨w1.heap.size,0,none⟩=some (.bool false):=hb0.cell 0;have d1:w2.cell? ⟨w1.heap.size,1,none⟩=some (.int .i64 (nx:Int)):=hb0.cell 1;have d2:w2.cell? ⟨w1.heap.size,2,none⟩=some (.slice A1 cs.length c1):=hb0.cell 2;have hz2:=hb0.lt;have HB2:=zz hb0;have hbn:z1w cs key<cs.length:=by
    have:=z1W cs key;unfold z1w
    split
    ·rename_i h;exact z7o h
    ·omega
   clear hb0 hb2 HCSA HYA HQ2;generalize hN:z1w cs key=N at*;have hN0:(0:Int)≤(N:Int):=by omega
   have hN1:(N:Int)<(cs.length:Int):=by omega
   have hcell:=z1C hbn;have HCEL:=zz hcell;obtain⟨bb,oo,rfl⟩:=HCS2.out.some hcl;have hsm:=z18 none _ HOK.out.parts.2.1 _ (List.getElem_mem hbn);clear hcell;go_wp2_with (at_builtin;refine z02 _ rfl (.tmp 33) (.tmp 38) z9E rfl (z0n HY2.out.own ((Below.refl _ _).alloc (Nat.le_refl _) _)) (Sl.newb (S:=fun _=>True) _ _ (stC ⟨i,N,(false,nx,cs)⟩ (.slice (some ⟨bb,oo,none⟩) cs.length c1)) (by simp) trivial) rfl rfl (by intro y hy;simp [stC]at hy;rcases hy with rfl|rfl|rfl|rfl|rfl<;>rfl) (by simp only [maxLen];omega) (by omega) (by simp;omega) ?_;intro A3 k3 c3 w3 hown3 hg3 hat3;have hb3:=Blk.kept (HB2.out.alloc _) (z0n HY2.out.own ((Below.refl _ _).alloc (Nat.le_refl _) _)) hg3 (by decide);have e2:w3.cell? ⟨w1.heap.size,2,none⟩=some (.slice (some ⟨bb,oo,none⟩) cs.length c1):=hb3.cell 2;obtain⟨y1,y2⟩:=HY2.out.step HQ3.out hown3 hg3 hat3 HCS2.out;have hc3:=Cs.get (y1.cs (⟨i,N,(false,nx,cs)⟩,.slice (some ⟨bb,oo,none⟩) cs.length c1) (by simp)) hbn;have f1:=hc3.1;have f2:=hc3.2;have Y1:=zz y1;have Y2:=zz y2;clear hb3 y1 y2 hc3 hown3 hg3 hat3)
   refine(z3Y _ _ w3 (by omega)).mono ?_;rintro e w4 ⟨rfl,hb4⟩;have R4:Hid (WaySt w w4 (P.pgD c) key L (.slice A3 k3 c3) (done++ [(⟨i,N,(false,nx,cs)⟩,.slice (some ⟨bb,oo,none⟩) cs.length c1)]) rest' (z0E cs[N].2) n'):=by
    refine⟨Y1.out.later hb4,?_,?_,Y2.out.trans (hb4.mono Y2.out.size),z1X _⟩
    ·have:=HWF.out;rw [HCEL.out]at this;exact this
    ·rw [List.map_append,List.append_assoc];exact HF.out
   obtain rfl:k3=done.length+1:=by have:=z0Q R4.out.own.own;simpa using this
   have hll:done.length+1≤L.length:=by rw [←HF.out];simp
   clear hb4 Y1 Y2;go_wp2_with fail
   go_roundw
   case rel=>exact⟨A3,done.length+1,c3,_,rest',_,n',rfl,rfl,R4⟩
   case measure=>simp [sLen];omega
theorem zDf(g:Nat)(Z:Pz)(P:Pgr)(c:Int→List UInt8)(n0:Nat)(L:List TStp)(w:World)(ht:Tg w g Z P c)(hw:z38 (P.pgD c) [] n0 0=some L)(hL:L.length≤100000):
 Calls Tryz.prog 12 #[.pointer (some ⟨g,0,none⟩)] w fun e w'=>e= .returned (.int .i64 (L.length:Int))∧Below w.heap.size w w':=by
 have HT:=zz ht;have HW:=zz hw;clear ht hw;go_enter Tryz.func12,Tryz.ntmps12
 go_wp2_with fail
 refine(z6U g Z P c [] n0 L w HT.out HW.out hL).mono ?_;rintro e w1 ⟨A,k,c',ls,rfl,hs,hm,hb⟩;have hk:k=L.length:=by
  have:=hs.sl;obtain⟨_,A',c2,hv,_⟩:=this;injection hv with _ h2 _
  rw [h2,←hm,List.length_map]
 subst hk;go_wp2_with fail
 go_ret
 exact⟨rfl,hb⟩
theorem z7e:Elem Tryz.prog 52 116 (.agg #[.string ⟨#[]⟩,.string ⟨#[]⟩,.bool false]) 3 40:=Elem.mk' Tryz.underlying52 (by kernel_rfl) rfl (by omega)
def z7w(s:List UInt8×Nat):Chg×(List UInt8×Nat):=
 let t:=z0O s.1 s.2
 let f:=z1g t.2.1 t.2.2
 if f.1 then(⟨t.1,[],true⟩,f.2)else
  let v:=z0O f.2.1 f.2.2
  (⟨t.1,v.1,false⟩,v.2)
def z1h:Nat→List UInt8×Nat→List Chg→List Chg×(List UInt8×Nat)
 |0,s,acc=>(acc,s)
 |n+1,s,acc=>z1h n (z7w s).2 (acc++ [(z7w s).1])
def z1G(l:List UInt8):List Chg×Bool:=
 let c:=z0U l 0 11
 let p:=z1h c.1 c.2 []
 (p.1,z1u p.2.1 p.2.2==0)
theorem zBb{c i:Nat}(h:i<c)(s:List UInt8×Nat)(acc:List Chg):z1h (c-i) s acc=z1h (c-(i+1)) (z7w s).2 (acc++ [(z7w s).1]):=by
 rw [show c-i=c-(i+1)+1 by omega,z1h]
def Wo(w:World)(B:Nat)(v:Value)(l:List Chg):Prop:=w.ownsRow B 116 3 v l.length (chs l)
theorem Rd.keptCh{w w':World}{g B B':Nat}{l:List UInt8}{err:Nat}(h:Rd w g B l err){size n:Nat}{v:Value}{xs:List Value}(ho:w.ownsRow B' 116 size v n xs)(hg:w.grownBy w' v.ownBlock):Rd w' g B l err:=by
 obtain⟨A,k,c,h1,h2⟩:=h;refine⟨A,k,c,h1.kept ho hg (by decide),h2.keep fun b hb=> ?_⟩;obtain⟨_,cs,fz,hh⟩:=hb;refine hg.block b (lt_of_block hh) fun e=> ?_
 rcases ho.2 with⟨rfl,_⟩|⟨g',cap,cur,rfl,_,hh',_⟩
 ·cases e
 ·simp only [Value.ownBlock,Option.some.injEq]at e;subst e;rw [hh]at hh';injection hh' with hh'
  injection hh' with _ he
  exact absurd he (by decide)
theorem Wo.beside{w w':World}{B:Nat}{v:Value}{cs:List Chg}(h:Wo w B v cs){g B':Nat}{l:List UInt8}{err:Nat}(hr:Rd w g B' l err)(hg:w.grownBy w' (some g)):Wo w' B v cs:=by
 obtain⟨_,hb⟩:=hr.blk;exact z8q h hb (by decide) hg
theorem z4T{w:World}{B:Nat}{e:TypeId}{size n:Nat}{v:Value}{xs:List Value}(h:w.ownsRow B e size v n xs){gx:Nat}(hne:v.ownBlock≠some gx)(i:Nat)(u:Value):(w.setCell ⟨gx,i,none⟩ u).ownsRow B e size v n xs:=by
 obtain⟨h1,h2⟩:=h;refine⟨h1,?_⟩;rcases h2 with h2|⟨g',cap,cur,rfl,hB,hh,hrest⟩
 ·exact .inl h2
 ·exact .inr ⟨g',cap,cur,rfl,hB,(Below.heap_setCell w _ u g' (fun e=>hne (by simp [Value.ownBlock]at e ⊢;exact e))).trans hh,hrest⟩
structure PrsSt(w wr:World)(g B:Nat)(sl:Value)(cs:List Chg)(l:List UInt8)(er:Nat):Prop where
 own:Wo wr w.heap.size sl cs
 rd:Rd wr g B l er
 below:Below w.heap.size w wr
 room:B≤wr.heap.size
 few:cs.length≤11
 lens:l.length≤1099511627776∧er≤1000
theorem zDQ(l:List UInt8)(w:World)(hl:l.length≤1099511627776):
 Calls Tryz.prog 63 #[.string (st l)] w fun e w'=>∃v,e= .returned (.tuple #[v,.bool (z1G l).2])∧Wo w' w.heap.size v (z1G l).1∧Below w.heap.size w w':=by
 obtain⟨R,hR⟩:∃R,z1G l=R:=⟨_,rfl⟩;have HP:Hid (((z1h (z0U l 0 11).1 (z0U l 0 11).2 []).1,z1u (z1h (z0U l 0 11).1 (z0U l 0 11).2 []).2.1 (z1h (z0U l 0 11).1 (z0U l 0 11).2 []).2.2==0)=R):=by rw [Hid,←hR];rfl
 rw [hR];clear hR;go_enter Tryz.func63,Tryz.ntmps63
 have ml:l.length≤maxLen:=by simp only [maxLen];omega
 go_wp2_with (refine z30 _ rfl (.tmp 7) rfl Tryz.underlying9 Tryz.underlying31 Tryz.underlying5 ml rfl ?_;intro A1 c1 w1 hbs1 hbl1 hsz1)
 have HB1:=zz hbl1;have hB1:=hbl1.size;have HBS:=zz hbs1;clear hbl1 hbs1 hsz1;refine(z9Q _ _ l w1 hl HBS.out).mono ?_;rintro e w2 ⟨g,rfl,hg2,hr2,hbl2⟩;have q2:Below w.heap.size w w2:=HB1.out.trans (hbl2.mono hB1);have HR2:=zz hr2;have hB2:=hbl2.size;clear hr2 hbl2 HB1 HBS;go_wp2_with fail
 refine(z7I g w1.heap.size l 0 11 w2 HR2.out hB2 hl (by omega) (by omega)).mono ?_;rintro e w3 ⟨rfl,hr3,hg3⟩;have hbd:=z5Z l 0 11 (Nat.zero_le _);rw [show(((11:Nat)):Int)=11 from rfl]at hbd;obtain⟨X,hX⟩:∃X,z0U l 0 11=X:=⟨_,rfl⟩;rw [hX]at hr3 hbd HP;rw [hX];obtain⟨c,s0,e0⟩:=X;simp only at hr3 hbd HP ⊢;have q3:Below w.heap.size w w3:=q2.trans (z0M hg3 (by omega) q2.size);have hB3:=hg3.size;have hc11:=hbd.1;have R0:Hid (PrsSt w w3 g w1.heap.size (.slice none 0 0) [] s0 e0∧z1h (c-0) (s0,e0) []=z1h c (s0,e0) []):=⟨⟨⟨rfl,.inl ⟨rfl,rfl⟩⟩,hr3,q3,by omega,by simp,by omega,hbd.2.2⟩,rfl⟩;have hgW:w.heap.size≤g:=by omega
 clear hr3 hg3 hX q2 q3 HR2 hbd hB3 hB2;go_wp2_with fail
 go_loopw [5,12] (fun sv iv wr=>∃ (i:Nat) (A:Option Addr) (k c':Nat) (cs:List Chg) (lr:List UInt8) (er:Nat),sv= .slice A k c'∧iv= .int .i64 (i:Int)∧i≤c∧cs.length=i∧Hid (PrsSt w wr g w1.heap.size (.slice A k c') cs lr er∧z1h (c-i) (lr,er) cs=z1h c (s0,e0) [])) (fun _ iv _=>c-(intOf iv).toNat)
 case atStart=>exact⟨0,none,0,0,[],s0,e0,rfl,rfl,by omega,rfl,R0⟩
 case round=>
  clear R0;obtain⟨i,A,k,c',cs,lr,er,rfl,rfl,hi,hlen,RR⟩:=hrel;have HST:=zz RR.out.1;have hlo:=RR.out.1.lens;by_cases hic:i<c
  ·subst hlen;have hstep:=(zBb hic (lr,er) cs).symm.trans RR.out.2;have HS:=zz hstep;clear hstep RR;have hT1:=z48 g w1.heap.size lr er wr HST.out.rd HST.out.room hlo.1;have hk1:=z5L lr hlo.2;obtain⟨X1,hX1⟩:∃X,z0O lr er=X:=⟨_,rfl⟩;rw [hX1]at hT1 hk1;obtain⟨k1,l1,er1⟩:=X1;simp only at hT1 hk1;have HT1:=zz hT1;have HX1:=zz hX1;clear hT1 hX1;go_wp2_with fail
   refine HT1.out.mono ?_;rintro e wa ⟨rfl,hra,hga⟩;have hBa:=hga.size;have hBr:=HST.out.room;have HOA:=zz (HST.out.own.beside HST.out.rd hga);have HQA:Hid (Below w.heap.size w wa):=HST.out.below.trans (z0M hga hgW HST.out.below.size);have hT2:=z9u g w1.heap.size l1 er1 wa hra (by omega) (by omega);have hk2:=zA3 l1 er1 hk1.2.2;obtain⟨X2,hX2⟩:∃X,z1g l1 er1=X:=⟨_,rfl⟩;rw [hX2]at hT2 hk2;obtain⟨f,l2,er2⟩:=X2;simp only at hT2 hk2;have HT2:=zz hT2;have HX2:=zz hX2;have HRA:=zz hra;clear hT2 hX2 hra hga HT1;go_wp2_with fail
   refine HT2.out.mono ?_;rintro e wb ⟨rfl,hrb,hgb⟩;have hBb:=hgb.size;have HOB:=zz (HOA.out.beside HRA.out hgb);have HQB:Hid (Below w.heap.size w wb):=HQA.out.trans (z0M hgb hgW HQA.out.size);have HRB:=zz hrb;have hgl:g<wb.heap.size:=by obtain⟨_,h⟩:=hrb.blk;exact h.lt
   clear hrb hgb HT2 HOA HQA HRA;have hkk:k=cs.length:=z0Q HOB.out;subst hkk;have hcs:=HST.out.few;cases f with
   |true=>
    have HRD:Hid (z7w (lr,er)=(⟨k1,[],true⟩,(l2,er2))):=by
     rw [Hid];unfold z7w;simp only [HX1.out,HX2.out,if_true]
    have qa:=(Below.refl wb.heap.size wb).alloc (Nat.le_refl _) (.cells #[.string (st k1),.string ⟨#[]⟩,.bool true] 116);have HBX:=zz (Blk.new wb 116 #[.string (st k1),.string ⟨#[]⟩,.bool true]);have HOW:Hid (Wo (wb.alloc (.cells #[.string (st k1),.string ⟨#[]⟩,.bool true] 116)) w.heap.size (.slice A cs.length c') cs):=z0n HOB.out qa;have HQW:Hid (Below w.heap.size w (wb.alloc (.cells #[.string (st k1),.string ⟨#[]⟩,.bool true] 116))):=HQB.out.alloc HQB.out.size _;have HRW:=zz (HRB.out.later qa);have hsw:wb.heap.size≤(wb.alloc (.cells #[.string (st k1),.string ⟨#[]⟩,.bool true] 116)).heap.size:=qa.size;clear qa;go_upto_region 6 with(fail)
    generalize hW:wb.alloc (.cells #[.string (st k1),.string ⟨#[]⟩,.bool true] 116)=W at*;clear hW HOB HQB HRB;generalize wb.heap.size=gx at*;have hdum:(987654321:Nat)=987654320+1:=rfl;have hxb:=HBX.out;have x0:(W).cell? ⟨gx,0,none⟩=some (.string (st k1)):=hxb.cell 0;have x1:(W).cell? ⟨gx,1,none⟩=some (.string (st [])):=hxb.cell 1;have x2:(W).cell? ⟨gx,2,none⟩=some (.bool true):=hxb.cell 2;clear hxb;have hin:cs.length+1≤11:=by omega
    have hwz:=HQW.out.size;go_wp2_with (first|(rw [hdum])|(at_builtin;go_loud (refine z02 _ rfl (.tmp 25) (.tmp 27) z7e rfl (z0n HOW.out ((Below.refl _ _).alloc (Nat.le_refl _) _)) (Sl.newb (S:=fun _=>True) _ _ (chC ⟨k1,[],true⟩) (by simp) trivial) rfl rfl (by intro y hy;simp [chC]at hy;rcases hy with rfl|rfl|rfl<;>rfl) (by simp only [maxLen];omega) (by omega) (by simp;omega) ?_);intro A5 k5 c5 w5 hown5 hg5 hat5))
    have q5:Below w.heap.size w w5:=z01 (HQW.out.alloc hwz _) (z0n HOW.out ((Below.refl _ _).alloc (Nat.le_refl _) _)) hg5 (by simp;omega);have hr5:Rd w5 g w1.heap.size l2 er2:=Rd.keptCh (HRW.out.later ((Below.refl _ _).alloc (Nat.le_refl _) _)) (z0n HOW.out ((Below.refl _ _).alloc (Nat.le_refl _) _)) hg5;have hs5:=hg5.size;obtain rfl:k5=cs.length+1:=z0Q hown5;have ho5:Wo w5 w.heap.size (.slice A5 (cs.length+1) c5) (cs++ [⟨k1,[],true⟩]):=by
     unfold Wo;rw [zBF,show(cs++ [(⟨k1,[],true⟩:Chg)]).length=cs.length+1 by simp];exact hown5
    have hstp:=HS.out;rw [HRD.out]at hstp;have RF:Hid (PrsSt w w5 g w1.heap.size (.slice A5 (cs.length+1) c5) (cs++ [⟨k1,[],true⟩]) l2 er2∧z1h (c-(cs.length+1)) (l2,er2) (cs++ [⟨k1,[],true⟩])=z1h c (s0,e0) []):=⟨⟨ho5,hr5,q5,by simp at hs5;omega,by simp;omega,by omega⟩,hstp⟩;clear ho5 hr5 q5 hown5 hg5 hat5 hstp HBX HOW HQW HRW HRD HS HST;go_wp2_with fail
    go_roundw
    case rel=>exact⟨cs.length+1,A5,cs.length+1,c5,_,_,_,rfl,by go_num,by omega,by simp,RF⟩
    case measure=>simp [intOf];omega
   |false=>
    have hT3:=fun(W:World) (h1:Rd W g w1.heap.size l2 er2) (h2:w1.heap.size≤W.heap.size)=>z48 g w1.heap.size l2 er2 W h1 h2 (by omega)
    have hk3:=z5L l2 hk2.2;obtain⟨X3,hX3⟩:∃X,z0O l2 er2=X:=⟨_,rfl⟩;rw [hX3]at hT3 hk3;obtain⟨v,l3,er3⟩:=X3;simp only at hT3 hk3;have HT3:=zz hT3;have HRD:Hid (z7w (lr,er)=(⟨k1,v,false⟩,(l3,er3))):=by
     rw [Hid];unfold z7w;simp only [HX1.out,HX2.out,hX3,Bool.false_eq_true,if_false]
    clear hT3 hX3;have qa:=(Below.refl wb.heap.size wb).alloc (Nat.le_refl _) (.cells #[.string (st k1),.string ⟨#[]⟩,.bool false] 116);have hbx:=Blk.new wb 116 #[.string (st k1),.string ⟨#[]⟩,.bool false];have HBX:=zz hbx;have HNO:Hid ((Value.slice A cs.length c').ownBlock≠some wb.heap.size):=fun e=>by
     have:=(HOB.out.lt _ e).2;omega
    have HOW:Hid (Wo (wb.alloc (.cells #[.string (st k1),.string ⟨#[]⟩,.bool false] 116)) w.heap.size (.slice A cs.length c') cs):=z0n HOB.out qa;have HQW:Hid (Below w.heap.size w (wb.alloc (.cells #[.string (st k1),.string ⟨#[]⟩,.bool false] 116))):=HQB.out.alloc HQB.out.size _;have HRW:=zz (HRB.out.later qa);have hsw:wb.heap.size≤(wb.alloc (.cells #[.string (st k1),.string ⟨#[]⟩,.bool false] 116)).heap.size:=qa.size;have hwx:w.heap.size≤wb.heap.size:=HQB.out.size;clear qa hbx;go_upto_region 6 with(fail)
    generalize hW:wb.alloc (.cells #[.string (st k1),.string ⟨#[]⟩,.bool false] 116)=W at*;clear hW HOB HQB HRB;generalize wb.heap.size=gx at*;have hxb:=HBX.out;have x2:W.cell? ⟨gx,2,none⟩=some (.bool false):=hxb.cell 2;clear hxb;go_wp2_with fail
    refine(HT3.out W HRW.out (by omega)).mono ?_;rintro e wc ⟨rfl,hrc,hgc⟩;have hbc:=HBX.out.grown hgc (by simp;omega);have hsc:=hgc.size;have f1:=hbc.free 1;have f9:wc.cell? ⟨gx,1,none⟩=some (.string ⟨#[]⟩):=hbc.cell 1;have HBC:Hid (Blk (wc.setCell ⟨gx,1,none⟩ (.string (st v))) gx 116 #[.string (st k1),.string (st v),.bool false]):=hbc.put 1 _;have HOC:Hid (Wo (wc.setCell ⟨gx,1,none⟩ (.string (st v))) w.heap.size (.slice A cs.length c') cs):=z4T (HOW.out.beside HRW.out hgc) HNO.out 1 _;have HQC:Hid (Below w.heap.size w (wc.setCell ⟨gx,1,none⟩ (.string (st v)))):=(HQW.out.trans (z0M hgc hgW HQW.out.size)).setCell hwx _;have HRC:Hid (Rd (wc.setCell ⟨gx,1,none⟩ (.string (st v))) g w1.heap.size l3 er3):=hrc.far hbc (by decide) (by decide) 1 _;have hsz:(wc.setCell ⟨gx,1,none⟩ (.string (st v))).heap.size=wc.heap.size:=by simp
    clear HBX HOW HQW HRW HNO hrc hgc hbc HT3 x2;obtain⟨W2,hW2⟩:∃W2,wc.setCell ⟨gx,1,none⟩ (.string (st v))=W2:=⟨_,rfl⟩;rw [hW2]at HBC HOC HQC HRC hsz;have hxb:=HBC.out;have y0:W2.cell? ⟨gx,0,none⟩=some (.string (st k1)):=hxb.cell 0;have y1:W2.cell? ⟨gx,1,none⟩=some (.string (st v)):=hxb.cell 1;have y2:W2.cell? ⟨gx,2,none⟩=some (.bool false):=hxb.cell 2;have hsw9:gx≤W2.heap.size:=by omega
    clear hxb hsz hsw;have hsw:=hsw9;clear y0 y1 y2;clear hsw9;have HBX:=HBC;have HOW:=HOC;have HQW:=HQC;have HRW:=HRC;clear HBC HOC HQC HRC;have hxb:=HBX.out;have x0:(W2).cell? ⟨gx,0,none⟩=some (.string (st k1)):=hxb.cell 0;have x1:(W2).cell? ⟨gx,1,none⟩=some (.string (st v)):=hxb.cell 1;have x2:(W2).cell? ⟨gx,2,none⟩=some (.bool false):=hxb.cell 2;clear hxb;have hin:cs.length+1≤11:=by omega
    have hwz:=HQW.out.size;go_wp2_with (first|(rw [hW2])|(at_builtin;go_loud (refine z02 _ rfl (.tmp 25) (.tmp 27) z7e rfl (z0n HOW.out ((Below.refl _ _).alloc (Nat.le_refl _) _)) (Sl.newb (S:=fun _=>True) _ _ (chC ⟨k1,v,false⟩) (by simp) trivial) rfl rfl (by intro y hy;simp [chC]at hy;rcases hy with rfl|rfl|rfl<;>rfl) (by simp only [maxLen];omega) (by omega) (by simp;omega) ?_);intro A5 k5 c5 w5 hown5 hg5 hat5))
    have q5:Below w.heap.size w w5:=z01 (HQW.out.alloc hwz _) (z0n HOW.out ((Below.refl _ _).alloc (Nat.le_refl _) _)) hg5 (by simp;omega);have hr5:Rd w5 g w1.heap.size l3 er3:=Rd.keptCh (HRW.out.later ((Below.refl _ _).alloc (Nat.le_refl _) _)) (z0n HOW.out ((Below.refl _ _).alloc (Nat.le_refl _) _)) hg5;have hs5:=hg5.size;obtain rfl:k5=cs.length+1:=z0Q hown5;have ho5:Wo w5 w.heap.size (.slice A5 (cs.length+1) c5) (cs++ [⟨k1,v,false⟩]):=by
     unfold Wo;rw [zBF,show(cs++ [(⟨k1,v,false⟩:Chg)]).length=cs.length+1 by simp];exact hown5
    have hstp:=HS.out;rw [HRD.out]at hstp;have RF:Hid (PrsSt w w5 g w1.heap.size (.slice A5 (cs.length+1) c5) (cs++ [⟨k1,v,false⟩]) l3 er3∧z1h (c-(cs.length+1)) (l3,er3) (cs++ [⟨k1,v,false⟩])=z1h c (s0,e0) []):=⟨⟨ho5,hr5,q5,by simp at hs5;omega,by simp;omega,by omega⟩,hstp⟩;clear ho5 hr5 q5 hown5 hg5 hat5 hstp HBX HOW HQW HRW HRD HS HST;go_wp2_with fail
    go_roundw
    case rel=>exact⟨cs.length+1,A5,cs.length+1,c5,_,_,_,rfl,by go_num,by omega,by simp,RF⟩
    case measure=>simp [intOf];omega
  ·obtain rfl:i=c:=by omega
   have hE:=RR.out.2;rw [Nat.sub_self,z1h]at hE;have HE:=zz hE;clear hE RR;go_wp2_with fail
   refine(zFA g w1.heap.size lr er wr HST.out.rd hlo.1).mono ?_;rintro e w7 ⟨rfl,rfl⟩;go_wp2_with fail
   go_ret2
   rw [←HP.out,←HE.out];refine⟨_,?_,HST.out.own,HST.out.below⟩;have hq:(((z1u lr er:Nat):Int)==0)=(z1u lr er==0):=by
    by_cases h:z1u lr er=0
    ·rw [h];rfl
    ·rw [beq_eq_false_iff_ne.2 (show((z1u lr er:Nat):Int)≠0 by omega),beq_eq_false_iff_ne.2 h]
   rw [hq];rfl
def zGP(x:Chg):Chg:=⟨x.k.take 300,x.v.take 500,x.gone⟩
def z4M(l:List Chg)(i:Nat)(x:Chg):Bool:=x.gone||decide (i<6)||decide (11<l.length)
def z3N(l:List Chg):Nat→List Chg
 |0=> []
 |i+1=>z3N l i++(match l[i]? with|some x=>if z4M l i x then [zGP x]else []|none=> [])
def z4c(l:List Chg):List Chg:=z3N l (min l.length 70)
theorem zAP{l:List Chg}{i:Nat}(h:i<l.length):z3N l (i+1)=if z4M l i l[i]then z3N l i++ [zGP l[i]]else z3N l i:=by
 rw [z3N,List.getElem?_eq_getElem h];simp only
 split
 ·rfl
 ·rw [List.append_nil]
theorem z9N(l:List Chg):∀i,(z3N l i).length≤i
 |0=>Nat.le_refl _
 |i+1=>by
  have:=z9N l i;rw [z3N,List.length_append]
  split
  ·split<;>simp<;>omega
  ·simp;omega
theorem zAC{l:List Chg}(h:11<l.length):∀i,i≤l.length→(z3N l i).length=i
 |0,_=>rfl
 |i+1,hi=>by
  have:=zAC h i (by omega);rw [zAP (by omega),if_pos (by unfold z4M;simp [h]),List.length_append,this];rfl
theorem zAa{l:List Chg}(h:¬11<l.length):∀i,((z3N l i).filter fun x=> !x.gone).length≤min i 6
 |0=>Nat.zero_le _
 |i+1=>by
  have ih:=zAa h i;rw [z3N]
  split
  ·rename_i x hx
   split
   ·rename_i hk;rw [List.filter_append,List.length_append];cases hg:x.gone with
    |true=>simp [zGP,hg];omega
    |false=>
     unfold z4M at hk;rw [hg,decide_eq_false h]at hk;simp at hk;simp [zGP,hg];omega
   ·rw [List.append_nil];omega
  ·rw [List.append_nil];omega
theorem zAi(l:List Chg):∀i,∀x∈z3N l i,x.k.length≤300∧x.v.length≤500
 |0,x,h=>by cases h
 |i+1,x,h=>by
  rw [z3N,List.mem_append]at h;rcases h with h|h
  ·exact zAi l i x h
  ·split at h
   ·split at h
    ·rw [List.mem_singleton]at h;subst h;simp [zGP];omega
    ·cases h
   ·cases h
theorem zEk:z1l Tryz.prog 58 3:=⟨⟨_,Tryz.underlying58⟩,by kernel_rfl⟩
structure FwC(w wr:World)(v0:Value)(ov:Value)(out:List Chg):Prop where
 b1:Blk wr w.heap.size 58 #[.int .i64 0,v0,.slice none 0 0]
 b2:Blk wr (w.heap.size+1) 58 #[.int .i64 0,.slice none 0 0,.slice none 0 0]
 own:Wo wr (w.heap.size+2) ov out
 below:Below w.heap.size w wr
theorem FwC.set{w wr:World}{v0 ov:Value}{out:List Chg}(f:FwC w wr v0 ov out){g:Nat}{cs:Array Value}(hb:Blk wr g 116 cs)(hg:w.heap.size+2≤g)(hn:ov.ownBlock≠some g)(i:Nat)(u:Value):FwC w (wr.setCell ⟨g,i,none⟩ u) v0 ov out:=
 ⟨f.b1.far (show w.heap.size≠g by omega) u,f.b2.far (show w.heap.size+1≠g by omega) u,z4T f.own hn i u,f.below.setCell (by show w.heap.size≤g;omega) u⟩
theorem FwC.app{w wr w':World}{v0 ov v':Value}{out:List Chg}{x:Chg}(f:FwC w wr v0 ov out){cs:Array Value}{W:World}(hW:W=wr.alloc (.cells cs 116))(ho:W.ownsRow (w.heap.size+2) 116 3 ov out.length (chs out))(hown:w'.ownsRow (w.heap.size+2) 116 3 v' (out.length+1) (chs out++chC x))(hg:W.grownBy w' ov.ownBlock):FwC w w' v0 v' (out++ [x]):=by
 subst hW;have hz:=f.below.size;have hl:=f.b2.lt;refine⟨(f.b1.alloc _).kept ho hg (by decide),(f.b2.alloc _).kept ho hg (by decide),?_,z01 (f.below.alloc hz _) (B:=w.heap.size) (z29 ho (by omega)) hg (by simp;omega)⟩;unfold Wo;rw [zBF,List.length_append,List.length_singleton];have e:chs [x]=chC x:=by simp [chs]
 rw [e];exact hown
theorem zAq(S:Nat→Prop)(v0:Value)(l:List Chg)(w:World)(hr:Ch S w v0 l):
 Calls Tryz.prog 19 #[.agg #[.int .i64 0,v0,.slice none 0 0]] w fun e w'=>∃A c,e= .returned (.agg #[.int .i64 0,.slice A (z4c l).length c,.slice none 0 0])∧Wo w' w.heap.size (.slice A (z4c l).length c) (z4c l)∧Below w.heap.size w w':=by
 have hlt:=hr.lt;obtain⟨A,c,rfl,hlc,hcm,hA0,hA⟩:=hlt.at;have HA:=zz hA;have hm9:l.length≤9223372036854775807:=by unfold maxLen at hcm;omega
 clear hr hlt hA;have R0:Hid (FwC w (((w.alloc (.cells #[.int .i64 0,.slice A l.length c,.slice none 0 0] 58)).alloc (.cells #[.int .i64 0,.slice none 0 0,.slice none 0 0] 58)).alloc (.cells #[] 116)) (.slice A l.length c) (.slice (some ⟨w.heap.size+2,0,none⟩) 0 0) (z3N l 0)):=by
  refine⟨((Blk.new _ _ _).alloc _).alloc _,?_,?_,(((Below.refl _ _).alloc (Nat.le_refl _) _).alloc (by simp) _).alloc (by simp;omega) _⟩
  ·have:=(Blk.new (w.alloc (.cells #[.int .i64 0,.slice A l.length c,.slice none 0 0] 58)) 58 #[.int .i64 0,.slice none 0 0,.slice none 0 0]).alloc (.cells #[] 116);simpa using this
  ·have:=World.ownsRow_made (base:=w.heap.size+2) (e:=116) (size:=3) ((w.alloc (.cells #[.int .i64 0,.slice A l.length c,.slice none 0 0] 58)).alloc (.cells #[.int .i64 0,.slice none 0 0,.slice none 0 0] 58)) #[] 0 (by simp) (by simp [maxLen]) (by simp);simp only [World.size_alloc]at this;exact this
 go_enter Tryz.func19,Tryz.ntmps19
 go_wp2_with fail
 generalize hW:(((w.alloc (.cells #[.int .i64 0,.slice A l.length c,.slice none 0 0] 58)).alloc (.cells #[.int .i64 0,.slice none 0 0,.slice none 0 0] 58)).alloc (.cells #[] 116))=W at*;clear hW;go_loopw [3,4] (fun ov iv wr=>∃i:Nat,iv= .int .i64 (i:Int)∧i≤min l.length 70∧Hid (FwC w wr (.slice A l.length c) ov (z3N l i))) (fun _ iv _=>l.length-(intOf iv).toNat)
 case atStart=>exact⟨0,rfl,by omega,R0⟩
 case round=>
  obtain⟨i,rfl,hi,RR⟩:=hrel;clear R0;obtain⟨Ao,ko,co,hov⟩:=z0u RR.out.own;subst hov;obtain rfl:=z0Q RR.out.own;have hb1:=RR.out.b1;have p0:(wr).cell? ⟨w.heap.size,0,none⟩=some (.int .i64 0):=hb1.cell 0;have p1:(wr).cell? ⟨w.heap.size,1,none⟩=some (.slice A l.length c):=hb1.cell 1;have p2:(wr).cell? ⟨w.heap.size,2,none⟩=some (.slice none 0 0):=hb1.cell 2;clear hb1;by_cases hil:i<l.length∧i<70
  ·obtain⟨hil,h70⟩:=hil;obtain⟨b,o,rfl,hbs,hc⟩:=HA.out (by omega);have c0:wr.cell? ⟨b,o+i*3,none⟩=some (.string (st l[i].k)):=(RR.out.below.cell (p:=⟨b,o+i*3,none⟩) hbs).trans (hc i hil).1;have c1:wr.cell? ⟨b,o+i*3+1,none⟩=some (.string (st l[i].v)):=(RR.out.below.cell (p:=⟨b,o+i*3+1,none⟩) hbs).trans (hc i hil).2.1;have c2:wr.cell? ⟨b,o+i*3+2,none⟩=some (.bool l[i].gone):=(RR.out.below.cell (p:=⟨b,o+i*3+2,none⟩) hbs).trans (hc i hil).2.2;have HF:=zz (zAP hil);have hi0:(0:Int)≤(i:Int):=by omega
   have hi1:(i:Int)<(l.length:Int):=by omega
   have h70':(i:Int)<70:=by omega
   clear hc;obtain⟨x,hx0⟩:∃x,l[i]=x:=⟨_,rfl⟩;rw [hx0]at c0 c1 c2 HF;clear hx0;obtain⟨xk,xv,gn⟩:=x;simp only at c0 c1 c2;have q5:=(Below.refl wr.heap.size wr).alloc (Nat.le_refl _) (.cells #[.string (st xk),.string (st xv),.bool gn] 116);have R5:Hid (FwC w (wr.alloc (.cells #[.string (st xk),.string (st xv),.bool gn] 116)) (.slice (some ⟨b,o,none⟩) l.length c) (.slice Ao (z3N l i).length co) (z3N l i)):=⟨RR.out.b1.later q5,RR.out.b2.later q5,z0n RR.out.own q5,RR.out.below.trans (q5.mono RR.out.below.size)⟩;have HX:=zz (Blk.new wr 116 #[.string (st xk),.string (st xv),.bool gn]);have HNO:Hid ((Value.slice Ao (z3N l i).length co).ownBlock≠some wr.heap.size):=fun e=>by
    have:=(RR.out.own.lt _ e).2;omega
   have hgx:w.heap.size+2≤wr.heap.size:=by
    have:=RR.out.b2.lt;omega
   clear q5;go_upto_region 8 with(fail)
   have hx:=HX.out;generalize hW5:wr.alloc (.cells #[.string (st xk),.string (st xv),.bool gn] 116)=W5 at*;clear hW5 RR c0 c1 c2 p0 p1 p2;generalize wr.heap.size=gx at*;have x0:(W5).cell? ⟨gx,0,none⟩=some (.string (st xk)):=hx.cell 0;have x1:(W5).cell? ⟨gx,1,none⟩=some (.string (st xv)):=hx.cell 1;have x2:(W5).cell? ⟨gx,2,none⟩=some (.bool gn):=hx.cell 2;have xf0:(W5).frozen? ⟨gx,0,none⟩=false:=hx.free 0;have xf1:(W5).frozen? ⟨gx,1,none⟩=false:=hx.free 1;have xf2:(W5).frozen? ⟨gx,2,none⟩=false:=hx.free 2;clear hx;go_upto_if 34 with(fail)
   go_cut [] (fun wx=>Hid (FwC w wx (.slice (some ⟨b,o,none⟩) l.length c) (.slice Ao (z3N l i).length co) (z3N l i)∧Blk wx gx 116 #[.string (st (xk.take 300)),.string (st xv),.bool gn]))
   case first=>
    by_cases hk:300<xk.length
    ·have HQ:Hid (FwC w (W5.setCell ⟨gx,0,none⟩ (.string (st (xk.take 300)))) (.slice (some ⟨b,o,none⟩) l.length c) (.slice Ao (z3N l i).length co) (z3N l i)∧Blk (W5.setCell ⟨gx,0,none⟩ (.string (st (xk.take 300)))) gx 116 #[.string (st (xk.take 300)),.string (st xv),.bool gn]):=⟨R5.out.set HX.out hgx HNO.out 0 _,HX.out.put 0 _⟩;go_wp2_with fail
     go_meet
     exact HQ
    ·have HQ:Hid (FwC w W5 (.slice (some ⟨b,o,none⟩) l.length c) (.slice Ao (z3N l i).length co) (z3N l i)∧Blk W5 gx 116 #[.string (st (xk.take 300)),.string (st xv),.bool gn]):=⟨R5.out,by rw [List.take_of_length_le (by omega)];exact HX.out⟩;go_wp2_with fail
     go_meet
     exact HQ
   case rest=>
    have H6:=hcut;clear hcut R5 HX x0 x1 x2 xf0 xf1 xf2;generalize wc=W6 at*;have hx:=H6.out.2;have y0:(W6).cell? ⟨gx,0,none⟩=some (.string (st (xk.take 300))):=hx.cell 0;have y1:(W6).cell? ⟨gx,1,none⟩=some (.string (st xv)):=hx.cell 1;have y2:(W6).cell? ⟨gx,2,none⟩=some (.bool gn):=hx.cell 2;have yf0:(W6).frozen? ⟨gx,0,none⟩=false:=hx.free 0;have yf1:(W6).frozen? ⟨gx,1,none⟩=false:=hx.free 1;have yf2:(W6).frozen? ⟨gx,2,none⟩=false:=hx.free 2;clear hx;go_upto_if 42 with(fail)
    go_cut [] (fun wx=>Hid (FwC w wx (.slice (some ⟨b,o,none⟩) l.length c) (.slice Ao (z3N l i).length co) (z3N l i)∧Blk wx gx 116 #[.string (st (xk.take 300)),.string (st (xv.take 500)),.bool gn]))
    case first=>
     by_cases hk:500<xv.length
     ·have HQ:Hid (FwC w (W6.setCell ⟨gx,1,none⟩ (.string (st (xv.take 500)))) (.slice (some ⟨b,o,none⟩) l.length c) (.slice Ao (z3N l i).length co) (z3N l i)∧Blk (W6.setCell ⟨gx,1,none⟩ (.string (st (xv.take 500)))) gx 116 #[.string (st (xk.take 300)),.string (st (xv.take 500)),.bool gn]):=⟨H6.out.1.set H6.out.2 hgx HNO.out 1 _,H6.out.2.put 1 _⟩;go_wp2_with fail
      go_meet
      exact HQ
     ·have HQ:Hid (FwC w W6 (.slice (some ⟨b,o,none⟩) l.length c) (.slice Ao (z3N l i).length co) (z3N l i)∧Blk W6 gx 116 #[.string (st (xk.take 300)),.string (st (xv.take 500)),.bool gn]):=⟨H6.out.1,by rw [List.take_of_length_le (l:=xv) (by omega)];exact H6.out.2⟩;go_wp2_with fail
      go_meet
      exact HQ
    case rest=>
     have H7:=hcut;clear hcut H6 y0 y1 y2 yf0 yf1 yf2;generalize wc=W7 at*;have hx:=H7.out.2;have x0:(W7).cell? ⟨gx,0,none⟩=some (.string (st (xk.take 300))):=hx.cell 0;have x1:(W7).cell? ⟨gx,1,none⟩=some (.string (st (xv.take 500))):=hx.cell 1;have x2:(W7).cell? ⟨gx,2,none⟩=some (.bool gn):=hx.cell 2;have hb1:=H7.out.1.b1;have p0:(W7).cell? ⟨w.heap.size,0,none⟩=some (.int .i64 0):=hb1.cell 0;have p1:(W7).cell? ⟨w.heap.size,1,none⟩=some (.slice (some ⟨b,o,none⟩) l.length c):=hb1.cell 1;have p2:(W7).cell? ⟨w.heap.size,2,none⟩=some (.slice none 0 0):=hb1.cell 2;clear hx hb1;have hfl:=z9N l i;have HM1:Hid ((z3N l i).length+1≤maxLen):=by rw [Hid];unfold maxLen;omega
     have HM2:Hid (((z3N l i).length+1)*40≤140737488355328):=by rw [Hid];omega
     have q7:=(Below.refl W7.heap.size W7).alloc (Nat.le_refl _) (.cells #[.string (st (xk.take 300)),.string (st (xv.take 500)),.bool gn] 116);have HO:=zz (z0n H7.out.1.own q7);have HS:Hid (Sl (fun b=>b=W7.heap.size) (W7.alloc (.cells #[.string (st (xk.take 300)),.string (st (xv.take 500)),.bool gn] 116)) 3 (.slice (some ⟨W7.heap.size,0,none⟩) 1 1) 1 (chC (zGP ⟨xk,xv,gn⟩))):=Sl.newb (S:=fun b=>b=W7.heap.size) _ _ (chC (zGP ⟨xk,xv,gn⟩)) (by simp) rfl;have h8:=H7.out.1.b2.lt;clear q7;cases gn with
     |true=>
      have KK:z4M l i ⟨xk,xv,true⟩=true:=rfl;go_wp2_with (at_builtin;refine z02 _ rfl (.tmp 59) (.tmp 61) z7e rfl HO.out HS.out rfl rfl (by intro y hy;simp [chC,zGP]at hy;rcases hy with rfl|rfl|rfl<;>rfl) HM1.out HM2.out (by simp;omega) ?_;intro A5 k5 c5 w5 hown5 hg5 hat5)
      obtain rfl:=z0Q hown5;have RF:Hid (FwC w w5 (.slice (some ⟨b,o,none⟩) l.length c) (.slice A5 ((z3N l i).length+1) c5) (z3N l (i+1))):=by
       have h:=HF.out;rw [if_pos KK]at h;rw [h];exact H7.out.1.app rfl HO.out hown5 hg5
      clear hown5 hg5 hat5;go_wp2_with fail
      go_roundw
      case rel=>exact⟨i+1,by go_num,by omega,RF⟩
      case measure=>simp [intOf];omega
     |false=>
      by_cases h6:i<6
      ·have KK:z4M l i ⟨xk,xv,false⟩=true:=by unfold z4M;simp [h6]
       have h6':(i:Int)<6:=by omega
       go_wp2_with (at_builtin;refine z02 _ rfl (.tmp 59) (.tmp 61) z7e rfl HO.out HS.out rfl rfl (by intro y hy;simp [chC,zGP]at hy;rcases hy with rfl|rfl|rfl<;>rfl) HM1.out HM2.out (by simp;omega) ?_;intro A5 k5 c5 w5 hown5 hg5 hat5)
       obtain rfl:=z0Q hown5;have RF:Hid (FwC w w5 (.slice (some ⟨b,o,none⟩) l.length c) (.slice A5 ((z3N l i).length+1) c5) (z3N l (i+1))):=by
        have h:=HF.out;rw [if_pos KK]at h;rw [h];exact H7.out.1.app rfl HO.out hown5 hg5
       clear hown5 hg5 hat5;go_wp2_with fail
       go_roundw
       case rel=>exact⟨i+1,by go_num,by omega,RF⟩
       case measure=>simp [intOf];omega
      ·have h6':decide ((i:Int)<6)=false:=decide_eq_false (by omega);have h6n:decide (i<6)=false:=decide_eq_false (by omega);by_cases h11:11<l.length
       ·have KK:z4M l i ⟨xk,xv,false⟩=true:=by unfold z4M;simp [h11]
        go_wp2_with (at_builtin;refine z02 _ rfl (.tmp 59) (.tmp 61) z7e rfl HO.out HS.out rfl rfl (by intro y hy;simp [chC,zGP]at hy;rcases hy with rfl|rfl|rfl<;>rfl) HM1.out HM2.out (by simp;omega) ?_;intro A5 k5 c5 w5 hown5 hg5 hat5)
        obtain rfl:=z0Q hown5;have RF:Hid (FwC w w5 (.slice (some ⟨b,o,none⟩) l.length c) (.slice A5 ((z3N l i).length+1) c5) (z3N l (i+1))):=by
         have h:=HF.out;rw [if_pos KK]at h;rw [h];exact H7.out.1.app rfl HO.out hown5 hg5
        clear hown5 hg5 hat5;go_wp2_with fail
        go_roundw
        case rel=>exact⟨i+1,by go_num,by omega,RF⟩
        case measure=>simp [intOf];omega
       ·have KK:z4M l i ⟨xk,xv,false⟩=false:=by unfold z4M;simp [h11,h6]
        have h11':decide (11<l.length)=false:=decide_eq_false (by omega);have RF:Hid (FwC w W7 (.slice (some ⟨b,o,none⟩) l.length c) (.slice Ao (z3N l i).length co) (z3N l (i+1))):=by
         have h:=HF.out;rw [if_neg (by rw [KK];simp)]at h;rw [h];exact H7.out.1
        clear HO HS HM1 HM2;go_wp2_with fail
        go_roundw
        case rel=>exact⟨i+1,by go_num,by omega,RF⟩
        case measure=>simp [intOf];omega
  ·obtain rfl:i=min l.length 70:=by omega
   have hb1:=RR.out.b1;have hb2:=RR.out.b2;have HFN:Hid (z3N l (min l.length 70)=z4c l):=rfl;rw [HFN.out]at RR ⊢;have hO:=RR.out.own;have hQ:=RR.out.below;have hne:¬w.heap.size=w.heap.size+1:=by omega
   have hne2:¬w.heap.size+1=w.heap.size:=by omega
   have hb1x:Blk (wr.setCell ⟨w.heap.size,1,none⟩ (.slice Ao (z4c l).length co)) w.heap.size 58 #[.int .i64 0,.slice Ao (z4c l).length co,.slice none 0 0]:=hb1.put 1 _;have HBL:=zz ((hb2.far (p:=⟨w.heap.size,1,none⟩) hne2 (.slice Ao (z4c l).length co)).put3 (.int .i64 0) (.slice Ao (z4c l).length co) (.slice none 0 0));have HQ6:=zz (z0Y (hQ.setCell (p:=⟨w.heap.size,1,none⟩) (Nat.le_refl _) (.slice Ao (z4c l).length co)) (show w.heap.size≤w.heap.size+1 by omega) (.int .i64 0) (.slice Ao (z4c l).length co) (.slice none 0 0));have HO6:Hid (Wo ((((wr.setCell ⟨w.heap.size,1,none⟩ (.slice Ao (z4c l).length co)).setCell ⟨w.heap.size+1,0,none⟩ (.int .i64 0)).setCell ⟨w.heap.size+1,1,none⟩ (.slice Ao (z4c l).length co)).setCell ⟨w.heap.size+1,2,none⟩ (.slice none 0 0)) w.heap.size (.slice Ao (z4c l).length co) (z4c l)):=by
    have hn:∀g,g<w.heap.size+2→(Value.slice Ao (z4c l).length co).ownBlock≠some g:=fun g hg e=>by
     have:=(hO.lt _ e).1;omega
    exact z29 (z4T (z4T (z4T (z4T hO (hn _ (by omega)) 1 _) (hn _ (by omega)) 0 _) (hn _ (by omega)) 1 _) (hn _ (by omega)) 2 _) (by omega)
   have p0:(wr).cell? ⟨w.heap.size,0,none⟩=some (.int .i64 0):=hb1.cell 0;have p1:(wr).cell? ⟨w.heap.size,1,none⟩=some (.slice A l.length c):=hb1.cell 1;have p2:(wr).cell? ⟨w.heap.size,2,none⟩=some (.slice none 0 0):=hb1.cell 2;have pf0:(wr).frozen? ⟨w.heap.size,0,none⟩=false:=hb1.free 0;have pf1:(wr).frozen? ⟨w.heap.size,1,none⟩=false:=hb1.free 1;have pf2:(wr).frozen? ⟨w.heap.size,2,none⟩=false:=hb1.free 2;have d0:(wr).cell? ⟨w.heap.size+1,0,none⟩=some (.int .i64 0):=hb2.cell 0;have d1:(wr).cell? ⟨w.heap.size+1,1,none⟩=some (.slice none 0 0):=hb2.cell 1;have d2:(wr).cell? ⟨w.heap.size+1,2,none⟩=some (.slice none 0 0):=hb2.cell 2;have df0:(wr).frozen? ⟨w.heap.size+1,0,none⟩=false:=hb2.free 0;have df1:(wr).frozen? ⟨w.heap.size+1,1,none⟩=false:=hb2.free 1;have df2:(wr).frozen? ⟨w.heap.size+1,2,none⟩=false:=hb2.free 2;clear hb1 hb2 hO hQ hb1x HFN RR;by_cases h70:l.length≤70
   ·have e7:min l.length 70=l.length:=by omega
    rw [e7];go_wp2_with fail
    exact bodyPost_ret (z0W rfl _ _ (w.heap.size+1) rfl HBL.out zEk) rfl ⟨_,_,rfl,HO6.out,HQ6.out⟩
   ·have e7:min l.length 70=70:=by omega
    rw [e7];have h71:(70:Int)<(l.length:Int):=by omega
    go_wp2_with fail
    exact bodyPost_ret (z0W rfl _ _ (w.heap.size+1) rfl HBL.out zEk) rfl ⟨_,_,rfl,HO6.out,HQ6.out⟩
end
section
open Go
theorem z5D:∀ (ts:List (List UInt8)) (f n:Nat),(z05 f ts).drop n=z05 (f+n) (ts.drop n)
 |ts,f,0=>by simp
 | [],f,n+1=>by simp [z05]
 |t::ts,f,n+1=>by
  rw [z05,List.drop_succ_cons,List.drop_succ_cons,z5D ts,show f+1+n=f+(n+1) by omega]
theorem z5G:∀ (ts:List (List UInt8)) (f n:Nat),(z05 f ts).take n=z05 f (ts.take n)
 |ts,f,0=>by simp [z05]
 | [],f,n+1=>by simp [z05]
 |t::ts,f,n+1=>by
  rw [z05,List.take_succ_cons,List.take_succ_cons,z5G ts,z05]
def z5r(f:Nat)(R:List (List UInt8))(i m:Nat):List Rcd:=z05 i ((R.drop (i-f)).take m)
theorem zHo{f:Nat}{R:List (List UInt8)}{i m:Nat}(h:f≤i)(h2:i+m≤f+R.length):(z5r f R i m).length=m:=by
 unfold z5r;rw [z1U,List.length_take,List.length_drop];omega
theorem zHj{f:Nat}{R:List (List UInt8)}{i m k:Nat}(h:f≤i)(h2:i+m≤f+R.length):z5r f R i m++z5r f R (i+m) k=z5r f R i (m+k):=by
 unfold z5r;rw [List.take_add,z4A,List.length_take,List.length_drop,Nat.min_eq_left (by omega),List.drop_drop,show i-f+m=i+m-f by omega]
theorem zBx{f:Nat}{R:List (List UInt8)}{i m k:Nat}(h:f≤i)(h2:i+m≤f+R.length)(h3:f+R.length≤1000000)(h4:i≤k+1)(h5:k+1≤i+m):(z5r f R i m).filter (fun r=>decide (k<r.1))=z5r f R (k+1) (i+m-(k+1)):=by
 have hl:((R.drop (i-f)).take m).length=m:=by rw [List.length_take,List.length_drop];omega
 unfold z5r;rw [z4D _ _ _ (by rw [hl];unfold U64;omega) h4,z5D,List.drop_take,List.drop_drop]
 congr 1
 ·omega
 ·rw [show m-(k+1-i)=i+m-(k+1) by omega,show i-f+(k+1-i)=k+1-f by omega]
theorem z7n:∀ (ts:List (List UInt8)) (i:Nat),i+ts.length≤U64→∀r∈z05 i ts,i≤r.1
 | [],i,_,r,hr=>by cases hr
 |t::ts,i,h,r,hr=>by
  rw [List.length_cons]at h;rw [z05,List.mem_cons]at hr;rcases hr with rfl|hr
  ·show i≤i%U64;rw [Nat.mod_eq_of_lt (by omega)];exact Nat.le_refl _
  ·have:=z7n ts (i+1) (by omega) r hr;omega
theorem zGa{f:Nat}{R:List (List UInt8)}{i m k:Nat}(h:f≤i)(h2:i+m≤f+R.length)(h3:f+R.length≤1000000)(h4:k<i):(z5r f R i m).filter (fun r=>decide (k<r.1))=z5r f R i m:=by
 have hl:((R.drop (i-f)).take m).length=m:=by rw [List.length_take,List.length_drop];omega
 refine List.filter_eq_self.2 fun r hr=> ?_
 have:=z7n _ i (by rw [hl];unfold U64;omega) r hr;exact decide_eq_true (by omega)
def Fd.cov(y:Fd)(q:Nat):Prop:=y.base≤q∧q<y.base+y.recs.length
structure Segs(all:List Fd)(n f:Nat)(R:List (List UInt8)):Prop where
 f1:1≤f
 small:f+R.length≤1000000
 ge:∀y∈all,f≤y.base
 le:∀y∈all,y.base+y.recs.length≤f+R.length
 recs:∀y∈all,y.recs=z5r f R y.base y.recs.length
 disj:∀y∈all,∀z∈all,∀q,y.cov q→z.cov q→y=z
 bnd:∀y∈all,∀z∈all,¬ (z.cov (y.base-1)∧z.cov y.base)
 at':∀y∈all,∀z∈all,y.at'=z.at'→y=z
 lt:∀y∈all,y.at'<n
structure ChI(all:List Fd)(n f:Nat)(R:List (List UInt8))(k K:Nat)(live:List Sg)(last:Nat)(out:List Rcd):Prop where
 le:last≤K
 kl:k≤last
 out:out=z5r f R (k+1) (last-k)
 bnd:∀z∈all,¬ (z.cov last∧z.cov (last+1))
 used:∀z∈all,z0v live z.at'=true→z.base+z.recs.length≤last+1
 sub:∀s∈live,∃y∈all,s=y.sg
 cov:∀q,k<q→q≤last→∃y∈all,y.sg∈live∧y.cov q
 nd:(live.map (·.at')).Nodup
variable {all:List Fd} {n f k K:Nat} {R:List (List UInt8)} {live:List Sg} {last:Nat} {out:List Rcd}
theorem Segs.base(S:Segs all n f R){y:Fd}(hy:y∈all):1≤y.base∧y.base+y.recs.length≤1000000:=by
 have h1:=S.ge y hy;have h2:=S.le y hy;have h3:=S.f1;have h4:=S.small;omega
theorem Segs.lastE(S:Segs all n f R){y:Fd}(hy:y∈all):y.last=y.base+y.recs.length-1:=by
 have:=S.base hy;unfold Fd.last;unfold U64;omega
theorem zCr(S:Segs all n f R){y:Fd}(hy:y∈all)(hk:k<1000000):y.fits k=true↔y.base≤k+1∧k+1≤y.base+y.recs.length:=by
 have:=S.base hy;unfold Fd.fits;rw [Bool.and_eq_true,decide_eq_true_eq,decide_eq_true_eq,Nat.mod_eq_of_lt (show k+1<U64 by unfold U64;omega),Nat.mod_eq_of_lt (show y.base+y.recs.length<U64 by unfold U64;omega)]
structure Upto(all:List Fd)(f:Nat)(R:List (List UInt8))(k K:Nat):Prop where
 fk:f≤k+1
 kK:k≤K
 KR:K+1≤f+R.length
 has:∀q,k<q→q≤K→∃y∈all,y.cov q
 no:∀y∈all,¬y.cov (K+1)
theorem Upto.end(S:Segs all n f R)(U:Upto all f R k K){y:Fd}(hy:y∈all)(h1:y.base≤K+1):y.base+y.recs.length≤K+1:=by
 rcases Nat.lt_or_ge (K+1) (y.base+y.recs.length)with h|h
 ·exact absurd ⟨h1,h⟩ (U.no y hy)
 ·exact h
theorem ChI.step(S:Segs all n f R)(U:Upto all f R k K)(c:ChI all n f R k K live last out){x:Fd}(hx:x∈all)(hb:x.base=last+1)(hu:z0v live x.at'=false):
 ChI all n f R k K (live++ [x.sg]) x.last (out++x.recs.filter fun r=>decide (k<r.1)):=by
 have hB:=S.base hx;have hl:=S.lastE hx;have hle:=c.le;have hkl:=c.kl;have hend:=U.end S hx (by omega);have h3:=S.le x hx;have h4:=U.fk;have hl2:x.last=last+x.recs.length:=by omega
 refine⟨by omega,by omega,?_,?_,?_,?_,?_,?_⟩
 ·have e:x.recs.filter (fun r=>decide (k<r.1))=z5r f R x.base x.recs.length:=by
   rw [congrArg (List.filter fun r=>decide (k<r.1)) (S.recs x hx),zGa (S.ge x hx) h3 S.small (by omega)]
  rw [e,c.out,hb,show last+1=k+1+(last-k) by omega,zHj (by omega) (by omega),hl2,show last+x.recs.length-k=last-k+x.recs.length by omega]
 ·intro z hz ⟨h5,h6⟩;by_cases h0:x.recs.length=0
  ·rw [hl2,h0]at h5 h6;exact c.bnd z hz ⟨h5,h6⟩
  ·have:=S.disj x hx z hz x.last ⟨by omega,by omega⟩ h5;subst this;have:=h6.2;omega
 ·intro z hz h5;rw [z3H,Bool.or_eq_true]at h5;rcases h5 with h5|h5
  ·have:=c.used z hz h5;omega
  ·have:=S.at' x hx z hz (by simpa [Fd.sg]using h5);subst this;omega
 ·intro s hs;rw [List.mem_append,List.mem_singleton]at hs;rcases hs with hs|hs
  ·exact c.sub s hs
  ·exact⟨x,hx,hs⟩
 ·intro q h5 h6;by_cases h7:q≤last
  ·obtain⟨y,h8,h9,h10⟩:=c.cov q h5 h7;exact⟨y,h8,List.mem_append_left _ h9,h10⟩
  ·exact⟨x,hx,by simp,by omega,by omega⟩
 ·rw [List.map_append,List.nodup_append];refine⟨c.nd,by simp,?_⟩;intro a ha b hb2;simp only [List.map_cons,List.map_nil,List.mem_singleton]at hb2;subst hb2;rintro rfl;obtain⟨s,hs,e⟩:=List.mem_map.1 ha;have:=z1c.2 ⟨s,hs,e⟩;have e2:x.sg.at'=x.at':=rfl;rw [e2,hu]at this;cases this
theorem z8m(frm:Nat){x:Fd}:∀ (xs:List Fd) (b:Option Fd),z1j frm xs b=some x→x.fits frm=true∨b=some x
 | [],_,h=> .inr h
 |y::ys,b,h=>by
  rw [z3X]at h;rcases z8m frm ys _ h with h1|h1
  ·exact .inl h1
  ·unfold z67 at h1;by_cases hc:(y.fits frm&&z4J b y)=true
   ·rw [if_pos hc]at h1;cases h1
    rw [Bool.and_eq_true]at hc;exact .inl hc.1
   ·rw [if_neg hc]at h1;exact .inr h1
theorem z8I(frm:Nat):∀ (xs:List Fd) (b:Option Fd),z1j frm xs b=none→b=none∧∀y∈xs,y.fits frm=false
 | [],b,h=>⟨h,fun _ h=>by cases h⟩
 |y::ys,b,h=>by
  rw [z3X]at h;obtain⟨h1,h2⟩:=z8I frm ys _ h;unfold z67 at h1
  split at h1
  ·cases h1
  ·rename_i hc;subst h1;refine⟨rfl,fun z hz=> ?_⟩;rcases List.mem_cons.1 hz with rfl|hz
   ·cases hf:z.fits frm
    ·rfl
    ·exact absurd (by rw [hf];rfl) hc
   ·exact h2 z hz
theorem ChI.first(S:Segs all n f R)(U:Upto all f R k K){x:Fd}(hx:x∈all)(hf:x.fits k=true):ChI all n f R k K [x.sg] x.last (x.recs.filter fun r=>decide (k<r.1)):=by
 have hB:=S.base hx;have hl:=S.lastE hx;have h3:=S.le x hx;have h4:=U.fk;have hKR:=U.KR;have hsm:=S.small;have hkK:=U.kK;have hf1:=S.f1;obtain⟨h5,h6⟩:=(zCr S hx (by omega)).1 hf;have hend:=U.end S hx (by omega);refine⟨by omega,by omega,?_,?_,?_,?_,?_,?_⟩
 ·rw [congrArg (List.filter fun r=>decide (k<r.1)) (S.recs x hx),zBx (S.ge x hx) h3 S.small h5 h6,hl,show x.base+x.recs.length-(k+1)=x.base+x.recs.length-1-k by omega]
 ·intro z hz ⟨h7,h8⟩;by_cases h0:x.recs.length=0
  ·refine S.bnd x hx z hz ?_;rw [hl,h0]at h7 h8;exact⟨h7,by rw [show x.base=x.base+0-1+1 by omega];exact h8⟩
  ·have:=S.disj x hx z hz x.last ⟨by omega,by omega⟩ h7;subst this;have:=h8.2;omega
 ·intro z hz h7;have:=S.at' x hx z hz (by simpa [z0v,Fd.sg]using h7);subst this;omega
 ·intro s hs;rw [List.mem_singleton]at hs;exact⟨x,hx,hs⟩
 ·intro q h7 h8;exact⟨x,hx,by simp,by omega,by omega⟩
 ·simp
structure ChE(all:List Fd)(n f:Nat)(R:List (List UInt8))(k K:Nat)(r:List Sg×Nat×List Rcd):Prop where
 last:r.2.1=K
 out:r.2.2=z5r f R (k+1) (K-k)
 sub:∀s∈r.1,∃y∈all,s=y.sg
 cov:∀q,k<q→q≤K→∃y∈all,y.sg∈r.1∧y.cov q
 used:∀z∈all,z0v r.1 z.at'=true→z.base+z.recs.length≤K+1
 bnd:∀z∈all,¬ (z.cov K∧z.cov (K+1))
 nd:(r.1.map (·.at')).Nodup
theorem ChI.fin(S:Segs all n f R)(U:Upto all f R k K):∀ (m:Nat) {live:List Sg} {last:Nat} {out:List Rcd},ChI all n f R k K live last out→n<live.length+m→
 ChE all n f R k K (z2Y all k m live last out (z7W all live last))
 |0,live,last,out,c,h=>by
  exfalso;have:=z2A n _ c.nd (by
   intro x hx;obtain⟨s,hs,rfl⟩:=List.mem_map.1 hx;obtain⟨y,hy,rfl⟩:=c.sub s hs;exact S.lt y hy)
  rw [List.length_map]at this;omega
 |m+1,live,last,out,c,h=>by
  have hle:=c.le;have hKR:=U.KR;have hsm:=S.small;cases hn:z7W all live last with
  |none=>
   have hlast:last=K:=by
    rcases Nat.lt_or_ge last K with hlt|hge
    ·exfalso;obtain⟨y,hy,hc⟩:=U.has (last+1) (by have:=c.kl;omega) (by omega);have hb:y.base=last+1:=by
      have h1:=hc.1;have h2:=hc.2;rcases Nat.lt_or_ge last y.base with h3|h3
      ·omega
      ·exact absurd ⟨⟨h3,by omega⟩,hc⟩ (c.bnd y hy)
     have hu:z0v live y.at'=false:=by
      cases hu:z0v live y.at' with
      |false=>rfl
      |true=>
       have:=c.used y hy hu;have:=hc.2;omega
     unfold z7W at hn;rw [List.find?_eq_none]at hn;refine hn y hy ?_;rw [hu,hb,Nat.mod_eq_of_lt (show last+1<U64 by unfold U64;omega)];simp
    ·omega
   subst hlast;show ChE all n f R k last (live,last,out);exact⟨rfl,c.out,c.sub,c.cov,c.used,c.bnd,c.nd⟩
  |some x=>
   obtain⟨hx,hb,hu⟩:=z8y hn;rw [Nat.mod_eq_of_lt (show last+1<U64 by unfold U64;omega)]at hb;rw [z2Y];exact ChI.fin S U m (c.step S U hx hb hu) (by rw [List.length_append,List.length_singleton];omega)
theorem zDO(S:Segs all n f R)(U:Upto all f R k K):ChE all n f R k K (z2Y all k (n+1) [] k [] (z1j k all none)):=by
 have hKR:=U.KR;have hsm:=S.small;have hkK:=U.kK;have hf1:=S.f1;cases hp:z1j k all none with
 |none=>
  have hno:=(z8I k all none hp).2;have hK:K=k:=by
   rcases Nat.lt_or_ge k K with hlt|hge
   ·exfalso;obtain⟨y,hy,hc⟩:=U.has (k+1) (by omega) (by omega);have:=(zCr S hy (k:=k) (by omega)).2 ⟨hc.1,Nat.le_of_lt hc.2⟩;rw [hno y hy]at this;cases this
   ·omega
  subst hK;show ChE all n f R K K ([],K,[]);refine⟨rfl,by rw [Nat.sub_self];rfl,fun _ h=>(by cases h),fun q h1 h2=>by omega,fun z _ h=>(by simp [z0v]at h),fun z hz ⟨h1,h2⟩=>U.no z hz h2,by simp⟩
 |some x=>
  have hx:x∈all:=by
   rcases z6c k all none hp with h|h
   ·exact h
   ·cases h
  have hf:x.fits k=true:=by
   rcases z8m k all none hp with h|h
   ·exact h
   ·cases h
  rw [z2Y,List.nil_append,List.nil_append];exact ChI.fin S U n (ChI.first S U hx hf) (by simp)
end
section
open Go
def Enough(n0 i m:Nat):Prop:=n0≤512*i+m∨512≤m
theorem Enough.mono{n0 i m m':Nat}(h:Enough n0 i m)(hm:m≤m'):Enough n0 i m':=by
 unfold Enough at h ⊢;omega
def z6A(S:List UInt8)(i:Nat):List UInt8:=(S.drop (512*i)).take 512
theorem zAU(S:List UInt8)(i:Nat):(z6A S i).length=min 512 (S.length-512*i):=by unfold z6A;simp
theorem zCm{X:List UInt8}(hX:X.length≤512){n0 i mc mo:Nat}(hc:Enough n0 i mc)(ho:Enough n0 i mo)(n:Int):∃m,z2C (X.take mc) (X.take mo) n=X.take m∧Enough n0 i m:=by
 unfold z2C
 split
 ·rename_i h;rw [List.length_take]at h;refine⟨max n.toNat mo,?_,ho.mono (by omega)⟩;rw [List.take_take,Nat.min_eq_left (by omega),List.drop_take];by_cases h2:mo≤n.toNat
  ·rw [Nat.max_eq_left h2,show mo-n.toNat=0 by omega];simp
  ·rw [Nat.max_eq_right (by omega)]
   conv=>rhs;rw [show mo=n.toNat+(mo-n.toNat) by omega,List.take_add]
 ·exact⟨mc,rfl,hc⟩
def PnS(p:Int)(S:List UInt8)(n0 i:Nat)(q:Pnd):Prop:=∃y c,q= .wr y c∧(y≠p+(i:Int)∨∃m,c=(z6A S i).take m∧Enough n0 i m)
theorem z6v{p:Int}{S:List UInt8}{n0 i:Nat}(l:List (Int×Int)):∀ (ps:List Pnd) (k:Nat) (s:SF×Nat),(∀q∈ps,PnS p S n0 i q)→TornS s.1 p S n0 i→TornS (z0h l k ps s).1 p S n0 i
 | [],_,_,_,h=>h
 |q::ps,k,s,hq,h=>by
  rw [z0h];refine z6v l ps (k+1) _ (fun x hx=>hq x (by simp [hx])) ?_;cases zE6 l k with
  |none=>exact h
  |some n=>
   obtain⟨y,c,rfl,hy⟩:=hq q (by simp);show TornS (fun x=>if x=y then some (z2C c ((s.1 y).getD []) n)else s.1 x) p S n0 i;by_cases e:y=p+(i:Int)
   ·rcases hy with hy|⟨m,rfl,hm⟩
    ·exact absurd e hy
    ·have hX:(z6A S i).length≤512:=by rw [zAU];omega
     rw [e];rcases h with⟨e0,hk⟩|⟨m1,e0,hm1⟩
     ·obtain⟨m2,h2,h3⟩:=zCm hX hm (mo:=0) (.inl (by omega)) n;rw [List.take_zero]at h2;exact .inr ⟨m2,by simp only [if_true,e0,Option.getD_none];rw [h2];rfl,h3⟩
     ·obtain⟨m2,h2,h3⟩:=zCm hX hm (mo:=m1) hm1 n;refine .inr ⟨m2,?_,h3⟩;simp only [if_true,e0,Option.getD_some];exact congrArg some h2
   ·unfold TornS at h ⊢;simp only [if_neg (Ne.symm e)];exact h
theorem zD5(s b:List UInt8)(i:Nat):z6A s i=(z6A (s++b) i).take (s.length-512*i):=by
 unfold z6A;rw [List.take_take,List.drop_append,List.take_append];by_cases h:s.length≤512*i
 ·rw [List.drop_eq_nil_of_le h,show s.length-512*i=0 by omega];simp
 ·rw [show 512*i-s.length=0 by omega,List.drop_zero,List.length_drop,show min (s.length-512*i) 512-(s.length-512*i)=0 by omega,List.take_zero,List.append_nil];by_cases h2:s.length-512*i≤512
  ·rw [Nat.min_eq_left h2,List.take_of_length_le (by rw [List.length_drop];omega),List.take_of_length_le (by rw [List.length_drop];omega)]
  ·rw [Nat.min_eq_right (by omega)]
theorem z7A{s b:List UInt8}{n0 i m:Nat}(h0:n0≤s.length)(h:Enough n0 i m):∃m',(z6A s i).take m=(z6A (s++b) i).take m'∧Enough n0 i m':=by
 refine⟨min m (s.length-512*i),?_,?_⟩
 ·rw [zD5 s b i,List.take_take]
 ·unfold Enough at h ⊢;omega
theorem TornS.grow{f:SF}{p:Int}{s:List UInt8}(b:List UInt8){n0 i:Nat}(h0:n0≤s.length)(h:TornS f p s n0 i):TornS f p (s++b) n0 i:=by
 rcases h with h|⟨m,e,hm⟩
 ·exact .inl h
 ·obtain⟨m',e2,h2⟩:=z7A (b:=b) h0 hm;refine .inr ⟨m',?_,h2⟩;rw [e];exact congrArg some e2
theorem TornS.lay{f:SF}{p:Int}{s:List UInt8}{size i:Nat}(h:Lay f p s size)(hi:i<size):TornS f p s s.length i:=by
 have:=h i hi
 split at this
 ·refine .inr ⟨512,?_,.inr (Nat.le_refl _)⟩;rw [this,List.take_take];simp
 ·exact .inl ⟨this,by omega⟩
structure Sq where
 at':Nat
 base:Nat
 bs:List (List UInt8)
 sure:Option Nat
def Sq.fd(x:Sq):Fd:=⟨x.at',x.base,z05 x.base x.bs⟩
def Sq.bytes(x:Sq):List UInt8:=z1N x.base titleB++z3M x.base x.bs
def Sq.sg(x:Sq):Sg:=⟨x.at',x.base,x.bs.length⟩
def z3F(a:Int)(size i:Nat):Int:=a+(i:Int)*size
theorem z7F{a:Int}{size i j k k':Nat}(hij:i≠j)(hk:k<size)(hk':k'<size):z3F a size i+(k:Int)≠z3F a size j+(k':Int):=by
 have h:=zJD (a:=a) hij.symm hk;unfold z3F;omega
structure OpSg(D:Dsk)(p:Int)(size:Nat)(S:List UInt8)(m:Nat):Prop where
 lay:Lay D.view p S size
 torn:∀k,k<size→TornS D.ground p S m k
 le:m≤S.length
 fit:S.length≤512*size
def PnIn(SB:List Sq)(a:Int)(size:Nat)(q:Pnd):Prop:=∃x∈SB,∃m,x.sure=some m∧∃k,k<size∧∃c,q= .wr (z3F a size x.at'+(k:Int)) ((z6A x.bytes k).take c)∧Enough m k c
structure Lgr(l:Wl)(k:Nat)(R:List (List UInt8))(SB:List Sq):Prop where
 segs:Segs (SB.map Sq.fd) l.n 1 R
 nd:(SB.map (·.at')).Nodup
 lens:∀t∈R,t.length≤32768
 bod:∀x∈SB,∀t∈x.bs,t.length≤32768
 free:∀i,i<l.n→(∀x∈SB,x.at'≠i)→∀j,j<l.size→l.D.view (z3F l.a l.size i+(j:Int))=none
 quiet:∀y,(∀x∈SB,x.sure≠none→∀j,j<l.size→y≠z3F l.a l.size x.at'+(j:Int))→l.D.ground y=l.D.view y
 look:∀x∈SB,x.sure=none→z1Q l.D.view l.a l.size x.at'=some (x.base,z05 x.base x.bs)
 op:∀x∈SB,∀m,x.sure=some m→OpSg l.D (z3F l.a l.size x.at') l.size x.bytes m
 pend:∀q∈l.D.pend,PnIn SB l.a l.size q
 last:l.last=R.length
 live:∀i,z0v l.live i=true↔∃x∈SB,x.at'=i
 sg:∀s∈l.live,∃x∈SB,s=x.sg
 str:l.stream= []∨∃x∈SB,x.sure≠none∧x.base+x.bs.length=R.length+1∧x.bs≠ []∧(∀y∈SB,y.base≤x.base)∧l.live.getLast? =some x.sg∧l.stream=x.bytes
 low:∀y,(l.D.view y).isSome=true→y<l.D.size
 lim:l.D.size≤l.D.limit
 fit:l.a+(l.n:Int)*l.size≤l.D.size
 syn:l.synced≤l.last
 sure:∀x∈SB,∀q,x.fd.cov q→q≤l.synced→x.sure=none∨∃m,x.sure=some m∧(z1N x.base titleB++z3M x.base (x.bs.take (q+1-x.base))).length≤m
 cov:∀q,k<q→q≤R.length→∃x∈SB,x.fd.cov q
variable {l:Wl} {k:Nat} {R:List (List UInt8)} {SB:List Sq}
theorem Lgr.base(g:Lgr l k R SB){x:Sq}(hx:x∈SB):1≤x.base∧x.base+x.bs.length≤R.length+1∧R.length<1000000∧x.at'<l.n:=by
 have h:x.fd∈SB.map Sq.fd:=List.mem_map.2 ⟨x,hx,rfl⟩;have h1:=g.segs.ge x.fd h;have h2:=g.segs.le x.fd h;have h3:=g.segs.small;have h4:=g.segs.lt x.fd h;have e:x.fd.recs.length=x.bs.length:=z1U _ _;rw [e]at h2;exact⟨h1,by have:x.fd.base=x.base:=rfl;omega,by omega,h4⟩
theorem Lgr.inj(g:Lgr l k R SB){x y:Sq}(hx:x∈SB)(hy:y∈SB)(h:x.at'=y.at'):x=y:=by
 have nd:=g.nd;clear g
 induction SB with
 |nil=>cases hx
 |cons z zs ih=>
  rw [List.map_cons,List.nodup_cons]at nd;rcases List.mem_cons.1 hx with rfl|hx1
  ·rcases List.mem_cons.1 hy with rfl|hy1
   ·rfl
   ·exact absurd (List.mem_map.2 ⟨y,hy1,h.symm⟩) nd.1
  ·rcases List.mem_cons.1 hy with rfl|hy1
   ·exact absurd (List.mem_map.2 ⟨x,hx1,h⟩) nd.1
   ·exact ih hx1 hy1 nd.2
theorem Sq.fd_inj{x y:Sq}(h:x.fd=y.fd):x.at'=y.at':=congrArg Fd.at' h
theorem Lgr.disj(g:Lgr l k R SB){x y:Sq}(hx:x∈SB)(hy:y∈SB){q:Nat}(h1:x.fd.cov q)(h2:y.fd.cov q):x=y:=
 g.inj hx hy (Sq.fd_inj (g.segs.disj _ (List.mem_map.2 ⟨x,hx,rfl⟩) _ (List.mem_map.2 ⟨y,hy,rfl⟩) q h1 h2))
theorem Lgr.lookO(g:Lgr l k R SB){x:Sq}(hx:x∈SB):z1Q l.D.view l.a l.size x.at'=some (x.base,z05 x.base x.bs):=by
 cases hs:x.sure with
 |none=>exact g.look x hx hs
 |some m=>
  have o:=g.op x hx m hs;have hb:=g.base hx;unfold z1Q;rw [show l.a+(x.at':Int)*l.size=z3F l.a l.size x.at' from rfl,Lay.bytes l.size o.lay o.fit];have:=z8P (q:=x.base) (by unfold U64;omega) (g.bod x hx) (n:=(z1N x.base titleB++z3M x.base x.bs).length) (by simp) (Nat.le_refl _);rw [List.take_length,List.length_append,Nat.add_sub_cancel_left,z8j,List.take_of_length_le (by rw [z1U];exact Nat.le_refl _)]at this;exact this
theorem Lgr.noLook(g:Lgr l k R SB){i:Nat}(hi:i<l.n)(h:∀x∈SB,x.at'≠i)(hs:1≤l.size):z1Q l.D.view l.a l.size i=none:=by
 obtain⟨m,hm⟩:∃m,l.size=m+1:=⟨l.size-1,by omega⟩;have:=g.free i hi h 0 (by omega);unfold z1Q;rw [hm,z3i]
 ·unfold z4G;rw [z5V]
 ·rw [←hm];simpa [z3F]using this
end
section
open Go
theorem z23{f g:SF}:∀ (size:Nat) {p:Int},(∀j,j<size→g (p+(j:Int))=f (p+(j:Int)))→z1E g p size=z1E f p size
 |0,_,_=>rfl
 |size+1,p,h=>by
  have h0:=h 0 (by omega);rw [Int.natCast_zero,Int.add_zero]at h0;have ih:=z23 (f:=f) (g:=g) size (p:=p+1) fun j hj=>by
   have:=h (j+1) (by omega)
   rwa [show p+((j+1:Nat):Int)=p+1+(j:Int) by omega]at this
  rw [z1E,z1E,h0,ih]
theorem zEg{p:Int}{b:List UInt8}:∀ (m k:Nat) {q:Pnd},q∈wrs p b m k→∃j,512*j<b.length∧q= .wr (p+(j:Int)) (z6A b j)
 |0,k,q,h=>by cases h
 |m+1,k,q,h=>by
  rw [wrs]at h
  split at h
  ·rename_i hk;rcases List.mem_cons.1 h with rfl|h
   ·exact⟨k,hk,rfl⟩
   ·exact zEg m (k+1) h
  ·cases h
theorem z4F:∀ {ts us:List (List UInt8)} {f:Nat},z05 f ts=z05 f us→ts=us
 | [],[],_,_=>rfl
 | [],u::us,f,h=>by simp [z05]at h
 |t::ts,[],f,h=>by simp [z05]at h
 |t::ts,u::us,f,h=>by
  rw [z05,z05]at h;injection h with h1 h2
  injection h1 with _ h1
  rw [h1,z4F h2]
def z2Z(SB:List Sq)(i:Nat):List Sq:=SB.filter fun y=>decide (y.at'≠i)
theorem z0d{SB:List Sq}{i:Nat}{y:Sq}:y∈z2Z SB i↔y∈SB∧y.at'≠i:=by
 unfold z2Z;rw [List.mem_filter,decide_eq_true_eq]
theorem zEi{SB:List Sq}(h:(SB.map (·.at')).Nodup)(i:Nat):((z2Z SB i).map (·.at')).Nodup:=by
 induction SB with
 |nil=>simp [z2Z]
 |cons z zs ih=>
  rw [List.map_cons,List.nodup_cons]at h;unfold z2Z at ih ⊢;rw [List.filter_cons]
  split
  ·rw [List.map_cons,List.nodup_cons];refine⟨fun hm=>h.1 ?_,ih h.2⟩;obtain⟨y,hy,e⟩:=List.mem_map.1 hm;exact List.mem_map.2 ⟨y,(List.mem_filter.1 hy).1,e⟩
  ·exact ih h.2
structure PutIn(l:Wl)(R:List (List UInt8))(SB:List Sq)(t s b:List UInt8)(x:Sq)(m0:Nat):Prop where
 lt:x.at'<l.n
 sure:x.sure=some m0
 bs:∃bs0,x.bs=bs0++ [t]∧bs0=(R.drop (x.base-1)).take bs0.length∧x.base+bs0.length=R.length+1∧∀q,x.base≤q→q<x.base+bs0.length→∃y∈SB,y.at'=x.at'∧y.fd.cov q
 base:1≤x.base
 bytes:x.bytes=s++b
 lay:Lay l.D.view (z3F l.a l.size x.at') s l.size
 torn:∀j,j<l.size→TornS l.D.ground (z3F l.a l.size x.at') (s++b) m0 j
 le:m0≤(s++b).length
 fit:(s++b).length≤512*l.size
 pend:∀q∈l.D.pend,PnIn (x::z2Z SB x.at') l.a l.size q
 quiet:∀y,(∀z∈x::z2Z SB x.at',z.sure≠none→∀j,j<l.size→y≠z3F l.a l.size z.at'+(j:Int))→l.D.ground y=l.D.view y
 top:∀y∈SB,y.base≤x.base
 own:∀y∈SB,y.at'=x.at'→∀q,y.fd.cov q→x.base≤q∧q<x.base+x.bs.length
 bnd:∀z∈z2Z SB x.at',¬ (z.fd.cov (x.base-1)∧z.fd.cov x.base)
 syn:∀q,x.base≤q→q<x.base+x.bs.length→q≤l.synced→(z1N x.base titleB++z3M x.base (x.bs.take (q+1-x.base))).length≤m0
variable {l:Wl} {k:Nat} {R:List (List UInt8)} {SB:List Sq} {t s b:List UInt8} {x:Sq} {m0:Nat}
theorem Sq.fd_len(x:Sq):x.fd.recs.length=x.bs.length:=z1U _ _
theorem Sq.cov_iff(x:Sq)(q:Nat):x.fd.cov q↔x.base≤q∧q<x.base+x.bs.length:=by
 unfold Fd.cov;rw [Sq.fd_len];exact Iff.rfl
theorem PutIn.segs(p:PutIn l R SB t s b x m0)(g:Lgr l k R SB)(hN:R.length<999998):Segs ((x::z2Z SB x.at').map Sq.fd) l.n 1 (R++ [t]):=by
 obtain⟨bs0,hbs,h0,hend,hcov⟩:=p.bs;have hlen:x.bs.length=bs0.length+1:=by rw [hbs];simp
 have hb1:=p.base;have hmem:∀y,y∈(x::z2Z SB x.at').map Sq.fd→y=x.fd∨∃z∈SB,z.at'≠x.at'∧y=z.fd:=fun y hy=>by
  obtain⟨z,hz,rfl⟩:=List.mem_map.1 hy;rcases List.mem_cons.1 hz with rfl|hz
  ·exact .inl rfl
  ·have:=z0d.1 hz;exact .inr ⟨z,this.1,this.2,rfl⟩
 have hz:∀z∈SB,1≤z.base∧z.base+z.bs.length≤R.length+1:=fun z hz=>⟨(g.base hz).1,(g.base hz).2.1⟩
 have hxz:∀z∈SB,z.at'≠x.at'→∀q,x.fd.cov q→¬z.fd.cov q:=fun z hzm hne q h1 h2=>by
  have h3:=(x.cov_iff q).1 h1;have h4:=(z.cov_iff q).1 h2;have h5:=hz z hzm;rw [hlen]at h3;by_cases hq:q<x.base+bs0.length
  ·obtain⟨y,hy,e,hc⟩:=hcov q h3.1 hq;have:=g.disj hy hzm hc h2;subst this;exact hne e
  ·omega
 refine⟨Nat.le_refl _,by simp;omega,?_,?_,?_,?_,?_,?_,?_⟩
 ·intro y hy;rcases hmem y hy with rfl|⟨z,hzm,_,rfl⟩
  ·exact hb1
  ·exact(hz z hzm).1
 ·intro y hy;rw [List.length_append,List.length_singleton];rcases hmem y hy with rfl|⟨z,hzm,_,rfl⟩
  ·rw [Sq.fd_len,hlen];show x.base+_≤_;omega
  ·rw [Sq.fd_len];have:=(hz z hzm).2;show z.base+_≤_;omega
 ·intro y hy;rcases hmem y hy with rfl|⟨z,hzm,_,rfl⟩
  ·rw [Sq.fd_len];show z05 x.base x.bs=z05 x.base _
   congr 1
   show x.bs=((R++ [t]).drop (x.base-1)).take x.bs.length;rw [hlen,hbs,List.drop_append_of_le_length (by omega)];have e:R.drop (x.base-1)=bs0:=by
    rw [h0];rw [List.take_of_length_le (by rw [List.length_drop];omega)]
   rw [e,List.take_of_length_le (by simp)]
  ·have h1:=g.segs.recs z.fd (List.mem_map.2 ⟨z,hzm,rfl⟩);rw [h1];rw [Sq.fd_len]at h1 ⊢;have h5:=hz z hzm;have hl:(z5r 1 R z.base z.bs.length).length=z.bs.length:=zHo h5.1 (by omega);show z5r 1 R z.base z.bs.length=z5r 1 (R++ [t]) z.base (z5r 1 R z.base z.bs.length).length;rw [hl];unfold z5r;rw [List.drop_append_of_le_length (by omega),List.take_append_of_le_length (by rw [List.length_drop];omega)]
 ·intro y hy z hz2 q h1 h2;rcases hmem y hy with rfl|⟨y',hym,hyn,rfl⟩
  ·rcases hmem z hz2 with rfl|⟨z',hzm,hzn,rfl⟩
   ·rfl
   ·exact(hxz z' hzm hzn q h1 h2).elim
  ·rcases hmem z hz2 with rfl|⟨z',hzm,hzn,rfl⟩
   ·exact(hxz y' hym hyn q h2 h1).elim
   ·rw [g.disj hym hzm h1 h2]
 ·intro y hy z hz2 ⟨h1,h2⟩;rcases hmem y hy with rfl|⟨y',hym,hyn,rfl⟩
  ·rcases hmem z hz2 with rfl|⟨z',hzm,hzn,rfl⟩
   ·have:=((x.cov_iff _).1 h1).1;have e:x.fd.base=x.base:=rfl;omega
   ·exact p.bnd z' (z0d.2 ⟨hzm,hzn⟩) ⟨h1,h2⟩
  ·rcases hmem z hz2 with rfl|⟨z',hzm,hzn,rfl⟩
   ·have h3:=((x.cov_iff _).1 h1).1;have h4:=p.top y' hym;have h5:=(hz y' hym).1;have e:y'.fd.base=y'.base:=rfl;omega
   ·exact g.segs.bnd _ (List.mem_map.2 ⟨y',hym,rfl⟩) _ (List.mem_map.2 ⟨z',hzm,rfl⟩) ⟨h1,h2⟩
 ·intro y hy z hz2 h;rcases hmem y hy with rfl|⟨y',hym,hyn,rfl⟩
  ·rcases hmem z hz2 with rfl|⟨z',hzm,hzn,rfl⟩
   ·rfl
   ·exact absurd h.symm hzn
  ·rcases hmem z hz2 with rfl|⟨z',hzm,hzn,rfl⟩
   ·exact absurd h hyn
   ·rw [g.inj hym hzm h]
 ·intro y hy;rcases hmem y hy with rfl|⟨z,hzm,_,rfl⟩
  ·exact p.lt
  ·exact(g.base hzm).2.2.2
theorem PutIn.done(p:PutIn l R SB t s b x m0)(g:Lgr l k R SB)(ok:l.Ok)(hN:R.length<999998)(ht:t.length≤32768){L:List Sg}(hL:∀i,z0v L i=true↔∃y∈x::z2Z SB x.at',y.at'=i)(hsg:∀y∈L,∃z∈x::z2Z SB x.at',y=z.sg)(hlast:L.getLast? =some x.sg):
 ∃D',z3b l.D (z3F l.a l.size x.at') (s++b) (s++b).length (s.length / 512)=(D',0)∧Lgr {l with D:=D',live:=L,stream:=s++b,last:=R.length+1} k (R++ [t]) (x::z2Z SB x.at')∧
  (∀y,(∀j,j<l.size→y≠z3F l.a l.size x.at'+(j:Int))→D'.view y=l.D.view y)∧D'.size=l.D.size∧D'.limit=l.D.limit∧D'.pend.length≤l.D.pend.length+512*l.size∧D'.ground=l.D.ground:=by
 have hsi:=zF9 (a:=l.a) (size:=l.size) p.lt;have hsz:=ok.dok.size;have hM:((l.D.size.toNat:Nat):Int)=l.D.size:=by omega
 have hfit:=g.fit;have hk0:∀y,(l.D.view y).isSome=true→0≤y∧y<0+(l.D.size.toNat:Int):=fun y hy=>by
  have h1:=g.low y hy;obtain⟨c,hc⟩:=Option.isSome_iff_exists.1 hy;have h2:=ok.dok.view.at hc;omega
 have ha0:=ok.a0;have e0:z3F l.a l.size x.at'=l.a+(x.at':Int)*l.size:=rfl;obtain⟨D',h3,h4,h5,h6,h7,h8,h9⟩:=zCs (D0:=l.D) (lo:=0) (M:=l.D.size.toNat) (p:=z3F l.a l.size x.at') (size:=l.size) (s:=s) (t:=b) (by omega) (by omega) (by have:=g.lim;omega) (by rw [e0];omega) (by rw [e0];omega) p.fit
  (s++b).length (s.length / 512) l.D (by omega) (by omega) (MidW.start ok.dok p.lay hk0)
 obtain⟨q1,q2,q3⟩:=z8G _ _ _ _ h3;have hpl:=zE4 (z3F l.a l.size x.at') (s++b) (s++b).length (s.length / 512) l.D;rw [h3]at hpl;have hout:∀y,(∀j,j<l.size→y≠z3F l.a l.size x.at'+(j:Int))→D'.view y=l.D.view y:=fun y hy=>by
  refine h5 y ?_;rcases Int.lt_or_le y (z3F l.a l.size x.at')with h|h
  ·exact .inl h
  ·right;rcases Int.lt_or_le y (z3F l.a l.size x.at'+l.size)with h2|h2
   ·exact absurd (show y=z3F l.a l.size x.at'+((y-z3F l.a l.size x.at').toNat:Int) by omega) (hy _ (by omega))
   ·exact h2
 have hoth:∀i,i≠x.at'→∀j,j<l.size→D'.view (z3F l.a l.size i+(j:Int))=l.D.view (z3F l.a l.size i+(j:Int)):=fun i hi j hj=>hout _ fun j' hj'=>z7F hi hj hj'
 have hfitp:=p.fit;refine⟨D',h3,⟨p.segs g hN,?_,?_,?_,?_,?_,?_,?_,?_,?_,hL,hsg,?_,?_,?_,?_,?_,?_,?_⟩,hout,h9,h8,by simp only at hpl;omega,q2⟩
 ·rw [List.map_cons,List.nodup_cons];refine⟨fun hm=> ?_,zEi g.nd _⟩;obtain⟨y,hy,e⟩:=List.mem_map.1 hm;exact(z0d.1 hy).2 e
 ·intro u hu;rw [List.mem_append,List.mem_singleton]at hu;rcases hu with hu|rfl
  ·exact g.lens u hu
  ·exact ht
 ·intro y hy u hu;rcases List.mem_cons.1 hy with rfl|hy
  ·obtain⟨bs0,hbs,h0,_,_⟩:=p.bs;rw [hbs,List.mem_append,List.mem_singleton]at hu;rcases hu with hu|rfl
   ·rw [h0]at hu;exact g.lens u (List.mem_of_mem_drop (List.mem_of_mem_take hu))
   ·exact ht
  ·exact g.bod y (z0d.1 hy).1 u hu
 ·intro i hi hno j hj;have hix:i≠x.at':=fun e=>hno x (by simp) e.symm
  show D'.view _=none;rw [hoth i hix j hj];refine g.free i hi (fun y hy e=> ?_) j hj;exact hno y (List.mem_cons_of_mem _ (z0d.2 ⟨hy,by rw [e];exact hix⟩)) e
 ·intro y hy;show D'.ground y=D'.view y;rw [q2,hout y (hy x (by simp) (by rw [p.sure];simp))];exact p.quiet y hy
 ·intro y hy hs;rcases List.mem_cons.1 hy with rfl|hy
  ·rw [p.sure]at hs;cases hs
  ·obtain⟨hy1,hy2⟩:=z0d.1 hy;have:=g.look y hy1 hs;show z1Q D'.view l.a l.size y.at'=_;rw [←this];unfold z1Q;rw [show l.a+(y.at':Int)*l.size=z3F l.a l.size y.at' from rfl,z23 l.size fun j hj=>hoth y.at' hy2 j hj]
 ·intro y hy m hm;rcases List.mem_cons.1 hy with rfl|hy
  ·rw [p.sure]at hm;injection hm with hm
   subst hm;rw [p.bytes];exact⟨h4,fun j hj=>by rw [show(_:Wl).D.ground=l.D.ground from q2];exact p.torn j hj,p.le,p.fit⟩
  ·obtain⟨hy1,hy2⟩:=z0d.1 hy;have o:=g.op y hy1 m hm;exact⟨o.lay.congr fun j hj=>hoth y.at' hy2 j hj,fun j hj=>by rw [show(_:Wl).D.ground=l.D.ground from q2];exact o.torn j hj,o.le,o.fit⟩
 ·intro q hq;rw [show(_:Wl).D.pend=_ from q1,List.mem_append]at hq;rcases hq with hq|hq
  ·exact p.pend q hq
  ·obtain⟨j,hj,rfl⟩:=zEg _ _ hq;refine⟨x,by simp,m0,p.sure,j,by show j<l.size;omega,512,?_,.inr (Nat.le_refl _)⟩;rw [p.bytes,List.take_of_length_le (l:=z6A (s++b) j) (by rw [zAU];omega)]
 ·simp
 ·right;obtain⟨bs0,hbs,h0,hend,_⟩:=p.bs;refine⟨x,by simp,by rw [p.sure];simp,?_,by rw [hbs];simp,?_,hlast,p.bytes.symm⟩
  ·rw [hbs];simp;omega
  ·intro y hy;rcases List.mem_cons.1 hy with rfl|hy
   ·exact Nat.le_refl _
   ·exact p.top y (z0d.1 hy).1
 ·intro y hy;have:=(h6 y hy).2;show y<D'.size;rw [h9];omega
 ·show D'.size≤D'.limit;rw [h8,h9];exact g.lim
 ·show l.a+(l.n:Int)*l.size≤D'.size;rw [h9];exact hfit
 ·show l.synced≤R.length+1;have:=g.syn;have:=g.last;omega
 ·intro y hy q hc hq;rcases List.mem_cons.1 hy with rfl|hy
  ·have h2:=(y.cov_iff q).1 hc;exact .inr ⟨m0,p.sure,p.syn q h2.1 h2.2 hq⟩
  ·exact g.sure y (z0d.1 hy).1 q hc hq
 ·intro q h1 h2;rw [List.length_append,List.length_singleton]at h2;obtain⟨bs0,hbs,h0,hend,_⟩:=p.bs;have hl:x.bs.length=bs0.length+1:=by rw [hbs];simp
  by_cases hq:q=R.length+1
  ·refine⟨x,by simp,(x.cov_iff q).2 ?_⟩;omega
  ·obtain⟨y,hy,hc⟩:=g.cov q h1 (by omega);by_cases e:y.at'=x.at'
   ·exact⟨x,by simp,(x.cov_iff q).2 (p.own y hy e q hc)⟩
   ·exact⟨y,List.mem_cons_of_mem _ (z0d.2 ⟨hy,e⟩),hc⟩
structure ApL(l:Wl)(k:Nat)(R:List (List UInt8))(t:List UInt8)(l':Wl):Prop where
 g:∃SB',Lgr l' k (R++ [t]) SB'
 out:∀y,(y<l.a∨l.a+(l.n:Int)*l.size≤y)→l'.D.view y=l.D.view y
 siz:l'.D.size=l.D.size
 lim:l'.D.limit=l.D.limit
 pend:l'.D.pend.length≤l.D.pend.length+512*l.size
 par:l'.a=l.a∧l'.n=l.n∧l'.size=l.size∧l'.synced=l.synced
 live:l'.live.length≤l.live.length+1
 ground:l'.D.ground=l.D.ground
theorem zBc{a:Int}{n size i:Nat}(hi:i<n){y:Int}(hy:y<a∨a+(n:Int)*size≤y)(j:Nat)(hj:j<size):y≠z3F a size i+(j:Int):=by
 have h:=zF9 (a:=a) (size:=size) hi;unfold z3F;omega
theorem Lgr.append(g:Lgr l k R SB)(ok:l.Ok)(t:List UInt8)(hN:R.length<999998):
 (((z0F l t).2.2=81∨(z0F l t).2.2=82)∧(z0F l t).1=l∧(z0F l t).2.1=0∧((z0F l t).2.2=81→(32768<t.length∨512*l.size<(z1N (l.last+1) titleB).length+(z1N (l.last+1) t).length))∧
   ((z0F l t).2.2=82→z2k l.live l.n=none))∨
 ((z0F l t).2=(R.length+1,0)∧ApL l k R t (z0F l t).1):=by
 have hla:=g.last;obtain⟨q,hq9⟩:∃q,q=R.length+1:=⟨_,rfl⟩;have hqq:q=(l.last+1)%U64:=by rw [hq9,hla,Nat.mod_eq_of_lt (by unfold U64;omega)]
 have hql:q=l.last+1:=by omega
 obtain⟨head,hh⟩:∃head,head=z1N q titleB:=⟨_,rfl⟩;obtain⟨b,hb⟩:∃b,b=z1N q t:=⟨_,rfl⟩;by_cases hlong:32768<t.length∨512*l.size<head.length+b.length
 ·left;have e:z0F l t=(l,0,81):=by subst hh hb;rw [hqq]at hlong;unfold z0F;rw [if_pos hlong]
  rw [e];refine⟨.inl rfl,rfl,rfl,fun _=> ?_,fun h=>(by cases h)⟩;rw [←hql,←hh,←hb];exact hlong
 have ht:t.length≤32768:=by omega
 have hbq:b=z1N (q%U64) t:=by rw [hb,hqq,Nat.mod_mod]
 have hsize:=ok.s1;by_cases hfr:l.stream= []∨512*l.size<l.stream.length+b.length
 ·cases hw:z2k l.live l.n with
  |none=>
   left;have e:z0F l t=(l,0,82):=by subst hh hb;rw [hqq]at hlong hfr;unfold z0F;rw [if_neg hlong,if_pos hfr,hw]
   rw [e];exact⟨.inr rfl,rfl,rfl,fun h=>(by cases h),fun _=>rfl⟩
  |some i=>
   right;obtain⟨hi,hu⟩:=z4k hw;have hno:∀x∈SB,x.at'≠i:=fun x hx e=>by
    have:=(g.live i).2 ⟨x,hx,e⟩;rw [hu]at this;cases this
   have hoth:z2Z SB i=SB:=by
    unfold z2Z;exact List.filter_eq_self.2 fun y hy=>decide_eq_true (hno y hy)
   obtain⟨x,hx⟩:∃x:Sq,x=⟨i,q,[t],some 0⟩:=⟨_,rfl⟩;have hxi:x.at'=i:=by rw [hx]
   have hby:x.bytes=head++b:=by
    rw [hx];show z1N q titleB++(z1N (q%U64) t++ [])=_;rw [List.append_nil,←hh,←hbq]
   have hfit:([]++(head++b)).length≤512*l.size:=by rw [List.nil_append,List.length_append];omega
   have hz:∀z∈SB,z.base+z.bs.length≤R.length+1:=fun z hz=>(g.base hz).2.1
   have hgf:∀j,j<l.size→l.D.ground (z3F l.a l.size i+(j:Int))=none:=fun j hj=>by
    rw [g.quiet _ (fun z hz _ j' hj'=>z7F (Ne.symm (hno z hz)) hj hj')];exact g.free i hi hno j hj
   have P:PutIn l R SB t [] (head++b) x 0:=by
    refine⟨by rw [hxi];exact hi,by rw [hx],⟨[],by rw [hx];rfl,by simp,by rw [hx];simp;omega,fun q' h1 h2=>by rw [hx]at h1 h2;simp at h1 h2;omega⟩,by rw [hx];show 1≤q;omega,by rw [hby];rfl,?_,?_,Nat.zero_le _,hfit,?_,?_,?_,?_,?_,?_⟩
    ·intro j hj;rw [hxi,g.free i hi hno j hj];simp
    ·intro j hj;rw [hxi];exact .inl ⟨hgf j hj,Nat.zero_le _⟩
    ·intro p hp;obtain⟨y,hy,r⟩:=g.pend p hp;exact⟨y,by rw [hxi,hoth];exact List.mem_cons_of_mem _ hy,r⟩
    ·intro y hy;exact g.quiet y fun z hz hs j hj=>hy z (by rw [hxi,hoth];exact List.mem_cons_of_mem _ hz) hs j hj
    ·intro y hy;have:=hz y hy;rw [hx];show y.base≤q;omega
    ·intro y hy e;exact absurd (e.trans hxi) (hno y hy)
    ·intro z hz2 ⟨h1,h2⟩;have:=((z.cov_iff _).1 h2).2;have h3:=hz z (z0d.1 hz2).1;rw [hx]at this;simp only at this;omega
    ·intro q' h1 h2 h3;rw [hx]at h1;have:=g.syn;simp only at h1;omega
   obtain⟨D',h3,hg,hout,hs1,hs2,hpl,hgr⟩:=P.done g ok hN ht (L:=l.live++ [x.sg]) (by
    intro j;rw [z3H,hxi,hoth,Bool.or_eq_true,g.live j];constructor
    ·rintro(⟨y,hy,e⟩|e)
     ·exact⟨y,List.mem_cons_of_mem _ hy,e⟩
     ·exact⟨x,by simp,by simpa [Sq.sg]using e⟩
    ·rintro⟨y,hy,e⟩;rcases List.mem_cons.1 hy with rfl|hy
     ·exact .inr (by simpa [Sq.sg]using e)
     ·exact .inl ⟨y,hy,e⟩) (by
    intro y hy;rw [List.mem_append,List.mem_singleton]at hy;rcases hy with hy|rfl
    ·obtain⟨z,hz,e⟩:=g.sg y hy;exact⟨z,by rw [hxi,hoth];exact List.mem_cons_of_mem _ hz,e⟩
    ·exact⟨x,by simp,rfl⟩) (by simp)
   rw [List.nil_append,List.length_nil,Nat.zero_div,hxi]at h3;have ac:ApC l q head b (l.live++ [⟨i,q,0⟩]) head i true:=⟨fun _=>⟨hfr,hw,rfl,rfl⟩,fun e=>by cases e⟩;have e:=z4R hqq hh hb hlong ac (r:=(D',0)) (by simp only [z1v,if_true,Nat.zero_div];exact h3) rfl;have e9:(⟨i,q,(0+1)%U64⟩:Sg)=x.sg:=by rw [hx];rfl
   rw [e,z3R];rw [List.nil_append,←hq9]at hg;simp only;rw [e9];rw [hxi]at hout;exact⟨by rw [hq9],⟨⟨_,hg⟩,fun y hy=>hout y fun j hj=>zBc hi hy j hj,hs1,hs2,hpl,⟨rfl,rfl,rfl,rfl⟩,by simp,hgr⟩⟩
 ·right;have hst:l.stream≠ []:=fun e=>hfr (.inl e)
  obtain⟨xo,hxm,hso,hend,hne,htop,hlast,hstr⟩:=g.str.resolve_left hst;obtain⟨m0,hm0⟩:∃m0,xo.sure=some m0:=by
   cases h:xo.sure with
   |none=>exact absurd h hso
   |some m=>exact⟨m,rfl⟩
  have o:=g.op xo hxm m0 hm0;have hB:=g.base hxm;obtain⟨x,hx⟩:∃x:Sq,x=⟨xo.at',xo.base,xo.bs++ [t],some m0⟩:=⟨_,rfl⟩;have hxi:x.at'=xo.at':=by rw [hx]
  have hby:x.bytes=xo.bytes++b:=by
   rw [hx];show z1N xo.base titleB++z3M xo.base (xo.bs++ [t])=_;rw [z4q,hend,←hq9];show z1N xo.base titleB++(z3M xo.base xo.bs++(z1N (q%U64) t++ []))=_;rw [List.append_nil,←hbq,←List.append_assoc];rfl
  have hfit:(xo.bytes++b).length≤512*l.size:=by rw [List.length_append,←hstr];omega
  have hrec:=g.segs.recs xo.fd (List.mem_map.2 ⟨xo,hxm,rfl⟩);rw [Sq.fd_len]at hrec;have hbs0:xo.bs=(R.drop (xo.base-1)).take xo.bs.length:=z4F hrec;have hpos:=zJ2 hne;have P:PutIn l R SB t xo.bytes b x m0:=by
   refine⟨by rw [hxi];exact hB.2.2.2,by rw [hx],⟨xo.bs,by rw [hx],by rw [hx];exact hbs0,by rw [hx];exact hend,fun q' h1 h2=>⟨xo,hxm,hxi.symm,(xo.cov_iff q').2 (by rw [hx]at h1 h2;exact⟨h1,h2⟩)⟩⟩,by rw [hx];exact hB.1,hby,?_,?_,?_,hfit,?_,?_,?_,?_,?_,?_⟩
   ·rw [hxi];exact o.lay
   ·intro j hj;rw [hxi];exact(o.torn j hj).grow b o.le
   ·rw [List.length_append];have:=o.le;omega
   ·intro p hp;obtain⟨y,hy,m,hm,j,hj,c,hc,hen⟩:=g.pend p hp;by_cases e:y.at'=xo.at'
    ·obtain rfl:=g.inj hy hxm e;rw [hm]at hm0;injection hm0 with hm0
     subst hm0;obtain⟨c',h1,h2⟩:=z7A (b:=b) o.le hen;exact⟨x,by simp,m,by rw [hx],j,hj,c',by rw [hc,h1,hxi,hby],h2⟩
    ·exact⟨y,List.mem_cons_of_mem _ (z0d.2 ⟨hy,by rw [hxi];exact e⟩),m,hm,j,hj,c,hc,hen⟩
   ·intro y hy;refine g.quiet y fun z hz hs j hj=> ?_
    by_cases e:z.at'=xo.at'
    ·rw [e,←hxi];exact hy x (by simp) (by rw [hx];simp) j hj
    ·exact hy z (List.mem_cons_of_mem _ (z0d.2 ⟨hz,by rw [hxi];exact e⟩)) hs j hj
   ·intro y hy;rw [hx];exact htop y hy
   ·intro y hy e q' hc;obtain rfl:=g.inj hy hxm (e.trans hxi);have:=(y.cov_iff q').1 hc;rw [hx];simp only [List.length_append,List.length_singleton];omega
   ·intro z hz2 ⟨h1,h2⟩;obtain⟨hz3,hz4⟩:=z0d.1 hz2;rw [hx]at h1 h2;exact g.segs.bnd _ (List.mem_map.2 ⟨xo,hxm,rfl⟩) _ (List.mem_map.2 ⟨z,hz3,rfl⟩) ⟨h1,h2⟩
   ·intro q' h1 h2 h3;have hsy:=g.syn;rw [hx]at h1 ⊢;simp only at h1 ⊢;rcases g.sure xo hxm q' ((xo.cov_iff q').2 ⟨h1,by omega⟩) h3 with h|⟨m,h,h4⟩
    ·rw [hm0]at h;cases h
    ·rw [hm0]at h;injection h with h
     subst h;rw [List.take_append_of_le_length (by omega)];exact h4
  obtain⟨L0,hL0⟩:∃L0,l.live=L0++ [xo.sg]:=by
   have:=List.getLast?_eq_some_iff.1 hlast;exact this
  have hnd:=ok.nd;rw [hL0,List.map_append,List.nodup_append]at hnd;have hat:((l.live.getLast?).map (·.at')).getD 0=xo.at':=by rw [hlast];rfl
  have hcnt:(xo.bs.length+1)%U64=xo.bs.length+1:=Nat.mod_eq_of_lt (by unfold U64;omega);have e9:(⟨xo.at',xo.base,(xo.bs.length+1)%U64⟩:Sg)=x.sg:=by
   rw [hx];show(⟨_,_,_⟩:Sg)=⟨_,_,(xo.bs++ [t]).length⟩;rw [hcnt,List.length_append,List.length_singleton]
  obtain⟨D',h3,hg,hout,hs1,hs2,hpl,hgr⟩:=P.done g ok hN ht (L:=L0++ [x.sg]) (by
   intro j;have h1:=g.live j;rw [hL0,z3H]at h1;rw [z3H];have e1:x.sg.at'=xo.sg.at':=hxi;rw [e1,h1];constructor
   ·rintro⟨y,hy,e⟩;by_cases e2:y.at'=xo.at'
    ·exact⟨x,by simp,by rw [hxi,←e2];exact e⟩
    ·exact⟨y,List.mem_cons_of_mem _ (z0d.2 ⟨hy,by rw [hxi];exact e2⟩),e⟩
   ·rintro⟨y,hy,e⟩;rcases List.mem_cons.1 hy with rfl|hy
    ·exact⟨xo,hxm,by rw [←hxi];exact e⟩
    ·exact⟨y,(z0d.1 hy).1,e⟩) (by
   intro y hy;rw [List.mem_append,List.mem_singleton]at hy;rcases hy with hy|rfl
   ·obtain⟨z,hz,e⟩:=g.sg y (by rw [hL0];simp [hy]);refine⟨z,List.mem_cons_of_mem _ (z0d.2 ⟨hz,fun e2=> ?_⟩),e⟩;refine hnd.2.2 y.at' (List.mem_map.2 ⟨y,hy,rfl⟩) xo.sg.at' (by simp) ?_;rw [e];exact e2.trans hxi
   ·exact⟨x,by simp,rfl⟩) (by simp)
  rw [hxi]at h3;have ac:ApC l q head b l.live l.stream xo.at' false:=⟨fun e=>(by cases e),fun _=>⟨hfr,rfl,rfl,hat⟩⟩;have e:=z4R hqq hh hb hlong ac (r:=(D',0)) (by simp only [z1v,Bool.false_eq_true,if_false,hstr];exact h3) rfl;rw [e,hL0,z3R];rw [←hq9,←hstr]at hg;simp only;rw [show({xo.sg with count:=(xo.sg.count+1)%U64}:Sg)=x.sg from e9];rw [hxi]at hout;exact⟨by rw [hq9],⟨⟨_,hg⟩,fun y hy=>hout y fun j hj=>zBc hB.2.2.2 hy j hj,hs1,hs2,hpl,⟨rfl,rfl,rfl,rfl⟩,by simp [hL0],hgr⟩⟩
end
end Go.Proofs.YthbhkdhljlganaaGreatDoor
