/- Part 10. -/
import Derived.Test.YthnlcbamjehpdaaGreatDoorViewCollectsJ9
namespace Go.Proofs.YthnlcbamjehpdaaGreatDoor
set_option linter.unusedVariables false
set_option maxHeartbeats 16000000
set_option maxRecDepth 100000
section
open Go Go.RowKit Tryz
def z5v(D:Dsk)(a:Int)(tb:TF)(c:Int->List UInt8):Prop:=∀i p l,tb i=some (p,l)->p<=256/\l<=2048/\(c i).length=l/\∀k:Nat,512*k<l->D.view (z7z a p+(k:Int))=some (zEd (c i) k)
def Pgr.page(P:Pgr)(c:Int->List UInt8)(x:Int):Option (List UInt8):=if P.has x then some ((P.wr x).getD (c x))else none
theorem z1C{x:Int}(h0: -9223372036854775808<=x)(h1:x<=9223372036854775807):IntKind.i64.wrap x=x:=by
 simp [IntKind.wrap,IntKind.bits,IntKind.signed];omega
def RdPost(P:Pgr)(c:Int->List UInt8)(x:Int)(w:World)(e:Ending)(w':World):Prop:=
 ∃A n c',e= .returned (.tuple #[.slice A n c',.int .i64 (if P.has x then 0 else 131)])/\Ob 5 w' w.heap.size (.slice A n c') ((P.page c x).getD [])/\Below w.heap.size w w'
structure RkSt(w wr:World)(b:List UInt8)(gx p k:Nat)(v:Value):Prop where
 own:Ob 5 wr w.heap.size v (b.take (512*k))
 blk:Blk wr gx 253 #[.int .i64 (p:Int),.int .i64 (b.length:Int)]
 below:Below w.heap.size w wr
 k4:k<=4
theorem zFn(Z:Pz)(P:Pgr)(c:Int->List UInt8)(x:Int)(w:World)(hp:Pg w Z P)(hok:P.D.Ok)(hs:z5v P.D P.a P.tb c)(hwl:∀x b,P.wr x=some b->b.length<=2048)(h0:0<=P.a)(h1:P.a<=65536)(hx:InI x):
 Calls prog 160 #[.pointer (some ⟨Z.g,0,none⟩),.int .i64 x] w (RdPost P c x w):=by
 have HP:=zz hp;have HX:=zz hx;have HOK:=zz hok;have HS:=zz hs;have HWL:=zz hwl;clear hp hx hok hs hwl;cases hh:P.has x with
 |false=>
  have HG:Hid (P.page c x=none):=by unfold Pgr.page;rw [Hid,hh];rfl
  have HH:=zz hh;clear hh;go_enter func160,ntmps160
  go_wp2_with fail
  refine(z4R Z P x w HP.out HX.out).mono ?_;rintro e w1 ⟨rfl,q⟩;rw [HH.out];go_wp2_with fail
  go_ret2
  exact⟨none,0,0,by rw [HH.out];rfl,by rw [HG.out];exact Ob.nil _ _ _,q⟩
 |true=>
  have HG:Hid (P.page c x=some ((P.wr x).getD (c x))):=by unfold Pgr.page;rw [Hid,hh];rfl
  have HH:=zz hh;go_enter func160,ntmps160
  go_wp2_with fail
  refine(z4R Z P x w HP.out HX.out).mono ?_;rintro e w1 ⟨rfl,q⟩;rw [HH.out];have HP1:=zz (HP.out.later q);obtain⟨m,hm,hr⟩:=HP1.out.wr.mp;have l1:=hm.look z1d wrTy (z3f w1) HX.out;obtain⟨A0,c0,hA0,hu0⟩:=(hr x HX.out).get;rw [(hr x HX.out).some_iff,hA0]at l1;have HU:=zz hu0;have d6:w1.cell? ⟨Z.g,6,none⟩=some (.map (some Z.bw)):=HP1.out.blk.cell 6;have d5:w1.cell? ⟨Z.g,5,none⟩=some (.map (some Z.bt)):=HP1.out.blk.cell 5;have hsz:=q.size;clear hm hr hA0 hu0;cases hw:P.wr x with
  |some b=>
   rw [hw]at l1 HU;have HG2:Hid (P.page c x=some b):=by rw [Hid,HG.out,hw];rfl
   have HL:=zz (HWL.out x b hw);simp only [Yl,Q0]at l1 HU;clear hw hh d5;go_wp2_with (first
    |(at_builtin;refine z02 _ rfl (.tmp 27) (.tmp 28) z0p rfl (Ob.made _ _ w.heap.size (by simpa using hsz) (by simp)) (Sl.alloc1 HU.out.bs _) rfl rfl (by have:=HL.out;simp;omega) (by simp;omega) ?_;intro A1 k1 c1 w2 hown1 hg1 hat1)
    |fail)
   go_ret2
   refine⟨A1,k1,c1,by rw [HH.out];rfl,by rw [HG2.out];simpa using hown1,?_⟩;exact z01 (q.alloc hsz _) (Ob.made _ _ w.heap.size (by simpa using hsz) (by simp)) hg1 (by simp;omega)
  |none=>
   rw [hw]at l1;have hsome:(P.tb x).isSome=true:=by
    unfold Pgr.has at hh;rw [hw]at hh;simp only [ZB,QJ,Y9]at hh;exact hh.1
   obtain⟨⟨p,l⟩,hpl⟩:=ZN.1 hsome;obtain⟨hp1,hl1,hcl,hck⟩:=HS.out x p l hpl;subst hcl;have l3:=HP1.out.tb.mp.look1 z1d tbTy (zJ7 w1) HX.out;rw [zGE,hpl]at l3;have HG2:Hid (P.page c x=some (c x)):=by rw [Hid,HG.out,hw];rfl
   simp only [Option.getD_none,Yl,ZB,plV]at l1 l3;generalize c x=b at*;have HCK:=zz hck;clear hw hh hsome hpl hck HG HU;go_wp2_with fail
   have QA:=(y7 w1.heap.size w1).alloc (y5 _) (.cells #[.int .i64 (p:Int),.int .i64 (b.length:Int)] 253);have R0:Hid (RkSt w (w1.alloc (.cells #[.int .i64 (p:Int),.int .i64 (b.length:Int)] 253)) b w1.heap.size p 0 (.slice none 0 0)):=⟨by rw [Nat.mul_zero,ZS];exact Ob.nil _ _ _,Blk.new _ _ _,q.trans (QA.mono hsz),by omega⟩;generalize w1.heap.size=gx at*;clear l1 l3 d5 d6 QA;go_loopw [9,10] (fun ov kv wr=>∃ (k:Nat) (A:Option Addr) (m c:Nat),ov= .slice A m c/\kv= .int .i64 (k:Int)/\Hid (RkSt w wr b gx p k (.slice A m c))) (fun _ kv _=>4-(intOf kv).toNat)
   case atStart=>exact⟨0,none,0,0,rfl,rfl,R0⟩
   case round=>
    clear R0;obtain⟨k,A,m,c,rfl,rfl,R⟩:=hrel;have hk4:=R.out.k4;have e0:wr.cell? ⟨gx,0,none⟩=some (.int .i64 (p:Int)):=R.out.blk.cell 0;have e1:wr.cell? ⟨gx,1,none⟩=some (.int .i64 (b.length:Int)):=R.out.blk.cell 1;have hml:m=(b.take (512*k)).length:=R.out.own.len;rw [yC]at hml;by_cases hlt:512*k<b.length
    .have hm2:m=512*k:=by omega
     have hg:m<b.length:=by omega
     have HM:=zz hm2;have HB:=zz R.out.below;have HPR:=zz (HP.out.later HB.out);have HV:=zz (HCK.out k hlt);have HCL:Hid ((zEd b k).length<=b.length-m):=by unfold zEd;rw [Hid,yC,yI];omega
     have l0:wr.cell? ⟨Z.g,0,none⟩=some (.pointer (some ⟨Z.h.g,0,none⟩)):=HPR.out.blk.cell 0;have hw3:IntKind.i64.wrap (z7z P.a p+(k:Int))=z7z P.a p+(k:Int):=z1C (by unfold z7z;omega) (by unfold z7z;omega);have HSI:Hid (InI (z7z P.a p+(k:Int))):=by unfold z7z InI;rw [Hid];omega
     clear hml hm2;go_wp2_with fail
     have HDR:=zz (below_drewN (y7 wr.heap.size wr) 1);go_region_held3 (fun w'=>w'.cell? ⟨Z.g,0,none⟩=some (.pointer (some ⟨Z.h.g,0,none⟩))/\w'.cell? ⟨gx,0,none⟩=some (.int .i64 (p:Int)))
      (first
        |go_keep
        |(go_split_ands
          refine⟨?_,?_⟩<;>(apply yN hb4;assumption)))
      ((first
        |(go_at_call 186;refine(zBa Z P p _ (HPR.out.later (below_drewN (y7 _ _) 1)) h0 h1 (by omega)).mono ?_;rintro e w3 ⟨rfl,rfl⟩)
        |(go_at_call 162;refine(z6q Z.h P.D (z7z P.a p+(k:Int)) _ (HPR.out.dk.later (below_drewN (y7 _ _) 1)) HOK.out HSI.out).mono ?_;rintro e w4 ⟨hsome,hnone,hb4⟩;obtain⟨Ab,cb,rfl,hob⟩:=hsome _ HV.out)))
     have q4:=HB.out.trans ((HDR.out.trans hb4).mono HB.out.size);have ho:=zz (R.out.own.later (HDR.out.trans hb4));have hbs:=zz hob.bs;have BX:=zz (R.out.blk.later (HDR.out.trans hb4));have e1:w4.cell? ⟨gx,1,none⟩=some (.int .i64 (b.length:Int)):=BX.out.cell 1;have hsz4:=q4.size;clear hsome hnone hb4 e0 l0 hw3 hob HPR R;generalize hch:zEd b k=ck at*;have HCH:=zz hch;clear hch;have hck:=HCL.out;go_wp2_with (first
      |(refine z1K _ rfl (.tmp 61) (.tmp 69) z0p rfl hbs.out rfl rfl (y5 _) ?_;intro A9 HP9;rw [YG]at HP9)
      |(at_builtin;refine z02 _ rfl (.tmp 60) (.tmp 70) z0p rfl ho.out HP9 rfl rfl (by rw [yC];omega) hsz4 ?_;intro A5 k5 c5 w5 hown5 hg5 hat5)
      |fail)
     have q5:=z01 q4 ho.out hg5 hsz4;have R5:Hid (RkSt w w5 b gx p (k+1) (.slice A5 k5 c5)):=by
      refine⟨?_,BX.out.kept ho.out hg5 (by decide),q5,by omega⟩;rw [<-HCH.out]at hown5;unfold zEd at hown5;rw [<-List.take_add]at hown5;exact hown5
     clear hown5 hg5 hat5;go_roundw
     case rel=>exact⟨k+1,A5,k5,c5,rfl,by go_num,R5⟩
     case measure=>simp [intOf];omega
    .have hm2:m=b.length:=by omega
     have hfull:Hid (b.take (512*k)=b):=ya (by omega);clear hml;have hg:¬m<b.length:=by omega
     go_wp2_with fail
     go_ret2
     refine⟨_,_,_,by rw [HH.out];rfl,?_,R.out.below⟩;rw [HG2.out];have:=R.out.own;rw [hfull.out]at this;exact this
end
end Go.Proofs.YthnlcbamjehpdaaGreatDoor
