/- Part 43. -/
import Derived.Test.YthnlcbamjehpdaaGreatDoorViewCollectsJ42
namespace Go.Proofs.YthnlcbamjehpdaaGreatDoor
set_option linter.unusedVariables false
set_option maxHeartbeats 16000000
set_option maxRecDepth 100000
section
open Go Go.RowKit Tryz
def z22(l:List Rw)(k:List UInt8):List Rw:=l.filter fun r=>Op.bytesLess k r.k
theorem zHY(k r:List UInt8):(!Op.bytesLess r (k++ [0]))=Op.bytesLess k r:=by
 rcases z76 (a:=k) (b:=r)with q|q|q
 .rw [z0K.2 q,z30.2 (zBP q)];rfl
 .subst q;rw [z0K.2 (z5d k),zCW];rfl
 .rw [z0K.2 (q.trans (z5d k)),z30.2 q.not];rfl
theorem zDD(l:List Rw)(k:List UInt8):z3v l (k++ [0])=(z22 l k)[0]? :=by
 unfold z3v z22;rw [<-List.head?_eq_getElem?,List.head?_filter]
 congr 1
 funext r
 exact zHY k r.k
theorem z89:∀ {m:List Rw},(m.Pairwise fun a b=>Lt a.k b.k)->∀ {j:Nat} (hj:j<m.length),m.filter (fun r=>Op.bytesLess m[j].k r.k)=m.drop (j+1)
 | [],_,j,hj=>by simp at hj
 |a::m,h,0,hj=>by
  obtain⟨h1,h2⟩:=yh.1 h;simp only [List.getElem_cons_zero,Yr,QZ];rw [Yf,yA (by rw [zCW];simp),Ys];exact fun r hr=>z0K.2 (h1 r hr)
 |a::m,h,j+1,hj=>by
  obtain⟨h1,h2⟩:=yh.1 h;have hj':j<m.length:=by simpa using hj
  simp only [Za,Yr];rw [Yf,yA]
  .exact z89 h2 hj'
  .rw [z30.2 (h1 _ (yQ hj')).not];simp
theorem z6b{l:List Rw}(h:RowsOk l)(k:List UInt8){j:Nat}(hj:j<(z22 l k).length):z22 l (z22 l k)[j].k=(z22 l k).drop (j+1):=by
 have hs:(z22 l k).Pairwise fun a b=>Lt a.k b.k:=h.asc.filter _
 rw [<-z89 hs hj];have hk:Op.bytesLess k (z22 l k)[j].k=true:=(YD.1 (yQ hj)).2;generalize (z22 l k)[j].k=x at*;unfold z22;rw [List.filter_filter];apply Qe;intro r _;cases hx:Op.bytesLess x r.k with
 |false=>rfl
 |true=>rw [z0K.2 ((z0K.1 hk).trans (z0K.1 hx))];rfl
theorem zDE{l:List Rw}(h:RowsOk l)(k:List UInt8){j:Nat}(hj:j<(z22 l k).length):z3v l ((z22 l k)[j].k++ [0])=(z22 l k)[j+1]? :=by
 rw [zDD,z6b h k hj,Yj]
theorem z3G{m:List Rw}{j:Nat}:∃key ok,zC9 m[j]? = .tuple #[.string (st key),.bool ok]/\((ok=true/\∃h:j<m.length,key=m[j].k)∨(ok=false/\m.length<=j)):=by
 by_cases h:j<m.length
 .rw [yK h];exact⟨_,_,rfl,.inl ⟨rfl,h,rfl⟩⟩
 .rw [ZE (by omega)];exact⟨_,_,rfl,.inr ⟨rfl,by omega⟩⟩
def zHQ(y:List UInt8×Vsn):Chg:=zEs y.1 y.2
theorem z9u{l:List Rw}(h:RowsOk l):z22 l []=l:=by
 unfold z22;refine Ys.2 fun r hr=> ?_
 have:=(h.rw r hr).k0;rw [z0K];rcases z76 (a:=([]:List UInt8)) (b:=r.k)with q|q|q
 .exact q
 .exact absurd q.symm this
 .exact absurd (z0K.2 q) (by cases hk:r.k<;>simp [Op.bytesLess])
theorem z8A{l:List Rw}(h:RowsOk l):z3v l []=l[0]? :=by
 unfold z3v;cases l with
 |nil=>rfl
 |cons r l=>
  have hb:Op.bytesLess r.k []=false:=by cases hk:r.k<;>simp [Op.bytesLess]
  rw [Qo,hb];rfl
theorem z9v{l:List Rw}(h:RowsOk l){i:Nat}(hi:i<l.length):z3v l (l[i].k++ [0])=l[i+1]? :=by
 have h1:=z9u h;have h2:=zDE h [] (j:=i) (by rw [h1];exact hi);simp only [h1]at h2;exact h2
theorem zEM{l:List Rw}(h:RowsOk l){i:Nat}(hi:i<l.length):z22 l l[i].k=l.drop (i+1):=by
 have h1:=z9u h;have h2:=z6b h [] (j:=i) (by rw [h1];exact hi);simp only [h1]at h2;exact h2
def zJN(l:List Rw):Value->Value->Nat
 | .string s,.bool true=>(z22 l s.data.toList).length+1
 |_,_=>0
theorem z5B{l:List Rw}(h:RowsOk l){i:Nat}(hi:i<l.length):zJN l (.string (st l[i].k)) (.bool true)=l.length-i:=by
 show(z22 l l[i].k).length+1=_;rw [zEM h hi,yI];omega
structure EachS(w wr:World)(gc gm ga gf:Nat)(many:Int)(at_:Nat)(sv:Value)(told:Chg)(rows:List Rw)(i:Nat):Prop where
 st:Cst w wr gc gm ga gf many at_ sv (told::(z1k (z13 many) at_ (rows.take i) 0).map zHQ)
 len:(z1k (z13 many) at_ (rows.take i) 0).length<=z13 many
theorem z6g(many:Int):z13 many<=10:=by
 unfold z13
 split
 .omega
 .split<;>omega
theorem zEz{rows:List Rw}{cap at_ i:Nat}(hi:i<rows.length):z1k cap at_ (rows.take (i+1)) 0=z1k cap at_ (rows.take i) 0++(rows[i].vs.take (min (z0s rows[i].vs at_) (cap-(z1k cap at_ (rows.take i) 0).length))).map fun x=>(rows[i].k,x):=by
 have hl:=z1n (cap:=cap) (at_:=at_) (rows.take i) 0;rw [Y4]at hl;rw [yO hi,z8y,hl,z1k,z1k,yf]
theorem zEy{rows:List Rw}{cap at_ i:Nat}(h:(z1k cap at_ (rows.take i) 0).length=cap):z1k cap at_ (rows.take i) 0=z1k cap at_ rows 0:=by
 have hl:=z1n (cap:=cap) (at_:=at_) (rows.take i) 0;rw [Y4,h]at hl;have h2:z1k cap at_ rows 0=z1k cap at_ (rows.take i++rows.drop i) 0:=by rw [yT]
 rw [h2,z8y,hl,zA1,yf]
theorem zGb{w W:World}{gv gs g:Nat}{rows:List Rw}{tl:List Cel}{last hor:Nat}(h:Vv w gv gs g rows tl last hor)(hfew:(z0x rows).length<=100000){gc gm ga gf:Nat}{many:Int}{at_:Nat}{sv:Value}{told:Chg}(hC:Cst w W gc gm ga gf many at_ sv [told])(hm: -9223372036854775808<=many/\many<=9223372036854775807){pg:Nat}(hpg:gv=pg):
 Calls prog 39 #[.pointer (some ⟨pg,0,none⟩),.func (Fn.func 40) #[] #[.pointer (some ⟨ga,0,none⟩),.pointer (some ⟨gf,0,none⟩),.pointer (some ⟨gc,0,none⟩)]] W fun e w'=>e= .returned (.tuple #[])/\∃sv',Cst w w' gc gm ga gf many at_ sv' (told::(z1k (z13 many) at_ rows 0).map zHQ):=by
 subst hpg;have HV:=zz h;have HOK:=zz h.ok;have hcap:=z6g many;have HAH:Hid (∀ {wg:World},Below w.heap.size w wg->∀ (key:List UInt8),key.length<=1000->Calls prog 46 #[.pointer (some ⟨gv,0,none⟩),.string (st key)] wg fun e w'=>e= .returned (zC9 (z3v rows key))/\Below wg.heap.size wg w'):=fun {wg} hb key hk=>z8m (HV.out.later hb) key (by omega) rfl
 have HVS:Hid (∀ {wg:World},Below w.heap.size w wg->∀ (i:Nat) (hi:i<rows.length),Calls prog 22 #[.pointer (some ⟨gv,0,none⟩),.string (st rows[i].k)] wg (z6A rows[i].vs wg)):=fun {wg} hb i hi=>by
  have hmem:rows[i]∈rows:=yQ hi;have h1:=z2X (HV.out.later hb) hfew rows[i].k (by have:=(HOK.out.rw _ hmem).k64;omega) rfl;rw [z5Q HOK.out hmem]at h1;exact h1
 have HBT:=zz h.bits;have hvl:∀i (hi:i<rows.length),rows[i].vs.length<=1000000:=fun i hi=>by
  have h1:=zD0 rows rows[i].k;rw [z5Q h.ok (yQ hi)]at h1;omega
 have HVL:=zz hvl;have R0':Hid (EachS w W gc gm ga gf many at_ sv told rows 0):=⟨by rw [ZS];exact hC,by rw [ZS];simp [z1k]⟩;clear h hC hvl hfew;go_enter func39,ntmps39
 go_wp2_with fail
 refine(HAH.out R0'.out.st.below [] (by simp)).mono ?_;rintro e w1 ⟨he,hb1⟩;rw [z8A HOK.out]at he;obtain⟨key0,ok0,hav,hkc⟩:=z3G (m:=rows) (j:=0);rw [hav]at he;obtain rfl:=he;have R0:Hid (EachS w w1 gc gm ga gf many at_ sv told rows 0):=⟨R0'.out.st.later hb1,R0'.out.len⟩;clear hb1 hav R0';go_wp2_with fail
 go_loopw [4,5] (fun kv bv wr=>∃ (i:Nat) (sv':Value) (key:List UInt8) (ok:Bool),kv= .string (st key)/\bv= .bool ok/\((ok=true/\∃h:i<rows.length,key=rows[i].k)∨(ok=false/\rows.length<=i))/\Hid (EachS w wr gc gm ga gf many at_ sv' told rows i)) (fun kv bv _=>zJN rows kv bv)
 case atStart=>exact⟨0,sv,key0,ok0,rfl,rfl,hkc,R0⟩
 case round=>
  clear R0;obtain⟨i,sv',key,ok,rfl,rfl,hkc,RR⟩:=hrel;have HST:=zz RR.out.st;have hlen:=RR.out.len;clear RR;cases ok with
  |false=>
   have hil:rows.length<=i:=by
    rcases hkc with⟨h,_⟩|⟨_,h⟩
    .cases h
    .exact h
   have HF:Hid (Cst w wr gc gm ga gf many at_ sv' (told::(z1k (z13 many) at_ rows 0).map zHQ)):=by
    have:=HST.out;rw [ya hil]at this;exact this
   clear HST hkc;go_wp2_with fail
   go_end0
   exact⟨rfl,sv',HF.out⟩
  |true=>
   obtain⟨hil,rfl⟩:∃h:i<rows.length,key=rows[i].k:=by
    rcases hkc with⟨_,h⟩|⟨h,_⟩
    .exact h
    .cases h
   have hmem:rows[i]∈rows:=yQ hil;have hro:=HOK.out.rw _ hmem;have HVR:=zz (HVS.out HST.out.below i hil);have HM:=zz (z5B HOK.out hil);clear hkc;go_wp2_with fail
   refine HVR.out.mono ?_;rintro e w2 ⟨A,c,rfl,hvs,hb2⟩;have HS2:=zz (HST.out.later hb2);have hcl:(told::(z1k (z13 many) at_ (rows.take i) 0).map zHQ).length<=11:=by rw [y8,yw];omega
   have HT:=zEm HS2.out hm HBT.out HBT.out.pos hcl rows[i].k hro.k64 _ rows[i].vs (hvs.more fun b hb=>hb.2) hro.asc (fun x hx=>(hro.vs x hx).t64) (HVL.out i hil);have hln:z13 many+1-(told::(z1k (z13 many) at_ (rows.take i) 0).map zHQ).length=z13 many-(z1k (z13 many) at_ (rows.take i) 0).length:=by rw [y8,yw];omega
   rw [hln]at HT;have HNX:=zz (zEz (rows:=rows) (cap:=z13 many) (at_:=at_) hil);obtain⟨d,hd⟩:∃d,min (z0s rows[i].vs at_) (z13 many-(z1k (z13 many) at_ (rows.take i) 0).length)=d:=⟨_,rfl⟩;rw [hd]at HT HNX;have hdv:d<=rows[i].vs.length:=by have:=z5A rows[i].vs at_;omega
   have hdc:d<=z13 many-(z1k (z13 many) at_ (rows.take i) 0).length:=by omega
   have HLN:Hid ((z1k (z13 many) at_ (rows.take (i+1)) 0).length=(z1k (z13 many) at_ (rows.take i) 0).length+d):=by
    rw [Hid,HNX.out,y6,yw,yC];omega
   have HCS:Hid (told::(z1k (z13 many) at_ (rows.take i) 0).map zHQ++(rows[i].vs.take d).map (zEs rows[i].k)=told::(z1k (z13 many) at_ (rows.take (i+1)) 0).map zHQ):=by
    rw [Hid,HNX.out,Y6,List.map_map];rfl
   rw [HCS.out,y8,yw]at HT;have HT:=zz HT;clear hvs hb2 hln hd HVR hcl HST;go_wp2_with fail
   refine HT.out.mono ?_;rintro e w3 ⟨sv3,hst3,rfl⟩;have HS3:Hid (EachS w w3 gc gm ga gf many at_ sv3 told rows (i+1)):=⟨hst3,by rw [HLN.out];omega⟩;clear HT hst3 HS2;obtain⟨n,hn⟩:∃n,(z1k (z13 many) at_ (rows.take i) 0).length=n:=⟨_,rfl⟩;rw [hn]at HLN hdc hlen ⊢;by_cases hfull:z13 many<n+1+d
   .have hdn:(z1k (z13 many) at_ (rows.take (i+1)) 0).length=z13 many:=by rw [HLN.out];omega
    have hed:=zEy hdn;have HF:Hid (Cst w w3 gc gm ga gf many at_ sv3 (told::(z1k (z13 many) at_ rows 0).map zHQ)):=by rw [Hid,<-hed];exact HS3.out.st
    rw [yq hfull];clear HS3 HNX HLN HCS hed hdn hn hfull;go_wp2_with fail
    go_end0
    exact⟨rfl,sv3,HF.out⟩
   .rw [yZ hfull];have HK:=zz (HAH.out HS3.out.st.below (rows[i].k++ [0]) (by have:=hro.k64;simp;omega));rw [z9v HOK.out hil]at HK;obtain⟨key2,ok2,hav,hkc2⟩:=z3G (m:=rows) (j:=i+1);rw [hav]at HK;have hk64:=hro.k64;have HKC:=zz hkc2;clear HNX HLN HCS hn hfull hav hkc2;go_wp2_with fail
    refine(z71 rows[i].k w3 (by omega)).mono ?_;rintro e w4 ⟨rfl,rfl⟩;go_wp2_with fail
    refine HK.out.mono ?_;rintro e w5 ⟨rfl,hb5⟩;have RF:Hid (EachS w w5 gc gm ga gf many at_ sv3 told rows (i+1)):=⟨HS3.out.st.later hb5,HS3.out.len⟩;clear HS3 hb5 HK;go_wp2_with fail
    go_roundw
    case rel=>exact⟨i+1,sv3,key2,ok2,rfl,rfl,HKC.out,RF⟩
    case measure=>
     rw [HM.out];rcases HKC.out with⟨rfl,h2,rfl⟩|⟨rfl,h2⟩
     .rw [z5B HOK.out h2];omega
     .show 0<_;omega
def zAM(last hor at_:Nat):Nat:=if last<at_ then 171 else if at_<hor then 172 else 0
theorem zFT{last hor at_:Nat}(h1:hor<=at_)(h2:at_<=last):zAM last hor at_=0:=by
 unfold zAM;rw [yA (by omega),yA (by omega)]
theorem zJn{last hor at_:Nat}(h:zAM last hor at_≠0):last<at_∨at_<hor:=by
 unfold zAM at h
 split at h
 .exact .inl ‹_›
 .split at h
  .exact .inr ‹_›
  .exact absurd rfl h
theorem z9l{w:World}{gv:Nat}{u0:Value}{last hor:Nat}(at_:Nat)(hb:Blk w gv 99 #[u0,.int .u64 (last:Int),.int .u64 (hor:Int)]):
 Calls prog 36 #[.pointer (some ⟨gv,0,none⟩),.int .u64 (at_:Int)] w fun e w'=>e= .returned (.int .i64 (zAM last hor at_:Int))/\w'=w:=by
 have c1:w.cell? ⟨gv,1,none⟩=some (.int .u64 (last:Int)):=hb.cell 1;have c2:w.cell? ⟨gv,2,none⟩=some (.int .u64 (hor:Int)):=hb.cell 2;clear hb;unfold zAM;by_cases e3:last<at_
 .have e1:(last:Int)<(at_:Int):=by omega
  rw [yB e3];go_enter func36,ntmps36
  go_wp2_with fail
  go_ret
  exact⟨rfl,rfl⟩
 have e1:¬ (last:Int)<(at_:Int):=by omega
 rw [yA e3];by_cases e4:at_<hor
 .have e2:(at_:Int)<(hor:Int):=by omega
  rw [yB e4];go_enter func36,ntmps36
  go_wp2_with fail
  go_ret
  exact⟨rfl,rfl⟩
 .have e2:¬ (at_:Int)<(hor:Int):=by omega
  rw [yA e4];go_enter func36,ntmps36
  go_wp2_with fail
  go_ret
  exact⟨rfl,rfl⟩
theorem zGg{w:World}{gv:Nat}{u0:Value}{last hor at_:Nat}(hb:Blk w gv 99 #[u0,.int .u64 (last:Int),.int .u64 (hor:Int)])(h1:hor<=at_)(h2:at_<=last):
 Calls prog 36 #[.pointer (some ⟨gv,0,none⟩),.int .u64 (at_:Int)] w fun e w'=>e= .returned (.int .i64 0)/\w'=w:=by
 have h:=z9l at_ hb;rw [zFT h1 h2]at h;exact h
end
end Go.Proofs.YthnlcbamjehpdaaGreatDoor
