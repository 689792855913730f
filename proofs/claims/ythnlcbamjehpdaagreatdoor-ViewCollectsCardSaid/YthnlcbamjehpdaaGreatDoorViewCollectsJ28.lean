/- Part 28. -/
import Derived.Test.YthnlcbamjehpdaaGreatDoorViewCollectsJ27
namespace Go.Proofs.YthnlcbamjehpdaaGreatDoor
set_option linter.unusedVariables false
set_option maxHeartbeats 16000000
set_option maxRecDepth 100000
section
open Go Go.RowKit Tryz
structure UpOk(x:Pag):Prop where
 nx:x.2.1<=1000
 n:x.2.2.length<=2000
 sm:∀c∈x.2.2,c.1.length<=470/\c.1.length+c.2.length<=480
structure UpStp(s:TStp):Prop where
 ok:POk s.pg
 ky:∀c∈s.pg.2.2,c.1.length<=470
 ini:InI s.id
theorem UpOk.mid{x:Pag}(h:UpOk x):Mid x.2.2:=⟨by have:=h.n;omega,fun c hc=>by have:=h.sm c hc;omega⟩
theorem UpOk.two{x:Pag}(h:UpOk x)(hs:2048<szP x):2<=x.2.2.length:=by
 obtain⟨leaf,n,cs⟩:=x;have h1:(z0C (n:Int).toNat).length<=10:=z09 (by have:=h.nx;simp only at this;unfold U64;omega);rcases cs with _|⟨a,_|⟨b,cs⟩⟩
 .exfalso;unfold szP z2v at hs;have h2:(z0C 0).length<=10:=z09 (by unfold U64;omega);simp [z07]at hs h1 h2;omega
 .exfalso;have hc:=h.sm a (YJ ..);unfold szP z2v at hs;have h2:(z0C 1).length<=10:=z09 (by unfold U64;omega);have h3:(z0C a.1.length).length<=10:=z09 (by unfold U64;omega);have h4:(z0C a.2.length).length<=10:=z09 (by unfold U64;omega);simp only [z56,z3B,z0y,y6,y8,yW]at hs;simp at h1 hs;omega
 .simp
theorem UpStp.put{s:TStp}(h:UpStp s){k:List UInt8}{b:Nat}(hk:k.length<=470)(hb:b<90):UpOk (z15 s.pg (k,z0C b)):=by
 have h1:=z0m h.ok;have h2:=z3h s.pg.2.2 (k,z0C b);have h3:(z0C b).length<=10:=z09 (by unfold U64;omega);refine⟨by unfold z15;simp only;omega,by unfold z15;simp only;omega,fun c hc=> ?_⟩;unfold z15 at hc;simp only at hc;unfold putC at hc;rcases yF.1 hc with hc|hc
 .exact⟨h.ky c (yY hc),by have:=z11 none _ h.ok.parts.2.1 c (yY hc);omega⟩
 .rcases y9.1 hc with rfl|hc
  .exact⟨hk,by simp only;omega⟩
  .exact⟨h.ky c (yo hc),by have:=z11 none _ h.ok.parts.2.1 c (yo hc);omega⟩
def Root0(l:List TStp)(id:Int):Prop:=(l.head?.map (·.id)).getD id=0
theorem Root0.nil{id:Int}(h:Root0 [] id):id=0:=h
theorem Root0.snoc{l:List TStp}{s:TStp}{id:Int}(h:Root0 (l++ [s]) id):Root0 l s.id:=by
 cases l with
 |nil=>exact h
 |cons a l=>exact h
theorem z5k{α:Type}{l:List α}(h:l≠ []):∃l' x,l=l'++ [x]:=⟨l.dropLast,l.getLast h,(Zc h).symm⟩
theorem Wsl.pop{S:Nat->Prop}{w:World}{A:Option Addr}{c:Nat}{l:z7q}{s:TStp}{u:Value}(h:Wsl S w (.slice A (l.length+1) c) (l++ [(s,u)])):Wsl S w (.slice A l.length c) l/\
 ∃b o,A=some ⟨b,o,none⟩/\S b/\(∀j x,(stC s u)[j]? =some x->w.cell? ⟨b,o+l.length*5+j,none⟩=some x)/\l.length+1<=c/\c<=maxLen/\Cs S w u s.pg.2.2:=by
 obtain⟨hx,A',c',hv,hnc,hm,hA0,hA⟩:=h.sl;injection hv with e1 e2 e3
 subst e1 e3;rw [y6,y8,yW]at hnc hA;obtain⟨b,o,hb,hS,hc⟩:=hA (by omega);have hc2:∀j x,(wsC l)[j]? =some x->w.cell? ⟨b,o+j,none⟩=some x:=fun j x hj=>hc j x (by
  rw [zC5,Yh (yg.1 hj).1];exact hj)
 have hc3:∀j x,(stC s u)[j]? =some x->w.cell? ⟨b,o+l.length*5+j,none⟩=some x:=fun j x hj=>by
  rw [Z4];refine hc _ x ?_;rw [zC5,zH0,yx (by rw [zC6];omega),zC6,YU];exact hj
 refine⟨⟨⟨?_,A,c,rfl,by omega,hm,hA0,fun h=>⟨b,o,hb,hS,hc2⟩⟩,fun x hx=>h.cs x (yF.2 (.inl hx))⟩,b,o,hb,hS,hc3,by omega,hm,h.cs (s,u) (by simp)⟩;rw [zC6]
structure UpSt(w wr:World)(g:Nat)(Z:Pz)(c:Int->List UInt8)(F:Pgr)(v:Value)(l:z7q)(id:Int)(x:Pag)(u:Value)(P:Pgr):Prop where
 T:Tg wr g Z P c
 S:Ptp Z w Z wr
 X:Blk wr w.heap.size 175 #[.bool x.1,.int .i64 (x.2.1:Int),u]
 C:Cs (fun b=>b≠w.heap.size/\b<wr.heap.size/\¬Z.has b) wr u x.2.2
 W:Wsl (fun b=>b<w.heap.size/\¬Z.has b) wr v l
 U:UpOk x
 L:∀s∈l,UpStp s.1
 R:Root0 (l.map (·.1)) id
 E:upP P (l.map (·.1)).reverse id x=F
 I:InI id
theorem Wsl.ptp{w w':World}{Z:Pz}{B:Nat}{v:Value}{l:z7q}(h:Wsl (fun b=>b<B/\¬Z.has b) w v l)(s:Ptp Z w Z w')(hB:B<=w.heap.size):Wsl (fun b=>b<B/\¬Z.has b) w' v l:=
 ⟨Sl.keep h.sl fun b o hb=>yR (s.turn.block b (by omega) hb.2),fun x hx=>Sl.keep (h.cs x hx) fun b o hb=>yR (s.turn.block b (by omega) hb.2)⟩
structure UpMd(w W:World)(B gl:Nat)(Z:Pz)(x:Array Value)(lf:Bool)(nl nr:Nat)(AL AR:Value)(lc rc:List Cel)(v:Value)(l:z7q):Prop where
 S:Ptp Z w Z W
 X:Blk W w.heap.size 175 x
 L:Blk W gl 175 #[.bool lf,.int .i64 (nl:Int),AL]
 R:Blk W (gl+1) 175 #[.bool lf,.int .i64 (nr:Int),AR]
 CL:Cs (fun b=>B<=b/\b<gl) W AL lc
 CR:Cs (fun b=>B<=b/\b<gl) W AR rc
 W:Wsl (fun b=>b<w.heap.size/\¬Z.has b) W v l
 hB:w.heap.size<B
 hg:B<=gl
 hZ:∀b,Z.has b->b<w.heap.size
section
variable {w W W':World} {B gl:Nat} {Z:Pz} {x:Array Value} {lf:Bool} {nl nr:Nat} {AL AR:Value} {lc rc:List Cel} {v:Value} {l:z7q}
theorem UpMd.ptp(h:UpMd w W B gl Z x lf nl nr AL AR lc rc v l)(s:Ptp Z W Z W'):UpMd w W' B gl Z x lf nl nr AL AR lc rc v l:=by
 have hn:∀b,w.heap.size<=b->¬Z.has b:=fun b hb e=>by have:=h.hZ b e;omega
 have h1:=h.hB;have h2:=h.hg;have h3:=h.R.lt;exact⟨h.S.trans s,h.X.ptp s (hn _ (y5 _)),h.L.ptp s (hn _ (by omega)),h.R.ptp s (hn _ (by omega)),Cs.ptp h.CL s fun b hb=>⟨by omega,hn _ (by omega)⟩,Cs.ptp h.CR s fun b hb=>⟨by omega,hn _ (by omega)⟩,h.W.ptp s h.S.turn.size,h.hB,h.hg,h.hZ⟩
theorem UpMd.setR(h:UpMd w W B gl Z x lf nl nr AL AR lc rc v l)(n:Nat):UpMd w (W.setCell ⟨gl+1,1,none⟩ (.int .i64 (n:Int))) B gl Z x lf nl n AL AR lc rc v l:=by
 have h1:=h.hB;have h2:=h.hg;have hs:=h.S.turn.size;exact⟨h.S.put (by omega) _,h.X.far (p:=⟨gl+1,1,none⟩) (by simp only;omega) _,h.L.far (p:=⟨gl+1,1,none⟩) (by simp) _,h.R.put 1 _,Sl.setCell h.CL (by simp only;omega) _,Sl.setCell h.CR (by simp only;omega) _,
  ⟨Sl.setCell h.W.sl (by simp only;omega) _,fun y hy=>Sl.setCell (h.W.cs y hy) (by simp only;omega) _⟩,h.hB,h.hg,h.hZ⟩
theorem UpMd.setL(h:UpMd w W B gl Z x lf nl nr AL AR lc rc v l)(n:Nat):UpMd w (W.setCell ⟨gl,1,none⟩ (.int .i64 (n:Int))) B gl Z x lf n nr AL AR lc rc v l:=by
 have h1:=h.hB;have h2:=h.hg;have hs:=h.S.turn.size;exact⟨h.S.put (by omega) _,h.X.far (p:=⟨gl,1,none⟩) (by simp only;omega) _,h.L.put 1 _,h.R.far (p:=⟨gl,1,none⟩) (by simp) _,Sl.setCell h.CL (by simp only;omega) _,Sl.setCell h.CR (by simp only;omega) _,
  ⟨Sl.setCell h.W.sl (by simp only;omega) _,fun y hy=>Sl.setCell (h.W.cs y hy) (by simp only;omega) _⟩,h.hB,h.hg,h.hZ⟩
theorem Tg.putP{g z i:Nat}{P:Pgr}{c:Int->List UInt8}{cs:Array Value}(T:Tg w g Z P c)(hb:Blk w z 175 cs)(h0:z≠0)(u:Value):Tg (w.setCell ⟨z,i,none⟩ u) g Z P c:=
 T.put (z0I hb) (by decide) (fun e=>by
  subst e;have h1:=z0I hb;rw [z0I T.blk]at h1;exact absurd h1 (by decide)) h0 u
end
theorem Tg.otherP{w w':World}{Z:Pz}{g z:Nat}{P:Pgr}{c:Int->List UInt8}{cs:Array Value}(T:Tg w g Z P c)(hb:Blk w z 175 cs)(h0:z≠0)(hg:w.grownBy w' (some z)):Tg w' g Z P c:=by
 have hne:g≠z:=fun e=>by
  subst e;have h1:=z0I hb;rw [z0I T.blk]at h1;exact absurd h1 (by decide)
 refine⟨T.pg.other (z0I hb) (by decide) hg,T.blk.grown hg (fun e=>hne (by injection e with e;exact e.symm)),T.pr,fun k hk=> ?_,T.z0⟩;rw [<-T.bits k hk];exact yR (hg.block 0 T.bits.pos (fun e=>h0 (by injection e with e;exact e.symm)))
theorem Kept.grown1{w w':World}{i g n:Nat}{t:TypeId}(h:Kept (ptE [⟨i,g,t,0,n⟩]) w w'):w.grownBy w' (some g):=
 ⟨h.os,h.tape,h.output,h.size,fun k hk hne=>h.heap hk (z0q fun e=>hne (by rw [e]))⟩
theorem Ptp.keptG{w W w':World}{Z:Pz}{g:Nat}(h:Ptp Z w Z W)(hg:W.grownBy w' (some g))(hw:w.heap.size<=g):Ptp Z w Z w':=Ptp.new h hg (.inr hw)
theorem z4E{P:Program}{ops:Array Oper}{Q:Act->World->Prop}{a:Act}{o:Oper}{rest:List Oper}{Vs:List VP}{env:List (Value×VP)}{st:List Pt}{w0:World}
 (R:VP) (cs:Array Value) {t:TypeId} (hw:Region.wanted o (yielded ops a.tmps)=true) (ty:TypeId) (x y:Operand) (ho:o.op= .store ty x y) (g:Nat) (hx:a.eval x= .pointer (some ⟨g,0,none⟩)) (hy:a.eval y= .agg cs)
 (hi:(P.info? ty).map (·.size)=some cs.size) (h1:cs.all (·.oneCell')=true) {old:Array Value} (hb:Blk w0 g t old) (hold:old.size=cs.size)
 (hs:st.find? (fun p=>p.i==env.length)=some ⟨env.length,g,t,0,cs.size⟩)
 (hv:∀w,Kept (ptE st) w0 w->(∀e∈o.after,Region.binds .any e=true->∀ (x:Value) (W:VP),env[e.on]? =some (x,W)->W x w)->R (.agg cs) w) (hps:∀p:Pt,p.g=g->z3u p R)
 (h2:∀K:Act->Prop,(∀a',z1R P ops (ptR ops st w0) Q rest Vs (env++ [(undef,HasV g t R)]) a'->K a')->K (a.put o.dst undef)):z1R P ops (ptR ops st w0) Q (o::rest) (HasV g t R::Vs) env a:=by
 refine⟨?_,fun x ⟨w,_,hx⟩=> ?_⟩
 .rw [yB hw];intro w hC hf;obtain⟨ds,h3,h4,_⟩:=hC.blk g t old hb;have eS:(ptR ops st w0).S env.length=zDB ⟨env.length,g,t,0,cs.size⟩:=by funext w w';simp only [ptR,ptS,hs]
  rw [eS];have hrun:(execOp a.eval o).run P w= .ok .skip (w.setRow g cs):=by
   unfold execOp;simp only [ho,hx,hy,Instr.storeAt,Instr.sureAddr,ZV,ZW,Ym,run_storeVar_row w g t ty ds cs h3 hi (h4.trans hold) h1]
  have hpt:zDB ⟨env.length,g,t,0,cs.size⟩ w (w.setRow g cs):=⟨ds,cs,h3,(h4.trans hold).symm,fun k hk=>by
   have:cs.size<=k:=by
    rcases Y5 k cs.size with h5|h5
    .exact absurd ⟨rfl,yU _,by simpa using h5⟩ hk
    .exact h5
   rw [YK this,YK (by omega)],rfl⟩
  unfold steps;rw [hrun];exact⟨hpt,rfl,cs,h3.setRow cs,hps _ rfl _ _ _ hpt (hv w (Kept.mono hC z4a) hf)⟩
 .obtain⟨rfl,_⟩:=hx;exact h2 _ fun _ h=>h
theorem z6F{S:Nat->Prop}{w:World}{A:Option Addr}{n c:Nat}{cs:List Cel}(h:Cs S w (.slice A n c) cs)(h0:0<cs.length):∃b o,A=some ⟨b,o,none⟩/\S b:=by
 obtain⟨A',c',hv,_,_,_,hA⟩:=h.at;injection hv with hv _ _
 obtain⟨b',o',hb,hS,_⟩:=hA h0;exact⟨b',o',hv.trans hb,hS⟩
def VPt(B:Nat)(x:Pag):VP:=fun v w=>∃vq,v= .tuple #[vq,.int .i64 0]/\PgIs B w vq x.1 (x.2.1:Int) x.2.2
theorem VPgs.stays(B:Nat)(x:Pag):Stays (VPgs B x):=fun v w w' hb ⟨A,c,e,h⟩=>⟨A,c,e,h.newer hb⟩
theorem VPt.stays(B:Nat)(x:Pag):Stays (VPt B x):=fun v w w' hb ⟨vq,e,A,c,e2,h⟩=>⟨vq,e,A,c,e2,h.newer hb⟩
theorem Cs.puts{B:Nat}{w w':World}{v:Value}{cs:List Cel}{p:Pt}(h:Cs (fun b=>B<=b/\b<w.heap.size) w v cs)(k:zDB p w w')(hp:p.g<B):Cs (fun b=>B<=b/\b<w'.heap.size) w' v cs:=by
 obtain⟨cs1,cs2,h1,h2,h3,rfl⟩:=k;exact(Sl.keep h fun b o hb=>yR (z1T _ _ _ _ (by have:=hb.1;simp only;omega))).more fun b hb=>⟨hb.1,by rw [z2k];exact hb.2⟩
theorem VPgs.pstays{B:Nat}(x:Pag){p:Pt}(hp:p.g<B):z3u p (VPgs B x):=fun v w w' k ⟨A,c,e,h⟩=>⟨A,c,e,Cs.puts h k hp⟩
theorem VPt.pstays{B:Nat}(x:Pag){p:Pt}(hp:p.g<B):z3u p (VPt B x):=fun v w w' k ⟨vq,e,A,c,e2,h⟩=>⟨vq,e,A,c,e2,Cs.puts h k hp⟩
theorem zGQ(g:Nat)(Z:Pz)(P:Pgr)(c:Int->List UInt8)(S:Nat->Prop)(l:z7q)(A0:Option Addr)(c0:Nat)(id:Int)(leaf:Bool)(n:Nat)(v0:Value)(cs:List Cel)(w:World)(ht:Tg w g Z P c)(hw:Wsl (fun b=>b<w.heap.size/\¬Z.has b) w (.slice A0 l.length c0) l)
 (hr:Cs S w v0 cs) (hS:∀b,S b->¬Z.has b) (hu:UpOk (leaf,n,cs)) (hl:∀s∈l,UpStp s.1) (h0:Root0 (l.map (·.1)) id) (hi:InI id) (hn:l.length<=1000):
 Calls prog 154 #[.pointer (some ⟨g,0,none⟩),.slice A0 l.length c0,.int .i64 id,.agg #[.bool leaf,.int .i64 (n:Int),v0]] w fun e w'=>e= .returned (.tuple #[])/\z1O g Z (upP P (l.map (·.1)).reverse id (leaf,n,cs)) c w w':=by
 have hq:=(y7 w.heap.size w).alloc (y5 _) (.cells #[.bool leaf,.int .i64 (n:Int),v0] 175);obtain⟨F,hF⟩:∃F,upP P (l.map (·.1)).reverse id (leaf,n,cs)=F:=⟨_,rfl⟩;have R0:Hid (UpSt w (w.alloc (.cells #[.bool leaf,.int .i64 (n:Int),v0] 175)) g Z c F (.slice A0 l.length c0) l id (leaf,n,cs) v0 P):=
  ⟨ht.later hq,Ptp.below hq,Blk.new _ _ _,(Sl.below (Sl.lt hr (by omega)) hq fun b h=>h.2).more fun b h=>⟨by omega,by simp;omega,hS b h.1⟩,
    ⟨Sl.below hw.sl hq fun b h=>h.1,fun x hx=>Sl.below (hw.cs x hx) hq fun b h=>h.1⟩,hu,hl,h0,hF,hi⟩
 rw [hF];have HZ:Hid (∀b,Z.has b->b<w.heap.size):=fun b hb=>ht.pg.lt hb
 have hw0:w.heap.size≠0:=fun e=>by have:=ht.blk.lt;omega
 clear ht hw hr hS hu hl h0 hi hq hF;go_enter func154,ntmps154
 go_wp2_with fail
 go_loopw [1,2] (fun lv iv wr=>∃ (A:Option Addr) (c':Nat) (l':z7q) (id':Int) (x:Pag) (u:Value) (P':Pgr),lv= .slice A l'.length c'/\iv= .int .i64 id'/\l'.length<=1000/\Hid (UpSt w wr g Z c F (.slice A l'.length c') l' id' x u P')) (fun lv _ _=>sLen lv)
 case atStart=>exact⟨A0,c0,l,id,_,v0,P,rfl,rfl,hn,R0⟩
 case round=>
  clear R0 hn;obtain⟨A,c',l',id',⟨leaf',n',cs'⟩,u,P',rfl,rfl,hn,R⟩:=hrel;obtain⟨A1,c1,rfl,hx0⟩:=R.out.C.at;clear hx0;have HM:=zz R.out.U.mid;have hnx:=R.out.U.nx;simp only at hnx;have hx:=R.out.X;simp only at hx;have x0:(wr).cell? ⟨w.heap.size,0,none⟩=some (.bool leaf'):=hx.cell 0;have x1:(wr).cell? ⟨w.heap.size,1,none⟩=some (.int .i64 (n':Int)):=hx.cell 1;have x2:(wr).cell? ⟨w.heap.size,2,none⟩=some (.slice A1 cs'.length c1):=hx.cell 2;clear hx;go_wp2_with fail
  refine(z3Q _ leaf' (n':Int) _ cs' wr (by omega) HM.out R.out.C).mono ?_;rintro e w1 ⟨rfl,hb1⟩;have HQ1:=zz hb1;have HT1:=zz (R.out.T.later hb1);have HS1:=zz (R.out.S.trans (Ptp.below hb1));have hx1:=R.out.X.later hb1;have HX1:=zz hx1;have HC1:Hid (Cs (fun b=>b≠w.heap.size/\b<w1.heap.size/\¬Z.has b) w1 (.slice A1 cs'.length c1) cs'):=(Sl.below R.out.C hb1 fun b h=>h.2.1).more fun b h=>⟨h.1,yE h.2.1 hb1.size,h.2.2⟩
  have HW1:Hid (Wsl (fun b=>b<w.heap.size/\¬Z.has b) w1 (.slice A l'.length c') l'):=⟨Sl.below R.out.W.sl hb1 fun b h=>yE h.1 R.out.S.turn.size,fun x hx=>Sl.below (R.out.W.cs x hx) hb1 fun b h=>yE h.1 R.out.S.turn.size⟩;have HU:=zz R.out.U;have HL:=zz R.out.L;have HR0:=zz R.out.R;have HE:=zz R.out.E;have HI:=zz R.out.I;have hgx:w.heap.size<w1.heap.size:=hx1.lt;clear hb1 R x0 x1 x2;have x0:(w1).cell? ⟨w.heap.size,0,none⟩=some (.bool leaf'):=hx1.cell 0;have x1:(w1).cell? ⟨w.heap.size,1,none⟩=some (.int .i64 (n':Int)):=hx1.cell 1;have x2:(w1).cell? ⟨w.heap.size,2,none⟩=some (.slice A1 cs'.length c1):=hx1.cell 2;have xf0:(w1).frozen? ⟨w.heap.size,0,none⟩=false:=hx1.free 0;have xf1:(w1).frozen? ⟨w.heap.size,1,none⟩=false:=hx1.free 1;have xf2:(w1).frozen? ⟨w.heap.size,2,none⟩=false:=hx1.free 2;clear hx1;have hszp:szP (leaf',n',cs')=z2v (n':Int) cs':=rfl;by_cases hsz:szP (leaf',n',cs')<=2048
  .have hz2:decide ((2048:Int)<(z2v (n':Int) cs':Int))=false:=yZ (by omega);have HF:Hid (P'.wp id' (leaf',n',cs')=F):=by
    have:=HE.out;cases h:(l'.map (·.1)).reverse with
    |nil=>rw [h,upP,yB hsz]at this;exact this
    |cons a b=>rw [h,upP,yB hsz]at this;exact this
   clear HE hsz hszp;go_wp2_with fail
   refine(z0M g Z P' c id' _ leaf' n' _ cs' w1 HT1.out HI.out HM.out (by omega) HC1.out).mono ?_;rintro e w2 ⟨rfl,hd⟩;go_wp2_with fail
   go_end0
   rw [HF.out]at hd;exact⟨rfl,hd.1,HS1.out.trans hd.2⟩
  .have hz2:decide ((2048:Int)<(z2v (n':Int) cs':Int))=true:=yq (by omega);have h2c:=HU.out.two (by omega);simp only at h2c;go_wp2_with fail
   refine(z8Z _ leaf' (n':Int) _ cs' w1 HM.out HC1.out h2c).mono ?_;rintro e w2 ⟨k,va,vb,rfl,hhalf,⟨AL,cL,rfl,hcl⟩,⟨AR,cR,rfl,hcr⟩,hb2⟩;have hk:=z9B hhalf;obtain⟨lc,hlc⟩:∃lc,cs'.take k=lc:=⟨_,rfl⟩;obtain⟨rc,hrc⟩:∃rc,cs'.drop k=rc:=⟨_,rfl⟩;have hSL:zB0 (leaf',n',cs')=(leaf',n',lc):=by unfold zB0;simp only;rw [hk,hlc]
   have hSR:zBk (leaf',n',cs')=(leaf',n',rc):=by unfold zBk;simp only;rw [hk,hrc]
   have hSR':z9e (leaf',n',cs')=(leaf',if leaf' then n' else 0,rc):=by unfold z9e;simp only;rw [hk,hrc]
   have hrl:0<rc.length:=by rw [<-hrc,yI];have:=hhalf.hi;omega
   have hml:∀x∈lc,x∈cs':=fun x hx=>yY (hlc▸hx)
   have hmr:∀x∈rc,x∈cs':=fun x hx=>yo (hrc▸hx)
   have hll:lc.length<=cs'.length:=by rw [<-hlc,yC];omega
   have hlr:rc.length<=cs'.length:=by rw [<-hrc,yI];omega
   have HML:Hid (Mid lc):=⟨by have:=HM.out.1;omega,fun x hx=>HM.out.2 x (hml x hx)⟩;have HMR:Hid (Mid rc):=⟨by have:=HM.out.1;omega,fun x hx=>HM.out.2 x (hmr x hx)⟩;have hcel:(cellAt rc 0)∈cs':=hmr _ (by rw [z1A hrl];exact yQ hrl);have HCE:=zz (HU.out.sm _ hcel);rw [hlc]at hcl ⊢;rw [hrc]at hcr ⊢;have HSL:=zz hSL;have HSR:=zz hSR;have HSR':=zz hSR';clear hSL hSR hSR' hml hmr hk hlc hrc hhalf hcel x0 x1 x2 xf0 xf1 xf2;have q3:Below w1.heap.size w1 ((w2.alloc (.cells #[.bool leaf',.int .i64 (n':Int),.slice AL lc.length cL] 175)).alloc (.cells #[.bool leaf',.int .i64 (n':Int),.slice AR rc.length cR] 175)):=(hb2.alloc hb2.size _).alloc (by have:=hb2.size;simp;omega) _;have hbl:Blk ((w2.alloc (.cells #[.bool leaf',.int .i64 (n':Int),.slice AL lc.length cL] 175)).alloc (.cells #[.bool leaf',.int .i64 (n':Int),.slice AR rc.length cR] 175)) w2.heap.size 175 #[.bool leaf',.int .i64 (n':Int),.slice AL lc.length cL]:=(Blk.new _ _ _).alloc _;have hbr:Blk ((w2.alloc (.cells #[.bool leaf',.int .i64 (n':Int),.slice AL lc.length cL] 175)).alloc (.cells #[.bool leaf',.int .i64 (n':Int),.slice AR rc.length cR] 175)) (w2.heap.size+1) 175 #[.bool leaf',.int .i64 (n':Int),.slice AR rc.length cR]:=Blk.new1 _ _ _ _;have HCL:Hid (Cs (fun b=>w1.heap.size<=b/\b<w2.heap.size) ((w2.alloc (.cells #[.bool leaf',.int .i64 (n':Int),.slice AL lc.length cL] 175)).alloc (.cells #[.bool leaf',.int .i64 (n':Int),.slice AR rc.length cR] 175)) (.slice AL lc.length cL) lc):=Sl.alloc (Sl.alloc hcl (fun b h=>h.2) _) (fun b h=>by have:=h.2;simp;omega) _;have HCR:Hid (Cs (fun b=>w1.heap.size<=b/\b<w2.heap.size) ((w2.alloc (.cells #[.bool leaf',.int .i64 (n':Int),.slice AL lc.length cL] 175)).alloc (.cells #[.bool leaf',.int .i64 (n':Int),.slice AR rc.length cR] 175)) (.slice AR rc.length cR) rc):=Sl.alloc (Sl.alloc hcr (fun b h=>h.2) _) (fun b h=>by have:=h.2;simp;omega) _;have hg2:w1.heap.size<=w2.heap.size:=hb2.size;clear hcl hcr hb2;go_upto_region 3 with(fail)
   generalize ((w2.alloc (.cells #[.bool leaf',.int .i64 (n':Int),.slice AL lc.length cL] 175)).alloc (.cells #[.bool leaf',.int .i64 (n':Int),.slice AR rc.length cR] 175))=W3 at*;generalize w2.heap.size=gl at*;have hg3:gl+1<W3.heap.size:=hbr.lt;have HT3:=zz (HT1.out.later q3);have HS3:=zz (HS1.out.trans (Ptp.below q3));have HX3:=zz (HX1.out.later q3);have HW3:Hid (Wsl (fun b=>b<w.heap.size/\¬Z.has b) W3 (.slice A l'.length c') l'):=⟨Sl.below HW1.out.sl q3 fun b h=>by have:=h.1;omega,fun x hx=>Sl.below (HW1.out.cs x hx) q3 fun b h=>by have:=h.1;omega⟩;have M3:Hid (UpMd w W3 w1.heap.size gl Z #[.bool leaf',.int .i64 (n':Int),.slice A1 cs'.length c1] leaf' n' n' (.slice AL lc.length cL) (.slice AR rc.length cR) lc rc (.slice A l'.length c') l'):=
    ⟨HS3.out,HX3.out,hbl,hbr,HCL.out,HCR.out,HW3.out,hgx,hg2,HZ.out⟩
   have HNC:Hid (∀b,w1.heap.size<=b/\b<gl->¬Z.has b):=fun b h e=>by have:=HZ.out _ e;omega
   clear q3 HT1 HS1 HX1 HW1 HC1 HQ1 hz2 HX3 HW3;have d0:(W3).cell? ⟨gl,0,none⟩=some (.bool leaf'):=hbl.cell 0;have d1:(W3).cell? ⟨gl,1,none⟩=some (.int .i64 (n':Int)):=hbl.cell 1;have d2:(W3).cell? ⟨gl,2,none⟩=some (.slice AL lc.length cL):=hbl.cell 2;have df0:(W3).frozen? ⟨gl,0,none⟩=false:=hbl.free 0;have df1:(W3).frozen? ⟨gl,1,none⟩=false:=hbl.free 1;have df2:(W3).frozen? ⟨gl,2,none⟩=false:=hbl.free 2;have e0:(W3).cell? ⟨gl+1,0,none⟩=some (.bool leaf'):=hbr.cell 0;have e1:(W3).cell? ⟨gl+1,1,none⟩=some (.int .i64 (n':Int)):=hbr.cell 1;have e2:(W3).cell? ⟨gl+1,2,none⟩=some (.slice AR rc.length cR):=hbr.cell 2;have ef0:(W3).frozen? ⟨gl+1,0,none⟩=false:=hbr.free 0;have ef1:(W3).frozen? ⟨gl+1,1,none⟩=false:=hbr.free 1;have ef2:(W3).frozen? ⟨gl+1,2,none⟩=false:=hbr.free 2;have x0:(W3).cell? ⟨w.heap.size,0,none⟩=some (.bool leaf'):=M3.out.X.cell 0;have x1:(W3).cell? ⟨w.heap.size,1,none⟩=some (.int .i64 (n':Int)):=M3.out.X.cell 1;have x2:(W3).cell? ⟨w.heap.size,2,none⟩=some (.slice A1 cs'.length c1):=M3.out.X.cell 2;have xf0:(W3).frozen? ⟨w.heap.size,0,none⟩=false:=M3.out.X.free 0;have xf1:(W3).frozen? ⟨w.heap.size,1,none⟩=false:=M3.out.X.free 1;have xf2:(W3).frozen? ⟨w.heap.size,2,none⟩=false:=M3.out.X.free 2;clear hbl hbr;by_cases hid:id'=0
   .have hF:z8g P' (leaf',n',lc) (leaf',n',rc)=F:=by
     rw [<-HSL.out,<-HSR.out,zFy,<-HE.out];cases h:(l'.map (·.1)).reverse with
     |nil=>rw [upP,yA hsz,yB hid]
     |cons a b=>rw [upP,yA hsz,yB hid]
    have HF:=zz hF;subst hid;clear hF HE hsz hszp;go_wp2_with fail
    refine(zGP g Z P' c _ _ leaf' leaf' n' n' _ _ lc rc W3 HT3.out HML.out HMR.out (by omega) (by omega) HCL.out HCR.out HNC.out HNC.out hrl).mono ?_;rintro e w4 ⟨rfl,hd⟩;go_wp2_with fail
    refine bodyPost_ret (results_none rfl _ _ _) rfl ?_;rw [HF.out]at hd;exact⟨rfl,hd.1,HS3.out.trans hd.2⟩
   .obtain⟨l2,⟨s,u⟩,rfl⟩:=z5k (l:=l') (fun e=>hid (by have:=HR0.out;rw [e]at this;exact this.nil));have hlen:Hid ((l2++ [(s,u)]).length=l2.length+1):=by rw [Hid];simp
    have hrev:((l2++ [(s,u)]).map (·.1)).reverse=s::(l2.map (·.1)).reverse:=by simp
    have HE2:Hid (upP (z1t P' id' (leaf',n',cs') s).1 (l2.map (·.1)).reverse s.id (z1t P' id' (leaf',n',cs') s).2=F):=by
     have:=HE.out;rw [hrev,upP,yA hsz,yA hid]at this;exact this
    have HR2:Hid (Root0 (l2.map (·.1)) s.id):=by
     have:=HR0.out;rw [Y6]at this;exact this.snoc
    have HLS:Hid (UpStp s):=HL.out (s,u) (by simp);have HL2:Hid (∀x∈l2,UpStp x.1):=fun x hx=>HL.out x (by simp [hx])
    rw [hlen.out]at hn ⊢;clear HE HR0 HL hrev hsz hszp;have hidf:(id'==0)=false:=yV.2 hid;cases leaf' with
    |false=>
     have HSR2:Hid (z9e (false,n',cs')=(false,0,rc)):=HSR'.out;have HSR3:Hid (∀b,z4b (zB0 (false,n',cs')) false b=(false,n',lc)):=fun b=>by rw [HSL.out];rfl
     have M4:=zz (M3.out.setR 0);have T4:=zz (HT3.out.putP M3.out.R (i:=1) (by omega) (.int .i64 ((0:Nat):Int)));clear M3 HT3;go_upto_region 7 with(fail)
     generalize W3.setCell ⟨gl+1,1,none⟩ (.int .i64 ((0:Nat):Int))=W4 at*;have hnr:0<=1000:=yU _;have e0:(W4).cell? ⟨gl+1,0,none⟩=some (.bool false):=M4.out.R.cell 0;have e1:(W4).cell? ⟨gl+1,1,none⟩=some (.int .i64 (0:Int)):=M4.out.R.cell 1;have e2:(W4).cell? ⟨gl+1,2,none⟩=some (.slice AR rc.length cR):=M4.out.R.cell 2;have ef0:(W4).frozen? ⟨gl+1,0,none⟩=false:=M4.out.R.free 0;have ef1:(W4).frozen? ⟨gl+1,1,none⟩=false:=M4.out.R.free 1;have ef2:(W4).frozen? ⟨gl+1,2,none⟩=false:=M4.out.R.free 2;go_wp2_with fail
     refine(z3R g Z P' c _ false 0 _ rc W4 T4.out HMR.out (by omega) M4.out.CR).mono ?_;rintro e w5 ⟨rfl,hd5⟩;have hb90:=zEO P' (false,0,rc);have HE3:Hid (upP ((P'.al (false,0,rc)).1.wp id' (z4b (zB0 (false,n',cs')) false (P'.al (false,0,rc)).2)) (l2.map (·.1)).reverse s.id (z15 s.pg ((cellAt rc 0).1,z0C (P'.al (false,0,rc)).2))=F):=by
      have:=HE2.out;unfold z1t at this;rw [HSR2.out]at this;exact this
     rw [HSR3.out]at HE3;generalize (P'.al (false,0,rc)).2=b at*;generalize (P'.al (false,0,rc)).1=P5 at*;have M5:=zz (M4.out.ptp hd5.2);have T5:=zz hd5.1;clear hd5 M4 T4 HE2 HSR2 HSR3 d0 d1 d2 df0 df1 df2 e0 e1 e2 ef0 ef1 ef2 x0 x1 x2 xf0 xf1 xf2;have d0:(w5).cell? ⟨gl,0,none⟩=some (.bool false):=M5.out.L.cell 0;have d1:(w5).cell? ⟨gl,1,none⟩=some (.int .i64 (n':Int)):=M5.out.L.cell 1;have d2:(w5).cell? ⟨gl,2,none⟩=some (.slice AL lc.length cL):=M5.out.L.cell 2;have df0:(w5).frozen? ⟨gl,0,none⟩=false:=M5.out.L.free 0;have df1:(w5).frozen? ⟨gl,1,none⟩=false:=M5.out.L.free 1;have df2:(w5).frozen? ⟨gl,2,none⟩=false:=M5.out.L.free 2;have x0:(w5).cell? ⟨w.heap.size,0,none⟩=some (.bool false):=M5.out.X.cell 0;have x1:(w5).cell? ⟨w.heap.size,1,none⟩=some (.int .i64 (n':Int)):=M5.out.X.cell 1;have x2:(w5).cell? ⟨w.heap.size,2,none⟩=some (.slice A1 cs'.length c1):=M5.out.X.cell 2;have xf0:(w5).frozen? ⟨w.heap.size,0,none⟩=false:=M5.out.X.free 0;have xf1:(w5).frozen? ⟨w.heap.size,1,none⟩=false:=M5.out.X.free 1;have xf2:(w5).frozen? ⟨w.heap.size,2,none⟩=false:=M5.out.X.free 2;go_upto_region 10 with(fail)
     have M6:=M5;have T6:=T5;clear M5 T5 x0 x1 x2 xf0 xf1 xf2 d0 d1 d2 df0 df1 df2;have d0:(w5).cell? ⟨gl,0,none⟩=some (.bool false):=M6.out.L.cell 0;have d1:(w5).cell? ⟨gl,1,none⟩=some (.int .i64 (n':Int)):=M6.out.L.cell 1;have d2:(w5).cell? ⟨gl,2,none⟩=some (.slice AL lc.length cL):=M6.out.L.cell 2;have df0:(w5).frozen? ⟨gl,0,none⟩=false:=M6.out.L.free 0;have df1:(w5).frozen? ⟨gl,1,none⟩=false:=M6.out.L.free 1;have df2:(w5).frozen? ⟨gl,2,none⟩=false:=M6.out.L.free 2;go_wp2_with fail
     refine(z0M g Z P5 c id' _ false n' _ lc w5 T6.out HI.out HML.out (by omega) M6.out.CL).mono ?_;rintro e w7 ⟨rfl,hd7⟩;have M7:=zz (M6.out.ptp hd7.2);have T7:=zz hd7.1;clear hd7 M6 T6 d0 d1 d2 df0 df1 df2;obtain⟨hw8,bb,oo,rfl,hSb,hcells,hle,hmx,hcs⟩:=Wsl.pop (hlen.out▸M7.out.W);have HW8:=zz hw8;have HCS:=zz hcs;have HSB:=zz hSb;obtain⟨A2,c2,rfl,hx0⟩:=hcs.at;obtain⟨sid,sat,slf,sn,scs⟩:=s;have f0:w7.cell? ⟨bb,oo+l2.length*5,none⟩=some (.int .i64 sid):=hcells 0 _ rfl;have f1:w7.cell? ⟨bb,oo+l2.length*5+1,none⟩=some (.int .i64 (sat:Int)):=hcells 1 _ rfl;have f2:w7.cell? ⟨bb,oo+l2.length*5+2,none⟩=some (.bool slf):=hcells 2 _ rfl;have f3:w7.cell? ⟨bb,oo+l2.length*5+3,none⟩=some (.int .i64 (sn:Int)):=hcells 3 _ rfl;have f4:w7.cell? ⟨bb,oo+l2.length*5+4,none⟩=some (.slice A2 scs.length c2):=hcells 4 _ rfl;have ew:IntKind.i64.wrap (l2.length:Int)=(l2.length:Int):=z1C (by omega) (by omega);clear hw8 hcs hSb hcells hx0;go_upto_region 14 with(fail)
     have q8:=(y7 w7.heap.size w7).alloc (y5 _) (.cells #[.int .i64 sid,.int .i64 (sat:Int),.bool slf,.int .i64 (sn:Int),.slice A2 scs.length c2] 177);have hbs:Blk (w7.alloc (.cells #[.int .i64 sid,.int .i64 (sat:Int),.bool slf,.int .i64 (sn:Int),.slice A2 scs.length c2] 177)) w7.heap.size 177 #[.int .i64 sid,.int .i64 (sat:Int),.bool slf,.int .i64 (sn:Int),.slice A2 scs.length c2]:=Blk.new _ _ _;have M8:=zz (M7.out.ptp (Ptp.below q8));have T8:=zz (T7.out.later q8);have hgs:gl+1<w7.heap.size:=M7.out.R.lt;have HCS8:=zz (Sl.below (B:=w7.heap.size) HCS.out q8 fun b h=>yE h.1 M7.out.S.turn.size);have hxlt:w.heap.size<w7.heap.size:=by omega
     clear HCS M7 T7 f0 f1 f2 f3 f4 ew q8;generalize w7.alloc (.cells #[.int .i64 sid,.int .i64 (sat:Int),.bool slf,.int .i64 (sn:Int),.slice A2 scs.length c2] 177)=W8 at*;generalize w7.heap.size=gs at*;have HBS:=zz hbs;have hgs8:gs<W8.heap.size:=hbs.lt;clear hbs;obtain⟨b1,o1,rfl,hb1⟩:=z6F M8.out.CR hrl;obtain⟨k1,hk1⟩:∃k1,k1=(cellAt rc 0).1:=⟨_,rfl⟩;have HK1:=zz hk1;rw [<-hk1]at HE3 HCE;clear hk1;refine z1z [⟨13,w.heap.size,175,0,3⟩] (by kernel_rfl) (by kernel_rfl) ?_;apply Exists.intro;apply And.intro
     .skip
      iterate 1
       apply z0X rfl rfl
       .intro wg hwg _;unfold z03;go_simp;exact z00 _ _
       intro K hK;go_simp;refine hK _ ?_;clear hK K
      apply z0X rfl rfl
      .intro wg hwg _;replace hwg:=hwg.mono z4a;have f2:wg.cell? ⟨gs,2,none⟩=some (.bool slf):=hwg.cell (HBS.out.cell 2) (z0q (by omega) _);have f3:wg.cell? ⟨gs,3,none⟩=some (.int .i64 (sn:Int)):=hwg.cell (HBS.out.cell 3) (z0q (by omega) _);have f4:wg.cell? ⟨gs,4,none⟩=some (.slice A2 scs.length c2):=hwg.cell (HBS.out.cell 4) (z0q (by omega) _);unfold z03;go_simp;exact z00 _ _
      intro K hK;go_simp;refine hK _ ?_;clear hK K
      iterate 1
       apply z0X rfl rfl
       .intro wg hwg _;unfold z03;go_simp;exact z00 _ _
       intro K hK;go_simp;refine hK _ ?_;clear hK K
      apply z0X rfl rfl
      .intro wg hwg _;replace hwg:=hwg.mono z4a;have f5:wg.cell? ⟨gl+1,2,none⟩=some (.slice (some ⟨b1,o1,none⟩) rc.length cR):=hwg.cell (M8.out.R.cell 2) (z0q (by omega) _);unfold z03;go_simp;exact z00 _ _
      intro K hK;go_simp;refine hK _ ?_;clear hK K
      iterate 2
       apply z0X rfl rfl
       .intro wg hwg _;unfold z03;go_simp;exact z00 _ _
       intro K hK;go_simp;refine hK _ ?_;clear hK K
      apply z0X rfl rfl
      .intro wg hwg _;replace hwg:=hwg.mono z4a;have f6:wg.cell? ⟨b1,o1,none⟩=some (.string (st k1)):=by
        rw [HK1.out,z1A hrl];have:=(Cs.get M8.out.CR hrl).1;rw [ZY,YQ]at this;exact hwg.cell this (z0q (by omega) _)
       unfold z03;go_simp;exact z00 _ _
      intro K hK;go_simp;refine hK _ ?_;clear hK K
      iterate 1
       apply z0X rfl rfl
       .intro wg hwg _;unfold z03;go_simp;exact z00 _ _
       intro K hK;go_simp;refine hK _ ?_;clear hK K
      apply z0X (c:= .agg #[.string (st k1),.string (st (z0C b))]) rfl rfl
      .intro wg hwg _;unfold z03;go_simp;exact⟨y7 _ _,(z2m k1 b wg (by omega)).mono (fun e w' ⟨he,hb⟩=>⟨_,he,hb,rfl⟩)⟩
      intro K hK;go_simp;refine hK _ ?_;clear hK K;apply z1w (V:=VPt W8.heap.size (z15 (slf,sn,scs) (k1,z0C b))) rfl rfl
      .intro wg hwg _;replace hwg:=hwg.mono z4a;have hq8:Below w.heap.size W8 wg:=hwg.below (by omega) fun bb kk hh=>by
        obtain⟨p,hp,h1,_⟩:=hh;simp only [y9,yH,yp]at hp;subst hp;simp only at h1;omega
       have hsz8:=hwg.size;have HC9:=zz (Sl.below HCS8.out hq8 fun b h=>h.1);unfold z03;go_simp;exact⟨y7 _ _,(z6M _ slf (sn:Int) _ scs k1 (z0C b) wg (by have:=(z0m HLS.out.ok).1;simp only at this;omega) HC9.out HLS.out.ok.asc.rises (by have:=z09 (x:=b) (by unfold U64;omega);have:=HCE.out;omega)).mono (by rintro e w' ⟨vq,he,⟨A3,c3,e3,h3⟩,hb⟩;exact⟨_,he,hb,vq,rfl,A3,c3,e3,h3.more fun bb hbb=>⟨by omega,hbb.2⟩⟩)⟩
      intro xv hxv K hK;obtain⟨wx,_,vq,rfl,A3,c3,rfl,hcq⟩:=hxv;clear hcq;go_simp;refine hK _ ?_;clear hK K;apply z1w (V:=VPt W8.heap.size (z15 (slf,sn,scs) (k1,z0C b))) rfl rfl
      .intro wg hwg hf;have h9:=zz (hf ⟨9,.data⟩ (by simp) rfl _ _ rfl);clear hf;unfold z03;go_simp;simp only [z0H];exact⟨y7 _ _,h9.out⟩
      intro xv hxv K hK;obtain⟨wx,_,vq,rfl,A4,c4,rfl,hcq⟩:=hxv;clear hcq;go_simp;refine hK _ ?_;clear hK K;apply z1w (V:=VPgs W8.heap.size (z15 (slf,sn,scs) (k1,z0C b))) rfl rfl
      .intro wg hwg hf;have h9:=zz (hf ⟨10,.data⟩ (by simp) rfl _ _ rfl);clear hf;unfold z03;go_simp;simp only [z0H];obtain⟨vq,e,h10⟩:=h9.out;injection e with e
       injection e with e
       injection e with e _
       subst e;exact⟨y7 _ _,h10⟩
      intro xv hxv K hK;obtain⟨wx,_,A5,c5,rfl,hcq⟩:=hxv;clear hcq;go_simp;refine hK _ ?_;clear hK K
      iterate 1
       apply z0X rfl rfl
       .intro wg hwg _;unfold z03;go_simp;exact z00 _ _
       intro K hK;go_simp;refine hK _ ?_;clear hK K
      apply z4E (VPgs W8.heap.size (z15 (slf,sn,scs) (k1,z0C b))) (#[.bool (z15 (slf,sn,scs) (k1,z0C b)).1,.int .i64 ((z15 (slf,sn,scs) (k1,z0C b)).2.1:Int),.slice A5 (z15 (slf,sn,scs) (k1,z0C b)).2.2.length c5])
      .rfl
      .rfl
      rotate_left 4
      .exact M8.out.X
      rotate_right 4
      .kernel_rfl
      .kernel_rfl
      .kernel_rfl
      .kernel_rfl
      .kernel_rfl
      .kernel_rfl
      .exact fun wg hwg hf=>hf ⟨11,.data⟩ (by simp) rfl _ _ rfl
      .exact fun p hp=>VPgs.pstays _ (by rw [hp];omega)
      intro K hK;go_simp;refine hK _ ?_;clear hK K;refine z4D (fun wf hE hf=> ?_);have g13:=hf 13 _ _ rfl;clear hf;obtain⟨-,cs9,b9,A6,c6,e9,h9⟩:=g13;injection e9 with e9
      subst e9;have hgr:=Kept.grown1 hE;have hbl:Below w.heap.size W8 wf:=⟨hgr.os,hgr.tape,hgr.output,hgr.size,fun bb hbb=>hgr.block bb (by omega) (fun e=>by injection e with e;omega)⟩;have hw9:=(Wsl.pop (hlen.out▸M8.out.W)).1;have RF:Hid (UpSt w wf g Z c F (.slice (some ⟨bb,oo,none⟩) l2.length c') l2 sid (z15 (slf,sn,scs) (k1,z0C b)) (.slice A6 (z15 (slf,sn,scs) (k1,z0C b)).2.2.length c6) (P5.wp id' (false,n',lc))):=
       ⟨T8.out.otherP M8.out.X hw0 hgr,M8.out.S.keptG hgr (y5 _),b9,h9.more fun bb hbb=>⟨by omega,hbb.2,fun e=>by have:=HZ.out _ e;omega⟩,
         ⟨Sl.below hw9.sl hbl fun b h=>h.1,fun x hx=>Sl.below (hw9.cs x hx) hbl fun b h=>h.1⟩,HLS.out.put HCE.out.1 hb90,HL2.out,HR2.out,HE3.out,HLS.out.ini⟩
      clear hE hgr hbl b9 h9;go_wp2_with fail
      go_roundw
      case rel=>exact⟨_,_,l2,sid,_,_,_,rfl,rfl,by omega,RF⟩
      case measure=>simp [sLen]
     .apply And.intro
      .repeat(first
        |exact trivial
        |(refine⟨okIs _ _ _ _,?_⟩)
        |(refine⟨⟨VPt.stays _ _,fun p hp _ _=>VPt.pstays _ (by simp only [y9,yH,yp]at hp;rw [hp];simp only;omega)⟩,?_⟩)
        |(refine⟨⟨VPgs.stays _ _,fun p hp _ _=>VPgs.pstays _ (by simp only [y9,yH,yp]at hp;rw [hp];simp only;omega)⟩,?_⟩)
        |(refine⟨⟨HasV.stays (VPgs.stays _ _),fun p hp hj _=>by simp only [y9,yH,yp]at hp;subst hp;exact absurd rfl hj⟩,?_⟩)
        )
      .rfl
    |true=>
     have HSR2:Hid (z9e (true,n',cs')=(true,n',rc)):=HSR'.out;have HSR3:Hid (∀b,z4b (zB0 (true,n',cs')) true b=(true,b,lc)):=fun b=>by rw [HSL.out];rfl
     have M4:=M3;have T4:=HT3;clear M3 HT3;go_upto_region 7 with(fail)
     clear e0 e1 e2 ef0 ef1 ef2;have e0:(W3).cell? ⟨gl+1,0,none⟩=some (.bool true):=M4.out.R.cell 0;have e1:(W3).cell? ⟨gl+1,1,none⟩=some (.int .i64 (n':Int)):=M4.out.R.cell 1;have e2:(W3).cell? ⟨gl+1,2,none⟩=some (.slice AR rc.length cR):=M4.out.R.cell 2;have ef0:(W3).frozen? ⟨gl+1,0,none⟩=false:=M4.out.R.free 0;have ef1:(W3).frozen? ⟨gl+1,1,none⟩=false:=M4.out.R.free 1;have ef2:(W3).frozen? ⟨gl+1,2,none⟩=false:=M4.out.R.free 2;go_wp2_with fail
     refine(z3R g Z P' c _ true n' _ rc W3 T4.out HMR.out (by omega) M4.out.CR).mono ?_;rintro e w5 ⟨rfl,hd5⟩;have hb90:=zEO P' (true,n',rc);have HE3:Hid (upP ((P'.al (true,n',rc)).1.wp id' (z4b (zB0 (true,n',cs')) true (P'.al (true,n',rc)).2)) (l2.map (·.1)).reverse s.id (z15 s.pg ((cellAt rc 0).1,z0C (P'.al (true,n',rc)).2))=F):=by
      have:=HE2.out;unfold z1t at this;rw [HSR2.out]at this;exact this
     rw [HSR3.out]at HE3;generalize (P'.al (true,n',rc)).2=b at*;generalize (P'.al (true,n',rc)).1=P5 at*;have M5:=zz (M4.out.ptp hd5.2);have T5:=zz hd5.1;clear hd5 M4 T4 HE2 HSR2 HSR3 d0 d1 d2 df0 df1 df2 e0 e1 e2 ef0 ef1 ef2 x0 x1 x2 xf0 xf1 xf2;have d0:(w5).cell? ⟨gl,0,none⟩=some (.bool true):=M5.out.L.cell 0;have d1:(w5).cell? ⟨gl,1,none⟩=some (.int .i64 (n':Int)):=M5.out.L.cell 1;have d2:(w5).cell? ⟨gl,2,none⟩=some (.slice AL lc.length cL):=M5.out.L.cell 2;have df0:(w5).frozen? ⟨gl,0,none⟩=false:=M5.out.L.free 0;have df1:(w5).frozen? ⟨gl,1,none⟩=false:=M5.out.L.free 1;have df2:(w5).frozen? ⟨gl,2,none⟩=false:=M5.out.L.free 2;have x0:(w5).cell? ⟨w.heap.size,0,none⟩=some (.bool true):=M5.out.X.cell 0;have x1:(w5).cell? ⟨w.heap.size,1,none⟩=some (.int .i64 (n':Int)):=M5.out.X.cell 1;have x2:(w5).cell? ⟨w.heap.size,2,none⟩=some (.slice A1 cs'.length c1):=M5.out.X.cell 2;have xf0:(w5).frozen? ⟨w.heap.size,0,none⟩=false:=M5.out.X.free 0;have xf1:(w5).frozen? ⟨w.heap.size,1,none⟩=false:=M5.out.X.free 1;have xf2:(w5).frozen? ⟨w.heap.size,2,none⟩=false:=M5.out.X.free 2;go_upto_region 10 with(fail)
     have M6:=zz (M5.out.setL b);have T6:=zz (T5.out.putP M5.out.L (i:=1) (by omega) (.int .i64 (b:Int)));clear M5 T5 x0 x1 x2 xf0 xf1 xf2 d0 d1 d2 df0 df1 df2;generalize w5.setCell ⟨gl,1,none⟩ (.int .i64 (b:Int))=W6 at*;have d0:(W6).cell? ⟨gl,0,none⟩=some (.bool true):=M6.out.L.cell 0;have d1:(W6).cell? ⟨gl,1,none⟩=some (.int .i64 (b:Int)):=M6.out.L.cell 1;have d2:(W6).cell? ⟨gl,2,none⟩=some (.slice AL lc.length cL):=M6.out.L.cell 2;have df0:(W6).frozen? ⟨gl,0,none⟩=false:=M6.out.L.free 0;have df1:(W6).frozen? ⟨gl,1,none⟩=false:=M6.out.L.free 1;have df2:(W6).frozen? ⟨gl,2,none⟩=false:=M6.out.L.free 2;go_wp2_with fail
     refine(z0M g Z P5 c id' _ true b _ lc W6 T6.out HI.out HML.out (by omega) M6.out.CL).mono ?_;rintro e w7 ⟨rfl,hd7⟩;have M7:=zz (M6.out.ptp hd7.2);have T7:=zz hd7.1;clear hd7 M6 T6 d0 d1 d2 df0 df1 df2;obtain⟨hw8,bb,oo,rfl,hSb,hcells,hle,hmx,hcs⟩:=Wsl.pop (hlen.out▸M7.out.W);have HW8:=zz hw8;have HCS:=zz hcs;have HSB:=zz hSb;obtain⟨A2,c2,rfl,hx0⟩:=hcs.at;obtain⟨sid,sat,slf,sn,scs⟩:=s;have f0:w7.cell? ⟨bb,oo+l2.length*5,none⟩=some (.int .i64 sid):=hcells 0 _ rfl;have f1:w7.cell? ⟨bb,oo+l2.length*5+1,none⟩=some (.int .i64 (sat:Int)):=hcells 1 _ rfl;have f2:w7.cell? ⟨bb,oo+l2.length*5+2,none⟩=some (.bool slf):=hcells 2 _ rfl;have f3:w7.cell? ⟨bb,oo+l2.length*5+3,none⟩=some (.int .i64 (sn:Int)):=hcells 3 _ rfl;have f4:w7.cell? ⟨bb,oo+l2.length*5+4,none⟩=some (.slice A2 scs.length c2):=hcells 4 _ rfl;have ew:IntKind.i64.wrap (l2.length:Int)=(l2.length:Int):=z1C (by omega) (by omega);clear hw8 hcs hSb hcells hx0;go_upto_region 14 with(fail)
     have q8:=(y7 w7.heap.size w7).alloc (y5 _) (.cells #[.int .i64 sid,.int .i64 (sat:Int),.bool slf,.int .i64 (sn:Int),.slice A2 scs.length c2] 177);have hbs:Blk (w7.alloc (.cells #[.int .i64 sid,.int .i64 (sat:Int),.bool slf,.int .i64 (sn:Int),.slice A2 scs.length c2] 177)) w7.heap.size 177 #[.int .i64 sid,.int .i64 (sat:Int),.bool slf,.int .i64 (sn:Int),.slice A2 scs.length c2]:=Blk.new _ _ _;have M8:=zz (M7.out.ptp (Ptp.below q8));have T8:=zz (T7.out.later q8);have hgs:gl+1<w7.heap.size:=M7.out.R.lt;have HCS8:=zz (Sl.below (B:=w7.heap.size) HCS.out q8 fun b h=>yE h.1 M7.out.S.turn.size);have hxlt:w.heap.size<w7.heap.size:=by omega
     clear HCS M7 T7 f0 f1 f2 f3 f4 ew q8;generalize w7.alloc (.cells #[.int .i64 sid,.int .i64 (sat:Int),.bool slf,.int .i64 (sn:Int),.slice A2 scs.length c2] 177)=W8 at*;generalize w7.heap.size=gs at*;have HBS:=zz hbs;have hgs8:gs<W8.heap.size:=hbs.lt;clear hbs;obtain⟨b1,o1,rfl,hb1⟩:=z6F M8.out.CR hrl;obtain⟨k1,hk1⟩:∃k1,k1=(cellAt rc 0).1:=⟨_,rfl⟩;have HK1:=zz hk1;rw [<-hk1]at HE3 HCE;clear hk1;refine z1z [⟨13,w.heap.size,175,0,3⟩] (by kernel_rfl) (by kernel_rfl) ?_;apply Exists.intro;apply And.intro
     .skip
      iterate 1
       apply z0X rfl rfl
       .intro wg hwg _;unfold z03;go_simp;exact z00 _ _
       intro K hK;go_simp;refine hK _ ?_;clear hK K
      apply z0X rfl rfl
      .intro wg hwg _;replace hwg:=hwg.mono z4a;have f2:wg.cell? ⟨gs,2,none⟩=some (.bool slf):=hwg.cell (HBS.out.cell 2) (z0q (by omega) _);have f3:wg.cell? ⟨gs,3,none⟩=some (.int .i64 (sn:Int)):=hwg.cell (HBS.out.cell 3) (z0q (by omega) _);have f4:wg.cell? ⟨gs,4,none⟩=some (.slice A2 scs.length c2):=hwg.cell (HBS.out.cell 4) (z0q (by omega) _);unfold z03;go_simp;exact z00 _ _
      intro K hK;go_simp;refine hK _ ?_;clear hK K
      iterate 1
       apply z0X rfl rfl
       .intro wg hwg _;unfold z03;go_simp;exact z00 _ _
       intro K hK;go_simp;refine hK _ ?_;clear hK K
      apply z0X rfl rfl
      .intro wg hwg _;replace hwg:=hwg.mono z4a;have f5:wg.cell? ⟨gl+1,2,none⟩=some (.slice (some ⟨b1,o1,none⟩) rc.length cR):=hwg.cell (M8.out.R.cell 2) (z0q (by omega) _);unfold z03;go_simp;exact z00 _ _
      intro K hK;go_simp;refine hK _ ?_;clear hK K
      iterate 2
       apply z0X rfl rfl
       .intro wg hwg _;unfold z03;go_simp;exact z00 _ _
       intro K hK;go_simp;refine hK _ ?_;clear hK K
      apply z0X rfl rfl
      .intro wg hwg _;replace hwg:=hwg.mono z4a;have f6:wg.cell? ⟨b1,o1,none⟩=some (.string (st k1)):=by
        rw [HK1.out,z1A hrl];have:=(Cs.get M8.out.CR hrl).1;rw [ZY,YQ]at this;exact hwg.cell this (z0q (by omega) _)
       unfold z03;go_simp;exact z00 _ _
      intro K hK;go_simp;refine hK _ ?_;clear hK K
      iterate 1
       apply z0X rfl rfl
       .intro wg hwg _;unfold z03;go_simp;exact z00 _ _
       intro K hK;go_simp;refine hK _ ?_;clear hK K
      apply z0X (c:= .agg #[.string (st k1),.string (st (z0C b))]) rfl rfl
      .intro wg hwg _;unfold z03;go_simp;exact⟨y7 _ _,(z2m k1 b wg (by omega)).mono (fun e w' ⟨he,hb⟩=>⟨_,he,hb,rfl⟩)⟩
      intro K hK;go_simp;refine hK _ ?_;clear hK K;apply z1w (V:=VPt W8.heap.size (z15 (slf,sn,scs) (k1,z0C b))) rfl rfl
      .intro wg hwg _;replace hwg:=hwg.mono z4a;have hq8:Below w.heap.size W8 wg:=hwg.below (by omega) fun bb kk hh=>by
        obtain⟨p,hp,h1,_⟩:=hh;simp only [y9,yH,yp]at hp;subst hp;simp only at h1;omega
       have hsz8:=hwg.size;have HC9:=zz (Sl.below HCS8.out hq8 fun b h=>h.1);unfold z03;go_simp;exact⟨y7 _ _,(z6M _ slf (sn:Int) _ scs k1 (z0C b) wg (by have:=(z0m HLS.out.ok).1;simp only at this;omega) HC9.out HLS.out.ok.asc.rises (by have:=z09 (x:=b) (by unfold U64;omega);have:=HCE.out;omega)).mono (by rintro e w' ⟨vq,he,⟨A3,c3,e3,h3⟩,hb⟩;exact⟨_,he,hb,vq,rfl,A3,c3,e3,h3.more fun bb hbb=>⟨by omega,hbb.2⟩⟩)⟩
      intro xv hxv K hK;obtain⟨wx,_,vq,rfl,A3,c3,rfl,hcq⟩:=hxv;clear hcq;go_simp;refine hK _ ?_;clear hK K;apply z1w (V:=VPt W8.heap.size (z15 (slf,sn,scs) (k1,z0C b))) rfl rfl
      .intro wg hwg hf;have h9:=zz (hf ⟨9,.data⟩ (by simp) rfl _ _ rfl);clear hf;unfold z03;go_simp;simp only [z0H];exact⟨y7 _ _,h9.out⟩
      intro xv hxv K hK;obtain⟨wx,_,vq,rfl,A4,c4,rfl,hcq⟩:=hxv;clear hcq;go_simp;refine hK _ ?_;clear hK K;apply z1w (V:=VPgs W8.heap.size (z15 (slf,sn,scs) (k1,z0C b))) rfl rfl
      .intro wg hwg hf;have h9:=zz (hf ⟨10,.data⟩ (by simp) rfl _ _ rfl);clear hf;unfold z03;go_simp;simp only [z0H];obtain⟨vq,e,h10⟩:=h9.out;injection e with e
       injection e with e
       injection e with e _
       subst e;exact⟨y7 _ _,h10⟩
      intro xv hxv K hK;obtain⟨wx,_,A5,c5,rfl,hcq⟩:=hxv;clear hcq;go_simp;refine hK _ ?_;clear hK K
      iterate 1
       apply z0X rfl rfl
       .intro wg hwg _;unfold z03;go_simp;exact z00 _ _
       intro K hK;go_simp;refine hK _ ?_;clear hK K
      apply z4E (VPgs W8.heap.size (z15 (slf,sn,scs) (k1,z0C b))) (#[.bool (z15 (slf,sn,scs) (k1,z0C b)).1,.int .i64 ((z15 (slf,sn,scs) (k1,z0C b)).2.1:Int),.slice A5 (z15 (slf,sn,scs) (k1,z0C b)).2.2.length c5])
      .rfl
      .rfl
      rotate_left 4
      .exact M8.out.X
      rotate_right 4
      .kernel_rfl
      .kernel_rfl
      .kernel_rfl
      .kernel_rfl
      .kernel_rfl
      .kernel_rfl
      .exact fun wg hwg hf=>hf ⟨11,.data⟩ (by simp) rfl _ _ rfl
      .exact fun p hp=>VPgs.pstays _ (by rw [hp];omega)
      intro K hK;go_simp;refine hK _ ?_;clear hK K;refine z4D (fun wf hE hf=> ?_);have g13:=hf 13 _ _ rfl;clear hf;obtain⟨-,cs9,b9,A6,c6,e9,h9⟩:=g13;injection e9 with e9
      subst e9;have hgr:=Kept.grown1 hE;have hbl:Below w.heap.size W8 wf:=⟨hgr.os,hgr.tape,hgr.output,hgr.size,fun bb hbb=>hgr.block bb (by omega) (fun e=>by injection e with e;omega)⟩;have hw9:=(Wsl.pop (hlen.out▸M8.out.W)).1;have RF:Hid (UpSt w wf g Z c F (.slice (some ⟨bb,oo,none⟩) l2.length c') l2 sid (z15 (slf,sn,scs) (k1,z0C b)) (.slice A6 (z15 (slf,sn,scs) (k1,z0C b)).2.2.length c6) (P5.wp id' (true,b,lc))):=
       ⟨T8.out.otherP M8.out.X hw0 hgr,M8.out.S.keptG hgr (y5 _),b9,h9.more fun bb hbb=>⟨by omega,hbb.2,fun e=>by have:=HZ.out _ e;omega⟩,
         ⟨Sl.below hw9.sl hbl fun b h=>h.1,fun x hx=>Sl.below (hw9.cs x hx) hbl fun b h=>h.1⟩,HLS.out.put HCE.out.1 hb90,HL2.out,HR2.out,HE3.out,HLS.out.ini⟩
      clear hE hgr hbl b9 h9;go_wp2_with fail
      go_roundw
      case rel=>exact⟨_,_,l2,sid,_,_,_,rfl,rfl,by omega,RF⟩
      case measure=>simp [sLen]
     .apply And.intro
      .repeat(first
        |exact trivial
        |(refine⟨okIs _ _ _ _,?_⟩)
        |(refine⟨⟨VPt.stays _ _,fun p hp _ _=>VPt.pstays _ (by simp only [y9,yH,yp]at hp;rw [hp];simp only;omega)⟩,?_⟩)
        |(refine⟨⟨VPgs.stays _ _,fun p hp _ _=>VPgs.pstays _ (by simp only [y9,yH,yp]at hp;rw [hp];simp only;omega)⟩,?_⟩)
        |(refine⟨⟨HasV.stays (VPgs.stays _ _),fun p hp hj _=>by simp only [y9,yH,yp]at hp;subst hp;exact absurd rfl hj⟩,?_⟩)
        )
      .rfl
end
end Go.Proofs.YthnlcbamjehpdaaGreatDoor
