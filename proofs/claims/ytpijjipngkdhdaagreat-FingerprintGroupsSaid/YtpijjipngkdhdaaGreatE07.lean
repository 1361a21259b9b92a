import Derived.Test.YtpijjipngkdhdaaGreatE06
set_option maxHeartbeats 8000000
set_option linter.unusedVariables false
set_option linter.unusedSimpArgs false
namespace Go.Proofs.YtpijjipngkdhdaaGreat
variable {cur:Array Value} {a budget cnt left v za:Int} {pre:List (Int×Int)} {m:List (List Int)} {l st x y:List Int} {b c cap d g i n pb sb sz ze:Nat} {A X Y:Option Addr} {B W w w' w0 w1:World}
section
open Go.RowKit Go.Shelf
attribute [local go_sem] Oper.semAt_some
theorem zjU{wN:World}{D:List Int}{L:List (List Int)}{mA lA:Option Addr}{mc lc:Nat}(hV:WalkV w wN za D L n mA lA mc lc)(hN:∀b,0<=b->b<1073741824->NumOK D L n b)(hn:1<=n)(hb0:0<=za)(hb1:za<=4611686018427387904)(hb2:1<n->za<1073741824)(l:Nat)(J Jx:List (Int×Int)->World->Prop)
  (hJd:∀pre W,J pre W->J pre W.drew)
  (hJs:∀pre W i v,J pre W->J pre (W.setCell ⟨w.heap.size,i,none⟩ (.int .i64 v)))
  (hY:∀m pre x W,J pre W->JW n x->YieldAt Fence.wide m Tryz.prog l #[.int .i64 x.1,.int .i64 x.2] W fun e W'=>
   (e= .returned (.bool true)/\J (pre++[x]) W'/\KeepW w.heap.size wN.heap.size W W')∨(e= .returned (.bool false)/\Jx (pre++[x]) W'))
  (m:Nat) (W:World) (hK:KeepW w.heap.size wN.heap.size wN W) (hJ:J [] W):
  CallsIn Fence.wide m Tryz.prog 215 #[.pointer (some ⟨w.heap.size+1,0,none⟩),.func (.yield l) #[] #[]] W fun e W'=>(∃v,e= .returned v)/\(J (qe D L n za) W'∨∃q,q<+:qe D L n za/\Jx q W'):=by
 have h0:=hN 0 (by omega) (by omega);by_cases h1:n=1
 ·subst h1;exact zjP hV h0.dl (h0.d1 1 (by omega)) (h0.d2 1 (by omega)) hb0 hb1 l J Jx hJd hY m W (hK.mono (Nat.le_succ _)) hJ
 ·exact zjQ hV (hN za hb0 (hb2 (by omega))) (by omega) l J Jx hJd hJs hY m W hK hJ
structure StepsI(w w1:World)(n:Nat)(budget:Int)(pre:List (Int×Int))(W:World)(left:Int)(st:List Int):Prop where
 go:Qy pre budget (List.replicate n 0)=some (left,st)
 row:Row W w1.heap.size 3 .i64 st
 hd:W.heap[w1.heap.size+1]? =some (.cells #[.slice (some ⟨w1.heap.size,0,none⟩) n n] 36 (0,0))
 lf:W.heap[w1.heap.size+2]? =some (.cells #[.int .i64 left] 2 (0,0))
 r1:W.heap[w.heap.size]? =some (.cells #[.slice none 0 0] 36 (0,0))
 r2:W.heap[w.heap.size+1]? =some (.cells #[.int .i64 0] 37 (0,0))
 len:st.length=n
 l0:0<=left
 l1:left<=budget
 sb:∀x∈st,0<=x/\x<=budget-left
 be:Below w.heap.size w W
def StepsJ(w w1:World)(n:Nat)(budget:Int)(pre:List (Int×Int))(W:World):Prop:=∃left st,StepsI w w1 n budget pre W left st
structure StepsX(w w1:World)(n:Nat)(budget:Int)(pre:List (Int×Int))(W:World):Prop where
 go:Qy pre budget (List.replicate n 0)=none
 r1:W.heap[w.heap.size]? =some (.cells #[.slice none 0 0] 36 (0,0))
 r2:W.heap[w.heap.size+1]? =some (.cells #[.int .i64 9] 37 (0,0))
 be:Below w.heap.size w W
theorem OnlyB.below{b0:Nat}{A:World}(h:OnlyB ze sz A B)(hb:Below b0 w A)(h1:b0<=ze)(h2:b0<=sz):Below b0 w B:=
 ⟨h.os.trans hb.os,h.tape.trans hb.tape,h.output.trans hb.output,Nat.le_trans hb.size h.size,fun k hk=>(h.block k (by omega) (by omega)).trans (hb.block k hk)⟩
theorem StepsJ.only{A:World}(hw:w.heap.size+2<=w1.heap.size)(hb:w1.heap.size+3<=ze)(h:StepsJ w w1 n budget pre A)(ho:OnlyB ze (w1.heap.size+3) A B):StepsJ w w1 n budget pre B:=by
 obtain⟨left,st,h⟩:=h;exact⟨left,st,h.go,(ho.block _ (by omega) (by omega)).trans h.row,(ho.block _ (by omega) (by omega)).trans h.hd,(ho.block _ (by omega) (by omega)).trans h.lf,(ho.block _ (by omega) (by omega)).trans h.r1,(ho.block _ (by omega) (by omega)).trans h.r2,h.len,h.l0,h.l1,h.sb,ho.below h.be (by omega) (by omega)⟩
theorem StepsX.only{A:World}(hw:w.heap.size+2<=w1.heap.size)(hb:w1.heap.size+3<=ze)(h:StepsX w w1 n budget pre A)(ho:OnlyB ze (w1.heap.size+3) A B):StepsX w w1 n budget pre B:=
 ⟨h.go,(ho.block _ (by omega) (by omega)).trans h.r1,(ho.block _ (by omega) (by omega)).trans h.r2,ho.below h.be (by omega) (by omega)⟩
theorem AboveK.set2{p q j:Nat}(W:World)(hp:p<sz)(hq:q<sz)(u v:Value):AboveK sz W ((W.setCell ⟨p,i,none⟩ u).setCell ⟨q,j,none⟩ v):=
 ⟨fun b hb _=>(Below.heap_setCell _ ⟨q,j,none⟩ v b (by show b≠q;omega)).trans (Below.heap_setCell W ⟨p,i,none⟩ u b (by show b≠p;omega)),by rw[qd,qd];exact Zr⟩
theorem StepsI.fail{len:Int}(hS:StepsI w w1 n budget pre W left st)(hlt:left<cnt)(hw:w.heap.size+2<=w1.heap.size):
  AboveK (w1.heap.size+3) W ((W.setCell ⟨w.heap.size,0,none⟩ (.slice none 0 0)).setCell ⟨w.heap.size+1,0,none⟩ (.int .i64 9))/\StepsX w w1 n budget (pre++[(len,cnt)]) ((W.setCell ⟨w.heap.size,0,none⟩ (.slice none 0 0)).setCell ⟨w.heap.size+1,0,none⟩ (.int .i64 9)):=by
 refine⟨AboveK.set2 W (by omega) (by omega) _ _,?_,?_,?_,?_⟩
 ·rw[zcC,hS.go];simp[Qy,hlt]
 ·refine(Below.heap_setCell _ ⟨w.heap.size+1,0,none⟩ _ _ (show w.heap.size≠w.heap.size+1 by omega)).trans ?_;rw[zY hS.r1];rfl
 ·rw[zY ((Below.heap_setCell _ ⟨w.heap.size,0,none⟩ _ _ (show w.heap.size+1≠w.heap.size by omega)).trans hS.r2)];rfl
 ·exact(hS.be.setCell (p:=⟨w.heap.size,0,none⟩) Zr _).setCell (p:=⟨w.heap.size+1,0,none⟩) (Nat.le_succ _) _
theorem StepsI.step{y:Int}(hS:StepsI w w1 n budget pre W left st)(hy:st[i]? =some y)(hle:cnt<=left)(h0:0<=cnt)(hw:w.heap.size+2<=w1.heap.size):
  AboveK (w1.heap.size+3) W ((W.setCell ⟨w1.heap.size+1+1,0,none⟩ (.int .i64 (left-cnt))).setCell ⟨w1.heap.size,i,none⟩ (.int .i64 (y+cnt)))/\StepsJ w w1 n budget (pre++[((i:Int)+1,cnt)]) ((W.setCell ⟨w1.heap.size+1+1,0,none⟩ (.int .i64 (left-cnt))).setCell ⟨w1.heap.size,i,none⟩ (.int .i64 (y+cnt))):=by
 have hyb:=hS.sb y (Zm hy);have far:∀(b:Nat)(o:Obj),b≠w1.heap.size->b≠w1.heap.size+1+1->W.heap[b]? =some o->((W.setCell ⟨w1.heap.size+1+1,0,none⟩ (.int .i64 (left-cnt))).setCell ⟨w1.heap.size,i,none⟩ (.int .i64 (y+cnt))).heap[b]? =some o:=fun b o h1 h2 h3=>
  (Below.heap_setCell _ ⟨w1.heap.size,i,none⟩ _ b h1).trans ((Below.heap_setCell W ⟨w1.heap.size+1+1,0,none⟩ _ b h2).trans h3)
 refine⟨AboveK.set2 W (by omega) (by omega) _ _,left-cnt,st.set i (y+cnt),?_,?_,?_,?_,?_,?_,?_,?_,?_,?_,?_⟩
 ·rw[zcC,hS.go];simp[Qy,hy,Int.not_lt.2 hle]
 ·exact(Row.far hS.row (p:=⟨w1.heap.size+1+1,0,none⟩) (show w1.heap.size≠w1.heap.size+1+1 by omega) _).set i _
 ·exact far _ _ (by omega) (by omega) hS.hd
 ·refine(Below.heap_setCell _ ⟨w1.heap.size,i,none⟩ _ _ (show w1.heap.size+2≠w1.heap.size by omega)).trans ?_;have:=zY (i:=0) hS.lf (.int .i64 (left-cnt));rw[show w1.heap.size+1+1=w1.heap.size+2 by omega,this];rfl
 ·exact far _ _ (by omega) (by omega) hS.r1
 ·exact far _ _ (by omega) (by omega) hS.r2
 ·rw[List.length_set];exact hS.len
 ·omega
 ·have:=hS.l1;omega
 ·intro x hx;rcases List.mem_or_eq_of_mem_set hx with h|h
  ·have:=hS.sb x h;omega
  ·omega
 ·exact(hS.be.setCell (p:=⟨w1.heap.size+1+1,0,none⟩) (show w.heap.size<=w1.heap.size+1+1 by omega) _).setCell (p:=⟨w1.heap.size,i,none⟩) (show w.heap.size<=w1.heap.size by omega) _
set_option maxRecDepth 100000 in
theorem zjV(h:MatA w0 A m)(h8:m.length<=8)(hc:m.length<=c)(hc2:c<=9223372036854775807)(hr:Zt m=true)(ha:QM za budget=true)(hcr:jg m za=false)(hf:FormOK m)[hx:Ext w0 w]:
  Cq 132 #[.slice A m.length c,.int .i64 za,.int .i64 budget] w (RetSteps w (qn m za budget)):=by
 have zqJ:=fun W(hxx:Ext w0 W)=>zbd (w:=W) h (by omega) hc hc2
 rw[hr]at zqJ;have HR:=Zh zqJ;have hnw:=fun W(hxx:Ext w0 W)=>zjK (w:=W) (c:=c) (za:=za) h hf.len1 h8 hf.all hf.fits hf.elim hf.zc
 have HW:=Zh hnw;have zpJ:Hid (∀p,zaC m za budget=some p->qn m za budget=(p.2,0)):=Zh (fun p hp=>by simp[qn,hr,ha,hcr,hp]);have zpK:Hid (zaC m za budget=none->qn m za budget=([],9)):=Zh (fun hp=>by simp[qn,hr,ha,hcr,hp]);obtain⟨a1,a2,a3,a4⟩:0<=za/\za<=4611686018427387904/\0<=budget/\budget<=1000000:=by simpa[QM] using ha
 have zs6:¬(1<m.length/\1073741824<=za):=by simpa[jg] using hcr
 have HCR:=Zh zs6;have hl1:=hf.len1;have HF:=Zh hf;have hmk:=ZX (P:=Tryz.prog) Tryz.underlying36 jA (by omega) (m.length:Int) (by omega) (by omega);have hdd:∀k:Nat,(Fence.wide.depth.isSome=true->1<=k):=fun k h=>by cases h
 have hcd:(decide ((1:Int)<(m.length:Int))&&decide (1073741824<=za))=false:=by
  rcases Zl 1 m.length with h1|h1
  ·simp;omega
  ·simp;omega
 have zs7:1<m.length->decide (1073741824<=za)=false:=fun h1=>by simp;omega
 clear zqJ hnw zs6 hr ha hcr hf;refine(callsIn_wide (n:=5)).1 ?_;refine callsIn_of_wp_marks Tryz.func132 rfl trivial ?_ rfl;simp only[Tryz.ntmps132,List.size_toArray,List.length_cons,List.length_nil,Nat.reduceAdd,Nat.reduceSub,Array.replicate_succ,Array.replicate_zero,List.push_toArray,List.append_toArray,List.nil_append,List.cons_append];rcases(show (decide ((1:Int)<(m.length:Int))=true/\decide (1073741824<=za)=false)∨(decide ((1:Int)<(m.length:Int))=false/\True) by
  rcases Zl 1 m.length with h1|h1
  ·exact .inl ⟨by simp;omega,zs7 h1⟩
  ·exact .inr ⟨by simp;omega,trivial⟩) with ⟨zun,zvD⟩|⟨zun,-⟩
 all_goals
  clear hcd zs7;gi_wp2_with (first
   |(refine⟨trivial,?_⟩;gi_at_call 115;refine(callsIn_wide.2 (HR.out _ Zi)).mono ?_;rintro e w1 ⟨rfl,hs1⟩)
   |(refine⟨trivial,?_⟩;gi_at_call 214;refine(callsIn_wide.2 (HW.out _ Zi)).mono ?_;rintro e w3 ⟨rfl,⟨mA,lA,mc,lc,hV⟩,hs3⟩))
  have zri:(((w1.alloc (.cells (zR #[.int .i64 0] m.length) 3)).alloc (.cells #[.slice (some ⟨w1.heap.size,0,none⟩) m.length m.length] 36)).alloc (.cells #[.int .i64 budget] 2)).heap.size=w1.heap.size+3:=by simp
  have hw1:w.heap.size+2<=w1.heap.size:=by have:=hs1.size;simpa using this
  have hw3:w1.heap.size+4<w3.heap.size:=by have:=zw hV.st;rw[zri]at this;omega
  obtain⟨w2,hw2⟩:=Xz (((w1.alloc (.cells (zR #[.int .i64 0] m.length) 3)).alloc (.cells #[.slice (some ⟨w1.heap.size,0,none⟩) m.length m.length] 36)).alloc (.cells #[.int .i64 budget] 2));rw[<-hw2]at hV hs3 zri;refine zjT (gf:=215) (ptr:= .pointer (some ⟨w1.heap.size+1+1+1+1,0,none⟩)) rfl (enters_of Tryz.func215 (by kernel_rfl) rfl) rfl (w1.heap.size+3) w3.heap.size m.length (by omega) Zr (qe (zj m m.length) (zo m m.length) m.length za) ?seq (StepsJ w w1 m.length budget) (StepsX w w1 m.length budget) (fun pre A B hA hB=>hA.only hw1 (by omega) hB) (fun pre A B hA hB=>hA.only hw1 (by omega) hB) ?h0 ?ab ?done ?stop
  case seq=>
   intro l J Jx hJd hJs hY mm W hK hJ;have:=zjU hV HF.out.num hl1 a1 a2 (fun h1=>by have:=HCR.out;omega) l J Jx hJd (by rw[zri];exact hJs) (by rw[zri];exact hY) mm W (by rw[zri];exact hK) hJ;rw[zri]at this;exact this
  case h0=>
   have hx2:Ext w1 w2:=by rw[hw2];exact Zi
   have hx3:Ext w2 w3:=hs3.ext;have g1:w2.heap[w1.heap.size]? =some (.cells (zR #[.int .i64 0] m.length) 3 (0,0)):=by
    rw[hw2];exact zh (w:=w1.alloc (.cells (zR #[.int .i64 0] m.length) 3)) Zi (heap_alloc_new w1 _)
   have g2:w2.heap[w1.heap.size+1]? =some (.cells #[.slice (some ⟨w1.heap.size,0,none⟩) m.length m.length] 36 (0,0)):=by
    rw[hw2];refine zh (w:=(w1.alloc (.cells (zR #[.int .i64 0] m.length) 3)).alloc (.cells #[.slice (some ⟨w1.heap.size,0,none⟩) m.length m.length] 36)) Zi ?_;have:=heap_alloc_new (w1.alloc (.cells (zR #[.int .i64 0] m.length) 3)) (.cells #[.slice (some ⟨w1.heap.size,0,none⟩) m.length m.length] 36);simpa using this
   have g3:w2.heap[w1.heap.size+2]? =some (.cells #[.int .i64 budget] 2 (0,0)):=by
    rw[hw2];have:=heap_alloc_new ((w1.alloc (.cells (zR #[.int .i64 0] m.length) 3)).alloc (.cells #[.slice (some ⟨w1.heap.size,0,none⟩) m.length m.length] 36)) (.cells #[.int .i64 budget] 2);simpa using this
   have g4:w1.heap[w.heap.size]? =some (.cells #[.slice none 0 0] 36 (0,0)):=zh hs1.ext (zh (w:=w.alloc (.cells #[.slice none 0 0] 36)) Zi (heap_alloc_new w _));have g5:w1.heap[w.heap.size+1]? =some (.cells #[.int .i64 0] 37 (0,0)):=by
    refine zh hs1.ext ?_;have:=heap_alloc_new (w.alloc (.cells #[.slice none 0 0] 36)) (.cells #[.int .i64 0] 37);simpa using this
   have hxw:Ext w w3:=(Ext.trans (Ext.trans (Zi:Ext w ((w.alloc (.cells #[.slice none 0 0] 36)).alloc (.cells #[.int .i64 0] 37))) hs1.ext) hx2).trans hx3;refine⟨budget,List.replicate m.length 0,rfl,?_,zh hx3 g2,zh hx3 g3,zh (hx2.trans hx3) g4,zh (hx2.trans hx3) g5,by simp,a3,Int.le_refl _,fun x hx=>?_,hxw.below⟩
   ·rw[zbg]at g1;exact zh hx3 g1
   ·have:=List.eq_of_mem_replicate hx;omega
  case ab=>
   rintro l pre ⟨len,cnt⟩ W hI ⟨v1,v2,v3,v4⟩ hsz;dsimp only at v1 v2 v3 v4;obtain⟨i,rfl⟩:∃i:Nat,len=(i:Int)+1:=⟨(len-1).toNat,by omega⟩;gi_wp2
   refine⟨trivial,fun W' hI' hs'=>?_⟩;obtain⟨left,st,hS⟩:=hI';have hsl:=hS.len;obtain⟨y,hy1,hy2⟩:=hS.row.cell (i:=i) (by omega);have hyb:=hS.sb y (Zm hy1);have hf1:=hS.row.frozen i;have e1:W'.cell? ⟨w1.heap.size+1,0,none⟩=some (.slice (some ⟨w1.heap.size,0,none⟩) m.length m.length):=by simp[World.cell?,hS.hd]
   have e2:W'.cell? ⟨w1.heap.size+1+1,0,none⟩=some (.int .i64 left):=by have:=hS.lf;simp[World.cell?,this]
   have e3:W'.frozen? ⟨w1.heap.size+1+1,0,none⟩=false:=by have:=hS.lf;simp[World.frozen?,this]
   have e4:W'.cell? ⟨w.heap.size,0,none⟩=some (.slice none 0 0):=by simp[World.cell?,hS.r1]
   have e5:W'.frozen? ⟨w.heap.size,0,none⟩=false:=by simp[World.frozen?,hS.r1]
   have e6:W'.cell? ⟨w.heap.size+1,0,none⟩=some (.int .i64 0):=by simp[World.cell?,hS.r2]
   have e7:W'.frozen? ⟨w.heap.size+1,0,none⟩=false:=by simp[World.frozen?,hS.r2]
   have hl0:=hS.l0;have zvE:=hS.l1;obtain⟨zuo,zup⟩:=hyb;have HS:=Zh hS;have HY:=Zh hy1;clear hy1 hS hI;by_cases hlt:left<cnt
   ·gi_wp2_with fail
    exact HS.out.fail hlt hw1
   ·gi_wp2_with fail
    exact HS.out.step HY.out (by omega) v3 hw1
  case done=>
   rintro D W ⟨left,st,hS⟩ hD hK;have e1:W.cell? ⟨w1.heap.size+1,0,none⟩=some (.slice (some ⟨w1.heap.size,0,none⟩) m.length m.length):=by simp[World.cell?,hS.hd]
   have e4:W.cell? ⟨w.heap.size,0,none⟩=some (.slice none 0 0):=by simp[World.cell?,hS.r1]
   have e5:W.frozen? ⟨w.heap.size,0,none⟩=false:=by simp[World.frozen?,hS.r1]
   have e6:W.cell? ⟨w.heap.size+1,0,none⟩=some (.int .i64 0):=by simp[World.cell?,hS.r2]
   have e7:W.frozen? ⟨w.heap.size+1,0,none⟩=false:=by simp[World.frozen?,hS.r2]
   have HS:=Zh hS;have HK:=Zh hK;clear hS hK;gi_wp2_with fail
   obtain⟨Wr,hWr⟩:=Xz (((W.setCell ⟨w.heap.size,0,none⟩ (.slice (some ⟨w1.heap.size,0,none⟩) m.length m.length)).setCell ⟨w.heap.size+1,0,none⟩ (.int .i64 0)));rw[<-hWr];have k1:Wr.heap[w.heap.size]? =some (.cells #[.slice (some ⟨w1.heap.size,0,none⟩) m.length m.length] 36 (0,0)):=by
    rw[hWr];refine(Below.heap_setCell _ ⟨w.heap.size+1,0,none⟩ _ _ (show w.heap.size≠w.heap.size+1 by omega)).trans ?_;rw[zY HS.out.r1];rfl
   have k2:Wr.heap[w.heap.size+1]? =some (.cells #[.int .i64 0] 37 (0,0)):=by
    rw[hWr,zY ((Below.heap_setCell _ ⟨w.heap.size,0,none⟩ _ _ (show w.heap.size+1≠w.heap.size by omega)).trans HS.out.r2)];rfl
   have k3:Wr.heap[D]? =some (.deferred (some [])):=by
    rw[hWr];exact(Below.heap_setCell _ ⟨w.heap.size+1,0,none⟩ _ _ (show D≠w.heap.size+1 by omega)).trans ((Below.heap_setCell _ ⟨w.heap.size,0,none⟩ _ _ (show D≠w.heap.size by omega)).trans HK.out)
   have k4:Row Wr w1.heap.size 3 .i64 st:=by
    rw[hWr];exact(HS.out.row.far (p:=⟨w.heap.size,0,none⟩) (show w1.heap.size≠w.heap.size by omega) _).far (p:=⟨w.heap.size+1,0,none⟩) (show w1.heap.size≠w.heap.size+1 by omega) _
   have k5:Below w.heap.size w Wr:=by
    rw[hWr];exact(HS.out.be.setCell (p:=⟨w.heap.size,0,none⟩) Zr _).setCell (p:=⟨w.heap.size+1,0,none⟩) (Nat.le_succ _) _
   have hoP:OnlyB (w1.heap.size+3) (w1.heap.size+3) Wr (Wr.putObj D (.deferred none)):=OnlyB.putObj (by omega) _;have p1:=(hoP.block _ (by omega) (by omega)).trans k1;have p2:=(hoP.block _ (by omega) (by omega)).trans k2;have p4:Row (Wr.putObj D (.deferred none)) w1.heap.size 3 .i64 st:=(hoP.block _ (by omega) (by omega)).trans k4;have q1:(Wr.putObj D (.deferred none)).cell? ⟨w.heap.size,0,none⟩=some (.slice (some ⟨w1.heap.size,0,none⟩) m.length m.length):=by simp[World.cell?,p1]
   have q2:(Wr.putObj D (.deferred none)).cell? ⟨w.heap.size+1,0,none⟩=some (.int .i64 0):=by simp[World.cell?,p2]
   refine⟨by simp,.inl ⟨_,_,rfl,run_takeDeferred k3,?_⟩⟩;have hsp:=zpJ.out (left,st) HS.out.go;refine⟨.tuple #[.slice (some ⟨w1.heap.size,0,none⟩) m.length m.length,.int .i64 0],by simp[results,Tryz.results132,go_sem,q1,q2],?_⟩;rw[hsp];have hsl:=HS.out.len;refine⟨_,m.length,by rw[hsl],p4.ints,by show st.length<=m.length;omega,by omega,⟨hoP.below k5 (by omega) (by omega)⟩⟩
  case stop=>
   rintro D q W hq hX hD hK;gi_wp2_with fail
   have hoP:OnlyB (w1.heap.size+3) (w1.heap.size+3) W (W.putObj D (.deferred none)):=OnlyB.putObj (by omega) _;have p1:=(hoP.block _ (by omega) (by omega)).trans hX.r1;have p2:=(hoP.block _ (by omega) (by omega)).trans hX.r2;have q1:(W.putObj D (.deferred none)).cell? ⟨w.heap.size,0,none⟩=some (.slice none 0 0):=by simp[World.cell?,p1]
   have q2:(W.putObj D (.deferred none)).cell? ⟨w.heap.size+1,0,none⟩=some (.int .i64 9):=by simp[World.cell?,p2]
   refine⟨by simp,.inl ⟨_,_,rfl,run_takeDeferred hK,?_⟩⟩;have hsp:=zpK.out (by
    obtain⟨t,ht⟩:=hq;unfold zaC;rw[<-ht,zcC,hX.go];rfl)
   refine⟨.tuple #[.slice none 0 0,.int .i64 9],by simp[results,Tryz.results132,go_sem,q1,q2],?_⟩;exact RetSteps.err hsp ⟨hoP.below hX.be (by omega) (by omega)⟩
theorem zjW(h:Zt m=true):1<=m.length/\m.length<=8:=by
 have h1:Qe m=true:=by
  cases hs:Qe m
  ·rw[zeI hs]at h;cases h
  ·rfl
 have:=of_decide_eq_true h1;exact⟨this.1,this.2.1⟩
theorem zjX(h:MatA w0 A m)(zqf:m.length<=1099511627776)(hc:m.length<=c)(hc2:c<=9223372036854775807)(hf:Zt m=true->FormOK m)[hx:Ext w0 w]:
  Cq 132 #[.slice A m.length c,.int .i64 za,.int .i64 budget] w (RetSteps w (qn m za budget)):=by
 cases hr:Zt m
 ·exact zcD h zqf hc hc2 (.inl hr)
 ·cases ha:QM za budget
  ·exact zcD h zqf hc hc2 (.inr (.inl ha))
  ·cases hcr:jg m za
   ·exact zjV h (zjW hr).2 hc hc2 hr ha hcr (hf hr)
   ·exact zcD h zqf hc hc2 (.inr (.inr hcr))
end
section
open Go.RowKit
theorem ze7(x y c:Int)(hx:0<=x)(hy:0<=y)(hc0:0<=c)(hc:c<=1)(w:World):(callFunc 342 #[.int .u64 x,.int .u64 y,.int .u64 c]).run Tryz.prog w=
  .ok (.value (.tuple #[.int .u64 ((x+y+c)%18446744073709551616),.int .u64 ((x+y+c) / 18446744073709551616)])) w:=by
 obtain⟨x,rfl⟩:=Int.eq_ofNat_of_zero_le hx;obtain⟨y,rfl⟩:=Int.eq_ofNat_of_zero_le hy;obtain⟨c,rfl⟩:=Int.eq_ofNat_of_zero_le hc0;refine(Any7.bits_Add64 Tryz.lays7n25 x y c (by omega) w).trans ?_;congr 5<;>omega
theorem zjY(x y:Int)(hx:0<=x)(hy:0<=y)(w:World):(callFunc 342 #[.int .u64 x,.int .u64 y,.int .u64 0]).run Tryz.prog w=
  .ok (.value (.tuple #[.int .u64 ((x+y)%18446744073709551616),.int .u64 ((x+y) / 18446744073709551616)])) w:=by
 simpa using ze7 x y 0 hx hy (Int.le_refl 0) (by decide) w
def QN(x y:Int):Int:=if x<y then 1 else 0
theorem ze8(x y b:Int)(hx:0<=x)(hy:0<=y)(hy':y<18446744073709551616)(hb0:0<=b)(hb:b<=1)(w:World):(callFunc 343 #[.int .u64 x,.int .u64 y,.int .u64 b]).run Tryz.prog w=
  .ok (.value (.tuple #[.int .u64 ((x-y-b)%18446744073709551616),.int .u64 (QN x (y+b))])) w:=by
 obtain⟨x,rfl⟩:=Int.eq_ofNat_of_zero_le hx;obtain⟨y,rfl⟩:=Int.eq_ofNat_of_zero_le hy;obtain⟨b,rfl⟩:=Int.eq_ofNat_of_zero_le hb0;have e1:(((x+18446744073709551616-y-b)%18446744073709551616:Nat):Int)=((x:Int)-y-b)%18446744073709551616:=by omega
 have e2:((if x<y+b then 1 else 0:Nat):Int)=QN x (y+b):=by unfold QN;split<;>split<;>omega
 rw[<-e1,<-e2];exact Any7.bits_Sub64 Tryz.lays7n26 x y b (by omega) w
theorem zjZ(x y:Int)(hx:0<=x)(hy:0<=y)(hy':y<18446744073709551616)(w:World):(callFunc 343 #[.int .u64 x,.int .u64 y,.int .u64 0]).run Tryz.prog w=
  .ok (.value (.tuple #[.int .u64 ((x-y)%18446744073709551616),.int .u64 (QN x y)])) w:=by
 simpa using ze8 x y 0 hx hy hy' (Int.le_refl 0) (by decide) w
def ZC(v:Int):Int:=v / 18446744073709551616
def Zp(v:Int):Int:=v%18446744073709551616
def Jp(v:Int):Value:= .agg #[.int .u64 (ZC v),.int .u64 (Zp v)]
theorem zj0(v:Int)(x y:Nat)(h0:0<=v)(hx:x<18446744073709551616)(hy:y<18446744073709551616)(hb:v+(x*y:Nat)<340282366920938463463374607431768211456):
  Cq 277 #[Jp v,.int .u64 x,.int .u64 y] w (zz w (Jp (v+(x*y:Nat)))):=by
 obtain⟨p,hp⟩:=Xz (x*y);have hm:=Tryz.bits_Mul64 x y hx hy;rw[<-hp]at hm hb|-
 have HM:=Zh hm;clear hm hp;unfold Jp;have a0:0<=ZC v:=by unfold ZC;omega
 have a1:0<=Zp v:=by unfold Zp;omega
 have a2:Zp v<18446744073709551616:=by unfold Zp;omega
 have a3:ZC v<18446744073709551616:=by unfold ZC;omega
 obtain⟨q,hq⟩:∃q:Int,q=((p / 18446744073709551616:Nat):Int):=⟨_,rfl⟩;obtain⟨r,hr⟩:∃r:Int,r=((p%18446744073709551616:Nat):Int):=⟨_,rfl⟩;rw[<-hq,<-hr]at HM;have hq0:0<=q:=by omega
 have hr0:0<=r:=by omega
 have HV1:Hid ((ZC v+q+(Zp v+r) / 18446744073709551616)%18446744073709551616=ZC (v+p)):=Zh (by unfold ZC Zp;omega);have HV2:Hid ((Zp v+r)%18446744073709551616=Zp (v+p)):=Zh (by unfold Zp;omega);have k0:0<=(Zp v+r) / 18446744073709551616:=by omega
 have k1:(Zp v+r) / 18446744073709551616<=1:=by omega
 generalize ZC v=ah at*
 generalize Zp v=al at*
 clear hq hr;go_enter Tryz.func277,Tryz.ntmps277;go_wp2_with (first|(go_at_call 272;refine(HM.out _).mono ?_;rintro e w' ⟨rfl,rfl⟩)|simp only[zjY al r a1 hr0]|simp only[ze7 ah q _ a0 hq0 k0 k1])
 rw[<-HV1.out,<-HV2.out];exact bodyPost_ret (v:= .agg #[.int .u64 ((ah+q+(al+r) / 18446744073709551616)%18446744073709551616),.int .u64 ((al+r)%18446744073709551616)]) (by simp[results,Tryz.results277,go_sem]) rfl ⟨rfl,Step.of _ _⟩
def jh(z:Int):Bool:=decide (0<=z/\z<=4611686018427387904)
def ze9(w:World)(z:Int)(e:Ending)(w':World):Prop:=e= .returned (.tuple #[.int .i64 (if jh z then z else 0),.bool (jh z)])/\Step w w'
theorem zfa(x y:Int):0<=QN x y/\QN x y<=1:=by unfold QN;split<;>omega
theorem zfb(a b:Int)(ha0:0<=a)(ha1:a<340282366920938463463374607431768211456)(hb0:0<=b)(hb1:b<340282366920938463463374607431768211456):
  Cq 278 #[Jp a,Jp b] w (ze9 w (a-b)):=by
 unfold Jp;have a1:0<=ZC a/\ZC a<18446744073709551616/\0<=Zp a/\Zp a<18446744073709551616/\a=ZC a*18446744073709551616+Zp a:=by unfold ZC Zp;omega
 have b1:0<=ZC b/\ZC b<18446744073709551616/\0<=Zp b/\Zp b<18446744073709551616/\b=ZC b*18446744073709551616+Zp b:=by unfold ZC Zp;omega
 generalize ZC a=ah at*
 generalize Zp a=al at*
 generalize ZC b=bh at*
 generalize Zp b=bl at*
 obtain⟨c1,c2,c3,c4,c5⟩:=a1;obtain⟨d1,d2,d3,d4,d5⟩:=b1;obtain⟨g,hg⟩:=Xz (QN al bl);obtain⟨f,hf⟩:=Xz (QN ah (bh+g));obtain⟨lo,hlo⟩:=Xz ((al-bl)%18446744073709551616);obtain⟨hi,hhi⟩:=Xz ((ah-bh-g)%18446744073709551616);have hg1:=zfa al bl;have hf1:=zfa ah (bh+g);rw[<-hg]at hg1;rw[<-hf]at hf1;have s1:=zjZ al bl c3 d3 d4;have s2:=ze8 ah bh g c1 d1 d2 hg1.1 hg1.2
 rw[<-hg,<-hlo]at s1;rw[<-hf,<-hhi]at s2;have S1:=Zh s1;have S2:=Zh s2;have hl0:0<=lo/\lo<18446744073709551616:=by omega
 have hh0:0<=hi/\hi<18446744073709551616:=by omega
 -- the number, by its parts
 have key:jh (a-b)=(decide (f=0)&&(decide (hi=0)&&decide (lo<=4611686018427387904)))/\(f=0->hi=0->a-b=lo):=by
  have hg2:(al<bl/\g=1)∨(bl<=al/\g=0):=by rw[hg];unfold QN;split<;>omega
  have hf2:(ah<bh+g/\f=1)∨(bh+g<=ah/\f=0):=by rw[hf];unfold QN;split<;>omega
  constructor
  ·unfold jh;rw[Bool.eq_iff_iff];simp only[decide_eq_true_eq,Bool.and_eq_true];constructor
   ·rintro⟨h1,h2⟩;refine⟨?_,?_,?_⟩<;>omega
   ·rintro⟨h1,h2,h3⟩;omega
  ·intro h1 h2;omega
 obtain⟨key1,key2⟩:=key;have K1:=Zh key1;have K2:=Zh key2;clear hg hf hlo hhi key1 key2 s1 s2 c5 d5;by_cases hf0:f=0
 ·have bf:(f !=0)=false:=by simp[hf0]
  by_cases hh:hi=0
  ·have bh':(hi !=0)=false:=by simp[hh]
   by_cases hl:lo<=4611686018427387904
   ·have HN:Hid (jh (a-b)=true):=Zh (by rw[K1.out];simp[hf0,hh,hl]);have HE:=Zh (K2.out hf0 hh);have bl':decide (4611686018427387904<lo)=false:=by simp;omega
    clear hf0 hh;go_enter Tryz.func278,Tryz.ntmps278;go_wp2_with (first|simp only[S1.out]|simp only[S2.out])
    go_ret2
    exact⟨by rw[HN.out,HE.out];rfl,Step.of _ _⟩
   ·have HN:Hid (jh (a-b)=false):=Zh (by rw[K1.out];simp[hl]);have bl':decide (4611686018427387904<lo)=true:=by simp;omega
    clear hf0 hh;go_enter Tryz.func278,Tryz.ntmps278;go_wp2_with (first|simp only[S1.out]|simp only[S2.out])
    go_ret2
    exact⟨by rw[HN.out];rfl,Step.of _ _⟩
  ·have bh':(hi !=0)=true:=by simp[hh]
   have HN:Hid (jh (a-b)=false):=Zh (by rw[K1.out];simp[hh]);clear hf0 hh;go_enter Tryz.func278,Tryz.ntmps278;go_wp2_with (first|simp only[S1.out]|simp only[S2.out])
   go_ret2
   exact⟨by rw[HN.out];rfl,Step.of _ _⟩
 ·have bf:(f !=0)=true:=by simp[hf0]
  have HN:Hid (jh (a-b)=false):=Zh (by rw[K1.out];simp[hf0]);clear hf0;go_enter Tryz.func278,Tryz.ntmps278;go_wp2_with (first|simp only[S1.out]|simp only[S2.out])
  go_ret2
  exact⟨by rw[HN.out];rfl,Step.of _ _⟩
def Z3:List Int->List Int->Int
 |a::l,b::m=>(if 0<=a*b then a*b else 0)+Z3 l m
 |_,_=>0
def Z4:List Int->List Int->Int
 |a::l,b::m=>(if 0<=a*b then 0 else-(a*b))+Z4 l m
 |_,_=>0
theorem zfc:∀l m,zy l m=Z3 l m-Z4 l m
 |[],_=>by simp[zy,Z3,Z4]
 |_::_,[]=>by simp[zy,Z3,Z4]
 |a::l,b::m=>by simp only[zy,Z3,Z4];rw[zfc l m];split<;>omega
theorem zfd(m:List Int):Z3 [] m=0:=by cases m<;>rfl
theorem zfe(m:List Int):Z4 [] m=0:=by cases m<;>rfl
theorem zff:∀(l m:List Int)(k:Nat)(a b:Int),l[k]? =some a->m[k]? =some b->Z3 (l.take (k+1)) (m.take (k+1))=Z3 (l.take k) (m.take k)+(if 0<=a*b then a*b else 0)
 |[],_,_,_,_,h,_=>by simp at h
 |_::_,[],_,_,_,_,h=>by simp at h
 |x::l,y::m,0,a,b,h,h'=>by simp at h h';subst h h';simp[Z3,zfd]
 |x::l,y::m,k+1,a,b,h,h'=>by
  have:=zff l m k a b (by simpa using h) (by simpa using h');simp only[List.take_succ_cons,Z3,this];omega
theorem zfg:∀(l m:List Int)(k:Nat)(a b:Int),l[k]? =some a->m[k]? =some b->Z4 (l.take (k+1)) (m.take (k+1))=Z4 (l.take k) (m.take k)+(if 0<=a*b then 0 else-(a*b))
 |[],_,_,_,_,h,_=>by simp at h
 |_::_,[],_,_,_,_,h=>by simp at h
 |x::l,y::m,0,a,b,h,h'=>by simp at h h';subst h h';simp[Z4,zfe]
 |x::l,y::m,k+1,a,b,h,h'=>by
  have:=zfg l m k a b (by simpa using h) (by simpa using h');simp only[List.take_succ_cons,Z4,this];omega
theorem zfh{A B:Int}(hA:0<=A)(hB:0<=B):∀(l m:List Int),(∀x∈l,-A<=x/\x<=A)->(∀x∈m,-B<=x/\x<=B)->0<=Z3 l m/\Z3 l m<=(l.length:Int)*(A*B)/\0<=Z4 l m/\Z4 l m<=(l.length:Int)*(A*B)
 |[],m,_,_=>by simp[zfd,zfe]
 |x::l,[],_,_=>by
  have:0<=((x::l).length:Int)*(A*B):=Int.mul_nonneg (by omega) (Int.mul_nonneg hA hB);simp only[Z3,Z4];omega
 |x::l,y::m,h1,h2=>by
  have ih:=zfh hA hB l m (fun z hz=>h1 z (by simp[hz])) (fun z hz=>h2 z (by simp[hz]));have hx:=h1 x (by simp);have hy:=h2 y (by simp);have:=qH hx.1 hx.2 hy.1 hy.2;have hAB:0<=A*B:=Int.mul_nonneg hA hB;simp only[Z3,Z4,List.length_cons];have e:((l.length+1:Nat):Int)*(A*B)=(l.length:Int)*(A*B)+A*B:=by rw[Int.natCast_add,Int.add_mul];omega
  rw[e];split<;>omega
def Qz(z:Int):Bool:=decide (-4611686018427387904<=z/\z<=4611686018427387904)
def zj1(w:World)(z:Int)(e:Ending)(w':World):Prop:=e= .returned (.tuple #[.int .i64 (if Qz z then z else 0),.bool (Qz z)])/\Step w w'
def zaD(v:Int):Obj:= .cells #[.int .u64 (ZC v),.int .u64 (Zp v)] 325 (0,0)
theorem zfi(h:w.heap[b]? =some (zaD v)):w.cell? ⟨b,0,none⟩=some (.int .u64 (ZC v))/\w.cell? ⟨b,1,none⟩=some (.int .u64 (Zp v))/\w.frozen? ⟨b,0,none⟩=false/\w.frozen? ⟨b,1,none⟩=false/\b<w.heap.size:=zJ h
theorem zbn{v':Int}(h:w.heap[b]? =some (zaD v)):((w.setCell ⟨b,0,none⟩ (.int .u64 (ZC v'))).setCell ⟨b,1,none⟩ (.int .u64 (Zp v'))).heap[b]? =some (zaD v'):=by
 rw[zay (zbe h)];rfl
theorem zbo{o:Obj}(h:w.heap[b]? =some o)(hne:b≠c)(u v:Value):((w.setCell ⟨c,0,none⟩ u).setCell ⟨c,1,none⟩ v).heap[b]? =some o:=
 (Below.heap_setCell _ ⟨c,1,none⟩ v b hne).trans ((Below.heap_setCell w ⟨c,0,none⟩ u b hne).trans h)
theorem zbp(v x y t:Int)(ht:t=x*y)(h0:0<=v)(h1:v<=20282409603651670423947251286016)(hx0:0<=x)(hx:x<=1099511627776)(hy0:0<=y)(hy:y<=2305843009213693952)(w:World):
  Cq 277 #[.agg #[.int .u64 (ZC v),.int .u64 (Zp v)],.int .u64 x,.int .u64 y] w (zz w (.agg #[.int .u64 (ZC (v+t)),.int .u64 (Zp (v+t))])):=by
 obtain⟨x,rfl⟩:=Int.eq_ofNat_of_zero_le hx0;obtain⟨y,rfl⟩:=Int.eq_ofNat_of_zero_le hy0;have hm:=Nat.mul_le_mul (show x<=1099511627776 by omega) (show y<=2305843009213693952 by omega);have:=zj0 (w:=w) v x y h0 (by omega) (by omega) (by omega);have e:((x*y:Nat):Int)=t:=by rw[ht,Int.natCast_mul]
 rw[e]at this;exact this
set_option maxRecDepth 10000 in
theorem zfj(hX:Ints w0 X 2 .i64 x)(hY:Ints w0 Y 2 .i64 y)(hl:y.length=x.length)(h8:x.length<=8)(bx:∀z∈x,-1099511627776<=z/\z<=1099511627776)(by':∀z∈y,-2305843009213693952<=z/\z<=2305843009213693952)[hx:Ext w0 w]:
  Cq 226 #[.slice X x.length c,.slice Y x.length d] w (zj1 w (zy x y)):=by
 have hX0:=hX.ext hx;have hY0:=hY.ext hx;obtain⟨n,hN⟩:=Xz x.length;rw[<-hN]at h8|-
 have HN:=Zh hN;have HL:=Zh hl;have HBX:=Zh bx;have HBY:=Zh by'
 clear hN hl bx by'
 go_enter Tryz.func226,Tryz.ntmps226;go_wp2;go_loopw [8,9,10,17] (fun _ _ _ i wr=>∃k:Nat,k<=n/\i= .int .i64 k/\wr.heap[w.heap.size]? =some (zaD (Z3 (x.take k) (y.take k)))/\wr.heap[w.heap.size+1]? =some (zaD (Z4 (x.take k) (y.take k)))/\Ext w wr) (fun _ _ _ i _=>n-(intOf i).toNat)
 case atStart=>
  refine⟨0,by omega,rfl,?_,?_,Zi⟩
  ·have:=heap_alloc_new w (.cells #[.int .u64 0,.int .u64 0] 325);exact zh (w:=w.alloc (.cells #[.int .u64 0,.int .u64 0] 325)) Zi this
  ·have:=heap_alloc_new (w.alloc (.cells #[.int .u64 0,.int .u64 0] 325)) (.cells #[.int .u64 0,.int .u64 0] 325);rw[World.size_alloc]at this;exact this
 case round=>
  obtain⟨k,hk,rfl,hP,hQ,hxr⟩:=hrel;obtain⟨P,eP⟩:=Xz (Z3 (x.take k) (y.take k));obtain⟨Q,eQ⟩:=Xz (Z4 (x.take k) (y.take k));have bPQ:=zfh (A:=1099511627776) (B:=2305843009213693952) (by omega) (by omega) (x.take k) (y.take k) (fun z hz=>HBX.out z (List.mem_of_mem_take hz)) (fun z hz=>HBY.out z (List.mem_of_mem_take hz));rw[<-eP,<-eQ]at bPQ;rw[<-eP]at hP;rw[<-eQ]at hQ;have htl:(x.take k).length<=8:=by rw[List.length_take];have:=HN.out;omega
  obtain⟨bP0,bP1,bQ0,bQ1⟩:=bPQ;have bP2:P<=20282409603651670423947251286016:=by omega
  have bQ2:Q<=20282409603651670423947251286016:=by omega
  obtain⟨p1,p2,p3,p4,p5⟩:=zfi hP;obtain⟨q1,q2,q3,q4,q5⟩:=zfi hQ;have HP:=Zh hP;have HQ:=Zh hQ;have EP:=Zh eP;have EQ:=Zh eQ;clear hP hQ eP eQ bP1 bQ1 htl;by_cases hlt:k<n
  ·obtain⟨b1,o1,a,rfl,ha,g1,g2⟩:=(hX0.ext hxr).at_ (i:=k) (by have:=HN.out;omega);obtain⟨b2,o2,b,rfl,hb,g3,g4⟩:=(hY0.ext hxr).at_ (i:=k) (by have:=HN.out;have:=HL.out;omega);have ba:=HBX.out a (Zm ha);have bb:=HBY.out b (Zm hb);have HPS:=Zh (zff x y k a b ha hb);have HQS:=Zh (zfg x y k a b ha hb);rw[<-EP.out]at HPS;rw[<-EQ.out]at HQS;clear ha hb;have oP:Old w.heap.size wr:=⟨p5⟩;have oQ:Old (w.heap.size+1) wr:=⟨q5⟩
   obtain⟨ba1,ba2⟩:=ba;obtain⟨bb1,bb2⟩:=bb;by_cases ha0:0<=a
   ·by_cases hb0:0<=b
    ·skip
     have da:decide (0<=a)=true:=by simp;omega
     have da':decide (a<0)=false:=by simp;omega
     have db:decide (0<=b)=true:=by simp;omega
     have db':decide (b<0)=false:=by simp;omega
     obtain⟨t,ht⟩:=Xz (a*b);have htm:a*b=t:=ht.symm;have ht0:0<=t:=by rw[ht];exact Int.mul_nonneg (by omega) (by omega)
     have hC:=zbp P a b t ht bP0 bP2 (by omega) (by omega) (by omega) (by omega);have HC:=Zh hC;have hP':Z3 (x.take (k+1)) (y.take (k+1))=P+t:=by rw[HPS.out,htm,if_pos (by omega)]
     have hQ':Z4 (x.take (k+1)) (y.take (k+1))=Q:=by rw[HQS.out,htm,if_pos (by omega)];omega
     have HP':=Zh hP';have HQ':=Zh hQ';clear hC ht htm hP' hQ' HPS HQS;go_wp2_with (go_at_call 277;refine(HC.out _).mono ?_;rintro e w1 ⟨rfl,hs1⟩)
     have k1:=zh hs1.ext HP.out;have k2:=zh hs1.ext HQ.out;refine⟨⟨k+1,by omega,by go_num,?_,?_,?_⟩,by simp[intOf]<;>omega⟩
     ·rw[HP'.out];exact zbn k1
     ·rw[HQ'.out];exact zbo k2 (show w.heap.size+1≠w.heap.size by omega) _ _
     ·exact((Ext.trans hxr hs1.ext).setCell (p:=⟨w.heap.size,0,none⟩) Zr _).setCell (p:=⟨w.heap.size,1,none⟩) Zr _
    ·skip
     have da:decide (0<=a)=true:=by simp;omega
     have da':decide (a<0)=false:=by simp;omega
     have db:decide (0<=b)=false:=by simp;omega
     have db':decide (b<0)=true:=by simp;omega
     obtain⟨t,ht⟩:=Xz (a*(-b));have htm:a*b=-t:=by rw[ht,Int.mul_neg,Int.neg_neg]
     have ht0:0<=t:=by rw[ht];exact Int.mul_nonneg (by omega) (by omega)
     have hC:=zbp Q a (-b) t ht bQ0 bQ2 (by omega) (by omega) (by omega) (by omega);have HC:=Zh hC;have hP':Z3 (x.take (k+1)) (y.take (k+1))=P:=by
      rw[HPS.out,htm];split<;>omega
     have hQ':Z4 (x.take (k+1)) (y.take (k+1))=Q+t:=by
      rw[HQS.out,htm];split<;>omega
     have HP':=Zh hP';have HQ':=Zh hQ';clear hC ht htm hP' hQ' HPS HQS;go_wp2_with (go_at_call 277;refine(HC.out _).mono ?_;rintro e w1 ⟨rfl,hs1⟩)
     have k1:=zh hs1.ext HQ.out;have k2:=zh hs1.ext HP.out;refine⟨⟨k+1,by omega,by go_num,?_,?_,?_⟩,by simp[intOf]<;>omega⟩
     ·rw[HP'.out];exact zbo k2 (show w.heap.size≠w.heap.size+1 by omega) _ _
     ·rw[HQ'.out];exact zbn k1
     ·exact((Ext.trans hxr hs1.ext).setCell (p:=⟨w.heap.size+1,0,none⟩) (Nat.le_succ _) _).setCell (p:=⟨w.heap.size+1,1,none⟩) (Nat.le_succ _) _
   ·by_cases hb0:0<=b
    ·skip
     have da:decide (0<=a)=false:=by simp;omega
     have da':decide (a<0)=true:=by simp;omega
     have db:decide (0<=b)=true:=by simp;omega
     have db':decide (b<0)=false:=by simp;omega
     obtain⟨t,ht⟩:=Xz ((-a)*b);have htm:a*b=-t:=by rw[ht,Int.neg_mul,Int.neg_neg]
     have ht0:0<=t:=by rw[ht];exact Int.mul_nonneg (by omega) (by omega)
     have hC:=zbp Q (-a) b t ht bQ0 bQ2 (by omega) (by omega) (by omega) (by omega);have HC:=Zh hC;have hP':Z3 (x.take (k+1)) (y.take (k+1))=P:=by
      rw[HPS.out,htm];split<;>omega
     have hQ':Z4 (x.take (k+1)) (y.take (k+1))=Q+t:=by
      rw[HQS.out,htm];split<;>omega
     have HP':=Zh hP';have HQ':=Zh hQ';clear hC ht htm hP' hQ' HPS HQS;go_wp2_with (go_at_call 277;refine(HC.out _).mono ?_;rintro e w1 ⟨rfl,hs1⟩)
     have k1:=zh hs1.ext HQ.out;have k2:=zh hs1.ext HP.out;refine⟨⟨k+1,by omega,by go_num,?_,?_,?_⟩,by simp[intOf]<;>omega⟩
     ·rw[HP'.out];exact zbo k2 (show w.heap.size≠w.heap.size+1 by omega) _ _
     ·rw[HQ'.out];exact zbn k1
     ·exact((Ext.trans hxr hs1.ext).setCell (p:=⟨w.heap.size+1,0,none⟩) (Nat.le_succ _) _).setCell (p:=⟨w.heap.size+1,1,none⟩) (Nat.le_succ _) _
    ·skip
     have da:decide (0<=a)=false:=by simp;omega
     have da':decide (a<0)=true:=by simp;omega
     have db:decide (0<=b)=false:=by simp;omega
     have db':decide (b<0)=true:=by simp;omega
     obtain⟨t,ht⟩:=Xz ((-a)*(-b));have htm:a*b=t:=by rw[ht,Int.neg_mul_neg]
     have ht0:0<=t:=by rw[ht];exact Int.mul_nonneg (by omega) (by omega)
     have hC:=zbp P (-a) (-b) t ht bP0 bP2 (by omega) (by omega) (by omega) (by omega);have HC:=Zh hC;have hP':Z3 (x.take (k+1)) (y.take (k+1))=P+t:=by rw[HPS.out,htm,if_pos (by omega)]
     have hQ':Z4 (x.take (k+1)) (y.take (k+1))=Q:=by rw[HQS.out,htm,if_pos (by omega)];omega
     have HP':=Zh hP';have HQ':=Zh hQ';clear hC ht htm hP' hQ' HPS HQS;go_wp2_with (go_at_call 277;refine(HC.out _).mono ?_;rintro e w1 ⟨rfl,hs1⟩)
     have k1:=zh hs1.ext HP.out;have k2:=zh hs1.ext HQ.out;refine⟨⟨k+1,by omega,by go_num,?_,?_,?_⟩,by simp[intOf]<;>omega⟩
     ·rw[HP'.out];exact zbn k1
     ·rw[HQ'.out];exact zbo k2 (show w.heap.size+1≠w.heap.size by omega) _ _
     ·exact((Ext.trans hxr hs1.ext).setCell (p:=⟨w.heap.size,0,none⟩) Zr _).setCell (p:=⟨w.heap.size,1,none⟩) Zr _
  ·obtain rfl:k=n:=by omega
   clear hlt;have zs8:zy x y=P-Q:=by
    rw[EP.out,EQ.out,<-zfc,List.take_of_length_le (by have:=HN.out;omega),List.take_of_length_le (by have:=HN.out;have:=HL.out;omega)]
   have HD:=Zh zs8;clear zs8;have hm1:=fun W=>zfb (w:=W) P Q bP0 (by omega) bQ0 (by omega)
   have hm2:=fun W=>zfb (w:=W) Q P bQ0 (by omega) bP0 (by omega)
   unfold Jp ze9 at hm1 hm2;have oP:Old w.heap.size wr:=⟨p5⟩;have oQ:Old (w.heap.size+1) wr:=⟨q5⟩
   cases hn1:jh (P-Q)
   ·rw[hn1]at hm1;have h1':¬(0<=P-Q/\P-Q<=4611686018427387904):=of_decide_eq_false hn1
    cases hn2:jh (Q-P)
    ·rw[hn2]at hm2;have h2':¬(0<=Q-P/\Q-P<=4611686018427387904):=of_decide_eq_false hn2;have HB:Hid (Qz (P-Q)=false):=Zh (decide_eq_false (by omega));have HM1:=Zh hm1;have HM2:=Zh hm2;clear hm1 hm2 h1' h2' hn1 hn2;go_wp2_with (first|(go_at_call 278;refine(HM1.out _).mono ?_;clear HM1;rintro e w1 ⟨rfl,hs1⟩)|(go_at_call 278;refine(HM2.out _).mono ?_;rintro e w2 ⟨rfl,hs2⟩))
     go_ret2
     exact⟨by rw[HD.out,HB.out];rfl,Step.of _ _⟩
    ·rw[hn2]at hm2;have h2':0<=Q-P/\Q-P<=4611686018427387904:=of_decide_eq_true hn2;have HB:Hid (Qz (P-Q)=true):=Zh (decide_eq_true (by omega));obtain⟨z,hz⟩:=Xz (Q-P);rw[<-hz]at hm2 h2';have HZ:=Zh hz;have HM1:=Zh hm1;have HM2:=Zh hm2;obtain⟨z1,z2⟩:=h2';clear hm1 hm2 h1' hn1 hn2 hz;go_wp2_with (first|(go_at_call 278;refine(HM1.out _).mono ?_;clear HM1;rintro e w1 ⟨rfl,hs1⟩)|(go_at_call 278;refine(HM2.out _).mono ?_;rintro e w2 ⟨rfl,hs2⟩))
     go_ret2
     refine⟨?_,Step.of _ _⟩;rw[HD.out,HB.out,if_pos rfl,show P-Q=-z by have:=HZ.out;omega];rfl
   ·rw[hn1]at hm1;have h1':0<=P-Q/\P-Q<=4611686018427387904:=of_decide_eq_true hn1;have HB:Hid (Qz (P-Q)=true):=Zh (decide_eq_true (by omega));obtain⟨z,hz⟩:=Xz (P-Q);rw[<-hz]at hm1 h1';have HZ:=Zh hz;have HM1:=Zh hm1;obtain⟨z1,z2⟩:=h1';clear hm1 hm2 hn1 hz;go_wp2_with (go_at_call 278;refine(HM1.out _).mono ?_;clear HM1;rintro e w1 ⟨rfl,hs1⟩)
    go_ret2
    refine⟨?_,Step.of _ _⟩;rw[HD.out,HB.out,if_pos rfl,<-HZ.out];rfl
section
variable {w w':World} {ze:Nat} {e:TypeId} {A:Option Addr} {n c:Nat} {xs:List Value}
theorem Own.open_(h:Own w ze e 1 A n c xs)(hn:0<n):∃g,A=some ⟨g,0,none⟩/\ze<=g/\g<w.heap.size/\(∀i u,xs[i]? =some u->w.cell? ⟨g,i,none⟩=some u/\w.frozen? ⟨g,i,none⟩=false)/\∀i u,i<n->Own (w.setCell ⟨g,i,none⟩ u) ze e 1 (some ⟨g,0,none⟩) n c (xs.set i u):=by
 obtain⟨hl,h2⟩:=h;rcases h2 with ⟨_,h0⟩|⟨g,cap,cur,hv,hb,hh,h3,h4,h5,h6⟩
 ·omega
 ·injection hv with hA hnn hc
  subst hA hc;refine⟨g,rfl,hb,zw hh,fun i u hu=>?_,fun i u hi=>⟨by simpa using hl,.inr ⟨g,c,cur.setIfInBounds i u,rfl,hb,zY hh u,h3,h4,by simpa using h5,?_⟩⟩⟩
  ·rw[<-h6,List.getElem?_take]at hu;split at hu
   ·exact⟨by simp[World.cell?,hh];simpa using hu,by simp[World.frozen?,hh]⟩
   ·cases hu
  ·rw[Array.toList_setIfInBounds,<-h6,List.take_set]
end
def zj2(w:World)(e:TypeId)(k:IntKind)(l:List Int)(ev:Ending)(w':World):Prop:=∃B d,ev= .returned (.slice B l.length d)/\Own w' w.heap.size e 1 B l.length d (l.map (Value.int k))/\Step w w'
theorem zaE(h:Ints w0 A 2 .i64 l)(hl:l.length<=1099511627776)[hx:Ext w0 w]:
  Cq 281 #[.slice A l.length c] w (zj2 w 2 .i64 l):=by
 have hq:=zcf (P:=Tryz.prog) Tryz.underlying31;have h1:=h.ext hx
 cases A with
 |none=>
  have h0:l=[]:=by
   rcases Nat.eq_zero_or_pos l.length with h0|h0
   ·exact List.eq_nil_of_length_eq_zero h0
   ·obtain⟨b,o,cs,fr,hh,_⟩:=h1 (by simpa using h0)
    cases hh
  subst h0;go_enter Tryz.func281,Tryz.ntmps281;go_wp2;go_ret;exact⟨none,0,rfl,Own.nil _ _ _ _,Step.of _ _⟩
 |some ad=>
  go_enter Tryz.func281,Tryz.ntmps281;go_wp2_with (at_builtin;refine Zd _ rfl _ _ 31 rfl w.heap.size 2 (.int .i64 0) 1 8 Tryz.underlying31 qF rfl (by omega) (by omega) _ 0 _ [] rfl (Own.empty w _) _ l.length c (l.map (Value.int .i64)) rfl (Arr.ext h1 Zi) (by simp) zas (by omega) (by simp) ?_;intro A1 c1 w1 zqd hg)
  go_ret;have hxx:Ext w w1:=hg.ext Zi Zr;exact⟨A1,c1,by simp,by simpa using zqd,hxx.toStep⟩
def zZ:List Int->Int
 |[]=>0
 |a::l=>if a=0 then zZ l else a
def zW(x:List Int):List Int:=if zZ x<0 then x.map (fun c=>-c) else x
def ji(x:List Int):Bool:=Qj x&&!decide (zZ x=0)
theorem zfk:∀(l:List Int)(i:Nat),(zZ l=0/\Lib.idxByFrom (fun(_:Int)y=>y !=0) default l i=-1)∨(zZ l≠0/\∃k,l[k]? =some (zZ l)/\k<l.length/\Lib.idxByFrom (fun(_:Int)y=>y !=0) default l i=((i+k:Nat):Int))
 |[],i=> .inl ⟨rfl,rfl⟩
 |a::l,i=>by
  by_cases ha:a=0
  ·have e1:zZ (a::l)=zZ l:=by simp[zZ,ha]
   have e2:Lib.idxByFrom (fun(_:Int)y=>y !=0) default (a::l) i=Lib.idxByFrom (fun(_:Int)y=>y !=0) default l (i+1):=by simp[Lib.idxByFrom,ha]
   rw[e1,e2];rcases zfk l (i+1) with h|⟨h1,k,h2,h3,h4⟩
   ·exact .inl h
   ·exact .inr ⟨h1,k+1,by simpa using h2,by simp;omega,by rw[h4];omega⟩
  ·refine .inr ⟨by simp[zZ,ha],0,by simp[zZ,ha],by simp,by simp[Lib.idxByFrom,ha]⟩
theorem zj3:∀w,PredAt Tryz.prog 280 #[] (Value.int .i64) (fun x:Int=>x !=0) w:=fun w W x _=>by
 unfold FnGives;go_enter Tryz.func280,Tryz.ntmps280;go_wp2;go_ret;exact⟨rfl,0,rfl⟩
theorem zfl(h:Ints w0 A 2 .i64 l)(hl:l.length<=1099511627776)[hx:Ext w0 w]:
  Cq 279 #[.slice A l.length c,.func (.func 280) #[] #[]] w fun e w'=>(∃i:Int,e= .returned (.int .i64 i)/\((zZ l=0/\i=-1)∨(zZ l≠0/\∃k:Nat,l[k]? =some (zZ l)/\k<l.length/\i=k)))/\∃q,w'=w.drewN q:=by
 have h0:=h.ext hx;rcases Nat.eq_zero_or_pos l.length with hz|hz
 ·have hl0:=List.eq_nil_of_length_eq_zero hz;subst hl0;exact(Tryz.slices_IndexFunc_empty (α:=Int) A c _ w).mono fun e w'⟨he,hw⟩=>⟨⟨-1,he,.inl ⟨rfl,rfl⟩⟩,0,hw⟩
 ·obtain⟨b,o,-,rfl,-⟩:=h0.at_ hz;refine(Tryz.slices_IndexFunc (α:=Int) (Value.int .i64) (fun x=>x !=0) 280 #[] (enters_of Tryz.func280 (by kernel_rfl) rfl) b o l.length c l w (zj3 w) Zr (by omega) (fun j hj=>?_)).mono ?_
  ·have:=(jR h0 (i:=j) (x:=l[j]) (by simp[hj])).1;rw[this];simp[hj]
  ·rintro e w' ⟨he,hw⟩;refine⟨⟨_,he,?_⟩,hw⟩;rw[List.take_length];rcases zfk l 0 with ⟨h1,h2⟩|⟨h1,k,h2,h3,h4⟩
   ·exact .inl ⟨h1,h2⟩
   ·exact .inr ⟨h1,k,h2,h3,by unfold Lib.idxBy;rw[h4];simp⟩
def Ql(x:List Int)(j:Nat):List Int:=(x.take j).map (fun c=>-c)++x.drop j
theorem zj4(x:List Int)(j:Nat)(y:Int)(h:x[j]? =some y):(Ql x j)[j]? =some y:=by
 have hj:=(Zg.1 h).1;rw[Ql,List.getElem?_append_right (by simp;omega)];simp only[List.length_map,List.length_take,Nat.min_eq_left (Nat.le_of_lt hj),Nat.sub_self,List.getElem?_drop,Nat.add_zero];exact h
theorem zj5(x:List Int)(j:Nat)(y:Int)(h:x[j]? =some y):(Ql x j).set j (-y)=Ql x (j+1):=by
 have hj:=(Zg.1 h).1;have hy:=(Zg.1 h).2;rw[Ql,Ql,List.set_append_right _ _ (by simp;omega),List.drop_eq_getElem_cons hj,hy,List.take_add_one,h];simp[Nat.min_eq_left (Nat.le_of_lt hj)]
theorem zj6(x:List Int)(j:Nat)(h:x.length<=j):Ql x j=x.map (fun c=>-c):=by
 rw[Ql,List.take_of_length_le h,List.drop_eq_nil_of_le h];simp
def zj7(w:World)(x:List Int)(e:Ending)(w':World):Prop:=
 ((ji x=true/\∃B d,e= .returned (.tuple #[.slice B x.length d,.bool true])/\Ints w' B 2 .i64 (zW x)/\x.length<=d/\d<=9223372036854775807)∨(ji x=false/\e= .returned (.tuple #[.slice none 0 0,.bool false])))/\Step w w'
theorem zj8(h:Ints w0 X 2 .i64 x)(hl:x.length<=1099511627776)[hx:Ext w0 w]:
  Cq 228 #[.slice X x.length c] w (zj7 w x):=by
 have h0:=h.ext hx
 cases hr:Qj x
 ·have HF:Hid (ji x=false):=Zh (by simp[ji,hr]);have hir:=fun W(hxx:Ext w0 W)=>zbf (w:=W) (c:=c) h hl
  rw[hr]at hir;have HI:=Zh hir;clear hir hr;go_enter Tryz.func228,Tryz.ntmps228;go_wp2_with (go_at_call 276;refine(HI.out _ Zi).mono ?_;rintro e w' ⟨rfl,rfl⟩)
  go_ret2
  exact⟨.inr ⟨HF.out,rfl⟩,Step.of _ _⟩
 have hir:=fun W(hxx:Ext w0 W)=>zbf (w:=W) (c:=c) h hl
 rw[hr]at hir;have HI:=Zh hir;have HX:=Zh (zaz.1 hr);clear hir;by_cases hz:zZ x=0
 ·have HF:Hid (ji x=false):=Zh (by simp[ji,hz]);have hix:=fun W(hxx:Ext w0 W)=>(zfl (w:=W) (c:=c) h hl).mono (R':=fun e w'=>e= .returned (.int .i64 (-1))/\∃q,w'=W.drewN q) (fun e w'⟨⟨i,he,hi⟩,hq⟩=>⟨by rcases hi with ⟨_,rfl⟩|⟨hh,_⟩;exact he;exact absurd hz hh,hq⟩)
  have HX2:=Zh hix;clear hix hr hz;go_enter Tryz.func228,Tryz.ntmps228;go_wp2_with (first
   |(go_at_call 276;refine(HI.out _ Zi).mono ?_;rintro e w' ⟨rfl,rfl⟩)
   |(go_at_call 279;refine(HX2.out _ Zi).mono ?_;rintro e w' ⟨rfl,q,rfl⟩))
  go_ret2
  exact⟨.inr ⟨HF.out,rfl⟩,Step.of _ _⟩
 have HC:Hid (ji x=true):=Zh (by simp[ji,hr,hz]);have hix:=fun W(hxx:Ext w0 W)=>(zfl (w:=W) (c:=c) h hl).mono (R':=fun e w'=>(∃k:Nat,x[k]? =some (zZ x)/\k<x.length/\e= .returned (.int .i64 k))/\∃q,w'=W.drewN q) (fun e w'⟨⟨i,he,hi⟩,hq⟩=>⟨by
  rcases hi with ⟨hh,_⟩|⟨_,k,h1,h2,h3⟩
  ·exact absurd hh hz
  ·exact⟨k,h1,h2,by rw[he,h3]⟩,hq⟩)
 have HX2:=Zh hix;have hcl:=fun W(hxx:Ext w0 W)=>zaE (w:=W) (c:=c) h hl
 have HCL:=Zh hcl;clear hix hcl hr;obtain⟨f,hf⟩:=Xz (zZ x);rw[<-hf]at HX2 hz;have HFF:=Zh hf;clear hf;go_enter Tryz.func228,Tryz.ntmps228;by_cases zqh:f<0
 ·have hL:Hid (zW x=x.map (fun c=>-c)):=Zh (by unfold zW;rw[<-HFF.out,if_pos zqh]);have hfd:decide (f<0)=true:=by simpa using zqh
  go_wp2_with (first
   |(go_at_call 276;refine(HI.out _ Zi).mono ?_;rintro e w' ⟨rfl,rfl⟩)
   |(go_at_call 279;refine(HX2.out _ Zi).mono ?_;rintro e w' ⟨⟨k,hk1,hk2,rfl⟩,q,rfl⟩;(have HK:=Zh hk1);clear hk1)
   |(go_at_call 281;refine(HCL.out _ Zi).mono ?_;rintro e w1 ⟨B,d,rfl,zqd,hs1⟩;obtain⟨b1,o1,y1,rfl,hy1,hc1,hb1⟩:=(h0.ext (Zi:Ext w w1)).at_ (i:=k) hk2;(obtain rfl:y1=f:=by rw[HK.out]at hy1;injection hy1 with hy1;exact hy1.symm);clear hy1))
  have zs9:Own w1 w.heap.size 2 1 B x.length d ((Ql x 0).map (Value.int .i64)):=by simpa[Ql] using zqd
  obtain⟨g,rfl,-,-,-,-⟩:=zqd.open_ (by omega);have hx1:Ext w w1:=Zi;clear zqd hc1 hk2 hb1 HK;go_loopw [6,7,24] (fun _ _ i wr=>∃j:Nat,j<=x.length/\i= .int .i64 j/\Own wr w.heap.size 2 1 (some ⟨g,0,none⟩) x.length d ((Ql x j).map (Value.int .i64))/\Ext w wr) (fun _ _ i _=>x.length-(intOf i).toNat)
  case atStart=>exact⟨0,by omega,rfl,zs9,hx1⟩
  case round=>
   obtain⟨j,hj,rfl,zqd,hxr⟩:=hrel;clear zs9 hx1;by_cases hlt:j<x.length
   ·obtain⟨y,hy⟩:∃y,x[j]? =some y:=⟨_,Ze hlt⟩;obtain⟨g1,g2⟩:=jR (h0.ext hxr) hy;obtain⟨g',hg,hb,hsz,zqM,zrI⟩:=zqd.open_ (by omega);injection hg with hg
    injection hg with hg _
    subst hg;obtain⟨c1,c2⟩:=zqM j (.int .i64 y) (by rw[List.getElem?_map,zj4 x j y hy];rfl);have hst:=zrI j (.int .i64 (-y)) (by omega);rw[show ((Ql x j).map (Value.int .i64)).set j (.int .i64 (-y))=(Ql x (j+1)).map (Value.int .i64) by rw[<-zj5 x j y hy,List.map_set]]at hst;have hyb:=HX.out y (Zm hy);obtain⟨zuo,zup⟩:=hyb;have HST:=Zh hst;clear hst zrI zqM hy;go_wp2;refine⟨⟨j+1,by omega,by go_num,HST.out,hxr.setCell (p:=⟨g,j,none⟩) hb _⟩,by simp[intOf]<;>omega⟩
   ·obtain rfl:j=x.length:=by omega
    clear hlt;go_wp2;go_ret2
    have zqn:=zqd.cap;refine⟨.inl ⟨HC.out,_,_,rfl,?_,zqn.1,zqn.2⟩,Step.of _ _⟩;rw[hL.out,<-zj6 x x.length Zr];exact zqd.arr
 ·have hL:Hid (zW x=x):=Zh (by unfold zW;rw[<-HFF.out,if_neg zqh]);have hfd:decide (f<0)=false:=by simpa using zqh
  go_wp2_with (first
   |(go_at_call 276;refine(HI.out _ Zi).mono ?_;rintro e w' ⟨rfl,rfl⟩)
   |(go_at_call 279;refine(HX2.out _ Zi).mono ?_;rintro e w' ⟨⟨k,hk1,hk2,rfl⟩,q,rfl⟩;(have HK:=Zh hk1);clear hk1)
   |(go_at_call 281;refine(HCL.out _ Zi).mono ?_;rintro e w1 ⟨B,d,rfl,zqd,hs1⟩;obtain⟨b1,o1,y1,rfl,hy1,hc1,hb1⟩:=(h0.ext (Zi:Ext w w1)).at_ (i:=k) hk2;(obtain rfl:y1=f:=by rw[HK.out]at hy1;injection hy1 with hy1;exact hy1.symm);clear hy1))
  go_ret2
  have zqn:=zqd.cap;exact⟨.inl ⟨HC.out,_,_,rfl,by rw[hL.out];exact zqd.arr,zqn.1,zqn.2⟩,Step.of _ _⟩
theorem zbq(a b:Int):Cq 238 #[.int .i64 a,.int .i64 b] w (Zj w (.int .i64 (zk a b))):=by
 by_cases h1:a<b
 ·have HC:=Zh (qj h1);have d1:decide (a<b)=true:=by simpa using h1
  clear h1;go_enter Tryz.func238,Tryz.ntmps238;go_wp2;go_ret;exact⟨by rw[HC.out];rfl,rfl⟩
 ·have d1:decide (a<b)=false:=by simpa using h1
  by_cases h2:b<a
  ·have HC:=Zh (qC h2);have d2:decide (b<a)=true:=by simpa using h2
   clear h1 h2;go_enter Tryz.func238,Tryz.ntmps238;go_wp2;go_ret;exact⟨by rw[HC.out];rfl,rfl⟩
  ·have HC:=Zh (Qb (show a=b by omega));have d2:decide (b<a)=false:=by simpa using h2
   clear h1 h2;go_enter Tryz.func238,Tryz.ntmps238;go_wp2;go_ret;exact⟨by rw[HC.out];rfl,rfl⟩
def zB:List Int->List Int->Int
 |[],[]=>0
 |[],_::_=>-1
 |_::_,[]=>1
 |a::l,b::m=>if zk a b=0 then zB l m else zk a b
theorem zj9(hX:Ints w0 X 2 .i64 x)(hY:Ints w0 Y 2 .i64 y)(hx1:x.length<=1099511627776)(hy1:y.length<=1099511627776)[hx:Ext w0 w]:
  Cq 259 #[.slice X x.length c,.slice Y y.length d] w (Zj w (.int .i64 (zB x y))):=by
 have hX0:=hX.ext hx;have hY0:=hY.ext hx;go_enter Tryz.func259,Tryz.ntmps259;go_wp2;go_loop [5,6,7,8,11] (fun _ _ _ _ i=>∃k:Nat,k<=x.length/\k<=y.length/\i= .int .i64 k/\Hid (zB x y=zB (x.drop k) (y.drop k))) (fun _ _ _ _ i=>x.length-(intOf i).toNat)
 case atStart=>exact⟨0,by omega,by omega,rfl,Zh rfl⟩
 case round=>
  obtain⟨k,hk1,hk2,rfl,HE⟩:=hrel;by_cases hlt:k<x.length
  ·obtain⟨b1,o1,a,rfl,ha,g1,g2⟩:=hX0.at_ hlt;by_cases zr5:k<y.length
   ·obtain⟨b2,o2,b,rfl,hb,g3,g4⟩:=hY0.at_ zr5;have ea:x.drop k=a::x.drop (k+1):=by rw[List.drop_eq_getElem_cons hlt,(Zg.1 ha).2]
    have eb:y.drop k=b::y.drop (k+1):=by rw[List.drop_eq_getElem_cons zr5,(Zg.1 hb).2]
    have HE2:Hid (zB x y=if zk a b=0 then zB (x.drop (k+1)) (y.drop (k+1)) else zk a b):=Zh (by rw[HE.out,ea,eb,zB]);have hd:decide ((y.length:Int)<=(k:Int))=false:=by simp;omega
    obtain⟨z,hz⟩:=Xz (zk a b);have hc:=fun W=>zbq (w:=W) a b
    rw[<-hz]at HE2 hc;have HC:=Zh hc;clear ha hb ea eb hz hc HE;by_cases hz0:z=0
    ·have hzb:(z !=0)=false:=by simp[hz0]
     have HE3:Hid (zB x y=zB (x.drop (k+1)) (y.drop (k+1))):=Zh (by rw[HE2.out,if_pos hz0]);clear hz0 HE2;go_wp2_with (go_at_call 238;refine(HC.out _).mono ?_;rintro e w' ⟨rfl,rfl⟩)
     refine⟨⟨k+1,by omega,by omega,by go_num,HE3⟩,by simp[intOf]<;>omega⟩
    ·have hzb:(z !=0)=true:=by simp[hz0]
     have HE3:Hid (zB x y=z):=Zh (by rw[HE2.out,if_neg hz0]);clear hz0 HE2;go_wp2_with (go_at_call 238;refine(HC.out _).mono ?_;rintro e w' ⟨rfl,rfl⟩)
     go_ret;exact⟨by rw[HE3.out];rfl,rfl⟩
   ·have ea:x.drop k=a::x.drop (k+1):=by rw[List.drop_eq_getElem_cons hlt,(Zg.1 ha).2]
    have ey:y.drop k=[]:=List.drop_eq_nil_of_le (by omega);have HE2:Hid (zB x y=1):=Zh (by rw[HE.out,ea,ey];rfl);have hd:decide ((y.length:Int)<=(k:Int))=true:=by simp;omega
    clear ha ea ey HE;go_wp2;go_ret;exact⟨by rw[HE2.out];rfl,rfl⟩
  ·have hkx:k=x.length:=by omega
   by_cases zr5:x.length<y.length
   ·have HE2:Hid (zB x y=-1):=Zh (by
     rw[HE.out,List.drop_eq_nil_of_le (by omega),List.drop_eq_getElem_cons (by omega:k<y.length)];rfl)
    clear HE hkx;go_wp2;go_ret;exact⟨by rw[HE2.out];rfl,rfl⟩
   ·have HE2:Hid (zB x y=0):=Zh (by
     rw[HE.out,List.drop_eq_nil_of_le (by omega),List.drop_eq_nil_of_le (by omega)];rfl)
    clear HE hkx;go_wp2;go_ret;exact⟨by rw[HE2.out];rfl,rfl⟩
theorem zka(hX:Ints w0 X 2 .i64 x)(hY:Ints w0 Y 2 .i64 y)(hx1:x.length<=1099511627776)(hy1:y.length<=1099511627776)[hx:Ext w0 w]:
  Cq 184 #[.slice X x.length c,.slice Y y.length d] w (Zj w (.int .i64 (zB x y))):=by
 go_enter Tryz.func184,Tryz.ntmps184;go_wp2_with (go_at_call 259;refine(zj9 hX hY hx1 hy1).mono ?_;rintro e w' ⟨rfl,rfl⟩)
 go_ret;exact⟨rfl,rfl⟩
def ZD(a b:Int):Int:=if a=0 then b else a
theorem zkb{b:Int}(h1:w.cell? ⟨g,0,none⟩=some (.int .i64 a))(h2:w.cell? ⟨g,1,none⟩=some (.int .i64 b)):
  Cq 237 #[.slice (some ⟨g,0,none⟩) 2 2] w (Zj w (.int .i64 (ZD a b))):=by
 go_enter Tryz.func237,Tryz.ntmps237;go_wp2;go_loop [5,8] (fun _ i=>(i= .int .i64 0)∨(i= .int .i64 1/\a=0)∨(i= .int .i64 2/\a=0/\b=0)) (fun _ i=>2-(intOf i).toNat)
 case atStart=>exact .inl rfl
 case round=>
  rcases hrel with rfl|⟨rfl,ha⟩|⟨rfl,ha,hb⟩
  ·by_cases h0:a=0
   ·have hb0:(a !=0)=false:=by simp[h0]
    have H0:=Zh h0;clear h0;go_wp2;exact⟨.inr (.inl ⟨rfl,H0.out⟩),by decide⟩
   ·have hb0:(a !=0)=true:=by simp[h0]
    have HV:Hid (ZD a b=a):=Zh (if_neg h0);clear h0;go_wp2;go_ret;exact⟨by rw[HV.out];rfl,rfl⟩
  ·have HA:=Zh ha;by_cases h0:b=0
   ·have hb0:(b !=0)=false:=by simp[h0]
    have H0:=Zh h0;clear h0 ha;go_wp2;exact⟨.inr (.inr ⟨rfl,HA.out,H0.out⟩),by decide⟩
   ·have hb0:(b !=0)=true:=by simp[h0]
    have HV:Hid (ZD a b=b):=Zh (if_pos ha);clear h0 ha;go_wp2;go_ret;exact⟨by rw[HV.out];rfl,rfl⟩
  ·have HV:Hid (ZD a b=0):=Zh (by unfold ZD;rw[if_pos ha,hb]);clear ha hb;go_wp2;go_ret;exact⟨by rw[HV.out];rfl,rfl⟩
def qo(a b:Int)(x y:List Int):Int:=ZD (zk a b) (zB x y)
theorem zfm{b:Int}(hX:Ints w X 2 .i64 x)(hY:Ints w Y 2 .i64 y)(hx1:x.length<=1099511627776)(hy1:y.length<=1099511627776):
  Cq 224 #[.agg #[.int .i64 a,.slice X x.length c],.agg #[.int .i64 b,.slice Y y.length d]] w fun e w'=>e= .returned (.int .i64 (qo a b x y))/\∃q os,w'=Sort.grow (w.drewN q) os:=by
 obtain⟨k1,hk1⟩:=Xz (zk a b);obtain⟨k2,hk2⟩:=Xz (zB x y);have hc1:=fun W=>zbq (w:=W) a b
 have hc2:=fun W(hh:Ext w W)=>zka (w:=W) (c:=c) (d:=d) hX hY hx1 hy1
 rw[<-hk1]at hc1;rw[<-hk2]at hc2;have HK:Hid (qo a b x y=ZD k1 k2):=Zh (by rw[hk1,hk2];rfl);have H1:=Zh hc1;have H2:=Zh hc2;clear hc1 hc2 hk1 hk2;go_enter Tryz.func224,Tryz.ntmps224;go_wp2_with fail
 go_region_held3 (fun w'=>w'.cell? ⟨w.heap.size,0,none⟩=some (.int .i64 a)/\w'.cell? ⟨w.heap.size,1,none⟩=some (.slice X x.length c)/\w'.cell? ⟨w.heap.size+1,0,none⟩=some (.int .i64 b)/\w'.cell? ⟨w.heap.size+1,1,none⟩=some (.slice Y y.length d)) (exact qc w _ _ _ _ _ 279 279)
  (first
   |(go_at_call 238;refine(H1.out _).mono ?_;rintro e w' ⟨rfl,rfl⟩)
   |(go_at_call 184;refine(H2.out _ Zi).mono ?_;rintro e w' ⟨rfl,rfl⟩)
   |(go_at_call 237;refine(zkb (a:=k1) (b:=k2) (by simp[go_sem]) (by simp[go_sem])).mono ?_;rintro e w' ⟨rfl,rfl⟩))
 go_wp2;go_ret;refine⟨by rw[HK.out];rfl,1,#[.cells #[.int .i64 a,.slice X x.length c] 279,.cells #[.int .i64 b,.slice Y y.length d] 279,.cells #[.int .i64 k1,.int .i64 k2] 3],?_⟩;rw[Sort.alloc_eq_grow,Sort.alloc_eq_grow,Sort.alloc_eq_grow,Sort.grow_grow,Sort.grow_grow];rfl
theorem jT(a b:Int):(a<b/\zk a b=-1)∨(a=b/\zk a b=0)∨(b<a/\zk a b=1):=by
 rcases Int.lt_trichotomy a b with h|h|h
 ·exact .inl ⟨h,qj h⟩
 ·exact .inr (.inl ⟨h,Qb h⟩)
 ·exact .inr (.inr ⟨h,qC h⟩)
theorem zfn:∀x,zB x x=0
 |[]=>rfl
 |a::l=>by simp[zB,Qb,zfn l]
theorem zbr:∀x y,zB x y=0->x=y
 |[],[],_=>rfl
 |[],_::_,h=>by simp[zB]at h
 |_::_,[],h=>by simp[zB]at h
 |a::l,b::m,h=>by
  rcases jT a b with ⟨h1,h2⟩|⟨h1,h2⟩|⟨h1,h2⟩<;>simp[zB,h2]at h
  rw[h1,zbr l m h]
theorem Jq:∀x y,zB y x=-zB x y
 |[],[]=>rfl
 |[],_::_=>rfl
 |_::_,[]=>rfl
 |a::l,b::m=>by
  rcases jT a b with ⟨h1,h2⟩|⟨h1,h2⟩|⟨h1,h2⟩
  ·have:=qC h1;simp[zB,h2,this]
  ·have:=Qb h1.symm;simp[zB,h2,this,Jq l m]
  ·have:=qj h1;simp[zB,h2,this]
theorem zcE:∀x y z,zB x y<0->zB y z<0->zB x z<0
 |[],[],_,h,_=>by simp[zB]at h
 |[],_::_,[],_,h=>by simp[zB]at h
 |[],_::_,_::_,_,_=>by simp[zB]
 |_::_,[],_,h,_=>by simp[zB]at h
 |_::_,_::_,[],_,h=>by simp[zB]at h
 |a::l,b::m,c::n,h,h'=>by
  rcases jT a b with ⟨h1,h2⟩|⟨h1,h2⟩|⟨h1,h2⟩<;>rcases jT b c with ⟨k1,k2⟩|⟨k1,k2⟩|⟨k1,k2⟩<;>simp[zB,h2]at h<;>simp[zB,k2]at h'
  ·have:=qj (show a<c by omega);simp[zB,this]
  ·have:=qj (show a<c by omega);simp[zB,this]
  ·have:=qj (show a<c by omega);simp[zB,this]
  ·have:=Qb (show a=c by omega);simp[zB,this];exact zcE l m n h h'
theorem zfo(a b:Int)(x y:List Int):qo a b x y=zB (a::x) (b::y):=rfl
theorem zcF:∀x y,zB x y=-1∨zB x y=0∨zB x y=1
 |[],[]=> .inr (.inl rfl)
 |[],_::_=> .inl rfl
 |_::_,[]=> .inr (.inr rfl)
 |a::l,b::m=>by
  rcases jT a b with ⟨h1,h2⟩|⟨h1,h2⟩|⟨h1,h2⟩
  ·exact .inl (by simp[zB,h2])
  ·have:=zcF l m;simpa[zB,h2] using this
  ·exact .inr (.inr (by simp[zB,h2]))
structure KE where
 key:Int
 A:Option Addr
 c:Nat
 l:List Int
def KE.cmp(x y:KE):Int:=qo x.key y.key x.l y.l
def KE.enc(x:KE):List Value:=[.int .i64 x.key,.slice x.A x.l.length x.c]
def KE.ok(w:World)(x:KE):Prop:=Ints w x.A 2 .i64 x.l/\x.l.length<=1099511627776
def KRow(w:World)(g:Nat)(els:List KE):Prop:=∃cur,w.heap[g]? =some (.cells cur 279 (0,0))/\∀(i:Nat)(x:KE),els[i]? =some x->cur[2*i]? =some (.int .i64 x.key)/\cur[2*i+1]? =some (.slice x.A x.l.length x.c)
structure KEw(w:World)where
 val:KE
 ok:val.ok w
instance (w:World):Inhabited (KEw w):=⟨⟨⟨0,none,0,[]⟩,Ints.nil,by simp⟩⟩
def jj(w:World)(x:KEw w):List Value:=x.val.enc
def cfW(w:World)(x y:KEw w):Int:=x.val.cmp y.val
theorem zkc(w:World):Sort.SWO (ltOf (cfW w)) where
 irrefl x:=by simp[ltOf,cfW,KE.cmp,zfo,zfn]
 trans x y z h1 h2:=by
  have h1:zB (x.1.key::x.1.l) (y.1.key::y.1.l)<0:=of_decide_eq_true h1;have h2:zB (y.1.key::y.1.l) (z.1.key::z.1.l)<0:=of_decide_eq_true h2;exact decide_eq_true (zcE _ _ _ h1 h2)
 ntrans x y z h1 h2:=by
  have h1:¬zB (x.1.key::x.1.l) (y.1.key::y.1.l)<0:=of_decide_eq_false h1;have h2:¬zB (y.1.key::y.1.l) (z.1.key::z.1.l)<0:=of_decide_eq_false h2;refine decide_eq_false (fun(h3:zB (x.1.key::x.1.l) (z.1.key::z.1.l)<0)=>?_);have e1:=Jq (x.1.key::x.1.l) (z.1.key::z.1.l);have e2:=Jq (x.1.key::x.1.l) (y.1.key::y.1.l);have e3:=Jq (y.1.key::y.1.l) (z.1.key::z.1.l);-- y <= x, z <= y, x < z
  rcases zcF (x.1.key::x.1.l) (y.1.key::y.1.l) with h|h|h
  ·omega
  ·have:=zbr _ _ h;rw[this]at h3;omega
  ·rcases zcF (y.1.key::y.1.l) (z.1.key::z.1.l) with k|k|k
   ·omega
   ·have:=zbr _ _ k;rw[<-this]at h3;omega
   ·have:=zcE _ _ _ (show zB (z.1.key::z.1.l) (y.1.key::y.1.l)<0 by omega) (show zB (y.1.key::y.1.l) (x.1.key::x.1.l)<0 by omega);omega
theorem zaF{α:Type}[Inhabited α](enc:α->List Value)(k:Nat)(w:World)(g m:Nat)(d:Array α)(os:Array Obj)(hb:b<w.heap.size)(hne:b≠g):(sortWorldK enc k w g 0 m d os).heap[b]? =w.heap[b]? :=by
 have h1:(sortWorldK enc k w g 0 m d os).heap[b]? =(w.heap.modify g (Sort.onCells (Sort.putCells id 0 (Sort.flatK enc k d))))[b]? :=by
  show ((w.heap.modify g _)++os)[b]? =_;rw[Array.getElem?_append_left (by simpa using hb)]
 rw[h1,Array.getElem?_modify,if_neg (fun h=>hne h.symm)]
theorem zfp{α:Type}[Inhabited α](enc:α->List Value)(k:Nat)(w:World)(g m:Nat)(d:Array α)(os:Array Obj){T:TypeId}(hg:w.heap[g]? =some (.cells cur T (0,0))):(sortWorldK enc k w g 0 m d os).heap[g]? =some (.cells (Sort.putCells id 0 (Sort.flatK enc k d) cur) T (0,0)):=by
 have h1:(sortWorldK enc k w g 0 m d os).heap[g]? =(w.heap.modify g (Sort.onCells (Sort.putCells id 0 (Sort.flatK enc k d))))[g]? :=by
  show ((w.heap.modify g _)++os)[g]? =_;rw[Array.getElem?_append_left (by simpa using zw hg)]
 rw[h1,Array.getElem?_modify,if_pos rfl,hg];rfl
theorem zfq{α:Type}[Inhabited α](enc:α->List Value)(k:Nat)(w:World)(g m:Nat)(d:Array α)(os:Array Obj){B:Nat}(hB:B<=g)(hg:g<w.heap.size):Below B w (sortWorldK enc k w g 0 m d os):=
 ⟨rfl,rfl,rfl,by show w.heap.size<=((w.heap.modify g _)++os).size;simp,fun b hb=>zaF enc k w g m d os (by omega) (by omega)⟩
theorem KE.ok_sort{α:Type}[Inhabited α](enc:α->List Value)(k:Nat){m:Nat}{d:Array α}{os:Array Obj}(hg:w.heap[g]? =some (.cells cur 279 (0,0))){x:KE}(h:x.ok w):x.ok (sortWorldK enc k w g 0 m d os):=by
 refine⟨h.1.keep fun b cs fr hb=>zaF enc k w g m d os (zw hb) (fun hh=>?_),h.2⟩;subst hh;rw[hg]at hb;injection hb with hb
 injection hb with _ he
 exact absurd he (by decide)
def Same(g:Nat)(w w':World):Prop:=(∀b,b<w.heap.size->b≠g->w'.heap[b]? =w.heap[b]?)/\(∀B,B<=g->Below B w w')
theorem zkd{els:List KE}(zqe:KRow w g els)(hok:∀x∈els,x.ok w)(hn:els.length<4611686018427387904):
  Cq 282 #[.slice (some ⟨g,0,none⟩) els.length cap,.func (.func 224) #[] #[]] w fun e w'=>e= .returned (.tuple #[])/\∃els':List KE,els'.Perm els/\els'.Pairwise (fun x y=>¬y.cmp x<0)/\KRow w' g els'/\(∀x∈els',x.ok w')/\Same g w w':=by
 obtain⟨cur,hg,zqP⟩:=zqe;obtain⟨D,hD⟩:∃D:List (KEw w),D.map KEw.val=els:=⟨els.pmap KEw.mk hok,by rw[List.map_pmap];simp⟩;have hDl:D.length=els.length:=by rw[<-hD];simp
 have zqp:CmpLays Tryz.prog 224 #[] (jj w) 2 (cfW w) g 0 D.toArray.size w:=fun m os dk _ x y=>by
  have hx:=KE.ok_sort (jj w) 2 (m:=m) (d:=dk) (os:=os) hg x.ok;have hy:=KE.ok_sort (jj w) 2 (m:=m) (d:=dk) (os:=os) hg y.ok;exact zfm hx.1 hy.1 hx.2 hy.2
 have hH:Sort.HoldsK (jj w) 2 w g 0 D.toArray:=fun j hj=>by
  rw[Sort.size_flatK]at hj;have hj2:j / 2<D.length:=by simp at hj;omega
  obtain⟨x,hx⟩:∃x,D[j / 2]? =some x:=⟨_,Ze hj2⟩;have hel:els[j / 2]? =some x.val:=by rw[<-hD,List.getElem?_map,hx];rfl
  have hc:=zqP (j / 2) _ hel;have e1:(Sort.flatK (jj w) 2 D.toArray)[j]! =(x.val.enc)[j%2]! :=by
   rw[Sort.get_flatK _ _ _ _ (by simpa using hj)];have:D.toArray[j / 2]! =x:=by simp[hx]
   rw[this];rfl
  refine⟨?_,by simp[World.frozen?,hg]⟩;rw[id,e1,Nat.zero_add,cell_of_row w g j _ _ _ hg];rcases Nat.mod_two_eq_zero_or_one j with h0|h0
  ·rw[h0];have:=hc.1;rw[show 2*(j / 2)=j by omega]at this;exact this
  ·rw[h0];have:=hc.2;rw[show 2*(j / 2)+1=j by omega]at this;exact this
 have h:=AnyQ.slices_SortFunc (P:=Tryz.prog) Tryz.laysSort 2 Tryz.isAgg279 Tryz.sizeOf279 (jj w) (fun x=>rfl) (fun x v hv=>by
   simp only[jj,KE.enc,List.mem_cons,List.not_mem_nil,or_false]at hv;rcases hv with rfl|rfl<;>rfl) (cfW w) (zkc w) 224 #[] g 0 cap D.toArray w (enters_of Tryz.func224 (by kernel_rfl) rfl) zqp hH (zw hg) (by simpa[hDl] using hn)
 have e0:D.toArray.size=els.length:=by simpa using hDl
 rw[e0]at h;refine h.mono ?_;rintro e w' ⟨he,d',n,os,⟨hp1,-,hp2⟩,hs,hw⟩;refine⟨he,d'.toList.map KEw.val,?_,?_,?_,?_,?_⟩
 ·have e1:d'.extract 0 els.length=d':=by apply Array.ext';simp;rw[List.take_of_length_le (by simp;omega)]
  have e2:(D.toArray).extract 0 els.length=D.toArray:=by rw[<-e0];exact Array.extract_size
  rw[e1,e2]at hp2;rw[<-hD];exact hp2.map _
 ·rw[List.pairwise_map,List.pairwise_iff_getElem];intro i j hi hj hij;have:=hs i j (Nat.zero_le _) hij (by simp at hj;omega);have e3:d'[j]! =d'.toList[j]:=by simp at hj;simp[hj]
  have e4:d'[i]! =d'.toList[i]:=by simp at hi;simp[hi]
  rw[e3,e4]at this;exact of_decide_eq_false this
 ·refine⟨_,by rw[hw];exact zfp (jj w) 2 w g n d' os hg,fun i x hx=>?_⟩;rw[List.getElem?_map]at hx;obtain⟨y,hy,rfl⟩:∃y,d'.toList[i]? =some y/\y.val=x:=by
   cases hh:d'.toList[i]? with
   |none=>rw[hh]at hx;cases hx
   |some y=>rw[hh]at hx;exact⟨y,rfl,by simpa using hx⟩
  have hi:i<d'.size:=by simpa using (Zg.1 hy).1
  have hdi:d'[i]! =y:=by
   have:=(Zg.1 hy).2;simp[hi];simpa using this
  have hcs:2*i+1<cur.size:=by
   have zqf:i<els.length:=by omega
   have:=(zqP i els[i] (by simp[zqf])).2;exact(Array.getElem?_eq_some_iff.1 this).1
  have key:∀t,t<2->(Sort.putCells id 0 (Sort.flatK (jj w) 2 d') cur)[2*i+t]? =some ((y.val.enc)[t]!):=fun t ht=>by
   unfold Sort.putCells;rw[Array.getElem?_mapIdx,Array.getElem?_eq_getElem (by omega)];simp only[Option.map_some];rw[if_pos (by rw[Sort.size_flatK];omega),Nat.sub_zero,id,Sort.get_flatK _ _ _ _ (by omega),show (2*i+t) / 2=i by omega,show (2*i+t)%2=t by omega,hdi];rfl
  exact⟨key 0 (by omega),key 1 (by omega)⟩
 ·intro x hx;obtain⟨y,-,rfl⟩:=List.mem_map.1 hx;rw[hw];exact KE.ok_sort (jj w) 2 hg y.ok
 ·rw[hw];exact⟨fun b hb hne=>zaF _ _ w g n d' os hb hne,fun B hB=>zfq _ _ w g n d' os hB (zw hg)⟩
theorem zcG(h:∃q os,w'=Sort.grow (w.drewN q) os):Step w w':=by
 obtain⟨q,os,rfl⟩:=h;refine⟨⟨rfl,rfl,rfl,by show w.heap.size<=(w.heap++os).size;simp,fun k hk=>?_⟩⟩;show (w.heap++os)[k]? =_;rw[Array.getElem?_append_left hk]
theorem zke:ql 224:=Ji Tryz.func224 (by kernel_rfl) (by kernel_rfl)
theorem zkf:ql 284:=Ji Tryz.func284 (by kernel_rfl) (by kernel_rfl)
theorem zkg{x y:KE}(hp:w.cell? ⟨pb,0,none⟩=some (.pointer (some ⟨sb,0,none⟩)))(hs:w.cell? ⟨sb,1,none⟩=some (.func (.func 224) #[] #[]))(hpb:pb<w.heap.size)(hsb:sb<w.heap.size)(hx:x.ok w)(hy:y.ok w):
  Cq 284 #[.agg #[.int .i64 x.key,.slice x.A x.l.length x.c],.agg #[.int .i64 y.key,.slice y.A y.l.length y.c],.pointer (some ⟨pb,0,none⟩)] w (zz w (.bool (x.cmp y==0))):=by
 obtain⟨kx,X,cx,lx⟩:=x;obtain⟨ky,Y,cy,ly⟩:=y;obtain⟨hX,hxl⟩:=hx;obtain⟨hY,hyl⟩:=hy;dsimp only at hX hY hxl hyl|-
 obtain⟨z,hz⟩:=Xz (qo kx ky lx ly);have hc:=fun W(hh:Ext w W)=>zfm (w:=W) (a:=kx) (b:=ky) (c:=cx) (d:=cy) (hX.ext hh) (hY.ext hh) hxl hyl
 rw[<-hz]at hc;have HZ:Hid (KE.cmp ⟨kx,X,cx,lx⟩ ⟨ky,Y,cy,ly⟩=z):=Zh (by rw[hz];rfl);have HC:=Zh hc;have hfn:=zke;unfold ql at hfn;have oP:Old pb w:=⟨hpb⟩;have oS:Old sb w:=⟨hsb⟩;clear hz hc;go_enter Tryz.func284,Tryz.ntmps284;go_wp2_with fail
 go_region_held3 (fun w'=>w'.cell? ⟨pb,0,none⟩=some (.pointer (some ⟨sb,0,none⟩))/\w'.cell? ⟨sb,1,none⟩=some (.func (.func 224) #[] #[])/\w'.cell? ⟨w.heap.size,0,none⟩=some (.int .i64 kx)/\w'.cell? ⟨w.heap.size,1,none⟩=some (.slice X lx.length cx)/\w'.cell? ⟨w.heap.size+1,0,none⟩=some (.int .i64 ky)/\w'.cell? ⟨w.heap.size+1,1,none⟩=some (.slice Y ly.length cy)) (first|(refine⟨?_,?_,qc w _ _ _ _ _ 279 279⟩<;>simp[go_sem,hp,hs]))
  (first
   |(go_at_call 224;refine(HC.out _ Zi).mono ?_;rintro e w1 ⟨rfl,hq⟩;(have hs1:=zcG hq);clear hq))
 go_wp2;go_ret;exact⟨by rw[HZ.out];rfl,Step.of _ _⟩
theorem KRow.ext{els:List KE}(h:KRow w g els)(hx:Ext w w'):KRow w' g els:=by
 obtain⟨cur,h1,h2⟩:=h;exact⟨cur,zh hx h1,h2⟩
theorem KRow.cells{els:List KE}(h:KRow w g els){x:KE}(hx:els[i]? =some x):w.cell? ⟨g,i*2,none⟩=some (.int .i64 x.key)/\w.cell? ⟨g,i*2+1,none⟩=some (.slice x.A x.l.length x.c)/\g<w.heap.size:=by
 obtain⟨cur,h1,h2⟩:=h;obtain⟨a,b⟩:=h2 i x hx;rw[Nat.mul_comm]at a b;exact⟨by simp[World.cell?,h1];exact a,by simp[World.cell?,h1];exact b,zw h1⟩
theorem KE.ok.ext{x:KE}(h:x.ok w)(hx:Ext w w'):x.ok w':=⟨h.1.ext hx,h.2⟩
theorem zkh{els:List KE}(zqe:KRow w g els)(hok:∀x∈els,x.ok w)(hn:els.length<=1099511627776)(hne:∀i x y,els[i]? =some x->els[i+1]? =some y->(y.cmp x==0)=false)
  (hp:w.cell? ⟨pb,0,none⟩=some (.pointer (some ⟨sb,0,none⟩))) (hs:w.cell? ⟨sb,1,none⟩=some (.func (.func 224) #[] #[])) (hpb:pb<w.heap.size) (hsb:sb<w.heap.size):
  Cq 283 #[.slice (some ⟨g,0,none⟩) els.length cap,.func (.func 284) #[] #[.pointer (some ⟨pb,0,none⟩)]] w (zz w (.slice (some ⟨g,0,none⟩) els.length cap)):=by
 by_cases h2:els.length<2
 ·go_enter Tryz.func283,Tryz.ntmps283;go_wp2;go_ret;exact⟨rfl,Step.of _ _⟩
 have hfn:=zkf;unfold ql at hfn;obtain⟨n,hN⟩:=Xz els.length;have HN:=Zh hN;rw[<-hN]at hn h2|-
 have HNE:=Zh hne;have HOK:=Zh hok;have HP:=Zh hp;have HS:=Zh hs;clear hN hne hok hp hs;go_enter Tryz.func283,Tryz.ntmps283;go_wp2;go_loopw [5] (fun i wr=>∃k:Nat,1<=k/\k<=n/\i= .int .i64 k/\Ext w wr) (fun i _=>n-(intOf i).toNat)
 case atStart=>exact⟨1,by omega,by omega,rfl,Zi⟩
 case round=>
  obtain⟨k,hk1,hk2,rfl,hxr⟩:=hrel;by_cases hlt:k<n
  ·obtain⟨j,HJ⟩:∃j,Hid (k=j+1):=⟨k-1,Zh (by omega)⟩;obtain⟨x,hx⟩:∃x,els[k]? =some x:=⟨_,Ze (by have:=HN.out;omega)⟩;obtain⟨y,hy⟩:∃y,els[j]? =some y:=⟨_,Ze (by have:=HN.out;have:=HJ.out;omega)⟩;obtain⟨c1,c2,c3⟩:=(zqe.ext hxr).cells hx;obtain⟨c4,c5,-⟩:=(zqe.ext hxr).cells hy;have hz:=HNE.out j y x hy (by rw[<-HJ.out];exact hx);have zqo:=fun W(hh:Ext w W)=>zkg (w:=W) (x:=x) (y:=y) ((hh.below.cell (p:=⟨pb,0,none⟩) hpb).trans HP.out) ((hh.below.cell (p:=⟨sb,1,none⟩) hsb).trans HS.out) (Nat.lt_of_lt_of_le hpb hh.size) (Nat.lt_of_lt_of_le hsb hh.size) ((HOK.out x (Zm hx)).ext hh) ((HOK.out y (Zm hy)).ext hh)
   rw[hz]at zqo;have HC:=Zh zqo;have hjk:j=k-1:=by have:=HJ.out;omega
   rw[hjk]at c4 c5;clear zqo hz hx hy hjk;have hw1:IntKind.i64.wrap ((k:Int)-1)=(k:Int)-1:=Iw;have hw2:((k:Int)-1).toNat=k-1:=by omega
   have hw3:0<=(k:Int)-1:=by omega
   have hw4:(k:Int)-1<(n:Int):=by omega
   have hw5:(1:Int)<=(k:Int):=by omega
   have oG:Old g wr:=⟨c3⟩;go_wp2_with fail
   go_region_held3 (fun w'=>w'.cell? ⟨g,k*2,none⟩=some (.int .i64 x.key)/\w'.cell? ⟨g,k*2+1,none⟩=some (.slice x.A x.l.length x.c)/\w'.cell? ⟨g,(k-1)*2,none⟩=some (.int .i64 y.key)/\w'.cell? ⟨g,(k-1)*2+1,none⟩=some (.slice y.A y.l.length y.c)) ((simp only[zg wr];exact⟨c1,c2,c4,c5⟩))
    (first
     |(go_at_call 284;refine(HC.out _ Zi).mono ?_;rintro e w1 ⟨rfl,hs1⟩))
   all_goals
    go_wp2;refine⟨⟨k+1,by omega,by omega,by go_num,Zi⟩,by simp[intOf]<;>omega⟩
  ·obtain rfl:k=n:=by omega
   clear hlt;go_wp2;go_ret;exact⟨rfl,Step.of _ _⟩
end
end Go.Proofs.YtpijjipngkdhdaaGreat
