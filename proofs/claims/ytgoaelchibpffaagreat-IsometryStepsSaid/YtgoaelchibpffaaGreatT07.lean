import Derived.Test.YtgoaelchibpffaaGreatT06
set_option maxHeartbeats 8000000
set_option linter.unusedVariables false
set_option linter.unusedSimpArgs false
namespace Go.Proofs.YtgoaelchibpffaaGreat
variable {cur:Array Value} {budget cnt v:Int} {pre:List (Int×Int)} {m:List (List Int)} {l st x y:List Int} {b c d g i n pb sb sz ze:Nat} {A X Y:Option Addr} {B W w w' w0 w1:World}
section
open Go.RowKit Go.Shelf
attribute [local go_sem] Oper.semAt_some
theorem zlu{wN:World}{za:Int}{D:List Int}{L:List (List Int)}{mA lA:Option Addr}{mc lc:Nat}(hV:WalkV w wN za D L n mA lA mc lc)(hN:∀b,0<=b->b<1073741824->NumOK D L n b)(hn:1<=n)(hb0:0<=za)(hb1:za<=4611686018427387904)(hb2:1<n->za<1073741824)(l:Nat)(J Jx:List (Int×Int)->World->Prop)
  (hJd:∀pre W,J pre W->J pre W.drew)
  (hJs:∀pre W i v,J pre W->J pre (W.setCell ⟨w.heap.size,i,none⟩ (.int .i64 v)))
  (hY:∀m pre x W,J pre W->zas n x->YieldAt Fence.wide m Tryz.prog l #[.int .i64 x.1,.int .i64 x.2] W fun e W'=>
   (e= .returned (.bool true)/\J (pre++[x]) W'/\KeepW w.heap.size wN.heap.size W W')∨(e= .returned (.bool false)/\Jx (pre++[x]) W'))
  (m:Nat) (W:World) (hK:KeepW w.heap.size wN.heap.size wN W) (hJ:J [] W):
  CallsIn Fence.wide m Tryz.prog 191 #[.pointer (some ⟨w.heap.size+1,0,none⟩),.func (.yield l) #[] #[]] W fun e W'=>(∃v,e= .returned v)/\(J (qK D L n za) W'∨∃q,q<+:qK D L n za/\Jx q W'):=by
 have h0:=hN 0 aa aa;by_cases h1:n=1
 ·subst h1;exact zlp hV h0.dl (h0.d1 1 aa) (h0.d2 1 aa) hb0 hb1 l J Jx hJd hY m W (hK.mono (Nat.le_succ _)) hJ
 ·exact zlq hV (hN za hb0 (hb2 aa)) aa l J Jx hJd hJs hY m W hK hJ
structure StepsI(w w1:World)(n:Nat)(budget:Int)(pre:List (Int×Int))(W:World)(left:Int)(st:List Int):Prop where
 go:QW pre budget (List.replicate n 0)=some (left,st)
 row:Row W w1.heap.size 3 .i64 st
 hd:W.heap[w1.heap.size+1]? =some (.cells #[.slice (some ⟨w1.heap.size,0,none⟩) n n] 85 (0,0))
 lf:W.heap[w1.heap.size+2]? =some (.cells #[.int .i64 left] 2 (0,0))
 r1:W.heap[w.heap.size]? =some (.cells #[.slice none 0 0] 85 (0,0))
 r2:W.heap[w.heap.size+1]? =some (.cells #[.int .i64 0] 27 (0,0))
 len:st.length=n
 l0:0<=left
 l1:left<=budget
 sb:∀x∈st,0<=x/\x<=budget-left
 be:Below w.heap.size w W
def StepsJ(w w1:World)(n:Nat)(budget:Int)(pre:List (Int×Int))(W:World):Prop:=∃left st,StepsI w w1 n budget pre W left st
structure StepsX(w w1:World)(n:Nat)(budget:Int)(pre:List (Int×Int))(W:World):Prop where
 go:QW pre budget (List.replicate n 0)=none
 r1:W.heap[w.heap.size]? =some (.cells #[.slice none 0 0] 85 (0,0))
 r2:W.heap[w.heap.size+1]? =some (.cells #[.int .i64 9] 27 (0,0))
 be:Below w.heap.size w W
theorem OnlyB.below{b0:Nat}{A:World}(h:OnlyB ze sz A B)(hb:Below b0 w A)(h1:b0<=ze)(h2:b0<=sz):Below b0 w B:=
 ⟨h.os.trans hb.os,h.tape.trans hb.tape,h.output.trans hb.output,Nat.le_trans hb.size h.size,fun k hk=>(h.block k aa aa).trans (hb.block k hk)⟩
theorem StepsJ.only{A:World}(hw:w.heap.size+2<=w1.heap.size)(hb:w1.heap.size+3<=ze)(h:StepsJ w w1 n budget pre A)(ho:OnlyB ze (w1.heap.size+3) A B):StepsJ w w1 n budget pre B:=by
 obtain⟨left,st,h⟩:=h;exact⟨left,st,h.go,(ho.block _ aa aa).trans h.row,(ho.block _ aa aa).trans h.hd,(ho.block _ aa aa).trans h.lf,(ho.block _ aa aa).trans h.r1,(ho.block _ aa aa).trans h.r2,h.len,h.l0,h.l1,h.sb,ho.below h.be aa aa⟩
theorem StepsX.only{A:World}(hw:w.heap.size+2<=w1.heap.size)(hb:w1.heap.size+3<=ze)(h:StepsX w w1 n budget pre A)(ho:OnlyB ze (w1.heap.size+3) A B):StepsX w w1 n budget pre B:=
 ⟨h.go,(ho.block _ aa aa).trans h.r1,(ho.block _ aa aa).trans h.r2,ho.below h.be aa aa⟩
theorem AboveK.set2{p q j:Nat}(W:World)(hp:p<sz)(hq:q<sz)(u v:Value):AboveK sz W ((W.setCell ⟨p,i,none⟩ u).setCell ⟨q,j,none⟩ v):=
 ⟨fun b hb _=>(Below.heap_setCell _ ⟨q,j,none⟩ v b (by show b≠q;omega)).trans (Below.heap_setCell W ⟨p,i,none⟩ u b (by show b≠p;omega)),by rw[ZE,ZE];exact Zr⟩
theorem StepsI.fail{left len:Int}(hS:StepsI w w1 n budget pre W left st)(hlt:left<cnt)(hw:w.heap.size+2<=w1.heap.size):
  AboveK (w1.heap.size+3) W ((W.setCell ⟨w.heap.size,0,none⟩ (.slice none 0 0)).setCell ⟨w.heap.size+1,0,none⟩ (.int .i64 9))/\StepsX w w1 n budget (pre++[(len,cnt)]) ((W.setCell ⟨w.heap.size,0,none⟩ (.slice none 0 0)).setCell ⟨w.heap.size+1,0,none⟩ (.int .i64 9)):=by
 refine⟨AboveK.set2 W aa aa _ _,?_,?_,?_,?_⟩
 ·rw[zdC,hS.go];simp[QW,hlt]
 ·refine(Below.heap_setCell _ ⟨w.heap.size+1,0,none⟩ _ _ ((aa:w.heap.size≠w.heap.size+1))).trans ?_;rw[zX hS.r1];rfl
 ·rw[zX ((Below.heap_setCell _ ⟨w.heap.size,0,none⟩ _ _ ((aa:w.heap.size+1≠w.heap.size))).trans hS.r2)];rfl
 ·exact(hS.be.setCell (p:=⟨w.heap.size,0,none⟩) Zr _).setCell (p:=⟨w.heap.size+1,0,none⟩) (Nat.le_succ _) _
theorem StepsI.step{left y:Int}(hS:StepsI w w1 n budget pre W left st)(hy:st[i]? =some y)(hle:cnt<=left)(h0:0<=cnt)(hw:w.heap.size+2<=w1.heap.size):
  AboveK (w1.heap.size+3) W ((W.setCell ⟨w1.heap.size+1+1,0,none⟩ (.int .i64 (left-cnt))).setCell ⟨w1.heap.size,i,none⟩ (.int .i64 (y+cnt)))/\StepsJ w w1 n budget (pre++[((i:Int)+1,cnt)]) ((W.setCell ⟨w1.heap.size+1+1,0,none⟩ (.int .i64 (left-cnt))).setCell ⟨w1.heap.size,i,none⟩ (.int .i64 (y+cnt))):=by
 have hyb:=hS.sb y (Zm hy);have far:∀(b:Nat)(o:Obj),b≠w1.heap.size->b≠w1.heap.size+1+1->W.heap[b]? =some o->((W.setCell ⟨w1.heap.size+1+1,0,none⟩ (.int .i64 (left-cnt))).setCell ⟨w1.heap.size,i,none⟩ (.int .i64 (y+cnt))).heap[b]? =some o:=fun b o h1 h2 h3=>
  (Below.heap_setCell _ ⟨w1.heap.size,i,none⟩ _ b h1).trans ((Below.heap_setCell W ⟨w1.heap.size+1+1,0,none⟩ _ b h2).trans h3)
 refine⟨AboveK.set2 W aa aa _ _,left-cnt,st.set i (y+cnt),?_,?_,?_,?_,?_,?_,?_,?_,?_,?_,?_⟩
 ·rw[zdC,hS.go];simp[QW,hy,Int.not_lt.2 hle]
 ·exact(Row.far hS.row (p:=⟨w1.heap.size+1+1,0,none⟩) ((aa:w1.heap.size≠w1.heap.size+1+1)) _).set i _
 ·exact far _ _ aa aa hS.hd
 ·refine(Below.heap_setCell _ ⟨w1.heap.size,i,none⟩ _ _ ((aa:w1.heap.size+2≠w1.heap.size))).trans ?_;have:=zX (i:=0) hS.lf (.int .i64 (left-cnt));rw[(aa:w1.heap.size+1+1=w1.heap.size+2),this];rfl
 ·exact far _ _ aa aa hS.r1
 ·exact far _ _ aa aa hS.r2
 ·rw[List.length_set];exact hS.len
 ·omega
 ·have:=hS.l1;omega
 ·intro x hx;rcases List.mem_or_eq_of_mem_set hx with h|h
  ·have:=hS.sb x h;omega
  ·omega
 ·exact(hS.be.setCell (p:=⟨w1.heap.size+1+1,0,none⟩) ((aa:w.heap.size<=w1.heap.size+1+1)) _).setCell (p:=⟨w1.heap.size,i,none⟩) ((aa:w.heap.size<=w1.heap.size)) _
set_option maxRecDepth 100000 in
theorem zlv{za:Int}(h:MatA w0 A m)(h8:m.length<=8)(hc:m.length<=c)(hc2:c<=9223372036854775807)(hr:zM m=true)(ha:ji za budget=true)(hcr:jE m za=false)(hf:FormOK m)[hx:Ext w0 w]:
  Cq 132 #[.slice A m.length c,.int .i64 za,.int .i64 budget] w (RetSteps w (qh m za budget)):=by
 have zsN:=fun W(hxx:Ext w0 W)=>zai (w:=W) h aa hc hc2
 rw[hr]at zsN;have HR:=Zh zsN;have hnw:=fun W(hxx:Ext w0 W)=>zlk (w:=W) (c:=c) (za:=za) h hf.len1 h8 hf.all hf.fits hf.elim hf.zc
 have HW:=Zh hnw;have zrY:Hid (∀p,za8 m za budget=some p->qh m za budget=(p.2,0)):=Zh (fun p hp=>by simp[qh,hr,ha,hcr,hp]);have zrZ:Hid (za8 m za budget=none->qh m za budget=([],9)):=Zh (fun hp=>by simp[qh,hr,ha,hcr,hp]);obtain⟨a1,a2,a3,a4⟩:0<=za/\za<=4611686018427387904/\0<=budget/\budget<=1000000:=by simpa[ji] using ha
 have zvp:¬(1<m.length/\1073741824<=za):=by simpa[jE] using hcr
 have HCR:=Zh zvp;have hl1:=hf.len1;have HF:=Zh hf;have hmk:=ZH (P:=Tryz.prog) Tryz.underlying85 JO aa (m.length:Int) aa aa;have hdd:∀k:Nat,(Fence.wide.depth.isSome=true->1<=k):=fun k h=>by cases h
 have hcd:(decide ((1:Int)<(m.length:Int))&&decide (1073741824<=za))=false:=by
  rcases Zl 1 m.length with h1|h1
  ·simp;omega
  ·simp;omega
 have zvq:1<m.length->decide (1073741824<=za)=false:=fun h1=>by simp;omega
 clear zsN hnw zvp hr ha hcr hf;refine(callsIn_wide (n:=5)).1 ?_;refine callsIn_of_wp_marks Tryz.func132 rfl trivial ?_ rfl;simp only[Tryz.ntmps132,List.size_toArray,List.length_cons,List.length_nil,Nat.reduceAdd,Nat.reduceSub,Array.replicate_succ,Array.replicate_zero,List.push_toArray,List.append_toArray,List.nil_append,List.cons_append];rcases(show (decide ((1:Int)<(m.length:Int))=true/\decide (1073741824<=za)=false)∨(decide ((1:Int)<(m.length:Int))=false/\True) by
  rcases Zl 1 m.length with h1|h1
  ·exact .inl ⟨by simp;omega,zvq h1⟩
  ·exact .inr ⟨by simp;omega,trivial⟩) with ⟨zwM,zx0⟩|⟨zwM,-⟩
 all_goals
  clear hcd zvq;gi_wp2_with (first
   |(refine⟨trivial,?_⟩;gi_at_call 44;refine(callsIn_wide.2 (HR.out _ Zi)).mono ?_;rintro e w1 ⟨rfl,hs1⟩)
   |(refine⟨trivial,?_⟩;gi_at_call 190;refine(callsIn_wide.2 (HW.out _ Zi)).mono ?_;rintro e w3 ⟨rfl,⟨mA,lA,mc,lc,hV⟩,hs3⟩))
  have ztv:(((w1.alloc (.cells (zH #[.int .i64 0] m.length) 3)).alloc (.cells #[.slice (some ⟨w1.heap.size,0,none⟩) m.length m.length] 85)).alloc (.cells #[.int .i64 budget] 2)).heap.size=w1.heap.size+3:=af
  have hw1:w.heap.size+2<=w1.heap.size:=by have:=hs1.size;simpa using this
  have hw3:w1.heap.size+4<w3.heap.size:=by have:=zi hV.st;rw[ztv]at this;omega
  obtain⟨w2,hw2⟩:=Xz (((w1.alloc (.cells (zH #[.int .i64 0] m.length) 3)).alloc (.cells #[.slice (some ⟨w1.heap.size,0,none⟩) m.length m.length] 85)).alloc (.cells #[.int .i64 budget] 2));rw[<-hw2]at hV hs3 ztv;refine zlt (gf:=191) (ptr:= .pointer (some ⟨w1.heap.size+1+1+1+1,0,none⟩)) rfl (enters_of Tryz.func191 ai rfl) rfl (w1.heap.size+3) w3.heap.size m.length aa Zr (qK (zl m m.length) (zq m m.length) m.length za) ?seq (StepsJ w w1 m.length budget) (StepsX w w1 m.length budget) (fun pre A B hA hB=>hA.only hw1 aa hB) (fun pre A B hA hB=>hA.only hw1 aa hB) ?h0 ?ab ?done ?stop
  case seq=>
   intro l J Jx hJd hJs hY mm W hK hJ;have:=zlu hV HF.out.num hl1 a1 a2 (fun h1=>by have:=HCR.out;omega) l J Jx hJd (by rw[ztv];exact hJs) (by rw[ztv];exact hY) mm W (by rw[ztv];exact hK) hJ;rw[ztv]at this;exact this
  case h0=>
   have hx2:Ext w1 w2:=by rw[hw2];exact Zi
   have hx3:Ext w2 w3:=hs3.ext;have g1:w2.heap[w1.heap.size]? =some (.cells (zH #[.int .i64 0] m.length) 3 (0,0)):=by
    rw[hw2];exact zg (w:=w1.alloc (.cells (zH #[.int .i64 0] m.length) 3)) Zi (heap_alloc_new w1 _)
   have g2:w2.heap[w1.heap.size+1]? =some (.cells #[.slice (some ⟨w1.heap.size,0,none⟩) m.length m.length] 85 (0,0)):=by
    rw[hw2];refine zg (w:=(w1.alloc (.cells (zH #[.int .i64 0] m.length) 3)).alloc (.cells #[.slice (some ⟨w1.heap.size,0,none⟩) m.length m.length] 85)) Zi ?_;have:=heap_alloc_new (w1.alloc (.cells (zH #[.int .i64 0] m.length) 3)) (.cells #[.slice (some ⟨w1.heap.size,0,none⟩) m.length m.length] 85);simpa using this
   have g3:w2.heap[w1.heap.size+2]? =some (.cells #[.int .i64 budget] 2 (0,0)):=by
    rw[hw2];have:=heap_alloc_new ((w1.alloc (.cells (zH #[.int .i64 0] m.length) 3)).alloc (.cells #[.slice (some ⟨w1.heap.size,0,none⟩) m.length m.length] 85)) (.cells #[.int .i64 budget] 2);simpa using this
   have g4:w1.heap[w.heap.size]? =some (.cells #[.slice none 0 0] 85 (0,0)):=zg hs1.ext (zg (w:=w.alloc (.cells #[.slice none 0 0] 85)) Zi (heap_alloc_new w _));have g5:w1.heap[w.heap.size+1]? =some (.cells #[.int .i64 0] 27 (0,0)):=by
    refine zg hs1.ext ?_;have:=heap_alloc_new (w.alloc (.cells #[.slice none 0 0] 85)) (.cells #[.int .i64 0] 27);simpa using this
   have hxw:Ext w w3:=(Ext.trans (Ext.trans (Zi:Ext w ((w.alloc (.cells #[.slice none 0 0] 85)).alloc (.cells #[.int .i64 0] 27))) hs1.ext) hx2).trans hx3;refine⟨budget,List.replicate m.length 0,rfl,?_,zg hx3 g2,zg hx3 g3,zg (hx2.trans hx3) g4,zg (hx2.trans hx3) g5,af,a3,Int.le_refl _,fun x hx=>?_,hxw.below⟩
   ·rw[zdn]at g1;exact zg hx3 g1
   ·have:=List.eq_of_mem_replicate hx;omega
  case ab=>
   rintro l pre ⟨len,cnt⟩ W hI ⟨v1,v2,v3,v4⟩ hsz;dsimp only at v1 v2 v3 v4;obtain⟨i,rfl⟩:∃i:Nat,len=(i:Int)+1:=⟨(len-1).toNat,aa⟩;gi_wp2
   refine⟨trivial,fun W' hI' hs'=>?_⟩;obtain⟨left,st,hS⟩:=hI';have hsl:=hS.len;obtain⟨y,hy1,hy2⟩:=hS.row.cell (i:=i) aa;have hyb:=hS.sb y (Zm hy1);have hf1:=hS.row.frozen i;have e1:W'.cell? ⟨w1.heap.size+1,0,none⟩=some (.slice (some ⟨w1.heap.size,0,none⟩) m.length m.length):=by simp[World.cell?,hS.hd]
   have e2:W'.cell? ⟨w1.heap.size+1+1,0,none⟩=some (.int .i64 left):=by have:=hS.lf;simp[World.cell?,this]
   have e3:W'.frozen? ⟨w1.heap.size+1+1,0,none⟩=false:=by have:=hS.lf;simp[World.frozen?,this]
   have e4:W'.cell? ⟨w.heap.size,0,none⟩=some (.slice none 0 0):=by simp[World.cell?,hS.r1]
   have e5:W'.frozen? ⟨w.heap.size,0,none⟩=false:=by simp[World.frozen?,hS.r1]
   have e6:W'.cell? ⟨w.heap.size+1,0,none⟩=some (.int .i64 0):=by simp[World.cell?,hS.r2]
   have e7:W'.frozen? ⟨w.heap.size+1,0,none⟩=false:=by simp[World.frozen?,hS.r2]
   have hl0:=hS.l0;have zx1:=hS.l1;obtain⟨zwN,zwO⟩:=hyb;have HS:=Zh hS;have HY:=Zh hy1;clear hy1 hS hI;by_cases hlt:left<cnt
   ·gi_wp2_with fail
    exact HS.out.fail hlt hw1
   ·gi_wp2_with fail
    exact HS.out.step HY.out aa v3 hw1
  case done=>
   rintro D W ⟨left,st,hS⟩ hD hK;have e1:W.cell? ⟨w1.heap.size+1,0,none⟩=some (.slice (some ⟨w1.heap.size,0,none⟩) m.length m.length):=by simp[World.cell?,hS.hd]
   have e4:W.cell? ⟨w.heap.size,0,none⟩=some (.slice none 0 0):=by simp[World.cell?,hS.r1]
   have e5:W.frozen? ⟨w.heap.size,0,none⟩=false:=by simp[World.frozen?,hS.r1]
   have e6:W.cell? ⟨w.heap.size+1,0,none⟩=some (.int .i64 0):=by simp[World.cell?,hS.r2]
   have e7:W.frozen? ⟨w.heap.size+1,0,none⟩=false:=by simp[World.frozen?,hS.r2]
   have HS:=Zh hS;have HK:=Zh hK;clear hS hK;gi_wp2_with fail
   obtain⟨Wr,hWr⟩:=Xz (((W.setCell ⟨w.heap.size,0,none⟩ (.slice (some ⟨w1.heap.size,0,none⟩) m.length m.length)).setCell ⟨w.heap.size+1,0,none⟩ (.int .i64 0)));rw[<-hWr];have k1:Wr.heap[w.heap.size]? =some (.cells #[.slice (some ⟨w1.heap.size,0,none⟩) m.length m.length] 85 (0,0)):=by
    rw[hWr];refine(Below.heap_setCell _ ⟨w.heap.size+1,0,none⟩ _ _ ((aa:w.heap.size≠w.heap.size+1))).trans ?_;rw[zX HS.out.r1];rfl
   have k2:Wr.heap[w.heap.size+1]? =some (.cells #[.int .i64 0] 27 (0,0)):=by
    rw[hWr,zX ((Below.heap_setCell _ ⟨w.heap.size,0,none⟩ _ _ ((aa:w.heap.size+1≠w.heap.size))).trans HS.out.r2)];rfl
   have k3:Wr.heap[D]? =some (.deferred (some [])):=by
    rw[hWr];exact(Below.heap_setCell _ ⟨w.heap.size+1,0,none⟩ _ _ ((aa:D≠w.heap.size+1))).trans ((Below.heap_setCell _ ⟨w.heap.size,0,none⟩ _ _ ((aa:D≠w.heap.size))).trans HK.out)
   have k4:Row Wr w1.heap.size 3 .i64 st:=by
    rw[hWr];exact(HS.out.row.far (p:=⟨w.heap.size,0,none⟩) ((aa:w1.heap.size≠w.heap.size)) _).far (p:=⟨w.heap.size+1,0,none⟩) ((aa:w1.heap.size≠w.heap.size+1)) _
   have k5:Below w.heap.size w Wr:=by
    rw[hWr];exact(HS.out.be.setCell (p:=⟨w.heap.size,0,none⟩) Zr _).setCell (p:=⟨w.heap.size+1,0,none⟩) (Nat.le_succ _) _
   have hoP:OnlyB (w1.heap.size+3) (w1.heap.size+3) Wr (Wr.putObj D (.deferred none)):=OnlyB.putObj aa _;have p1:=(hoP.block _ aa aa).trans k1;have p2:=(hoP.block _ aa aa).trans k2;have p4:Row (Wr.putObj D (.deferred none)) w1.heap.size 3 .i64 st:=(hoP.block _ aa aa).trans k4;have q1:(Wr.putObj D (.deferred none)).cell? ⟨w.heap.size,0,none⟩=some (.slice (some ⟨w1.heap.size,0,none⟩) m.length m.length):=by simp[World.cell?,p1]
   have q2:(Wr.putObj D (.deferred none)).cell? ⟨w.heap.size+1,0,none⟩=some (.int .i64 0):=by simp[World.cell?,p2]
   refine⟨af,.inl ⟨_,_,rfl,run_takeDeferred k3,?_⟩⟩;have hsp:=zrY.out (left,st) HS.out.go;refine⟨.tuple #[.slice (some ⟨w1.heap.size,0,none⟩) m.length m.length,.int .i64 0],by simp[results,Tryz.results132,go_sem,q1,q2],?_⟩;rw[hsp];have hsl:=HS.out.len;refine⟨_,m.length,by rw[hsl],p4.ints,by show st.length<=m.length;omega,aa,⟨hoP.below k5 aa aa⟩⟩
  case stop=>
   rintro D q W hq hX hD hK;gi_wp2_with fail
   have hoP:OnlyB (w1.heap.size+3) (w1.heap.size+3) W (W.putObj D (.deferred none)):=OnlyB.putObj aa _;have p1:=(hoP.block _ aa aa).trans hX.r1;have p2:=(hoP.block _ aa aa).trans hX.r2;have q1:(W.putObj D (.deferred none)).cell? ⟨w.heap.size,0,none⟩=some (.slice none 0 0):=by simp[World.cell?,p1]
   have q2:(W.putObj D (.deferred none)).cell? ⟨w.heap.size+1,0,none⟩=some (.int .i64 9):=by simp[World.cell?,p2]
   refine⟨af,.inl ⟨_,_,rfl,run_takeDeferred hK,?_⟩⟩;have hsp:=zrZ.out (by
    obtain⟨t,ht⟩:=hq;unfold za8;rw[<-ht,zdC,hX.go];rfl)
   refine⟨.tuple #[.slice none 0 0,.int .i64 9],by simp[results,Tryz.results132,go_sem,q1,q2],?_⟩;exact RetSteps.err hsp ⟨hoP.below hX.be aa aa⟩
theorem zlw(h:zM m=true):1<=m.length/\m.length<=8:=by
 have h1:Qq m=true:=by
  cases hs:Qq m
  ·rw[zfH hs]at h;cases h
  ·rfl
 have:=of_decide_eq_true h1;exact⟨this.1,this.2.1⟩
theorem zdE{za:Int}(h:MatA w0 A m)(zss:m.length<=1099511627776)(hc:m.length<=c)(hc2:c<=9223372036854775807)(hf:zM m=true->FormOK m)[hx:Ext w0 w]:
  Cq 132 #[.slice A m.length c,.int .i64 za,.int .i64 budget] w (RetSteps w (qh m za budget)):=by
 cases hr:zM m
 ·exact zdD h zss hc hc2 (.inl hr)
 ·cases ha:ji za budget
  ·exact zdD h zss hc hc2 (.inr (.inl ha))
  ·cases hcr:jE m za
   ·exact zlv h (zlw hr).2 hc hc2 hr ha hcr (hf hr)
   ·exact zdD h zss hc hc2 (.inr (.inr hcr))
end
section
open Go.RowKit
theorem zf5(x y c:Int)(hx:0<=x)(hy:0<=y)(hc0:0<=c)(hc:c<=1)(w:World):(callFunc 280 #[.int .u64 x,.int .u64 y,.int .u64 c]).run Tryz.prog w=
  .ok (.value (.tuple #[.int .u64 ((x+y+c)%18446744073709551616),.int .u64 ((x+y+c) / 18446744073709551616)])) w:=by
 obtain⟨x,rfl⟩:=Int.eq_ofNat_of_zero_le hx;obtain⟨y,rfl⟩:=Int.eq_ofNat_of_zero_le hy;obtain⟨c,rfl⟩:=Int.eq_ofNat_of_zero_le hc0;refine(Any7.bits_Add64 Tryz.lays7n25 x y c aa w).trans ?_;congr 5<;>omega
theorem zlx(x y:Int)(hx:0<=x)(hy:0<=y)(w:World):(callFunc 280 #[.int .u64 x,.int .u64 y,.int .u64 0]).run Tryz.prog w=
  .ok (.value (.tuple #[.int .u64 ((x+y)%18446744073709551616),.int .u64 ((x+y) / 18446744073709551616)])) w:=by
 simpa using zf5 x y 0 hx hy (Int.le_refl 0) ac w
def jj(x y:Int):Int:=if x<y then 1 else 0
theorem zf6(x y b:Int)(hx:0<=x)(hy:0<=y)(hy':y<18446744073709551616)(hb0:0<=b)(hb:b<=1)(w:World):(callFunc 281 #[.int .u64 x,.int .u64 y,.int .u64 b]).run Tryz.prog w=
  .ok (.value (.tuple #[.int .u64 ((x-y-b)%18446744073709551616),.int .u64 (jj x (y+b))])) w:=by
 obtain⟨x,rfl⟩:=Int.eq_ofNat_of_zero_le hx;obtain⟨y,rfl⟩:=Int.eq_ofNat_of_zero_le hy;obtain⟨b,rfl⟩:=Int.eq_ofNat_of_zero_le hb0;have e1:(((x+18446744073709551616-y-b)%18446744073709551616:Nat):Int)=((x:Int)-y-b)%18446744073709551616:=aa
 have e2:((if x<y+b then 1 else 0:Nat):Int)=jj x (y+b):=by unfold jj;split<;>split<;>omega
 rw[<-e1,<-e2];exact Any7.bits_Sub64 Tryz.lays7n26 x y b aa w
theorem zly(x y:Int)(hx:0<=x)(hy:0<=y)(hy':y<18446744073709551616)(w:World):(callFunc 281 #[.int .u64 x,.int .u64 y,.int .u64 0]).run Tryz.prog w=
  .ok (.value (.tuple #[.int .u64 ((x-y)%18446744073709551616),.int .u64 (jj x y)])) w:=by
 simpa using zf6 x y 0 hx hy hy' (Int.le_refl 0) ac w
def ZM(v:Int):Int:=v / 18446744073709551616
def Zw(v:Int):Int:=v%18446744073709551616
def JS(v:Int):Value:= .agg #[.int .u64 (ZM v),.int .u64 (Zw v)]
theorem zlz(v:Int)(x y:Nat)(h0:0<=v)(hx:x<18446744073709551616)(hy:y<18446744073709551616)(hb:v+(x*y:Nat)<340282366920938463463374607431768211456):
  Cq 235 #[JS v,.int .u64 x,.int .u64 y] w (zA w (JS (v+(x*y:Nat)))):=by
 obtain⟨p,hp⟩:=Xz (x*y);have hm:=Tryz.bits_Mul64 x y hx hy;rw[<-hp]at hm hb|-
 have HM:=Zh hm;clear hm hp;unfold JS;have a0:0<=ZM v:=by unfold ZM;omega
 have a1:0<=Zw v:=by unfold Zw;omega
 have a2:Zw v<18446744073709551616:=by unfold Zw;omega
 have a3:ZM v<18446744073709551616:=by unfold ZM;omega
 obtain⟨q,hq⟩:∃q:Int,q=((p / 18446744073709551616:Nat):Int):=⟨_,rfl⟩;obtain⟨r,hr⟩:∃r:Int,r=((p%18446744073709551616:Nat):Int):=⟨_,rfl⟩;rw[<-hq,<-hr]at HM;have hq0:0<=q:=aa
 have hr0:0<=r:=aa
 have HV1:Hid ((ZM v+q+(Zw v+r) / 18446744073709551616)%18446744073709551616=ZM (v+p)):=Zh (by unfold ZM Zw;omega);have HV2:Hid ((Zw v+r)%18446744073709551616=Zw (v+p)):=Zh (by unfold Zw;omega);have k0:0<=(Zw v+r) / 18446744073709551616:=aa
 have k1:(Zw v+r) / 18446744073709551616<=1:=aa
 generalize ZM v=ah at*
 generalize Zw v=al at*
 clear hq hr;go_enter Tryz.func235,Tryz.ntmps235;go_wp2_with (first|(go_at_call 279;refine(HM.out _).mono ?_;rintro e w' ⟨rfl,rfl⟩)|simp only[zlx al r a1 hr0]|simp only[zf5 ah q _ a0 hq0 k0 k1])
 rw[<-HV1.out,<-HV2.out];exact bodyPost_ret (v:= .agg #[.int .u64 ((ah+q+(al+r) / 18446744073709551616)%18446744073709551616),.int .u64 ((al+r)%18446744073709551616)]) (by simp[results,Tryz.results235,go_sem]) rfl ⟨rfl,Step.of _ _⟩
def jF(z:Int):Bool:=decide (0<=z/\z<=4611686018427387904)
def zf7(w:World)(z:Int)(e:Ending)(w':World):Prop:=e= .returned (.tuple #[.int .i64 (if jF z then z else 0),.bool (jF z)])/\Step w w'
theorem zf8(x y:Int):0<=jj x y/\jj x y<=1:=by unfold jj;split<;>omega
theorem zf9(a b:Int)(ha0:0<=a)(ha1:a<340282366920938463463374607431768211456)(hb0:0<=b)(hb1:b<340282366920938463463374607431768211456):
  Cq 236 #[JS a,JS b] w (zf7 w (a-b)):=by
 unfold JS;have a1:0<=ZM a/\ZM a<18446744073709551616/\0<=Zw a/\Zw a<18446744073709551616/\a=ZM a*18446744073709551616+Zw a:=by unfold ZM Zw;omega
 have b1:0<=ZM b/\ZM b<18446744073709551616/\0<=Zw b/\Zw b<18446744073709551616/\b=ZM b*18446744073709551616+Zw b:=by unfold ZM Zw;omega
 generalize ZM a=ah at*
 generalize Zw a=al at*
 generalize ZM b=bh at*
 generalize Zw b=bl at*
 obtain⟨c1,c2,c3,c4,c5⟩:=a1;obtain⟨d1,d2,d3,d4,d5⟩:=b1;obtain⟨g,hg⟩:=Xz (jj al bl);obtain⟨f,hf⟩:=Xz (jj ah (bh+g));obtain⟨lo,hlo⟩:=Xz ((al-bl)%18446744073709551616);obtain⟨hi,hhi⟩:=Xz ((ah-bh-g)%18446744073709551616);have hg1:=zf8 al bl;have hf1:=zf8 ah (bh+g);rw[<-hg]at hg1;rw[<-hf]at hf1;have s1:=zly al bl c3 d3 d4;have s2:=zf6 ah bh g c1 d1 d2 hg1.1 hg1.2
 rw[<-hg,<-hlo]at s1;rw[<-hf,<-hhi]at s2;have S1:=Zh s1;have S2:=Zh s2;have hl0:0<=lo/\lo<18446744073709551616:=aa
 have hh0:0<=hi/\hi<18446744073709551616:=aa
 -- the number, by its parts
 have key:jF (a-b)=(decide (f=0)&&(decide (hi=0)&&decide (lo<=4611686018427387904)))/\(f=0->hi=0->a-b=lo):=by
  have hg2:(al<bl/\g=1)∨(bl<=al/\g=0):=by rw[hg];unfold jj;split<;>omega
  have hf2:(ah<bh+g/\f=1)∨(bh+g<=ah/\f=0):=by rw[hf];unfold jj;split<;>omega
  constructor
  ·unfold jF;rw[Bool.eq_iff_iff];simp only[decide_eq_true_eq,Bool.and_eq_true];constructor
   ·rintro⟨h1,h2⟩;refine⟨?_,?_,?_⟩<;>omega
   ·rintro⟨h1,h2,h3⟩;omega
  ·intro h1 h2;omega
 obtain⟨key1,key2⟩:=key;have K1:=Zh key1;have K2:=Zh key2;clear hg hf hlo hhi key1 key2 s1 s2 c5 d5;by_cases hf0:f=0
 ·have bf:(f !=0)=false:=by simp[hf0]
  by_cases hh:hi=0
  ·have bh':(hi !=0)=false:=by simp[hh]
   by_cases hl:lo<=4611686018427387904
   ·have HN:Hid (jF (a-b)=true):=Zh (by rw[K1.out];simp[hf0,hh,hl]);have HE:=Zh (K2.out hf0 hh);have bl':decide (4611686018427387904<lo)=false:=by simp;omega
    clear hf0 hh;go_enter Tryz.func236,Tryz.ntmps236;go_wp2_with (first|simp only[S1.out]|simp only[S2.out])
    go_ret2
    exact⟨by rw[HN.out,HE.out];rfl,Step.of _ _⟩
   ·have HN:Hid (jF (a-b)=false):=Zh (by rw[K1.out];simp[hl]);have bl':decide (4611686018427387904<lo)=true:=by simp;omega
    clear hf0 hh;go_enter Tryz.func236,Tryz.ntmps236;go_wp2_with (first|simp only[S1.out]|simp only[S2.out])
    go_ret2
    exact⟨by rw[HN.out];rfl,Step.of _ _⟩
  ·have bh':(hi !=0)=true:=by simp[hh]
   have HN:Hid (jF (a-b)=false):=Zh (by rw[K1.out];simp[hh]);clear hf0 hh;go_enter Tryz.func236,Tryz.ntmps236;go_wp2_with (first|simp only[S1.out]|simp only[S2.out])
   go_ret2
   exact⟨by rw[HN.out];rfl,Step.of _ _⟩
 ·have bf:(f !=0)=true:=by simp[hf0]
  have HN:Hid (jF (a-b)=false):=Zh (by rw[K1.out];simp[hf0]);clear hf0;go_enter Tryz.func236,Tryz.ntmps236;go_wp2_with (first|simp only[S1.out]|simp only[S2.out])
  go_ret2
  exact⟨by rw[HN.out];rfl,Step.of _ _⟩
def qi:List Int->List Int->Int
 |a::l,b::m=>(if 0<=a*b then a*b else 0)+qi l m
 |_,_=>0
def qj:List Int->List Int->Int
 |a::l,b::m=>(if 0<=a*b then 0 else-(a*b))+qj l m
 |_,_=>0
theorem zga:∀l m,zx l m=qi l m-qj l m
 |[],_=>by simp[zx,qi,qj]
 |_::_,[]=>by simp[zx,qi,qj]
 |a::l,b::m=>by simp only[zx,qi,qj];rw[zga l m];split<;>omega
theorem zgb(m:List Int):qi [] m=0:=by cases m<;>rfl
theorem zgc(m:List Int):qj [] m=0:=by cases m<;>rfl
theorem zgd:∀(l m:List Int)(k:Nat)(a b:Int),l[k]? =some a->m[k]? =some b->qi (l.take (k+1)) (m.take (k+1))=qi (l.take k) (m.take k)+(if 0<=a*b then a*b else 0)
 |[],_,_,_,_,h,_=>by simp at h
 |_::_,[],_,_,_,_,h=>by simp at h
 |x::l,y::m,0,a,b,h,h'=>by simp at h h';subst h h';simp[qi,zgb]
 |x::l,y::m,k+1,a,b,h,h'=>by
  have:=zgd l m k a b (by simpa using h) (by simpa using h');simp only[List.take_succ_cons,qi,this];omega
theorem zge:∀(l m:List Int)(k:Nat)(a b:Int),l[k]? =some a->m[k]? =some b->qj (l.take (k+1)) (m.take (k+1))=qj (l.take k) (m.take k)+(if 0<=a*b then 0 else-(a*b))
 |[],_,_,_,_,h,_=>by simp at h
 |_::_,[],_,_,_,_,h=>by simp at h
 |x::l,y::m,0,a,b,h,h'=>by simp at h h';subst h h';simp[qj,zgc]
 |x::l,y::m,k+1,a,b,h,h'=>by
  have:=zge l m k a b (by simpa using h) (by simpa using h');simp only[List.take_succ_cons,qj,this];omega
theorem zgf{A B:Int}(hA:0<=A)(hB:0<=B):∀(l m:List Int),(∀x∈l,-A<=x/\x<=A)->(∀x∈m,-B<=x/\x<=B)->0<=qi l m/\qi l m<=(l.length:Int)*(A*B)/\0<=qj l m/\qj l m<=(l.length:Int)*(A*B)
 |[],m,_,_=>by simp[zgb,zgc]
 |x::l,[],_,_=>by
  have:0<=((x::l).length:Int)*(A*B):=Int.mul_nonneg aa (Int.mul_nonneg hA hB);simp only[qi,qj];omega
 |x::l,y::m,h1,h2=>by
  have ih:=zgf hA hB l m (fun z hz=>h1 z (by simp[hz])) (fun z hz=>h2 z (by simp[hz]));have hx:=h1 x af;have hy:=h2 y af;have:=Qs hx.1 hx.2 hy.1 hy.2;have hAB:0<=A*B:=Int.mul_nonneg hA hB;simp only[qi,qj,List.length_cons];have e:((l.length+1:Nat):Int)*(A*B)=(l.length:Int)*(A*B)+A*B:=by rw[Int.natCast_add,Int.add_mul];omega
  rw[e];split<;>omega
def Qt(z:Int):Bool:=decide (-4611686018427387904<=z/\z<=4611686018427387904)
def zlA(w:World)(z:Int)(e:Ending)(w':World):Prop:=e= .returned (.tuple #[.int .i64 (if Qt z then z else 0),.bool (Qt z)])/\Step w w'
def za9(v:Int):Obj:= .cells #[.int .u64 (ZM v),.int .u64 (Zw v)] 276 (0,0)
theorem zgg(h:w.heap[b]? =some (za9 v)):w.cell? ⟨b,0,none⟩=some (.int .u64 (ZM v))/\w.cell? ⟨b,1,none⟩=some (.int .u64 (Zw v))/\w.frozen? ⟨b,0,none⟩=false/\w.frozen? ⟨b,1,none⟩=false/\b<w.heap.size:=zN h
theorem zb3{v':Int}(h:w.heap[b]? =some (za9 v)):((w.setCell ⟨b,0,none⟩ (.int .u64 (ZM v'))).setCell ⟨b,1,none⟩ (.int .u64 (Zw v'))).heap[b]? =some (za9 v'):=by
 rw[zaj (zbW h)];rfl
theorem zb4{o:Obj}(h:w.heap[b]? =some o)(hne:b≠c)(u v:Value):((w.setCell ⟨c,0,none⟩ u).setCell ⟨c,1,none⟩ v).heap[b]? =some o:=
 (Below.heap_setCell _ ⟨c,1,none⟩ v b hne).trans ((Below.heap_setCell w ⟨c,0,none⟩ u b hne).trans h)
theorem zb5(v x y t:Int)(ht:t=x*y)(h0:0<=v)(h1:v<=20282409603651670423947251286016)(hx0:0<=x)(hx:x<=1099511627776)(hy0:0<=y)(hy:y<=2305843009213693952)(w:World):
  Cq 235 #[.agg #[.int .u64 (ZM v),.int .u64 (Zw v)],.int .u64 x,.int .u64 y] w (zA w (.agg #[.int .u64 (ZM (v+t)),.int .u64 (Zw (v+t))])):=by
 obtain⟨x,rfl⟩:=Int.eq_ofNat_of_zero_le hx0;obtain⟨y,rfl⟩:=Int.eq_ofNat_of_zero_le hy0;have hm:=Nat.mul_le_mul ((aa:x<=1099511627776)) ((aa:y<=2305843009213693952));have:=zlz (w:=w) v x y h0 aa aa aa;have e:((x*y:Nat):Int)=t:=by rw[ht,Int.natCast_mul]
 rw[e]at this;exact this
set_option maxRecDepth 10000 in
theorem zgh(hX:Ints w0 X 2 .i64 x)(hY:Ints w0 Y 2 .i64 y)(hl:y.length=x.length)(h8:x.length<=8)(bx:∀z∈x,-1099511627776<=z/\z<=1099511627776)(by':∀z∈y,-2305843009213693952<=z/\z<=2305843009213693952)[hx:Ext w0 w]:
  Cq 161 #[.slice X x.length c,.slice Y x.length d] w (zlA w (zx x y)):=by
 have hX0:=hX.ext hx;have hY0:=hY.ext hx;obtain⟨n,hN⟩:=Xz x.length;rw[<-hN]at h8|-
 have HN:=Zh hN;have HL:=Zh hl;have HBX:=Zh bx;have HBY:=Zh by'
 clear hN hl bx by'
 go_enter Tryz.func161,Tryz.ntmps161;go_wp2;go_loopw [8,9,10,17] (fun _ _ _ i wr=>∃k:Nat,k<=n/\i= .int .i64 k/\wr.heap[w.heap.size]? =some (za9 (qi (x.take k) (y.take k)))/\wr.heap[w.heap.size+1]? =some (za9 (qj (x.take k) (y.take k)))/\Ext w wr) (fun _ _ _ i _=>n-(intOf i).toNat)
 case atStart=>
  refine⟨0,aa,rfl,?_,?_,Zi⟩
  ·have:=heap_alloc_new w (.cells #[.int .u64 0,.int .u64 0] 276);exact zg (w:=w.alloc (.cells #[.int .u64 0,.int .u64 0] 276)) Zi this
  ·have:=heap_alloc_new (w.alloc (.cells #[.int .u64 0,.int .u64 0] 276)) (.cells #[.int .u64 0,.int .u64 0] 276);rw[World.size_alloc]at this;exact this
 case round=>
  obtain⟨k,hk,rfl,hP,hQ,hxr⟩:=hrel;obtain⟨P,eP⟩:=Xz (qi (x.take k) (y.take k));obtain⟨Q,eQ⟩:=Xz (qj (x.take k) (y.take k));have bPQ:=zgf (A:=1099511627776) (B:=2305843009213693952) aa aa (x.take k) (y.take k) (fun z hz=>HBX.out z (List.mem_of_mem_take hz)) (fun z hz=>HBY.out z (List.mem_of_mem_take hz));rw[<-eP,<-eQ]at bPQ;rw[<-eP]at hP;rw[<-eQ]at hQ;have htl:(x.take k).length<=8:=by rw[List.length_take];have:=HN.out;omega
  obtain⟨bP0,bP1,bQ0,bQ1⟩:=bPQ;have bP2:P<=20282409603651670423947251286016:=aa
  have bQ2:Q<=20282409603651670423947251286016:=aa
  obtain⟨p1,p2,p3,p4,p5⟩:=zgg hP;obtain⟨q1,q2,q3,q4,q5⟩:=zgg hQ;have HP:=Zh hP;have HQ:=Zh hQ;have EP:=Zh eP;have EQ:=Zh eQ;clear hP hQ eP eQ bP1 bQ1 htl;by_cases hlt:k<n
  ·obtain⟨b1,o1,a,rfl,ha,g1,g2⟩:=(hX0.ext hxr).at_ (i:=k) (by have:=HN.out;omega);obtain⟨b2,o2,b,rfl,hb,g3,g4⟩:=(hY0.ext hxr).at_ (i:=k) (by have:=HN.out;have:=HL.out;omega);have ba:=HBX.out a (Zm ha);have bb:=HBY.out b (Zm hb);have HPS:=Zh (zgd x y k a b ha hb);have HQS:=Zh (zge x y k a b ha hb);rw[<-EP.out]at HPS;rw[<-EQ.out]at HQS;clear ha hb;have oP:Old w.heap.size wr:=⟨p5⟩;have oQ:Old (w.heap.size+1) wr:=⟨q5⟩
   obtain⟨ba1,ba2⟩:=ba;obtain⟨bb1,bb2⟩:=bb;by_cases ha0:0<=a
   ·by_cases hb0:0<=b
    ·skip
     have da:decide (0<=a)=true:=by simp;omega
     have da':decide (a<0)=false:=by simp;omega
     have db:decide (0<=b)=true:=by simp;omega
     have db':decide (b<0)=false:=by simp;omega
     obtain⟨t,ht⟩:=Xz (a*b);have htm:a*b=t:=ht.symm;have ht0:0<=t:=by rw[ht];exact Int.mul_nonneg aa aa
     have hC:=zb5 P a b t ht bP0 bP2 aa aa aa aa;have HC:=Zh hC;have hP':qi (x.take (k+1)) (y.take (k+1))=P+t:=by rw[HPS.out,htm,if_pos aa]
     have hQ':qj (x.take (k+1)) (y.take (k+1))=Q:=by rw[HQS.out,htm,if_pos aa];omega
     have HP':=Zh hP';have HQ':=Zh hQ';clear hC ht htm hP' hQ' HPS HQS;go_wp2_with (go_at_call 235;refine(HC.out _).mono ?_;rintro e w1 ⟨rfl,hs1⟩)
     have k1:=zg hs1.ext HP.out;have k2:=zg hs1.ext HQ.out;refine⟨⟨k+1,aa,by go_num,?_,?_,?_⟩,by simp[intOf]<;>omega⟩
     ·rw[HP'.out];exact zb3 k1
     ·rw[HQ'.out];exact zb4 k2 ((aa:w.heap.size+1≠w.heap.size)) _ _
     ·exact((Ext.trans hxr hs1.ext).setCell (p:=⟨w.heap.size,0,none⟩) Zr _).setCell (p:=⟨w.heap.size,1,none⟩) Zr _
    ·skip
     have da:decide (0<=a)=true:=by simp;omega
     have da':decide (a<0)=false:=by simp;omega
     have db:decide (0<=b)=false:=by simp;omega
     have db':decide (b<0)=true:=by simp;omega
     obtain⟨t,ht⟩:=Xz (a*(-b));have htm:a*b=-t:=by rw[ht,Int.mul_neg,Int.neg_neg]
     have ht0:0<=t:=by rw[ht];exact Int.mul_nonneg aa aa
     have hC:=zb5 Q a (-b) t ht bQ0 bQ2 aa aa aa aa;have HC:=Zh hC;have hP':qi (x.take (k+1)) (y.take (k+1))=P:=by
      rw[HPS.out,htm];split<;>omega
     have hQ':qj (x.take (k+1)) (y.take (k+1))=Q+t:=by
      rw[HQS.out,htm];split<;>omega
     have HP':=Zh hP';have HQ':=Zh hQ';clear hC ht htm hP' hQ' HPS HQS;go_wp2_with (go_at_call 235;refine(HC.out _).mono ?_;rintro e w1 ⟨rfl,hs1⟩)
     have k1:=zg hs1.ext HQ.out;have k2:=zg hs1.ext HP.out;refine⟨⟨k+1,aa,by go_num,?_,?_,?_⟩,by simp[intOf]<;>omega⟩
     ·rw[HP'.out];exact zb4 k2 ((aa:w.heap.size≠w.heap.size+1)) _ _
     ·rw[HQ'.out];exact zb3 k1
     ·exact((Ext.trans hxr hs1.ext).setCell (p:=⟨w.heap.size+1,0,none⟩) (Nat.le_succ _) _).setCell (p:=⟨w.heap.size+1,1,none⟩) (Nat.le_succ _) _
   ·by_cases hb0:0<=b
    ·skip
     have da:decide (0<=a)=false:=by simp;omega
     have da':decide (a<0)=true:=by simp;omega
     have db:decide (0<=b)=true:=by simp;omega
     have db':decide (b<0)=false:=by simp;omega
     obtain⟨t,ht⟩:=Xz ((-a)*b);have htm:a*b=-t:=by rw[ht,Int.neg_mul,Int.neg_neg]
     have ht0:0<=t:=by rw[ht];exact Int.mul_nonneg aa aa
     have hC:=zb5 Q (-a) b t ht bQ0 bQ2 aa aa aa aa;have HC:=Zh hC;have hP':qi (x.take (k+1)) (y.take (k+1))=P:=by
      rw[HPS.out,htm];split<;>omega
     have hQ':qj (x.take (k+1)) (y.take (k+1))=Q+t:=by
      rw[HQS.out,htm];split<;>omega
     have HP':=Zh hP';have HQ':=Zh hQ';clear hC ht htm hP' hQ' HPS HQS;go_wp2_with (go_at_call 235;refine(HC.out _).mono ?_;rintro e w1 ⟨rfl,hs1⟩)
     have k1:=zg hs1.ext HQ.out;have k2:=zg hs1.ext HP.out;refine⟨⟨k+1,aa,by go_num,?_,?_,?_⟩,by simp[intOf]<;>omega⟩
     ·rw[HP'.out];exact zb4 k2 ((aa:w.heap.size≠w.heap.size+1)) _ _
     ·rw[HQ'.out];exact zb3 k1
     ·exact((Ext.trans hxr hs1.ext).setCell (p:=⟨w.heap.size+1,0,none⟩) (Nat.le_succ _) _).setCell (p:=⟨w.heap.size+1,1,none⟩) (Nat.le_succ _) _
    ·skip
     have da:decide (0<=a)=false:=by simp;omega
     have da':decide (a<0)=true:=by simp;omega
     have db:decide (0<=b)=false:=by simp;omega
     have db':decide (b<0)=true:=by simp;omega
     obtain⟨t,ht⟩:=Xz ((-a)*(-b));have htm:a*b=t:=by rw[ht,Int.neg_mul_neg]
     have ht0:0<=t:=by rw[ht];exact Int.mul_nonneg aa aa
     have hC:=zb5 P (-a) (-b) t ht bP0 bP2 aa aa aa aa;have HC:=Zh hC;have hP':qi (x.take (k+1)) (y.take (k+1))=P+t:=by rw[HPS.out,htm,if_pos aa]
     have hQ':qj (x.take (k+1)) (y.take (k+1))=Q:=by rw[HQS.out,htm,if_pos aa];omega
     have HP':=Zh hP';have HQ':=Zh hQ';clear hC ht htm hP' hQ' HPS HQS;go_wp2_with (go_at_call 235;refine(HC.out _).mono ?_;rintro e w1 ⟨rfl,hs1⟩)
     have k1:=zg hs1.ext HP.out;have k2:=zg hs1.ext HQ.out;refine⟨⟨k+1,aa,by go_num,?_,?_,?_⟩,by simp[intOf]<;>omega⟩
     ·rw[HP'.out];exact zb3 k1
     ·rw[HQ'.out];exact zb4 k2 ((aa:w.heap.size+1≠w.heap.size)) _ _
     ·exact((Ext.trans hxr hs1.ext).setCell (p:=⟨w.heap.size,0,none⟩) Zr _).setCell (p:=⟨w.heap.size,1,none⟩) Zr _
  ·obtain rfl:k=n:=aa
   clear hlt;have zvr:zx x y=P-Q:=by
    rw[EP.out,EQ.out,<-zga,List.take_of_length_le (by have:=HN.out;omega),List.take_of_length_le (by have:=HN.out;have:=HL.out;omega)]
   have HD:=Zh zvr;clear zvr;have hm1:=fun W=>zf9 (w:=W) P Q bP0 aa bQ0 aa
   have hm2:=fun W=>zf9 (w:=W) Q P bQ0 aa bP0 aa
   unfold JS zf7 at hm1 hm2;have oP:Old w.heap.size wr:=⟨p5⟩;have oQ:Old (w.heap.size+1) wr:=⟨q5⟩
   cases hn1:jF (P-Q)
   ·rw[hn1]at hm1;have h1':¬(0<=P-Q/\P-Q<=4611686018427387904):=of_decide_eq_false hn1
    cases hn2:jF (Q-P)
    ·rw[hn2]at hm2;have h2':¬(0<=Q-P/\Q-P<=4611686018427387904):=of_decide_eq_false hn2;have HB:Hid (Qt (P-Q)=false):=Zh (decide_eq_false aa);have HM1:=Zh hm1;have HM2:=Zh hm2;clear hm1 hm2 h1' h2' hn1 hn2;go_wp2_with (first|(go_at_call 236;refine(HM1.out _).mono ?_;clear HM1;rintro e w1 ⟨rfl,hs1⟩)|(go_at_call 236;refine(HM2.out _).mono ?_;rintro e w2 ⟨rfl,hs2⟩))
     go_ret2
     exact⟨by rw[HD.out,HB.out];rfl,Step.of _ _⟩
    ·rw[hn2]at hm2;have h2':0<=Q-P/\Q-P<=4611686018427387904:=of_decide_eq_true hn2;have HB:Hid (Qt (P-Q)=true):=Zh (decide_eq_true aa);obtain⟨z,hz⟩:=Xz (Q-P);rw[<-hz]at hm2 h2';have HZ:=Zh hz;have HM1:=Zh hm1;have HM2:=Zh hm2;obtain⟨z1,z2⟩:=h2';clear hm1 hm2 h1' hn1 hn2 hz;go_wp2_with (first|(go_at_call 236;refine(HM1.out _).mono ?_;clear HM1;rintro e w1 ⟨rfl,hs1⟩)|(go_at_call 236;refine(HM2.out _).mono ?_;rintro e w2 ⟨rfl,hs2⟩))
     go_ret2
     refine⟨?_,Step.of _ _⟩;rw[HD.out,HB.out,if_pos rfl,show P-Q=-z by have:=HZ.out;omega];rfl
   ·rw[hn1]at hm1;have h1':0<=P-Q/\P-Q<=4611686018427387904:=of_decide_eq_true hn1;have HB:Hid (Qt (P-Q)=true):=Zh (decide_eq_true aa);obtain⟨z,hz⟩:=Xz (P-Q);rw[<-hz]at hm1 h1';have HZ:=Zh hz;have HM1:=Zh hm1;obtain⟨z1,z2⟩:=h1';clear hm1 hm2 hn1 hz;go_wp2_with (go_at_call 236;refine(HM1.out _).mono ?_;clear HM1;rintro e w1 ⟨rfl,hs1⟩)
    go_ret2
    refine⟨?_,Step.of _ _⟩;rw[HD.out,HB.out,if_pos rfl,<-HZ.out];rfl
section
variable {w w':World} {ze:Nat} {e:TypeId} {A:Option Addr} {n c:Nat} {xs:List Value}
theorem Own.open_(h:Own w ze e 1 A n c xs)(hn:0<n):∃g,A=some ⟨g,0,none⟩/\ze<=g/\g<w.heap.size/\(∀i u,xs[i]? =some u->w.cell? ⟨g,i,none⟩=some u/\w.frozen? ⟨g,i,none⟩=false)/\∀i u,i<n->Own (w.setCell ⟨g,i,none⟩ u) ze e 1 (some ⟨g,0,none⟩) n c (xs.set i u):=by
 obtain⟨hl,h2⟩:=h;rcases h2 with ⟨_,h0⟩|⟨g,cap,cur,hv,hb,hh,h3,h4,h5,h6⟩
 ·omega
 ·injection hv with hA hnn hc
  subst hA hc;refine⟨g,rfl,hb,zi hh,fun i u hu=>?_,fun i u hi=>⟨by simpa using hl,.inr ⟨g,c,cur.setIfInBounds i u,rfl,hb,zX hh u,h3,h4,by simpa using h5,?_⟩⟩⟩
  ·rw[<-h6,List.getElem?_take]at hu;split at hu
   ·exact⟨by simp[World.cell?,hh];simpa using hu,by simp[World.frozen?,hh]⟩
   ·cases hu
  ·rw[Array.toList_setIfInBounds,<-h6,List.take_set]
end
def zlB(w:World)(e:TypeId)(k:IntKind)(l:List Int)(ev:Ending)(w':World):Prop:=∃B d,ev= .returned (.slice B l.length d)/\Own w' w.heap.size e 1 B l.length d (l.map (Value.int k))/\Step w w'
theorem zba(h:Ints w0 A 2 .i64 l)(hl:l.length<=1099511627776)[hx:Ext w0 w]:
  Cq 223 #[.slice A l.length c] w (zlB w 2 .i64 l):=by
 have hq:=zfp (P:=Tryz.prog) Tryz.underlying34;have h1:=h.ext hx
 cases A with
 |none=>
  have h0:l=[]:=by
   rcases Nat.eq_zero_or_pos l.length with h0|h0
   ·exact List.eq_nil_of_length_eq_zero h0
   ·obtain⟨b,o,cs,fr,hh,_⟩:=h1 (by simpa using h0)
    cases hh
  subst h0;go_enter Tryz.func223,Tryz.ntmps223;go_wp2;go_ret;exact⟨none,0,rfl,Own.nil _ _ _ _,Step.of _ _⟩
 |some ad=>
  go_enter Tryz.func223,Tryz.ntmps223;go_wp2_with (at_builtin;refine Zp _ rfl _ _ 34 rfl w.heap.size 2 (.int .i64 0) 1 8 Tryz.underlying34 qb rfl aa aa _ 0 _ [] rfl (Own.empty w _) _ l.length c (l.map (Value.int .i64)) rfl (Arr.ext h1 Zi) af zbR aa af ?_;intro A1 c1 w1 zsq hg)
  go_ret;have hxx:Ext w w1:=hg.ext Zi Zr;exact⟨A1,c1,af,by simpa using zsq,hxx.toStep⟩
def zD:List Int->Int
 |[]=>0
 |a::l=>if a=0 then zD l else a
def zJ(x:List Int):List Int:=if zD x<0 then x.map (fun c=>-c) else x
def jG(x:List Int):Bool:=QE x&&!decide (zD x=0)
theorem zgi:∀(l:List Int)(i:Nat),(zD l=0/\Lib.idxByFrom (fun(_:Int)y=>y !=0) default l i=-1)∨(zD l≠0/\∃k,l[k]? =some (zD l)/\k<l.length/\Lib.idxByFrom (fun(_:Int)y=>y !=0) default l i=((i+k:Nat):Int))
 |[],i=> .inl ⟨rfl,rfl⟩
 |a::l,i=>by
  by_cases ha:a=0
  ·have e1:zD (a::l)=zD l:=by simp[zD,ha]
   have e2:Lib.idxByFrom (fun(_:Int)y=>y !=0) default (a::l) i=Lib.idxByFrom (fun(_:Int)y=>y !=0) default l (i+1):=by simp[Lib.idxByFrom,ha]
   rw[e1,e2];rcases zgi l (i+1) with h|⟨h1,k,h2,h3,h4⟩
   ·exact .inl h
   ·exact .inr ⟨h1,k+1,by simpa using h2,by simp;omega,by rw[h4];omega⟩
  ·refine .inr ⟨by simp[zD,ha],0,by simp[zD,ha],af,by simp[Lib.idxByFrom,ha]⟩
theorem zlC:∀w,PredAt Tryz.prog 269 #[] (Value.int .i64) (fun x:Int=>x !=0) w:=fun w W x _=>by
 unfold FnGives;go_enter Tryz.func269,Tryz.ntmps269;go_wp2;go_ret;exact⟨rfl,0,rfl⟩
theorem zgj(h:Ints w0 A 2 .i64 l)(hl:l.length<=1099511627776)[hx:Ext w0 w]:
  Cq 268 #[.slice A l.length c,.func (.func 269) #[] #[]] w fun e w'=>(∃i:Int,e= .returned (.int .i64 i)/\((zD l=0/\i=-1)∨(zD l≠0/\∃k:Nat,l[k]? =some (zD l)/\k<l.length/\i=k)))/\∃q,w'=w.drewN q:=by
 have h0:=h.ext hx;rcases Nat.eq_zero_or_pos l.length with hz|hz
 ·have hl0:=List.eq_nil_of_length_eq_zero hz;subst hl0;exact(Tryz.slices_IndexFunc_empty (α:=Int) A c _ w).mono fun e w'⟨he,hw⟩=>⟨⟨-1,he,.inl ⟨rfl,rfl⟩⟩,0,hw⟩
 ·obtain⟨b,o,-,rfl,-⟩:=h0.at_ hz;refine(Tryz.slices_IndexFunc (α:=Int) (Value.int .i64) (fun x=>x !=0) 269 #[] (enters_of Tryz.func269 ai rfl) b o l.length c l w (zlC w) Zr aa (fun j hj=>?_)).mono ?_
  ·have:=(Jm h0 (i:=j) (x:=l[j]) (by simp[hj])).1;rw[this];simp[hj]
  ·rintro e w' ⟨he,hw⟩;refine⟨⟨_,he,?_⟩,hw⟩;rw[List.take_length];rcases zgi l 0 with ⟨h1,h2⟩|⟨h1,k,h2,h3,h4⟩
   ·exact .inl ⟨h1,h2⟩
   ·exact .inr ⟨h1,k,h2,h3,by unfold Lib.idxBy;rw[h4];simp⟩
def QH(x:List Int)(j:Nat):List Int:=(x.take j).map (fun c=>-c)++x.drop j
theorem zlD(x:List Int)(j:Nat)(y:Int)(h:x[j]? =some y):(QH x j)[j]? =some y:=by
 have hj:=(Zg.1 h).1;rw[QH,List.getElem?_append_right (by simp;omega)];simp only[List.length_map,List.length_take,Nat.min_eq_left (Nat.le_of_lt hj),Nat.sub_self,List.getElem?_drop,Nat.add_zero];exact h
theorem zlE(x:List Int)(j:Nat)(y:Int)(h:x[j]? =some y):(QH x j).set j (-y)=QH x (j+1):=by
 have hj:=(Zg.1 h).1;have hy:=(Zg.1 h).2;rw[QH,QH,List.set_append_right _ _ (by simp;omega),List.drop_eq_getElem_cons hj,hy,List.take_add_one,h];simp[Nat.min_eq_left (Nat.le_of_lt hj)]
theorem zlF(x:List Int)(j:Nat)(h:x.length<=j):QH x j=x.map (fun c=>-c):=by
 rw[QH,List.take_of_length_le h,List.drop_eq_nil_of_le h];simp
def zlG(w:World)(x:List Int)(e:Ending)(w':World):Prop:=
 ((jG x=true/\∃B d,e= .returned (.tuple #[.slice B x.length d,.bool true])/\Ints w' B 2 .i64 (zJ x)/\x.length<=d/\d<=9223372036854775807)∨(jG x=false/\e= .returned (.tuple #[.slice none 0 0,.bool false])))/\Step w w'
theorem zlH(h:Ints w0 X 2 .i64 x)(hl:x.length<=1099511627776)[hx:Ext w0 w]:
  Cq 216 #[.slice X x.length c] w (zlG w x):=by
 have h0:=h.ext hx
 cases hr:QE x
 ·have HF:Hid (jG x=false):=Zh (by simp[jG,hr]);have hir:=fun W(hxx:Ext w0 W)=>zbX (w:=W) (c:=c) h hl
  rw[hr]at hir;have HI:=Zh hir;clear hir hr;go_enter Tryz.func216,Tryz.ntmps216;go_wp2_with (go_at_call 214;refine(HI.out _ Zi).mono ?_;rintro e w' ⟨rfl,rfl⟩)
  go_ret2
  exact⟨.inr ⟨HF.out,rfl⟩,Step.of _ _⟩
 have hir:=fun W(hxx:Ext w0 W)=>zbX (w:=W) (c:=c) h hl
 rw[hr]at hir;have HI:=Zh hir;have HX:=Zh (JR.1 hr);clear hir;by_cases hz:zD x=0
 ·have HF:Hid (jG x=false):=Zh (by simp[jG,hz]);have hix:=fun W(hxx:Ext w0 W)=>(zgj (w:=W) (c:=c) h hl).mono (R':=fun e w'=>e= .returned (.int .i64 (-1))/\∃q,w'=W.drewN q) (fun e w'⟨⟨i,he,hi⟩,hq⟩=>⟨by rcases hi with ⟨_,rfl⟩|⟨hh,_⟩;exact he;exact absurd hz hh,hq⟩)
  have HX2:=Zh hix;clear hix hr hz;go_enter Tryz.func216,Tryz.ntmps216;go_wp2_with (first
   |(go_at_call 214;refine(HI.out _ Zi).mono ?_;rintro e w' ⟨rfl,rfl⟩)
   |(go_at_call 268;refine(HX2.out _ Zi).mono ?_;rintro e w' ⟨rfl,q,rfl⟩))
  go_ret2
  exact⟨.inr ⟨HF.out,rfl⟩,Step.of _ _⟩
 have HC:Hid (jG x=true):=Zh (by simp[jG,hr,hz]);have hix:=fun W(hxx:Ext w0 W)=>(zgj (w:=W) (c:=c) h hl).mono (R':=fun e w'=>(∃k:Nat,x[k]? =some (zD x)/\k<x.length/\e= .returned (.int .i64 k))/\∃q,w'=W.drewN q) (fun e w'⟨⟨i,he,hi⟩,hq⟩=>⟨by
  rcases hi with ⟨hh,_⟩|⟨_,k,h1,h2,h3⟩
  ·exact absurd hh hz
  ·exact⟨k,h1,h2,by rw[he,h3]⟩,hq⟩)
 have HX2:=Zh hix;have hcl:=fun W(hxx:Ext w0 W)=>zba (w:=W) (c:=c) h hl
 have HCL:=Zh hcl;clear hix hcl hr;obtain⟨f,hf⟩:=Xz (zD x);rw[<-hf]at HX2 hz;have HFF:=Zh hf;clear hf;go_enter Tryz.func216,Tryz.ntmps216;by_cases zsu:f<0
 ·have hL:Hid (zJ x=x.map (fun c=>-c)):=Zh (by unfold zJ;rw[<-HFF.out,if_pos zsu]);have hfd:decide (f<0)=true:=by simpa using zsu
  go_wp2_with (first
   |(go_at_call 214;refine(HI.out _ Zi).mono ?_;rintro e w' ⟨rfl,rfl⟩)
   |(go_at_call 268;refine(HX2.out _ Zi).mono ?_;rintro e w' ⟨⟨k,hk1,hk2,rfl⟩,q,rfl⟩;(have HK:=Zh hk1);clear hk1)
   |(go_at_call 223;refine(HCL.out _ Zi).mono ?_;rintro e w1 ⟨B,d,rfl,zsq,hs1⟩;obtain⟨b1,o1,y1,rfl,hy1,hc1,hb1⟩:=(h0.ext (Zi:Ext w w1)).at_ (i:=k) hk2;(obtain rfl:y1=f:=by rw[HK.out]at hy1;injection hy1 with hy1;exact hy1.symm);clear hy1))
  have zvs:Own w1 w.heap.size 2 1 B x.length d ((QH x 0).map (Value.int .i64)):=by simpa[QH] using zsq
  obtain⟨g,rfl,-,-,-,-⟩:=zsq.open_ aa;have hx1:Ext w w1:=Zi;clear zsq hc1 hk2 hb1 HK;go_loopw [6,7,24] (fun _ _ i wr=>∃j:Nat,j<=x.length/\i= .int .i64 j/\Own wr w.heap.size 2 1 (some ⟨g,0,none⟩) x.length d ((QH x j).map (Value.int .i64))/\Ext w wr) (fun _ _ i _=>x.length-(intOf i).toNat)
  case atStart=>exact⟨0,aa,rfl,zvs,hx1⟩
  case round=>
   obtain⟨j,hj,rfl,zsq,hxr⟩:=hrel;clear zvs hx1;by_cases hlt:j<x.length
   ·obtain⟨y,hy⟩:∃y,x[j]? =some y:=⟨_,Ze hlt⟩;obtain⟨g1,g2⟩:=Jm (h0.ext hxr) hy;obtain⟨g',hg,hb,hsz,ztB,zvt⟩:=zsq.open_ aa;injection hg with hg
    injection hg with hg _
    subst hg;obtain⟨c1,c2⟩:=ztB j (.int .i64 y) (by rw[List.getElem?_map,zlD x j y hy];rfl);have hst:=zvt j (.int .i64 (-y)) aa;rw[show ((QH x j).map (Value.int .i64)).set j (.int .i64 (-y))=(QH x (j+1)).map (Value.int .i64) by rw[<-zlE x j y hy,List.map_set]]at hst;have hyb:=HX.out y (Zm hy);obtain⟨zwN,zwO⟩:=hyb;have HST:=Zh hst;clear hst zvt ztB hy;go_wp2;refine⟨⟨j+1,aa,by go_num,HST.out,hxr.setCell (p:=⟨g,j,none⟩) hb _⟩,by simp[intOf]<;>omega⟩
   ·obtain rfl:j=x.length:=aa
    clear hlt;go_wp2;go_ret2
    have zsB:=zsq.cap;refine⟨.inl ⟨HC.out,_,_,rfl,?_,zsB.1,zsB.2⟩,Step.of _ _⟩;rw[hL.out,<-zlF x x.length Zr];exact zsq.arr
 ·have hL:Hid (zJ x=x):=Zh (by unfold zJ;rw[<-HFF.out,if_neg zsu]);have hfd:decide (f<0)=false:=by simpa using zsu
  go_wp2_with (first
   |(go_at_call 214;refine(HI.out _ Zi).mono ?_;rintro e w' ⟨rfl,rfl⟩)
   |(go_at_call 268;refine(HX2.out _ Zi).mono ?_;rintro e w' ⟨⟨k,hk1,hk2,rfl⟩,q,rfl⟩;(have HK:=Zh hk1);clear hk1)
   |(go_at_call 223;refine(HCL.out _ Zi).mono ?_;rintro e w1 ⟨B,d,rfl,zsq,hs1⟩;obtain⟨b1,o1,y1,rfl,hy1,hc1,hb1⟩:=(h0.ext (Zi:Ext w w1)).at_ (i:=k) hk2;(obtain rfl:y1=f:=by rw[HK.out]at hy1;injection hy1 with hy1;exact hy1.symm);clear hy1))
  go_ret2
  have zsB:=zsq.cap;exact⟨.inl ⟨HC.out,_,_,rfl,by rw[hL.out];exact zsq.arr,zsB.1,zsB.2⟩,Step.of _ _⟩
theorem zgk(a b:Int):Cq 234 #[.int .i64 a,.int .i64 b] w (Zq w (.int .i64 (zo a b))):=by
 by_cases h1:a<b
 ·have HC:=Zh (qr h1);have d1:decide (a<b)=true:=by simpa using h1
  clear h1;go_enter Tryz.func234,Tryz.ntmps234;go_wp2;go_ret;exact⟨by rw[HC.out];rfl,rfl⟩
 ·have d1:decide (a<b)=false:=by simpa using h1
  by_cases h2:b<a
  ·have HC:=Zh (Ql h2);have d2:decide (b<a)=true:=by simpa using h2
   clear h1 h2;go_enter Tryz.func234,Tryz.ntmps234;go_wp2;go_ret;exact⟨by rw[HC.out];rfl,rfl⟩
  ·have HC:=Zh (Qm ((aa:a=b)));have d2:decide (b<a)=false:=by simpa using h2
   clear h1 h2;go_enter Tryz.func234,Tryz.ntmps234;go_wp2;go_ret;exact⟨by rw[HC.out];rfl,rfl⟩
def zn:List Int->List Int->Int
 |[],[]=>0
 |[],_::_=>-1
 |_::_,[]=>1
 |a::l,b::m=>if zo a b=0 then zn l m else zo a b
theorem zlI(hX:Ints w0 X 2 .i64 x)(hY:Ints w0 Y 2 .i64 y)(hx1:x.length<=1099511627776)(hy1:y.length<=1099511627776)[hx:Ext w0 w]:
  Cq 160 #[.slice X x.length c,.slice Y y.length d] w (Zq w (.int .i64 (zn x y))):=by
 have hX0:=hX.ext hx;have hY0:=hY.ext hx;go_enter Tryz.func160,Tryz.ntmps160;go_wp2;go_loop [5,6,7,8,11] (fun _ _ _ _ i=>∃k:Nat,k<=x.length/\k<=y.length/\i= .int .i64 k/\Hid (zn x y=zn (x.drop k) (y.drop k))) (fun _ _ _ _ i=>x.length-(intOf i).toNat)
 case atStart=>exact⟨0,aa,aa,rfl,Zh rfl⟩
 case round=>
  obtain⟨k,hk1,hk2,rfl,HE⟩:=hrel;by_cases hlt:k<x.length
  ·obtain⟨b1,o1,a,rfl,ha,g1,g2⟩:=hX0.at_ hlt;by_cases ztb:k<y.length
   ·obtain⟨b2,o2,b,rfl,hb,g3,g4⟩:=hY0.at_ ztb;have ea:x.drop k=a::x.drop (k+1):=by rw[List.drop_eq_getElem_cons hlt,(Zg.1 ha).2]
    have eb:y.drop k=b::y.drop (k+1):=by rw[List.drop_eq_getElem_cons ztb,(Zg.1 hb).2]
    have HE2:Hid (zn x y=if zo a b=0 then zn (x.drop (k+1)) (y.drop (k+1)) else zo a b):=Zh (by rw[HE.out,ea,eb,zn]);have hd:decide ((y.length:Int)<=(k:Int))=false:=by simp;omega
    obtain⟨z,hz⟩:=Xz (zo a b);have hc:=fun W=>zgk (w:=W) a b
    rw[<-hz]at HE2 hc;have HC:=Zh hc;clear ha hb ea eb hz hc HE;by_cases hz0:z=0
    ·have hzb:(z !=0)=false:=by simp[hz0]
     have HE3:Hid (zn x y=zn (x.drop (k+1)) (y.drop (k+1))):=Zh (by rw[HE2.out,if_pos hz0]);clear hz0 HE2;go_wp2_with (go_at_call 234;refine(HC.out _).mono ?_;rintro e w' ⟨rfl,rfl⟩)
     refine⟨⟨k+1,aa,aa,by go_num,HE3⟩,by simp[intOf]<;>omega⟩
    ·have hzb:(z !=0)=true:=by simp[hz0]
     have HE3:Hid (zn x y=z):=Zh (by rw[HE2.out,if_neg hz0]);clear hz0 HE2;go_wp2_with (go_at_call 234;refine(HC.out _).mono ?_;rintro e w' ⟨rfl,rfl⟩)
     go_ret;exact⟨by rw[HE3.out];rfl,rfl⟩
   ·have ea:x.drop k=a::x.drop (k+1):=by rw[List.drop_eq_getElem_cons hlt,(Zg.1 ha).2]
    have ey:y.drop k=[]:=List.drop_eq_nil_of_le aa;have HE2:Hid (zn x y=1):=Zh (by rw[HE.out,ea,ey];rfl);have hd:decide ((y.length:Int)<=(k:Int))=true:=by simp;omega
    clear ha ea ey HE;go_wp2;go_ret;exact⟨by rw[HE2.out];rfl,rfl⟩
  ·have hkx:k=x.length:=aa
   by_cases ztb:x.length<y.length
   ·have HE2:Hid (zn x y=-1):=Zh (by
     rw[HE.out,List.drop_eq_nil_of_le aa,List.drop_eq_getElem_cons (aa:k<y.length)];rfl)
    clear HE hkx;go_wp2;go_ret;exact⟨by rw[HE2.out];rfl,rfl⟩
   ·have HE2:Hid (zn x y=0):=Zh (by
     rw[HE.out,List.drop_eq_nil_of_le aa,List.drop_eq_nil_of_le aa];rfl)
    clear HE hkx;go_wp2;go_ret;exact⟨by rw[HE2.out];rfl,rfl⟩
theorem zdF(hX:Ints w0 X 2 .i64 x)(hY:Ints w0 Y 2 .i64 y)(hx1:x.length<=1099511627776)(hy1:y.length<=1099511627776)[hx:Ext w0 w]:
  Cq 93 #[.slice X x.length c,.slice Y y.length d] w (Zq w (.int .i64 (zn x y))):=by
 go_enter Tryz.func93,Tryz.ntmps93;go_wp2_with (go_at_call 160;refine(zlI hX hY hx1 hy1).mono ?_;rintro e w' ⟨rfl,rfl⟩)
 go_ret;exact⟨rfl,rfl⟩
def Jp(a b:Int):Int:=if a=0 then b else a
theorem zlJ{a b:Int}(h1:w.cell? ⟨g,0,none⟩=some (.int .i64 a))(h2:w.cell? ⟨g,1,none⟩=some (.int .i64 b)):
  Cq 267 #[.slice (some ⟨g,0,none⟩) 2 2] w (Zq w (.int .i64 (Jp a b))):=by
 go_enter Tryz.func267,Tryz.ntmps267;go_wp2;go_loop [5,8] (fun _ i=>(i= .int .i64 0)∨(i= .int .i64 1/\a=0)∨(i= .int .i64 2/\a=0/\b=0)) (fun _ i=>2-(intOf i).toNat)
 case atStart=>exact .inl rfl
 case round=>
  rcases hrel with rfl|⟨rfl,ha⟩|⟨rfl,ha,hb⟩
  ·by_cases h0:a=0
   ·have hb0:(a !=0)=false:=by simp[h0]
    have H0:=Zh h0;clear h0;go_wp2;exact⟨.inr (.inl ⟨rfl,H0.out⟩),ac⟩
   ·have hb0:(a !=0)=true:=by simp[h0]
    have HV:Hid (Jp a b=a):=Zh (if_neg h0);clear h0;go_wp2;go_ret;exact⟨by rw[HV.out];rfl,rfl⟩
  ·have HA:=Zh ha;by_cases h0:b=0
   ·have hb0:(b !=0)=false:=by simp[h0]
    have H0:=Zh h0;clear h0 ha;go_wp2;exact⟨.inr (.inr ⟨rfl,HA.out,H0.out⟩),ac⟩
   ·have hb0:(b !=0)=true:=by simp[h0]
    have HV:Hid (Jp a b=b):=Zh (if_pos ha);clear h0 ha;go_wp2;go_ret;exact⟨by rw[HV.out];rfl,rfl⟩
  ·have HV:Hid (Jp a b=0):=Zh (by unfold Jp;rw[if_pos ha,hb]);clear ha hb;go_wp2;go_ret;exact⟨by rw[HV.out];rfl,rfl⟩
def qs(a b:Int)(x y:List Int):Int:=Jp (zo a b) (zn x y)
theorem zgl{a b:Int}(hX:Ints w X 2 .i64 x)(hY:Ints w Y 2 .i64 y)(hx1:x.length<=1099511627776)(hy1:y.length<=1099511627776):
  Cq 215 #[.agg #[.int .i64 a,.slice X x.length c],.agg #[.int .i64 b,.slice Y y.length d]] w fun e w'=>e= .returned (.int .i64 (qs a b x y))/\∃q os,w'=Sort.grow (w.drewN q) os:=by
 obtain⟨k1,hk1⟩:=Xz (zo a b);obtain⟨k2,hk2⟩:=Xz (zn x y);have hc1:=fun W=>zgk (w:=W) a b
 have hc2:=fun W(hh:Ext w W)=>zdF (w:=W) (c:=c) (d:=d) hX hY hx1 hy1
 rw[<-hk1]at hc1;rw[<-hk2]at hc2;have HK:Hid (qs a b x y=Jp k1 k2):=Zh (by rw[hk1,hk2];rfl);have H1:=Zh hc1;have H2:=Zh hc2;clear hc1 hc2 hk1 hk2;go_enter Tryz.func215,Tryz.ntmps215;go_wp2_with fail
 go_region_held3 (fun w'=>w'.cell? ⟨w.heap.size,0,none⟩=some (.int .i64 a)/\w'.cell? ⟨w.heap.size,1,none⟩=some (.slice X x.length c)/\w'.cell? ⟨w.heap.size+1,0,none⟩=some (.int .i64 b)/\w'.cell? ⟨w.heap.size+1,1,none⟩=some (.slice Y y.length d)) (exact qp w _ _ _ _ _ 259 259)
  (first
   |(go_at_call 234;refine(H1.out _).mono ?_;rintro e w' ⟨rfl,rfl⟩)
   |(go_at_call 93;refine(H2.out _ Zi).mono ?_;rintro e w' ⟨rfl,rfl⟩)
   |(go_at_call 267;refine(zlJ (a:=k1) (b:=k2) (by simp[go_sem]) (by simp[go_sem])).mono ?_;rintro e w' ⟨rfl,rfl⟩))
 go_wp2;go_ret;refine⟨by rw[HK.out];rfl,1,#[.cells #[.int .i64 a,.slice X x.length c] 259,.cells #[.int .i64 b,.slice Y y.length d] 259,.cells #[.int .i64 k1,.int .i64 k2] 3],?_⟩;rw[Sort.alloc_eq_grow,Sort.alloc_eq_grow,Sort.alloc_eq_grow,Sort.grow_grow,Sort.grow_grow];rfl
theorem zat(a b:Int):(a<b/\zo a b=-1)∨(a=b/\zo a b=0)∨(b<a/\zo a b=1):=by
 rcases Int.lt_trichotomy a b with h|h|h
 ·exact .inl ⟨h,qr h⟩
 ·exact .inr (.inl ⟨h,Qm h⟩)
 ·exact .inr (.inr ⟨h,Ql h⟩)
theorem jk:∀x,zn x x=0
 |[]=>rfl
 |a::l=>by simp[zn,Qm,jk l]
theorem jH:∀x y,zn x y=0->x=y
 |[],[],_=>rfl
 |[],_::_,h=>by simp[zn]at h
 |_::_,[],h=>by simp[zn]at h
 |a::l,b::m,h=>by
  rcases zat a b with ⟨h1,h2⟩|⟨h1,h2⟩|⟨h1,h2⟩<;>simp[zn,h2]at h
  rw[h1,jH l m h]
theorem Qc:∀x y,zn y x=-zn x y
 |[],[]=>rfl
 |[],_::_=>rfl
 |_::_,[]=>rfl
 |a::l,b::m=>by
  rcases zat a b with ⟨h1,h2⟩|⟨h1,h2⟩|⟨h1,h2⟩
  ·have:=Ql h1;simp[zn,h2,this]
  ·have:=Qm h1.symm;simp[zn,h2,this,Qc l m]
  ·have:=qr h1;simp[zn,h2,this]
theorem JT:∀x y z,zn x y<0->zn y z<0->zn x z<0
 |[],[],_,h,_=>by simp[zn]at h
 |[],_::_,[],_,h=>by simp[zn]at h
 |[],_::_,_::_,_,_=>by simp[zn]
 |_::_,[],_,h,_=>by simp[zn]at h
 |_::_,_::_,[],_,h=>by simp[zn]at h
 |a::l,b::m,c::n,h,h'=>by
  rcases zat a b with ⟨h1,h2⟩|⟨h1,h2⟩|⟨h1,h2⟩<;>rcases zat b c with ⟨k1,k2⟩|⟨k1,k2⟩|⟨k1,k2⟩<;>simp[zn,h2]at h<;>simp[zn,k2]at h'
  ·have:=qr ((aa:a<c));simp[zn,this]
  ·have:=qr ((aa:a<c));simp[zn,this]
  ·have:=qr ((aa:a<c));simp[zn,this]
  ·have:=Qm ((aa:a=c));simp[zn,this];exact JT l m n h h'
theorem zdG(a b:Int)(x y:List Int):qs a b x y=zn (a::x) (b::y):=rfl
theorem zau:∀x y,zn x y=-1∨zn x y=0∨zn x y=1
 |[],[]=> .inr (.inl rfl)
 |[],_::_=> .inl rfl
 |_::_,[]=> .inr (.inr rfl)
 |a::l,b::m=>by
  rcases zat a b with ⟨h1,h2⟩|⟨h1,h2⟩|⟨h1,h2⟩
  ·exact .inl (by simp[zn,h2])
  ·have:=zau l m;simpa[zn,h2] using this
  ·exact .inr (.inr (by simp[zn,h2]))
structure KE where
 key:Int
 A:Option Addr
 c:Nat
 l:List Int
def KE.cmp(x y:KE):Int:=qs x.key y.key x.l y.l
def KE.enc(x:KE):List Value:=[.int .i64 x.key,.slice x.A x.l.length x.c]
def KE.ok(w:World)(x:KE):Prop:=Ints w x.A 2 .i64 x.l/\x.l.length<=1099511627776
def KRow(w:World)(g:Nat)(els:List KE):Prop:=∃cur,w.heap[g]? =some (.cells cur 259 (0,0))/\∀(i:Nat)(x:KE),els[i]? =some x->cur[2*i]? =some (.int .i64 x.key)/\cur[2*i+1]? =some (.slice x.A x.l.length x.c)
structure KEw(w:World)where
 val:KE
 ok:val.ok w
instance (w:World):Inhabited (KEw w):=⟨⟨⟨0,none,0,[]⟩,Ints.nil,af⟩⟩
def jI(w:World)(x:KEw w):List Value:=x.val.enc
def cfW(w:World)(x y:KEw w):Int:=x.val.cmp y.val
theorem zlK(w:World):Sort.SWO (ltOf (cfW w)) where
 irrefl x:=by simp[ltOf,cfW,KE.cmp,zdG,jk]
 trans x y z h1 h2:=by
  have h1:zn (x.1.key::x.1.l) (y.1.key::y.1.l)<0:=of_decide_eq_true h1;have h2:zn (y.1.key::y.1.l) (z.1.key::z.1.l)<0:=of_decide_eq_true h2;exact decide_eq_true (JT _ _ _ h1 h2)
 ntrans x y z h1 h2:=by
  have h1:¬zn (x.1.key::x.1.l) (y.1.key::y.1.l)<0:=of_decide_eq_false h1;have h2:¬zn (y.1.key::y.1.l) (z.1.key::z.1.l)<0:=of_decide_eq_false h2;refine decide_eq_false (fun(h3:zn (x.1.key::x.1.l) (z.1.key::z.1.l)<0)=>?_);have e1:=Qc (x.1.key::x.1.l) (z.1.key::z.1.l);have e2:=Qc (x.1.key::x.1.l) (y.1.key::y.1.l);have e3:=Qc (y.1.key::y.1.l) (z.1.key::z.1.l);-- y <= x, z <= y, x < z
  rcases zau (x.1.key::x.1.l) (y.1.key::y.1.l) with h|h|h
  ·omega
  ·have:=jH _ _ h;rw[this]at h3;omega
  ·rcases zau (y.1.key::y.1.l) (z.1.key::z.1.l) with k|k|k
   ·omega
   ·have:=jH _ _ k;rw[<-this]at h3;omega
   ·have:=JT _ _ _ ((aa:zn (z.1.key::z.1.l) (y.1.key::y.1.l)<0)) ((aa:zn (y.1.key::y.1.l) (x.1.key::x.1.l)<0));omega
theorem zdH{α:Type}[Inhabited α](enc:α->List Value)(k:Nat)(w:World)(g m:Nat)(d:Array α)(os:Array Obj)(hb:b<w.heap.size)(hne:b≠g):(sortWorldK enc k w g 0 m d os).heap[b]? =w.heap[b]? :=by
 have h1:(sortWorldK enc k w g 0 m d os).heap[b]? =(w.heap.modify g (Sort.onCells (Sort.putCells id 0 (Sort.flatK enc k d))))[b]? :=by
  show ((w.heap.modify g _)++os)[b]? =_;rw[Array.getElem?_append_left (by simpa using hb)]
 rw[h1,Array.getElem?_modify,if_neg (fun h=>hne h.symm)]
theorem zlL{α:Type}[Inhabited α](enc:α->List Value)(k:Nat)(w:World)(g m:Nat)(d:Array α)(os:Array Obj){T:TypeId}(hg:w.heap[g]? =some (.cells cur T (0,0))):(sortWorldK enc k w g 0 m d os).heap[g]? =some (.cells (Sort.putCells id 0 (Sort.flatK enc k d) cur) T (0,0)):=by
 have h1:(sortWorldK enc k w g 0 m d os).heap[g]? =(w.heap.modify g (Sort.onCells (Sort.putCells id 0 (Sort.flatK enc k d))))[g]? :=by
  show ((w.heap.modify g _)++os)[g]? =_;rw[Array.getElem?_append_left (by simpa using zi hg)]
 rw[h1,Array.getElem?_modify,if_pos rfl,hg];rfl
theorem zlM{α:Type}[Inhabited α](enc:α->List Value)(k:Nat)(w:World)(g m:Nat)(d:Array α)(os:Array Obj){B:Nat}(hB:B<=g)(hg:g<w.heap.size):Below B w (sortWorldK enc k w g 0 m d os):=
 ⟨rfl,rfl,rfl,by show w.heap.size<=((w.heap.modify g _)++os).size;simp,fun b hb=>zdH enc k w g m d os aa aa⟩
theorem KE.ok_sort{α:Type}[Inhabited α](enc:α->List Value)(k:Nat){m:Nat}{d:Array α}{os:Array Obj}(hg:w.heap[g]? =some (.cells cur 259 (0,0))){x:KE}(h:x.ok w):x.ok (sortWorldK enc k w g 0 m d os):=by
 refine⟨h.1.keep fun b cs fr hb=>zdH enc k w g m d os (zi hb) (fun hh=>?_),h.2⟩;subst hh;rw[hg]at hb;injection hb with hb
 injection hb with _ he
 exact absurd he ac
def Same(g:Nat)(w w':World):Prop:=(∀b,b<w.heap.size->b≠g->w'.heap[b]? =w.heap[b]?)/\(∀B,B<=g->Below B w w')
theorem zlN{cap:Nat}{els:List KE}(zsr:KRow w g els)(hok:∀x∈els,x.ok w)(hn:els.length<4611686018427387904):
  Cq 270 #[.slice (some ⟨g,0,none⟩) els.length cap,.func (.func 215) #[] #[]] w fun e w'=>e= .returned (.tuple #[])/\∃els':List KE,els'.Perm els/\els'.Pairwise (fun x y=>¬y.cmp x<0)/\KRow w' g els'/\(∀x∈els',x.ok w')/\Same g w w':=by
 obtain⟨cur,hg,ztV⟩:=zsr;obtain⟨D,hD⟩:∃D:List (KEw w),D.map KEw.val=els:=⟨els.pmap KEw.mk hok,by rw[List.map_pmap];simp⟩;have hDl:D.length=els.length:=by rw[<-hD];simp
 have ztW:CmpLays Tryz.prog 215 #[] (jI w) 2 (cfW w) g 0 D.toArray.size w:=fun m os dk _ x y=>by
  have hx:=KE.ok_sort (jI w) 2 (m:=m) (d:=dk) (os:=os) hg x.ok;have hy:=KE.ok_sort (jI w) 2 (m:=m) (d:=dk) (os:=os) hg y.ok;exact zgl hx.1 hy.1 hx.2 hy.2
 have hH:Sort.HoldsK (jI w) 2 w g 0 D.toArray:=fun j hj=>by
  rw[Sort.size_flatK]at hj;have hj2:j / 2<D.length:=by simp at hj;omega
  obtain⟨x,hx⟩:∃x,D[j / 2]? =some x:=⟨_,Ze hj2⟩;have hel:els[j / 2]? =some x.val:=by rw[<-hD,List.getElem?_map,hx];rfl
  have hc:=ztV (j / 2) _ hel;have e1:(Sort.flatK (jI w) 2 D.toArray)[j]! =(x.val.enc)[j%2]! :=by
   rw[Sort.get_flatK _ _ _ _ (by simpa using hj)];have:D.toArray[j / 2]! =x:=by simp[hx]
   rw[this];rfl
  refine⟨?_,by simp[World.frozen?,hg]⟩;rw[id,e1,Nat.zero_add,cell_of_row w g j _ _ _ hg];rcases Nat.mod_two_eq_zero_or_one j with h0|h0
  ·rw[h0];have:=hc.1;rw[(aa:2*(j / 2)=j)]at this;exact this
  ·rw[h0];have:=hc.2;rw[(aa:2*(j / 2)+1=j)]at this;exact this
 have h:=AnyQ.slices_SortFunc (P:=Tryz.prog) Tryz.laysSort 2 Tryz.isAgg259 Tryz.sizeOf259 (jI w) (fun x=>rfl) (fun x v hv=>by
   simp only[jI,KE.enc,List.mem_cons,List.not_mem_nil,or_false]at hv;rcases hv with rfl|rfl<;>rfl) (cfW w) (zlK w) 215 #[] g 0 cap D.toArray w (enters_of Tryz.func215 ai rfl) ztW hH (zi hg) (by simpa[hDl] using hn)
 have e0:D.toArray.size=els.length:=by simpa using hDl
 rw[e0]at h;refine h.mono ?_;rintro e w' ⟨he,d',n,os,⟨hp1,-,hp2⟩,hs,hw⟩;refine⟨he,d'.toList.map KEw.val,?_,?_,?_,?_,?_⟩
 ·have e1:d'.extract 0 els.length=d':=by apply Array.ext';simp;rw[List.take_of_length_le (by simp;omega)]
  have e2:(D.toArray).extract 0 els.length=D.toArray:=by rw[<-e0];exact Array.extract_size
  rw[e1,e2]at hp2;rw[<-hD];exact hp2.map _
 ·rw[List.pairwise_map,List.pairwise_iff_getElem];intro i j hi hj hij;have:=hs i j (Nat.zero_le _) hij (by simp at hj;omega);have e3:d'[j]! =d'.toList[j]:=by simp at hj;simp[hj]
  have e4:d'[i]! =d'.toList[i]:=by simp at hi;simp[hi]
  rw[e3,e4]at this;exact of_decide_eq_false this
 ·refine⟨_,by rw[hw];exact zlL (jI w) 2 w g n d' os hg,fun i x hx=>?_⟩;rw[List.getElem?_map]at hx;obtain⟨y,hy,rfl⟩:∃y,d'.toList[i]? =some y/\y.val=x:=by
   cases hh:d'.toList[i]? with
   |none=>rw[hh]at hx;cases hx
   |some y=>rw[hh]at hx;exact⟨y,rfl,by simpa using hx⟩
  have hi:i<d'.size:=by simpa using (Zg.1 hy).1
  have hdi:d'[i]! =y:=by
   have:=(Zg.1 hy).2;simp[hi];simpa using this
  have hcs:2*i+1<cur.size:=by
   have zss:i<els.length:=aa
   have:=(ztV i els[i] (by simp[zss])).2;exact(Array.getElem?_eq_some_iff.1 this).1
  have key:∀t,t<2->(Sort.putCells id 0 (Sort.flatK (jI w) 2 d') cur)[2*i+t]? =some ((y.val.enc)[t]!):=fun t ht=>by
   unfold Sort.putCells;rw[Array.getElem?_mapIdx,Array.getElem?_eq_getElem aa];simp only[Option.map_some];rw[if_pos (by rw[Sort.size_flatK];omega),Nat.sub_zero,id,Sort.get_flatK _ _ _ _ aa,(aa:(2*i+t) / 2=i),(aa:(2*i+t)%2=t),hdi];rfl
  exact⟨key 0 aa,key 1 aa⟩
 ·intro x hx;obtain⟨y,-,rfl⟩:=List.mem_map.1 hx;rw[hw];exact KE.ok_sort (jI w) 2 hg y.ok
 ·rw[hw];exact⟨fun b hb hne=>zdH _ _ w g n d' os hb hne,fun B hB=>zlM _ _ w g n d' os hB (zi hg)⟩
theorem zgm(h:∃q os,w'=Sort.grow (w.drewN q) os):Step w w':=by
 obtain⟨q,os,rfl⟩:=h;refine⟨⟨rfl,rfl,rfl,by show w.heap.size<=(w.heap++os).size;simp,fun k hk=>?_⟩⟩;show (w.heap++os)[k]? =_;rw[Array.getElem?_append_left hk]
theorem zlO:qB 215:=JQ Tryz.func215 ai ai
theorem zlP:qB 272:=JQ Tryz.func272 ai ai
theorem zlQ{x y:KE}(hp:w.cell? ⟨pb,0,none⟩=some (.pointer (some ⟨sb,0,none⟩)))(hs:w.cell? ⟨sb,1,none⟩=some (.func (.func 215) #[] #[]))(hpb:pb<w.heap.size)(hsb:sb<w.heap.size)(hx:x.ok w)(hy:y.ok w):
  Cq 272 #[.agg #[.int .i64 x.key,.slice x.A x.l.length x.c],.agg #[.int .i64 y.key,.slice y.A y.l.length y.c],.pointer (some ⟨pb,0,none⟩)] w (zA w (.bool (x.cmp y==0))):=by
 obtain⟨kx,X,cx,lx⟩:=x;obtain⟨ky,Y,cy,ly⟩:=y;obtain⟨hX,hxl⟩:=hx;obtain⟨hY,hyl⟩:=hy;dsimp only at hX hY hxl hyl|-
 obtain⟨z,hz⟩:=Xz (qs kx ky lx ly);have hc:=fun W(hh:Ext w W)=>zgl (w:=W) (a:=kx) (b:=ky) (c:=cx) (d:=cy) (hX.ext hh) (hY.ext hh) hxl hyl
 rw[<-hz]at hc;have HZ:Hid (KE.cmp ⟨kx,X,cx,lx⟩ ⟨ky,Y,cy,ly⟩=z):=Zh (by rw[hz];rfl);have HC:=Zh hc;have hfn:=zlO;unfold qB at hfn;have oP:Old pb w:=⟨hpb⟩;have oS:Old sb w:=⟨hsb⟩;clear hz hc;go_enter Tryz.func272,Tryz.ntmps272;go_wp2_with fail
 go_region_held3 (fun w'=>w'.cell? ⟨pb,0,none⟩=some (.pointer (some ⟨sb,0,none⟩))/\w'.cell? ⟨sb,1,none⟩=some (.func (.func 215) #[] #[])/\w'.cell? ⟨w.heap.size,0,none⟩=some (.int .i64 kx)/\w'.cell? ⟨w.heap.size,1,none⟩=some (.slice X lx.length cx)/\w'.cell? ⟨w.heap.size+1,0,none⟩=some (.int .i64 ky)/\w'.cell? ⟨w.heap.size+1,1,none⟩=some (.slice Y ly.length cy)) (first|(refine⟨?_,?_,qp w _ _ _ _ _ 259 259⟩<;>simp[go_sem,hp,hs]))
  (first
   |(go_at_call 215;refine(HC.out _ Zi).mono ?_;rintro e w1 ⟨rfl,hq⟩;(have hs1:=zgm hq);clear hq))
 go_wp2;go_ret;exact⟨by rw[HZ.out];rfl,Step.of _ _⟩
theorem KRow.ext{els:List KE}(h:KRow w g els)(hx:Ext w w'):KRow w' g els:=by
 obtain⟨cur,h1,h2⟩:=h;exact⟨cur,zg hx h1,h2⟩
theorem KRow.cells{els:List KE}(h:KRow w g els){x:KE}(hx:els[i]? =some x):w.cell? ⟨g,i*2,none⟩=some (.int .i64 x.key)/\w.cell? ⟨g,i*2+1,none⟩=some (.slice x.A x.l.length x.c)/\g<w.heap.size:=by
 obtain⟨cur,h1,h2⟩:=h;obtain⟨a,b⟩:=h2 i x hx;rw[Nat.mul_comm]at a b;exact⟨by simp[World.cell?,h1];exact a,by simp[World.cell?,h1];exact b,zi h1⟩
theorem KE.ok.ext{x:KE}(h:x.ok w)(hx:Ext w w'):x.ok w':=⟨h.1.ext hx,h.2⟩
theorem zlR{cap:Nat}{els:List KE}(zsr:KRow w g els)(hok:∀x∈els,x.ok w)(hn:els.length<=1099511627776)(hne:∀i x y,els[i]? =some x->els[i+1]? =some y->(y.cmp x==0)=false)
  (hp:w.cell? ⟨pb,0,none⟩=some (.pointer (some ⟨sb,0,none⟩))) (hs:w.cell? ⟨sb,1,none⟩=some (.func (.func 215) #[] #[])) (hpb:pb<w.heap.size) (hsb:sb<w.heap.size):
  Cq 271 #[.slice (some ⟨g,0,none⟩) els.length cap,.func (.func 272) #[] #[.pointer (some ⟨pb,0,none⟩)]] w (zA w (.slice (some ⟨g,0,none⟩) els.length cap)):=by
 by_cases h2:els.length<2
 ·go_enter Tryz.func271,Tryz.ntmps271;go_wp2;go_ret;exact⟨rfl,Step.of _ _⟩
 have hfn:=zlP;unfold qB at hfn;obtain⟨n,hN⟩:=Xz els.length;have HN:=Zh hN;rw[<-hN]at hn h2|-
 have HNE:=Zh hne;have HOK:=Zh hok;have HP:=Zh hp;have HS:=Zh hs;clear hN hne hok hp hs;go_enter Tryz.func271,Tryz.ntmps271;go_wp2;go_loopw [5] (fun i wr=>∃k:Nat,1<=k/\k<=n/\i= .int .i64 k/\Ext w wr) (fun i _=>n-(intOf i).toNat)
 case atStart=>exact⟨1,aa,aa,rfl,Zi⟩
 case round=>
  obtain⟨k,hk1,hk2,rfl,hxr⟩:=hrel;by_cases hlt:k<n
  ·obtain⟨j,HJ⟩:∃j,Hid (k=j+1):=⟨k-1,Zh aa⟩;obtain⟨x,hx⟩:∃x,els[k]? =some x:=⟨_,Ze (by have:=HN.out;omega)⟩;obtain⟨y,hy⟩:∃y,els[j]? =some y:=⟨_,Ze (by have:=HN.out;have:=HJ.out;omega)⟩;obtain⟨c1,c2,c3⟩:=(zsr.ext hxr).cells hx;obtain⟨c4,c5,-⟩:=(zsr.ext hxr).cells hy;have hz:=HNE.out j y x hy (by rw[<-HJ.out];exact hx);have zsD:=fun W(hh:Ext w W)=>zlQ (w:=W) (x:=x) (y:=y) ((hh.below.cell (p:=⟨pb,0,none⟩) hpb).trans HP.out) ((hh.below.cell (p:=⟨sb,1,none⟩) hsb).trans HS.out) (Nat.lt_of_lt_of_le hpb hh.size) (Nat.lt_of_lt_of_le hsb hh.size) ((HOK.out x (Zm hx)).ext hh) ((HOK.out y (Zm hy)).ext hh)
   rw[hz]at zsD;have HC:=Zh zsD;have hjk:j=k-1:=by have:=HJ.out;omega
   rw[hjk]at c4 c5;clear zsD hz hx hy hjk;have hw1:IntKind.i64.wrap ((k:Int)-1)=(k:Int)-1:=Iw;have hw2:((k:Int)-1).toNat=k-1:=aa
   have hw3:0<=(k:Int)-1:=aa
   have hw4:(k:Int)-1<(n:Int):=aa
   have hw5:(1:Int)<=(k:Int):=aa
   have oG:Old g wr:=⟨c3⟩;go_wp2_with fail
   go_region_held3 (fun w'=>w'.cell? ⟨g,k*2,none⟩=some (.int .i64 x.key)/\w'.cell? ⟨g,k*2+1,none⟩=some (.slice x.A x.l.length x.c)/\w'.cell? ⟨g,(k-1)*2,none⟩=some (.int .i64 y.key)/\w'.cell? ⟨g,(k-1)*2+1,none⟩=some (.slice y.A y.l.length y.c)) ((simp only[zk wr];exact⟨c1,c2,c4,c5⟩))
    (first
     |(go_at_call 272;refine(HC.out _ Zi).mono ?_;rintro e w1 ⟨rfl,hs1⟩))
   all_goals
    go_wp2;refine⟨⟨k+1,aa,aa,by go_num,Zi⟩,by simp[intOf]<;>omega⟩
  ·obtain rfl:k=n:=aa
   clear hlt;go_wp2;go_ret;exact⟨rfl,Step.of _ _⟩
end
end Go.Proofs.YtgoaelchibpffaaGreat
