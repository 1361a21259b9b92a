import Derived.Test.YtgoaelchibpffaaGreatT27
set_option maxHeartbeats 8000000
set_option linter.unusedVariables false
set_option linter.unusedSimpArgs false
namespace Go.Proofs.YtgoaelchibpffaaGreat
open Go.RowKit La
open List (mem_append length_replicate length_map)
variable {budget:Int} {P b:List (List Int)} {tot:List Int} {tv:List Value} {B bc c ca dx ll n q:Nat} {A X:Option Addr} {T:TypeId} {w w' w0:World}
theorem zqA:(Tryz.prog.info? 75).map (fun i=>(i.zero,i.size,i.bytes))=some (some (.slice none 0 0),1,24):=ai
theorem zqB:(Tryz.prog.info? 184).map (fun i=>(i.zero,i.size,i.bytes))=some (some (.agg #[.int .i64 0,.int .u64 0]),2,16):=ai
structure SeaN(c:SeaC)(B:Nat)(w:World)(a b P:List (List Int))(tk:Nat):Prop where
 blk:w.heap[c.sb]? =some (.cells #[.slice c.bA c.n c.bc,.slice c.PA c.N c.pc,.slice c.DA c.N c.dc,.slice c.NA c.N c.nc,.slice none 0 0,.slice none 0 0,.slice (some ⟨c.cb,0,none⟩) (c.n+1:Nat) (c.n+1:Nat),.slice c.TA tk c.tc,.slice (some ⟨c.ob,0,none⟩) (c.n+1:Nat) (c.n+1:Nat),.bool false] 182 (0,0))
 heads:VRow w c.cb 75 (c.hs.map (Q8 c.N)++List.replicate (c.n+1-c.hs.length) (.slice none 0 0))
 rws:∀g∈c.hs,Row w g 155 .u64 (List.replicate c.N 0)
 hl:c.hs.length<=c.n+1
 dist:∀(i j g:Nat),c.hs[i]? =some g->c.hs[j]? =some g->i=j
 tots:Row w c.ob 155 .u64 (List.replicate (c.n+1) 0)
 obn:c.ob∉c.hs
 trs:Own w B 184 2 c.TA tk c.tc (ZT b tk fun _=>0)
 pts:Mat64 w c.PA P
 duals:Mat64 w c.DA (P.map (zC a))
 norms:Ints w c.NA 2 .i64 (P.map (zh a))
 plen:P.length=c.N
 bsb:B<=c.sb
 bcb:B<=c.cb
 bob:B<=c.ob
 bhs:∀g∈c.hs,B<=g
section
variable {c:SeaC} {B:Nat} {w w':World} {a b P:List (List Int)} {tk:Nat}
theorem SeaN.ext(h:SeaN c B w a b P tk)(hx:Ext w w'):SeaN c B w' a b P tk:=
 ⟨zg hx h.blk,zg hx h.heads,fun g hg=>(h.rws g hg).ext hx,h.hl,h.dist,h.tots.ext hx,h.obn,h.trs.ext hx,h.pts.ext hx,h.duals.ext hx,h.norms.ext hx,h.plen,h.bsb,h.bcb,h.bob,h.bhs⟩
theorem SeaN.put(h:SeaN c B w a b P tk)(hk:c.hs.length<c.n+1){g:Nat}(hg:Row w g 155 .u64 (List.replicate c.N 0))(hB:B<=g)(hgn:g∉c.hs)(hgo:g≠c.ob):
  SeaN {c with hs:=c.hs++[g]} B (w.setCell ⟨c.cb,c.hs.length,none⟩ (.slice (some ⟨g,0,none⟩) c.N c.N)) a b P tk:=by
 have ho:Oth 75 w (w.setCell ⟨c.cb,c.hs.length,none⟩ (.slice (some ⟨g,0,none⟩) c.N c.N)):=Oth.set (p:=⟨c.cb,c.hs.length,none⟩) h.heads _;have hr:∀g',Row w g' 155 .u64 (List.replicate c.N 0)->Row (w.setCell ⟨c.cb,c.hs.length,none⟩ (.slice (some ⟨g,0,none⟩) c.N c.N)) g' 155 .u64 (List.replicate c.N 0):=fun g' hg'=>ho _ _ _ _ ac hg'
 refine⟨ho _ _ _ _ ac h.blk,?_,fun g' hg'=>?_,by simp;omega,fun i j g' h1 h2=>?_,ho _ _ _ _ ac h.tots,fun hm=>?_,h.trs.oth ho ac,h.pts.oth ho ac ac,h.duals.oth ho ac ac,h.norms.oth ho ac,h.plen,h.bsb,h.bcb,h.bob,fun g' hg'=>?_⟩
 ·have h1:=h.heads.set c.hs.length (.slice (some ⟨g,0,none⟩) c.N c.N);have e:(c.hs.map (Q8 c.N)++List.replicate (c.n+1-c.hs.length) (Value.slice none 0 0)).set c.hs.length (.slice (some ⟨g,0,none⟩) c.N c.N)=(c.hs++[g]).map (Q8 c.N)++List.replicate (c.n+1-(c.hs++[g]).length) (.slice none 0 0):=by
   obtain⟨t,ht⟩:∃t,c.n+1-c.hs.length=t+1:=⟨c.n+1-c.hs.length-1,aa⟩;have ht2:c.n+1-(c.hs++[g]).length=t:=by simp;omega
   rw[ht,ht2,List.set_append_right _ _ af];simp[List.replicate_succ,Q8]
  rw[e]at h1;exact h1
 ·rcases mem_append.1 hg' with hm|hm
  ·exact hr g' (h.rws g' hm)
  ·rw[List.mem_singleton.1 hm];exact hr g hg
 ·have key:∀t,(c.hs++[g])[t]? =some g'->(t<c.hs.length/\c.hs[t]? =some g')∨(t=c.hs.length/\g'=g):=fun t ht=>by
   rcases Zl t c.hs.length with hi|hi
   ·rw[List.getElem?_append_left hi]at ht;exact .inl ⟨hi,ht⟩
   ·rw[List.getElem?_append_right hi]at ht;have h3:=(Zg.1 ht).1;simp at h3;exact .inr ⟨aa,by have:=Zm ht;simpa using this⟩
  rcases key i h1 with ⟨a1,a2⟩|⟨a1,a2⟩<;>rcases key j h2 with ⟨b1,b2⟩|⟨b1,b2⟩
  ·exact h.dist i j g' a2 b2
  ·exact absurd (b2▸Zm a2) hgn
  ·exact absurd (a2▸Zm b2) hgn
  ·omega
 ·rcases mem_append.1 hm with hm|hm
  ·exact h.obn hm
  ·exact hgo (List.mem_singleton.1 hm).symm
 ·rcases mem_append.1 hg' with hm|hm
  ·exact h.bhs g' hm
  ·rw[List.mem_singleton.1 hm];exact hB
theorem SeaN.trait(h:SeaN c B w a b P tk){w6 W:World}{A6:Option Addr}{d6:Nat}(hW:Ext w W)(zsq:Own w6 B 184 2 A6 (tk+1) d6 (ZT b tk (fun _=>0)++[.int .i64 (ent b tk tk),.int .u64 0]))(hg:Grow B 184 W w6):
  SeaN {c with TA:=A6,tc:=d6} B (w6.setCell ⟨c.sb,7,none⟩ (.slice A6 (tk+1) d6)) a b P (tk+1):=by
 have h1:=h.ext hW;have hot:Oth 184 W w6:=Oth.of_grow hg;have hb:=hot _ _ _ _ ac h1.blk;have ho2:Oth 182 w6 (w6.setCell ⟨c.sb,7,none⟩ (.slice A6 (tk+1) d6)):=Oth.set (p:=⟨c.sb,7,none⟩) hb _;exact⟨by rw[zX hb];rfl,ho2 _ _ _ _ ac (hot _ _ _ _ ac h1.heads),fun g hg=>ho2 _ _ _ _ ac (hot _ _ _ _ ac (h1.rws g hg)),h.hl,h.dist,ho2 _ _ _ _ ac (hot _ _ _ _ ac h1.tots),h.obn,by rw[zqf];exact zsq.oth ho2 ac,(h1.pts.oth hot ac ac).oth ho2 ac ac,(h1.duals.oth hot ac ac).oth ho2 ac ac,(h1.norms.oth hot ac).oth ho2 ac,h.plen,h.bsb,h.bcb,h.bob,h.bhs⟩
theorem SeaN.done(h:SeaN c B w a b P c.n)(hl:c.hs.length=c.n+1):SeaM {c with CV:= .slice none 0 0,cd:=false} B w a P (qo c.n fun _=>0) (ZT b c.n fun _=>0) none 0 [] (List.replicate (c.n+1) (List.replicate c.N 0)):=by
 have hh:=h.heads;rw[hl,Nat.sub_self,List.replicate_zero,List.append_nil]at hh;have e:qo c.n (fun _=>0)=List.replicate (c.n+1) 0:=by
  unfold qo;rw[List.map_const',List.length_range]
 have hrw:∀(j g:Nat)(r:List Int),c.hs[j]? =some g->(List.replicate (c.n+1) (List.replicate c.N (0:Int)))[j]? =some r->Row w g 155 .u64 r:=fun j g r h1 h2=>by
  rw[List.getElem?_replicate]at h2;split at h2
  ·injection h2 with h2
   subst h2;exact h.rws g (Zm h1)
  ·cases h2
 refine⟨h.blk,hh,hrw,hl,length_replicate ..,fun r hr=>?_,h.dist,?_,?_,h.obn,h.trs,h.pts,h.duals,h.norms,h.plen,Own.nil _ _ _ _,h.bsb,h.bcb,h.bob,h.bhs,fun i hi=>?_⟩
 ·rw[(List.mem_replicate.1 hr).2,length_replicate]
 ·rw[e];exact h.tots
 ·rw[e,length_replicate]
 ·simp at hi
end
def zcU(w:World)(a b:List (List Int))(n q ll:Nat)(Bb:Option Addr)(e:Ending)(w':World):Prop:=
 ∃P,PtsOf a q P/\P.length=2*ll/\Step w w'/\
 ((e= .returned (.pointer none)/\((zP b q<=1000000/\(zB b q false).length≠ll)∨∃Q,PtsOf b q Q/\Q.length=2*ll/\Z4 a P []≠Z4 b Q []))∨
  ∃(c:SeaC) (Q zc:List (List Int)),e= .returned (.pointer (some ⟨c.sb,0,none⟩))/\c.n=n/\c.bA=Bb/\(c.cd=true->PtsOf b q Q/\Q.length=2*ll)/\SeaM c w.heap.size w' a P (qo n (ZB c.cd b Q)) (J5 c.cd b Q n) none 0 [] zc/\RowsOK c.cd n a P [] zc)
theorem SeaM.recolor{c:SeaC}{a:List (List Int)}{SA:Option Addr}{sc:Nat}{st:List Nat}{zc:List (List Int)}{cv:Value}{d:Bool}(h:SeaM c B w a P tot tv SA sc st zc)(ho:Oth 182 w w')(hb:w'.heap[c.sb]? =some (.cells (SeaC.cells {c with CV:=cv,cd:=d} SA st.length sc) 182 (0,0))):SeaM {c with CV:=cv,cd:=d} B w' a P tot tv SA sc st zc:=
 ⟨hb,ho _ _ _ _ ac h.heads,fun j g r h1 h2=>ho _ _ _ _ ac (h.rws j g r h1 h2),h.hl,h.rl,h.all,h.dist,ho _ _ _ _ ac h.tots,h.tl,h.obn,h.trs.oth ho ac,h.pts.oth ho ac ac,h.duals.oth ho ac ac,h.norms.oth ho ac,h.plen,h.own.oth ho ac,h.bsb,h.bcb,h.bob,h.bhs,h.stl⟩
theorem zqC(b o j:Nat):(⟨b,o,none⟩:Addr).add j=⟨b,o+j,none⟩:=by
 unfold Addr.add;split
 ·simp_all
 ·rfl
theorem zqD{b:Nat}(h:w.heap[b]? =some (.cells (zH #[.slice none 0 0] n) T (0,0))):VRow w b T (List.replicate n (.slice none 0 0)):=by
 have h2:VRow w b T (zH #[.slice none 0 0] n).toList:=by unfold VRow;simpa using h
 rw[Qo]at h2;exact h2
theorem zqE{b:Nat}{k:IntKind}(h:w.heap[b]? =some (.cells (zO n k) T (0,0))):Row w b T k (List.replicate n 0):=h
set_option maxRecDepth 20000 in
theorem zqF{Bb LA:Option Addr}{lc:Nat}{a L:List (List Int)}(ha:MatA w0 A a)(hb:MatA w0 Bb b)(hal:a.length=n)(hbl:b.length=n)(hca:n<=ca)(zsO:ca<=9223372036854775807)(hbc:n<=bc)(zsT:bc<=9223372036854775807)(hra:zM a=true)(hrb:zM b=true)
  (hL:Mat64 w0 LA L) (hll:L.length=ll) (hV:VecList a q false L) (h1:1<=ll) (h2:ll<=4096) (hq:Zu b n=q) (hq1:(q:Int)<1073741824) [hx:Ext w0 w]:
  Cq 82 #[.slice A n ca,.slice Bb n bc,.slice LA ll lc] w (zcU w a b n q ll Bb):=by
 have hRa:=Zk hra;have hRb:=Zk hrb;have hn:=Z2 hRa.small;have ztL:=zeJ hRa (Int.natCast_nonneg q) hq1 hV;have HNS:Hid (∀W,Ext w0 W->Cq 41 #[.slice A n ca,.slice LA ll lc] W (Jd W a L)):=Zh (fun W e=>zeG ha hal aa (by rw[<-hal];exact zV hRa.small) hL hll aa h1 (zcS hV) ztL.1 (fun x hx=>by have:=ztL.2 x hx;rw[hal]at this;exact this));have HBA:Hid (AllLen b n):=Zh (by rw[<-hbl];exact zV hRb.small)
 have HA:=Zh (And.intro ha (And.intro hal (And.intro hra hRa)));have HB:=Zh (And.intro hb (And.intro hbl (And.intro hrb hRb)));have HV:=Zh hV;have HLL:=Zh hll;have HQ:=Zh hq;have hn1:1<=n:=aa
 have hn8:n<=1000:=aa
 have HQ1:=Zh hq1;have zwc:=ZH (P:=Tryz.prog) Tryz.underlying179 zqA aa ((n:Int)+1) aa aa;have zs0:=qz (P:=Tryz.prog) (k:= .u64) Tryz.underlying75 zbx aa ((n:Int)+1) aa aa;have hzz:((n:Int)+1).toNat=n+1:=aa
 rw[hzz]at zwc zs0;unfold Jd at HNS;have hzn:(0:Int)<=(n:Int)+1:=aa
 clear ha hb hal hbl hra hrb hL hll hV hq hRa hRb hn ztL hq1;go_enter Tryz.func82,Tryz.ntmps82;go_wp2_with fail
 have ztk:IntKind.i64.wrap ((n:Int)+1)=(n:Int)+1:=Iw;have ztz:wrap64 ((n:Int)+1)=(n:Int)+1:=by rw[JF];exact ztk
 go_cut [8] (fun s8 wx=>∃(sb cb ob g pc dc nc:Nat) (DA NA:Option Addr) (els:List VE),s8= .pointer (some ⟨sb,0,none⟩)/\Hid (wx.heap[sb]? =some (.cells #[.slice Bb n bc,.slice (some ⟨g,0,none⟩) els.length pc,.slice DA els.length dc,.slice NA els.length nc,.slice none 0 0,.slice none 0 0,.slice (some ⟨cb,0,none⟩) (n+1) (n+1),.slice none 0 0,.slice (some ⟨ob,0,none⟩) (n+1) (n+1),.bool false] 182 (0,0)))/\Hid (VRow wx cb 75 (List.replicate (n+1) (.slice none 0 0)))/\Hid (Row wx ob 155 .u64 (List.replicate (n+1) 0))/\Hid ((els.map VE.l).Perm (ZS L)/\(els.map VE.l).Pairwise (fun x y=>zn x y<0)/\VRowV wx g els/\(∀x∈els,x.ok wx)/\Mat64 wx DA ((els.map VE.l).map (zC a))/\Ints wx NA 2 .i64 ((els.map VE.l).map (zh a)))/\Hid (w.heap.size<=sb/\w.heap.size<=cb/\w.heap.size<=ob)/\Ext w wx)
 case first=>
  go_region_with (go_at_call 41;refine(HNS.out _ Zi).mono ?_;rintro e w5 ⟨g,pc,dc,nc,DA,NA,els,rfl,hp5⟩;have hs5:=hp5.2.2.2.2.2.2;have HP5:=Zh hp5;clear hp5)
  all_goals
   go_wp2_with fail
   go_meet
   exact⟨_,_,_,g,pc,dc,nc,DA,NA,els,rfl,Zh BlkAt.eq,Zh (zqD BlkAt.eq),Zh (zqE BlkAt.eq),Zh ⟨HP5.out.1,HP5.out.2.1,HP5.out.2.2.1.ext Zi,fun x hx=>(HP5.out.2.2.2.1 x hx).ext Zi,HP5.out.2.2.2.2.1.ext Zi,HP5.out.2.2.2.2.2.1.ext Zi⟩,Zh ⟨New.le,New.le,New.le⟩,Zi⟩
 case rest=>
  obtain⟨sb,cb,ob,g,pc,dc,nc,DA,NA,els,rfl,HBK,HHD,HTO,HPT,HNE,hxc⟩:=hcut;obtain⟨N,hN⟩:=Yz els.length;obtain⟨P,hP⟩:=Yz (els.map VE.l);have HPP:Hid (PtsOf a q P/\P.length=2*ll/\N=2*ll/\P.length=N):=Zh (by
   have e1:=zeI (L:=L) (P:=P) (by rw[<-hP];exact HPT.out.1);rw[HLL.out]at e1;have e2:P.length=N:=by rw[<-hP,length_map];exact hN
   exact⟨zby HV.out (by rw[<-hP];exact HPT.out.1) (by rw[<-hP];exact HPT.out.2.1),e1,aa,e2⟩)
  have HSN:Hid (SeaN ⟨sb,n,N,Bb,bc,some ⟨g,0,none⟩,pc,DA,dc,NA,nc,.slice none 0 0,cb,[],none,0,ob,false⟩ w.heap.size wc a b P 0):=Zh (by
   have h6:=HPT.out.2.2.1.mat HPT.out.2.2.2.1;rw[hP]at h6;have h7:=HPT.out.2.2.2.2.1;have h8:=HPT.out.2.2.2.2.2;rw[hP]at h7 h8;have hb:=HBK.out;rw[hN]at hb;exact⟨hb,by simpa using HHD.out,fun g hg=>by simp at hg,af,fun i j g h=>by simp at h,HTO.out,af,Own.nil _ _ _ _,h6,h7,h8,HPP.out.2.2.2,HNE.out.1,HNE.out.2.1,HNE.out.2.2,fun g hg=>by simp at hg⟩)
  clear HBK HHD HTO HPT hP hN;have r6:wc.cell? ⟨sb,6,none⟩=some (.slice (some ⟨cb,0,none⟩) (n+1) (n+1)):=by rw[cell_of_row wc sb 6 _ _ _ HSN.out.blk];rfl
  have oSc:Old sb wc:=⟨zi HSN.out.blk⟩;go_wp2_with fail
  clear zwc zs0 ztk ztz r6 oSc;have hN1:N<=100000:=by have:=HPP.out.2.2.1;omega
  have zxH:=qz (P:=Tryz.prog) (k:= .u64) Tryz.underlying75 zbx aa (N:Int) aa aa;obtain⟨B,hB⟩:=Yz w.heap.size;rw[hB]at HSN HNE;have HL0:Hid (([]:List Nat).length=0):=Zh rfl;go_loopw [9,34] (fun _ i wr=>∃(k:Nat) (hs:List Nat),k<=n+1/\i= .int .i64 k/\Hid (SeaN ⟨sb,n,N,Bb,bc,some ⟨g,0,none⟩,pc,DA,dc,NA,nc,.slice none 0 0,cb,hs,none,0,ob,false⟩ B wr a b P 0)/\Hid (hs.length=k)/\Ext w wr) (fun _ i _=>n+1-(intOf i).toNat)
  case atStart=>exact⟨0,[],aa,rfl,HSN,HL0,hxc⟩
  case round=>
   obtain⟨k,hs,hk,rfl,HS,HL,hxr⟩:=hrel;obtain⟨wd,rfl⟩:∃wd:World,wd=wr:=⟨_,rfl⟩;have oSd:Old sb wd:=⟨zi HS.out.blk⟩;by_cases hlt:k<n+1
   ·have r6:wd.cell? ⟨sb,6,none⟩=some (.slice (some ⟨cb,0,none⟩) (n+1) (n+1)):=by rw[cell_of_row wd sb 6 _ _ _ HS.out.blk];rfl
    have r1:wd.cell? ⟨sb,1,none⟩=some (.slice (some ⟨g,0,none⟩) N pc):=by rw[cell_of_row wd sb 1 _ _ _ HS.out.blk];rfl
    have h7:=HS.out.heads;dsimp only at h7;rw[HL.out]at h7;have q1:wd.cell? ⟨cb,k,none⟩=some (.slice none 0 0):=h7.cell (by rw[List.getElem?_append_right (by rw[length_map,HL.out];exact Zr),length_map,HL.out,Nat.sub_self,List.getElem?_replicate,if_pos aa]);have q2:wd.frozen? ⟨cb,k,none⟩=false:=h7.frozen k;have oC:Old cb wd:=⟨h7.lt⟩;have zt7:(k:Int)<(n:Int)+1:=aa
    clear h7;go_wp2_with fail
    go_region
    have hxm:Ext wd (wd.alloc (.cells (zO N .u64) 155)):=Zi;have zuw:=(HS.out.ext hxm).put (by dsimp only;rw[HL.out];exact hlt) (g:=wd.heap.size) (Row.made wd N .u64 155) (by have:=hxr.size;omega) (fun hm=>by have:=(HS.out.rws _ hm).lt;omega) (by have:=HS.out.tots.lt;dsimp only at this|-;omega);dsimp only at zuw;rw[HL.out]at zuw;have hxd:Ext ((wd.alloc (.cells (zO N .u64) 155)).setCell ⟨cb,k,none⟩ (.slice (some ⟨wd.heap.size,0,none⟩) N N)) ((wd.alloc (.cells (zO N .u64) 155)).setCell ⟨cb,k,none⟩ (.slice (some ⟨wd.heap.size,0,none⟩) N N)).drew:=Zi
    have HPU:=Zh (zuw.ext hxd);have hx2:Ext w ((wd.alloc (.cells (zO N .u64) 155)).setCell ⟨cb,k,none⟩ (.slice (some ⟨wd.heap.size,0,none⟩) N N)).drew:=((hxr.trans hxm).setCell (p:=⟨cb,k,none⟩) (by have:=HNE.out.2.1;dsimp only;omega) _).trans hxd;have HL2:Hid ((hs++[wd.heap.size]).length=k+1):=Zh (by rw[List.length_append,HL.out];rfl);clear zuw hxm hxd q1 q2 oC r6 r1 oSd;go_wp2_with fail
    exact⟨⟨k+1,_,aa,by go_num,HPU,HL2,hx2⟩,by simp[intOf];omega⟩
   ·obtain rfl:k=n+1:=aa
    have HT0:Hid (SeaN ⟨sb,n,N,Bb,bc,some ⟨g,0,none⟩,pc,DA,dc,NA,nc,.slice none 0 0,cb,hs,none,0,ob,false⟩ B wd a b P 0):=HS;go_wp2_with fail
    clear zxH HS HSN;go_loopw [10,52] (fun _ i wr=>∃(k tc:Nat) (TA:Option Addr),k<=n/\i= .int .i64 k/\Hid (SeaN ⟨sb,n,N,Bb,bc,some ⟨g,0,none⟩,pc,DA,dc,NA,nc,.slice none 0 0,cb,hs,TA,tc,ob,false⟩ B wr a b P k)/\Ext w wr) (fun _ i _=>n-(intOf i).toNat)
    case atStart=>exact⟨0,0,none,aa,rfl,HT0,hxr⟩
    case round=>
     obtain⟨k,tc,TA,hk,rfl,HS,ztl⟩:=hrel;obtain⟨we,rfl⟩:∃we:World,we=wr:=⟨_,rfl⟩;have oSe:Old sb we:=⟨zi HS.out.blk⟩;by_cases hlt:k<n
     ·obtain⟨rb,hrb⟩:∃r,b[k]? =some r:=⟨_,Ze (by rw[HB.out.2.1];exact hlt)⟩;have hrl:rb.length=n:=HBA.out rb (Zm hrb);obtain⟨bb,bo,R1,c4,rfl,b1,hR1,-,-,b5⟩:=(HB.out.1.ext (hx.trans ztl)).at_ hrb;obtain⟨b2,o2,en,rfl,he,e1,e2⟩:=hR1.at_ (i:=k) aa;rw[hrl]at b1;have hen:ent b k k=en:=by
       unfold ent;simp[List.getD_eq_getElem?_getD,hrb,he]
      have r7:we.cell? ⟨sb,7,none⟩=some (.slice TA k tc):=by rw[cell_of_row we sb 7 _ _ _ HS.out.blk];rfl
      have r7f:we.frozen? ⟨sb,7,none⟩=false:=by have:=HS.out.blk;simp[World.frozen?,this]
      have oB1:Old bb we:=⟨b5⟩;have oB2:Old b2 we:=⟨e2⟩;have zt7:(k:Int)<(n:Int):=aa
      have hBw:B<=we.heap.size:=by have:=ztl.size;omega
      have HEN:=Zh hen;clear hrb hR1 he hen hrl;go_wp2_with fail
      go_region_law (refine QS _ rfl (.tmp 59) (.tmp 68) 180 rfl B 184 (.agg #[.int .i64 0,.int .u64 0]) 2 16 Tryz.underlying180 zqB rfl ac ac TA k tc _ (by simp[Act.eval]) (HS.out.trs.ext Zi) (some ⟨we.heap.size,0,none⟩) 1 1 [.int .i64 en,.int .u64 0] (by simp[Act.eval]) ((Arr.new we 184 #[.int .i64 en,.int .u64 0]).ext Zi) rfl (by simp[Value.oneCell']) aa (by simp<;>omega) ?_;intro A6 d6 w6 zsx hg6;have hb6:=hg6.heap (zg (Zi:Ext we ((we.alloc (Obj.cells #[.int .i64 en,.int .u64 0] 184)).drew)) HS.out.blk) ac;have z1:w6.frozen? ⟨sb,7,none⟩=false:=(by simp[World.frozen?,hb6]);have z2:w6.cell? ⟨sb,7,none⟩=some (.slice TA k tc):=(by rw[cell_of_row w6 sb 7 _ _ _ hb6];rfl);have z3:=zi hb6)
      all_goals
       have hW:Ext we ((we.alloc (Obj.cells #[.int .i64 en,.int .u64 0] 184)).drew):=Zi;have zst:=HS.out.trait hW (by rw[HEN.out];exact zsx) hg6;have hx6:Ext w (w6.setCell ⟨sb,7,none⟩ (.slice A6 (k+1) d6)):=(hg6.ext (ztl.trans hW) (Nat.le_of_eq hB)).setCell (p:=⟨sb,7,none⟩) (by have:=HNE.out.1;dsimp only;omega) _;have zrm:=Zh zst;clear zst zsx hg6 hb6 z1 z2 z3 r7 r7f oB1 oB2 b1 e1;go_wp2_with fail
       exact⟨⟨k+1,aa,by go_num,d6,A6,zrm⟩,by simp[intOf];omega⟩
     ·obtain rfl:k=n:=aa
      have HD:=Zh (HS.out.done HL.out);have zwd:Ext w0 we:=hx.trans ztl;have HGR:=Zh (fun W(e:Ext we W)=>ziR (w:=W) (c:=bc) (HB.out.1.ext (zwd.trans e)) HB.out.2.1 HBA.out hn8);rw[HQ.out]at HGR;have HVG:=fun W(e:Ext we W)=>ziM (w:=W) (c:=bc) (q:=q) (budget:=1000000) (HB.out.1.ext (zwd.trans e)) HB.out.2.1 hbc zsT HB.out.2.2.1 HQ1.out aa aa
      have HCN:Hid (∀T,VecList b q false T->T.length=(zB b q false).length):=Zh (fun T hT=>jQ HB.out.2.2.2 (Int.natCast_nonneg q) hT);unfold ziL at HVG;have hBle:B<=we.heap.size:=by have:=ztl.size;omega
      by_cases zsZ:zP b q<=1000000
      ·by_cases zs4:4096<(zB b q false).length
       ·have HVX:Hid (∀W,Ext we W->Cq 88 #[.slice Bb k bc,.int .i64 q,.int .i64 1000000] W (zA W (.tuple #[.slice none 0 0,.int .i64 0,.int .i64 7]))):=Zh (fun W e=>(HVG W e).mono (by
         rintro e' w' (⟨B1,d1,T,-,-,-,-,hT,h5,-,-⟩|⟨k7,he,h7,hs⟩)
         ·have:=HCN.out _ hT;omega
         ·rcases h7 with ⟨rfl,-,-⟩|⟨-,h8⟩
          ·exact⟨he,hs⟩
          ·omega))
        have HNO:Hid ((zP b q<=1000000/\(zB b q false).length≠ll)):=Zh ⟨zsZ,aa⟩;clear HVG zsZ zs4;go_wp2_with (first
         |(go_at_call 89;refine(HGR.out _ Zi).mono ?_;rintro e w7 ⟨rfl,hs7⟩)
         |(go_at_call 88;refine(HVX.out _ Zi).mono ?_;rintro e w8 ⟨rfl,hs8⟩))
        go_ret;exact⟨P,HPP.out.1,HPP.out.2.1,(ztl.trans Zi).toStep,.inl ⟨rfl,.inl HNO.out⟩⟩
       ·have HVX:Hid (∀W,Ext we W->Cq 88 #[.slice Bb k bc,.int .i64 q,.int .i64 1000000] W fun e w'=>∃B1 d T,e= .returned (.tuple #[.slice B1 (List.length T) d,.int .i64 (zP b q),.int .i64 0])/\Mat64 w' B1 T/\VecList b q false T/\Step W w'):=Zh (fun W e=>(HVG W e).mono (by
         rintro e' w' (⟨B1,d1,T,he,hM,-,-,hT,h5,-,hs⟩|⟨k7,he,h7,hs⟩)
         ·exact⟨B1,d1,T,he,hM,hT,hs⟩
         ·rcases h7 with ⟨rfl,-,h8⟩|⟨-,h8⟩<;>omega))
        clear HVG;go_upto_region 14 with (first
         |(go_at_call 89;refine(HGR.out _ Zi).mono ?_;rintro e w7 ⟨rfl,hs7⟩)
         |(go_at_call 88;refine(HVX.out _ Zi).mono ?_;rintro e w8 ⟨B1,d1,T,rfl,hM8,hT8,hs8⟩))
        have hTl:=HCN.out _ hT8;obtain⟨lt,hlt⟩:=Yz T.length;rw[hlt]at hTl|-
        by_cases hne:lt=ll
        ·subst hne;have hT1:T.length=lt:=hlt;have hx8:Ext we w8:=Zi;have HT:=Zh (And.intro hM8 (And.intro hT8 hT1));have HD8:=Zh (HD.out.ext hx8);have hb8:=HD8.out.blk;dsimp only at hb8;have c9:w8.cell? ⟨sb,9,none⟩=some (.bool false):=by rw[cell_of_row w8 sb 9 _ _ _ hb8];rfl
         have f9:w8.frozen? ⟨sb,9,none⟩=false:=by simp[World.frozen?,hb8]
         have oS8:Old sb w8:=⟨zi hb8⟩;have HB8:=Zh hb8;have HX8:=Zh (ztl.trans hx8);clear hM8 hT8 hT1 hb8 zsZ zs4 hTl hlt HVX HGR hs7 hs8 oSe;go_upto_region 19 with fail
         have hs9:=zX HB8.out (i:=9) (.bool true);have ho9:Oth 182 w8 (w8.setCell ⟨sb,9,none⟩ (.bool true)):=Oth.set (p:=⟨sb,9,none⟩) HB8.out _;have hS9:=HD8.out.recolor (cv:= .slice none 0 0) (d:=true) ho9 (by rw[hs9];rfl);have hx9:Ext w (w8.setCell ⟨sb,9,none⟩ (.bool true)):=HX8.out.setCell (p:=⟨sb,9,none⟩) (by have:=HNE.out.1;dsimp only;omega) _;have hM9:Mat64 (w8.setCell ⟨sb,9,none⟩ (.bool true)) B1 T:=HT.out.1.oth ho9 ac ac
         have HS9:=Zh hS9;have HX9:=Zh hx9;have HM9:=Zh hM9;have hRa:=HA.out.2.2.2;have hRb:=HB.out.2.2.2;have HPT:Hid (SysB (w8.setCell ⟨sb,9,none⟩ (.bool true)) sb 1 N pc dc nc 182 (SeaC.cells ⟨sb,k,N,Bb,bc,some ⟨g,0,none⟩,pc,DA,dc,NA,nc,.slice none 0 0,cb,hs,TA,tc,ob,true⟩ none 0 0) (some ⟨g,0,none⟩) DA NA a P):=Zh ⟨hS9.blk,rfl,rfl,rfl,by show 1+3<10;omega,hS9.pts,hS9.duals,hS9.norms,hS9.plen,ac,ac,ac⟩
         clear c9 f9 oS8 hs9 ho9 hS9 hx9 hM9 HB8 HD8;generalize w8.setCell ⟨sb,9,none⟩ (.bool true)=w9 at*
         have HPA:=Zh (ziU HPT.out HPP.out.2.2.1 hN1 HA.out.2.1 (by rw[<-HA.out.2.1];exact HPP.out.1.zc) aa HPP.out.1.rev (HPP.out.1.ip hRa) (fun x hx=>by have:=HPP.out.1.nb hRa hx;have:=HQ1.out;omega));unfold zcP at HPA;have oS9:Old sb w9:=⟨zi HPT.out.blk⟩;go_upto_region 20 with (go_at_call 149;refine(HPA.out).mono ?_;rintro e wa ⟨rfl,cg,zyK,zwe,zwf,zvb⟩)
         have hoa:Oth 182 w9 wa:=zvb.othT HS9.out.blk;have hSa:=HS9.out.recolor (cv:= .slice (some ⟨cg,0,none⟩) N N) (d:=true) hoa (by rw[zwf];rfl);have hxa:Ext w wa:=zvb.ext HX9.out (by rw[hB];exact HNE.out.1);have hMa:Mat64 wa B1 T:=HM9.out.oth hoa ac ac;obtain⟨g0,hg0,k1,k2,k3,k4,k5⟩:=hSa.row (j:=0) (Nat.zero_le _);dsimp only at k1 k3 hg0;have hr0:Row wa g0 155 .u64 (List.replicate N 0):=hSa.rws 0 g0 _ hg0 (by rw[List.getElem?_replicate,if_pos (Nat.succ_pos _)])
         have k6:wa.cell? ⟨sb,6,none⟩=some (.slice (some ⟨cb,0,none⟩) (k+1) (k+1)):=hSa.cell 6;have k7:wa.cell? ⟨sb,4,none⟩=some (.slice (some ⟨cg,0,none⟩) N N):=hSa.cell 4;have oSa:Old sb wa:=⟨zi hSa.blk⟩;have oCa:Old cb wa:=⟨k3⟩;have hkz:(0:Int)<(k:Int)+1:=aa
         have HR0:=Zh hr0;have HCG:=Zh zwe;have HSa:=Zh hSa;have HXa:=Zh hxa;have HMa:=Zh hMa;have HG0:=Zh hg0;have hcl:(P.map (QP a P)).length=N:=by rw[length_map];exact HPP.out.2.2.2
         have HCL:=Zh hcl;clear hoa hSa hxa hMa hr0 zwe zwf zvb hg0 HPT HPA HM9 HS9 HX9 oS9 hcl;go_cut [] (fun wx=>Hid (VRow wx g0 155 ((P.map (QP a P)).map (Value.int .u64)))/\Hid (Only g0 wa wx))
         case first=>
          go_region_law (refine zqq rfl (.tmp 105) (.tmp 110) 75 75 rfl 155 1 Tryz.underlying75 ai g0 N N ⟨cg,0,none⟩ N N (by simp[Act.eval]) (by simp[Act.eval]) _ 155 HR0.out ((P.map (QP a P)).map (Value.int .u64)) (by rw[length_map,HCL.out,Nat.mul_one];exact(Nat.min_self N).symm) (fun j v hv=>by
          have h1:=HCG.out;unfold Row at h1;have e:(⟨cg,0,none⟩:Addr).add j=⟨cg,j,none⟩:=by rw[zqC,Nat.zero_add]
          rw[e];refine(cell_of_row wa cg j _ _ _ h1).trans ?_;simpa using hv) (by simp;exact HPP.out.2.2.2) (fun v hv=>by obtain⟨z,-,rfl⟩:=List.mem_map.1 hv;rfl) ?_;intro wb hvb hob)
          all_goals
          go_wp2_with fail
          go_meet
          exact⟨Zh hvb,Zh ((Only.of_ext (Zi:Ext wa wa.drew) (Nat.le_of_lt k2)).trans hob)⟩
         case rest=>
          obtain⟨HVB,HOB⟩:=hcut;have hrb:Row wc g0 155 .u64 (P.map (QP a P)):=HVB.out;have hSb:=(HSa.out.color HG0.out hrb HCL.out HOB.out);have HSb:=Zh hSb;have hxb:Ext w wc:=HOB.out.ext HXa.out (by rw[hB];exact HSa.out.bhs g0 (Zm HG0.out));have hMb:Mat64 wc B1 T:=HMa.out.oth (HOB.out.othU HR0.out) ac ac;have HXb:=Zh hxb;have HMb:=Zh hMb;have zvc:=zeJ hRb (Int.natCast_nonneg q) HQ1.out HT.out.2.1
          have zrL:Hid (∀W,Ext wc W->Cq 41 #[.slice Bb k bc,.slice B1 lt d1] W (Jd W b T)):=Zh (fun W e=>zeG (HB.out.1.ext ((hx.trans HXb.out).trans e)) HB.out.2.1 aa HBA.out (HMb.out.ext e) HT.out.2.2 aa h1 (zcS HT.out.2.1) zvc.1 (fun x hx=>by have:=zvc.2 x hx;rw[HB.out.2.1]at this;exact this));unfold Jd at zrL;have oSb:Old sb wc:=⟨zi hSb.blk⟩;clear hrb hSb hxb hMb zvc oSa oCa k1 k2 k3 k4 k5 k6 k7 HR0 HVB HOB HMa HXa HSa
          go_upto_region 22 with (go_at_call 41;refine(zrL.out _ Zi).mono ?_;rintro e w5 ⟨gq,qc,qd,qn,QD,QN,elq,rfl,hq5⟩;have hs5:=hq5.2.2.2.2.2.2;have HQ5:=Zh hq5;clear hq5)
          have hx6:Ext wc (w5.alloc (.cells #[.slice (some ⟨gq,0,none⟩) elq.length qc,.slice QD elq.length qd,.slice QN elq.length qn,.slice none 0 0] 77)):=Zi;have ztM:Ext w5 (w5.alloc (.cells #[.slice (some ⟨gq,0,none⟩) elq.length qc,.slice QD elq.length qd,.slice QN elq.length qn,.slice none 0 0] 77)):=Zi;have hb6:=heap_alloc_new w5 (.cells #[.slice (some ⟨gq,0,none⟩) elq.length qc,.slice QD elq.length qd,.slice QN elq.length qn,.slice none 0 0] 77)
          have zwg:wc.heap.size<=w5.heap.size:=hs5.size;obtain⟨NQ,hNQ⟩:=Yz elq.length;obtain⟨Q,hQ⟩:=Yz (elq.map VE.l);rw[hNQ]at hx6 ztM hb6|-
          have HQQ:Hid (PtsOf b q Q/\Q.length=2*lt/\NQ=2*lt/\Q.length=NQ):=Zh (by
           have e1:=zeI (L:=T) (P:=Q) (by rw[<-hQ];exact HQ5.out.1);rw[HT.out.2.2]at e1;have e2:Q.length=NQ:=by rw[<-hQ,length_map];exact hNQ
           exact⟨zby HT.out.2.1 (by rw[<-hQ];exact HQ5.out.1) (by rw[<-hQ];exact HQ5.out.2.1),e1,aa,e2⟩)
          obtain⟨ot,hot⟩:=Yz w5.heap.size;rw[hot]at hb6 zwg|-
          generalize w5.alloc (.cells #[.slice (some ⟨gq,0,none⟩) NQ qc,.slice QD NQ qd,.slice QN NQ qn,.slice none 0 0] 77)=w6 at*
          have HV6:Hid (VRowV w6 gq elq/\(∀x∈elq,x.ok w6)/\Mat64 w6 QD (Q.map (zC b))/\Ints w6 QN 2 .i64 (Q.map (zh b))):=Zh (by
           rw[<-hQ];exact⟨HQ5.out.2.2.1.ext ztM,fun x hx=>(HQ5.out.2.2.2.1 x hx).ext ztM,HQ5.out.2.2.2.2.1.ext ztM,HQ5.out.2.2.2.2.2.1.ext ztM⟩)
          have HPQ:Hid (SysB w6 ot 0 NQ qc qd qn 77 #[.slice (some ⟨gq,0,none⟩) NQ qc,.slice QD NQ qd,.slice QN NQ qn,.slice none 0 0] (some ⟨gq,0,none⟩) QD QN b Q):=Zh ⟨hb6,rfl,rfl,rfl,by show 0+3<4;omega,by rw[<-hQ];exact HV6.out.1.mat HV6.out.2.1,HV6.out.2.2.1,HV6.out.2.2.2,HQQ.out.2.2.2,ac,ac,ac⟩;have hNQ8:NQ<=100000:=by have:=HQQ.out.2.2.1;omega
          have HPB:=Zh (ziU HPQ.out HQQ.out.2.2.1 hNQ8 HB.out.2.1 (by rw[<-HB.out.2.1];exact HQQ.out.1.zc) aa HQQ.out.1.rev (HQQ.out.1.ip hRb) (fun x hx=>by have:=HQQ.out.1.nb hRb hx;have:=HQ1.out;omega));unfold zcP at HPB;have zsk:Hid (Q.Pairwise fun x y=>zn x y<0):=Zh HQQ.out.1.sorted;have HLQ:=Zh hQ;have HB6:=Zh hb6;have HX6:=Zh hx6;have oT6:Old ot w6:=⟨zi hb6⟩;clear hb6 ztM hQ hNQ hot hs5 zrL oSb HQ5 hx6
          go_upto_region 23 with (go_at_call 149;refine(HPB.out).mono ?_;rintro e w7 ⟨rfl,cq,zxI,zwh,ztN,zvd⟩)
          have zve:Ext wc w7:=zvd.ext HX6.out zwg;have hoq:Oth 77 w6 w7:=zvd.othT HB6.out;have HS7:=Zh (HSb.out.ext zve);have HX7:=Zh (HXb.out.trans zve);have zxJ:ob<w6.heap.size:=Nat.lt_of_lt_of_le HSb.out.tots.lt HX6.out.size;have y0:w7.cell? ⟨ot,0,none⟩=some (.slice (some ⟨gq,0,none⟩) NQ qc):=by rw[cell_of_row w7 ot 0 _ _ _ ztN];rfl
          have y1:w7.cell? ⟨ot,1,none⟩=some (.slice QD NQ qd):=by rw[cell_of_row w7 ot 1 _ _ _ ztN];rfl
          have y2:w7.cell? ⟨ot,2,none⟩=some (.slice QN NQ qn):=by rw[cell_of_row w7 ot 2 _ _ _ ztN];rfl
          have y3:w7.cell? ⟨ot,3,none⟩=some (.slice (some ⟨cq,0,none⟩) NQ NQ):=by rw[cell_of_row w7 ot 3 _ _ _ ztN];rfl
          have oT7:Old ot w7:=⟨zi ztN⟩;have hpq:=HQQ.out.1;have HCP:=Zh (zqz (gq:=gq) (NQ:=NQ) (qc:=qc) (qd:=qd) (qn:=qn) (cg:=cq) (QD:=QD) (QN:=QN) (b:=b) (Q:=Q) (els:=elq) HS7.out rfl rfl HB.out.2.1 (HV6.out.1.oth hoq ac) (fun x hx=>(HV6.out.2.1 x hx).oth hoq ac) HLQ.out (HV6.out.2.2.1.oth hoq ac ac) HQQ.out.2.2.2 zwh ((aa:cq≠ob)) HQQ.out.2.2.1 hNQ8 hn1 hn8 (by rw[<-HB.out.2.1];exact hpq.zc) hpq.rev (hpq.ip hRb) zsk.out (fun j hj=>by
           have h3:=hpq.unit hRb (k:=j) (by rw[HB.out.2.1];exact hj) (by rw[<-HQ.out];exact zeE _ _ hj);rw[HB.out.2.1]at h3;exact h3))
          unfold zeT at HCP;clear zxI zwh ztN zvd zve hoq zxJ hpq oT6 HPB HPQ HV6 HB6;go_upto_region 24 with (go_at_call 150;refine(HCP.out).mono ?_;rintro e w9 ⟨rfl,hS9,hO9⟩)
          have hx9:Ext w w9:=hO9.ext HX7.out (fun z hz=>by
           rcases hz with e|⟨y,hy,e⟩
           ·rw[e,hB];exact HNE.out.2.2
           ·have h5:=HS7.out.trs.2;rcases h5 with ⟨h6,-⟩|⟨g',cap,cur,h6,h7,-⟩
            ·injection h6 with h6;dsimp only at hy h6;rw[h6]at hy;cases hy
            ·injection h6 with h6;dsimp only at hy h6;rw[h6]at hy;injection hy with hy;rw[hB,<-e,<-hy];exact h7)
          obtain⟨g2,hg2,k1,k2,k3,k4,k5⟩:=hS9.row (j:=0) (Nat.zero_le _);dsimp only at k1 k3 hg2;have hr2:Row w9 g2 155 .u64 (P.map (QP a P)):=hS9.rws 0 g2 _ hg2 (by rw[List.getElem?_set_self (by rw[length_replicate];exact Nat.succ_pos _)]);obtain⟨t0,ht0,k8⟩:=hS9.tots.cell (i:=0) (by have:=hS9.tl;dsimp only at this;omega);dsimp only at k8;have zwi:t0=Z4 b Q []:=by
           unfold qo at ht0;rw[List.getElem?_map,List.getElem?_range (Nat.succ_pos _)]at ht0;injection ht0 with ht0
           rw[<-ht0];rfl
          have k6:w9.cell? ⟨sb,6,none⟩=some (.slice (some ⟨cb,0,none⟩) (k+1) (k+1)):=hS9.cell 6;have k7:w9.cell? ⟨sb,8,none⟩=some (.slice (some ⟨ob,0,none⟩) (k+1) (k+1)):=hS9.cell 8;have oS9:Old sb w9:=⟨zi hS9.blk⟩;have oC9:Old cb w9:=⟨k3⟩;have oO9:Old ob w9:=⟨hS9.tots.lt⟩;have zwj:(0:Int)<(k:Int)+1:=aa
          have HSU:=Zh (fun W(e:Ext w9 W)=>ziO (w:=W) (c:=N) (hr2.ext e) HCL.out hN1);have hsv:wU (P.map (QP a P)).sum=Z4 a P []:=rfl;rw[hsv]at HSU;have HK9:Hid (∀W,Ext w9 W->W.cell? ⟨sb,6,none⟩=some (.slice (some ⟨cb,0,none⟩) (k+1) (k+1))/\W.cell? ⟨cb,0,none⟩=some (.slice (some ⟨g2,0,none⟩) N N)/\W.cell? ⟨sb,8,none⟩=some (.slice (some ⟨ob,0,none⟩) (k+1) (k+1))/\W.cell? ⟨ob,0,none⟩=some (.int .u64 t0)):=Zh (fun W e=>⟨(zk w9).trans k6,(zk w9).trans k1,(zk w9).trans k7,(zk w9).trans k8⟩)
          have HS9:=Zh hS9;have HX9:=Zh hx9;have HT0':=Zh zwi;obtain⟨sv,zvf⟩:=Yz (Z4 a P []);rw[zvf]at HSU;have HSV:=Zh zvf;clear hS9 hO9 hx9 hr2 ht0 zwi hsv zvf y0 y1 y2 y3 oT7 HCP;rw[<-hB]at HS9;by_cases heq:sv=t0
          ·subst heq;go_region_held3 (fun w'=>w'.cell? ⟨sb,6,none⟩=some (.slice (some ⟨cb,0,none⟩) (k+1) (k+1))/\w'.cell? ⟨cb,0,none⟩=some (.slice (some ⟨g2,0,none⟩) N N)/\w'.cell? ⟨sb,8,none⟩=some (.slice (some ⟨ob,0,none⟩) (k+1) (k+1))/\w'.cell? ⟨ob,0,none⟩=some (.int .u64 sv))
            (exact HK9.out _ Zi)
            ((go_at_call 151;refine(HSU.out _ Zi).mono ?_;rintro e wz ⟨rfl,hsz⟩))
           have zux:Ext w9 wz:=Zi;clear k1 k2 k3 k4 k5 k6 k7 k8 oS9 oC9 oO9 zwj HK9 HSU hsz;go_wp2_with fail
           go_ret;refine⟨P,HPP.out.1,HPP.out.2.1,(HX9.out.trans zux).toStep,.inr ⟨⟨sb,k,N,Bb,bc,some ⟨g,0,none⟩,pc,DA,dc,NA,nc,.slice (some ⟨cg,0,none⟩) N N,cb,hs,TA,tc,ob,true⟩,Q,_,rfl,rfl,rfl,fun _=>⟨HQQ.out.1,HQQ.out.2.1⟩,HS9.out.ext zux,fun j hj=>?_⟩⟩;obtain rfl:j=0:=by
            rcases hj with h|h
            ·simpa using h
            ·exact absurd (show true=false from h.1) ac
           rw[List.getElem?_set_self (by rw[length_replicate];exact Nat.succ_pos _)];rfl
          ·have hbb:(sv !=t0)=true:=by simp[heq]
           go_region_held3 (fun w'=>w'.cell? ⟨sb,6,none⟩=some (.slice (some ⟨cb,0,none⟩) (k+1) (k+1))/\w'.cell? ⟨cb,0,none⟩=some (.slice (some ⟨g2,0,none⟩) N N)/\w'.cell? ⟨sb,8,none⟩=some (.slice (some ⟨ob,0,none⟩) (k+1) (k+1))/\w'.cell? ⟨ob,0,none⟩=some (.int .u64 t0))
            (exact HK9.out _ Zi)
            ((go_at_call 151;refine(HSU.out _ Zi).mono ?_;rintro e wz ⟨rfl,hsz⟩))
           have zux:Ext w9 wz:=Zi;clear k1 k2 k3 k4 k5 k6 k7 k8 oS9 oC9 oO9 zwj HK9 HSU hsz;go_wp2_with fail
           go_ret;refine⟨P,HPP.out.1,HPP.out.2.1,(HX9.out.trans zux).toStep,.inl ⟨rfl,.inr ⟨Q,HQQ.out.1,HQQ.out.2.1,fun e=>heq ?_⟩⟩⟩;rw[<-HSV.out,HT0'.out];exact e
        ·have HNO:Hid ((zP b q<=1000000/\(zB b q false).length≠ll)):=Zh ⟨zsZ,aa⟩;have zt8:¬(lt:Int)=(ll:Int):=aa
         have zxC:((lt:Int)==(ll:Int))=false:=by simp;omega
         have zyL:((lt:Int) !=(ll:Int))=true:=by simp;omega
         clear hne hTl hlt hT8 hM8 zsZ zs4;go_wp2_with fail
         go_ret;refine⟨P,HPP.out.1,HPP.out.2.1,?_,?_⟩
         ·exact((ztl.trans hs7.ext).trans hs8.ext).toStep
         ·refine .inl ⟨?_,.inl HNO.out⟩;rfl
      ·have HVX:Hid (∀W,Ext we W->Cq 88 #[.slice Bb k bc,.int .i64 q,.int .i64 1000000] W (zA W (.tuple #[.slice none 0 0,.int .i64 0,.int .i64 9]))):=Zh (fun W e=>(HVG W e).mono (by
        rintro e' w' (⟨B1,d1,T,-,-,-,-,-,-,h8,-⟩|⟨k7,he,h7,hs⟩)
        ·omega
        ·rcases h7 with ⟨-,h8,-⟩|⟨rfl,-⟩
         ·omega
         ·exact⟨he,hs⟩))
       clear HVG zsZ;go_wp2_with (first
        |(go_at_call 89;refine(HGR.out _ Zi).mono ?_;rintro e w7 ⟨rfl,hs7⟩)
        |(go_at_call 88;refine(HVX.out _ Zi).mono ?_;rintro e w8 ⟨rfl,hs8⟩))
       go_ret;rw[<-hB]at HD;refine⟨P,HPP.out.1,HPP.out.2.1,(ztl.trans Zi).toStep,.inr ⟨⟨sb,k,N,Bb,bc,some ⟨g,0,none⟩,pc,DA,dc,NA,nc,.slice none 0 0,cb,hs,TA,tc,ob,false⟩,[],_,rfl,rfl,rfl,(fun h=>by cases h),HD.out.ext Zi,fun j hj=>?_⟩⟩;have hj2:j<=k:=by simp at hj;omega
       rw[List.getElem?_replicate,if_pos ((aa:j<k+1))];have:P.map (jd false a P (zu P (([]:List Nat).take j)))=List.replicate N 0:=by
        have e:jd false a P (zu P (([]:List Nat).take j))=fun _=>0:=by funext x;rfl
        rw[e,List.map_const',HPP.out.2.2.2]
       rw[this]
set_option maxRecDepth 20000 in
theorem zjd{c:SeaC}{a:List (List Int)}{zc:List (List Int)}(hM:SeaM c B w a P tot tv none 0 [] zc):Cq 83 #[.pointer (some ⟨c.sb,0,none⟩),.slice none 0 0] w (Zq w (.bool true)):=by
 have s5:w.cell? ⟨c.sb,5,none⟩=some (.slice none 0 0):=hM.cell 5;have f5:w.frozen? ⟨c.sb,5,none⟩=false:=by have:=hM.blk;simp[World.frozen?,this]
 have oS:Old c.sb w:=⟨zi hM.blk⟩;have HE:=Zh (zae s5);clear hM;generalize c.sb=sb at*
 go_enter Tryz.func83,Tryz.ntmps83;go_wp2_with fail
 go_loopw [6,7,8,19] (fun _ _ _ i wr=>i= .int .i64 0/\wr=w) (fun _ _ _ _ _=>0)
 case atStart=>exact⟨rfl,HE.out⟩
 case round=>
  obtain⟨rfl,rfl⟩:=hrel;go_wp2_with fail
  go_ret;exact⟨rfl,rfl⟩
theorem zje{m:List (List Int)}{e:Ending}(h:zbC w m q budget e w'):∃(B:Option Addr) (l d:Nat) (ok:Bool) (k:Int),e= .returned (.tuple #[.slice B l d,.bool ok,.int .i64 k])/\Step w w'/\Hid ((ok=true/\k=0/\zP m q<=budget/\∃L:List (List Int),L.length=l/\Mat64 w' B L/\VecList m q false L/\L.length<=4096)∨(ok=false/\((k=7/\zP m q<=budget/\4096<(zB m q false).length)∨(k=9/\budget<zP m q)))):=by
 rcases h with ⟨B,d,L,he,hM,-,-,hV,h4,hb,hs⟩|⟨k,he,hk,hs⟩
 ·exact⟨B,L.length,d,true,0,he,hs,Zh (.inl ⟨rfl,rfl,hb,L,rfl,hM,hV,h4⟩)⟩
 ·exact⟨none,0,0,false,k,he,hs,Zh (.inr ⟨rfl,hk⟩)⟩
theorem zqG{a:List (List Int)}{Bb:Option Addr}{e:Ending}(h:zcU w a b n q ll Bb e w'):∃v:Option Addr,e= .returned (.pointer v)/\Step w w'/\Hid (∃P,PtsOf a q P/\P.length=2*ll/\((v=none/\((zP b q<=1000000/\(zB b q false).length≠ll)∨∃Q,PtsOf b q Q/\Q.length=2*ll/\Z4 a P []≠Z4 b Q []))∨
  ∃(c:SeaC) (Q zc:List (List Int)),v=some ⟨c.sb,0,none⟩/\c.n=n/\c.bA=Bb/\(c.cd=true->PtsOf b q Q/\Q.length=2*ll)/\SeaM c w.heap.size w' a P (qo n (ZB c.cd b Q)) (J5 c.cd b Q n) none 0 [] zc/\RowsOK c.cd n a P [] zc)):=by
 obtain⟨P,hP,hl,hs,h1|⟨c,Q,zc,h1,h2⟩⟩:=h
 ·exact⟨none,h1.1,hs,Zh ⟨P,hP,hl,.inl ⟨rfl,h1.2⟩⟩⟩
 ·exact⟨_,h1,hs,Zh ⟨P,hP,hl,.inr ⟨c,Q,zc,rfl,h2⟩⟩⟩
def zbD(w:World)(a b:List (List Int))(n q:Nat)(budget:Int)(e:Ending)(w':World):Prop:=
 Step w w'/\((∃k:Int,e= .returned (.tuple #[.slice none 0 0,.bool false,.int .i64 k])/\((k=7/\zP a q<=budget/\4096<(zB a q false).length)∨(k=9/\budget<zP a q)))∨
  zP a q<=budget/\∃P,PtsOf a q P/\
  ((∃t T,Zt (Zy a b) P n []=some t/\e= .returned (.tuple #[.slice T n n,.bool true,.int .i64 0])/\Mat64 w' T (qZ n t))∨
   e= .returned (.tuple #[.slice none 0 0,.bool false,.int .i64 0])/\(Zt (Zy a b) P n []=none∨(zP b q<=1000000/\(zB b q false).length≠(zB a q false).length))))
theorem zqH{a:List (List Int)}{e:Ending}(h:zbD w a b n q budget e w'):∃v1 v2 v3:Value,e= .returned (.tuple #[v1,v2,v3])/\Hid (zbD w a b n q budget (.returned (.tuple #[v1,v2,v3])) w'):=by
 have h0:=h;rcases h.2 with ⟨k,rfl,-⟩|⟨-,P,-,⟨t,T,-,rfl,-⟩|⟨rfl,-⟩⟩
 ·exact⟨_,_,_,rfl,Zh h0⟩
 ·exact⟨_,_,_,rfl,Zh h0⟩
 ·exact⟨_,_,_,rfl,Zh h0⟩
set_option maxRecDepth 20000 in
theorem zqI{Bb:Option Addr}{a:List (List Int)}(ha:MatA w0 A a)(hb:MatA w0 Bb b)(hal:a.length=n)(hbl:b.length=n)(hca:n<=ca)(zsO:ca<=9223372036854775807)(hbc:n<=bc)(zsT:bc<=9223372036854775807)(hra:zM a=true)(hrb:zM b=true)
  (zsY:Za a=Za b) (hu0:0<=budget) (hu1:budget<=1000000) (hne:1<=(zB a q false).length) (hq:Zu b n=q) (hq1:(q:Int)<1073741824) [hx:Ext w0 w]:
  Cq 38 #[.slice A n ca,.slice Bb n bc,.int .i64 budget,.slice none 0 0] w (zbD w a b n q budget):=by
 have hRa:=Zk hra;have hRb:=Zk hrb;have hn:=Z2 hRa.small;have HVS:Hid (∀W,Ext w0 W->Cq 39 #[.slice A n ca,.slice Bb n bc,.int .i64 budget,.slice none 0 0,.int .i64 n] W (zbC W a q budget)):=Zh (fun W e=>zjc (C:=none) (cc:=0) (k:=0) (most:=n) (cols:=[]) ha hb hal hbl hca zsO hbc zsT hra hrb zsY hu0 hu1 ⟨[],rfl,Arr.nil,fun i r h=>by simp at h⟩ rfl (Nat.zero_le _) aa (fun x hx=>by simp at hx) hq hq1)
 have HNS:Hid (∀W LA L lc,Ext w0 W->Mat64 W LA L->VecList a q false L->L.length<=4096->Cq 82 #[.slice A n ca,.slice Bb n bc,.slice LA (List.length L) lc] W (zcU W a b n q L.length Bb)):=Zh (fun W LA L lc e hL hV h4=>zqF (w0:=W) (ha.ext e) (hb.ext e) hal hbl hca zsO hbc zsT hra hrb hL rfl hV (by have:=jQ hRa (Int.natCast_nonneg q) hV;omega) h4 hq hq1);have HA:=Zh (And.intro ha (And.intro hal (And.intro hra hRa)))
 have HB:=Zh (And.intro hb (And.intro hbl (And.intro hrb hRb)));have HBA:Hid (AllLen b n):=Zh (by rw[<-hbl];exact zV hRb.small);have HQ1:=Zh hq1;have HN:=Zh hn;clear ha hb hal hbl hra hrb hRa hRb zsY hq hq1 hn hca zsO hbc zsT hu0 hu1 hne;unfold zbD;go_enter Tryz.func38,Tryz.ntmps38;go_upto_region 2 with (go_at_call 39;refine(HVS.out _ Zi).mono ?_;rintro e w5 h5;obtain⟨LA,ll,lc,ok,k5,rfl,hs5,h5⟩:=zje h5)
 rcases h5.out with ⟨rfl,rfl,zsZ,L,hLl,hM,hV,h4⟩|⟨rfl,hk⟩
 ·have HNL:Hid (∀W,Ext w5 W->Cq 82 #[.slice A n ca,.slice Bb n bc,.slice LA ll lc] W (zcU W a b n q ll Bb)):=Zh (fun W e=>by
   have:=HNS.out W LA L lc (((Zi:Ext w0 w5)).trans e) (hM.ext e) hV h4;rwa [hLl]at this)
  have HC0:Hid ((zB a q false).length=ll):=Zh (by rw[<-hLl];exact(jQ HA.out.2.2.2 (Int.natCast_nonneg q) hV).symm);have HBU:=Zh zsZ;have HL4:Hid (ll<=4096):=Zh aa;clear hLl hM hV h4 zsZ h5;go_upto_region 5 with (go_at_call 82;refine(HNL.out _ Zi).mono ?_;rintro e w6 h6;obtain⟨v,rfl,hs6,h6⟩:=zqG h6)
  obtain⟨P,hP,hPl,ztx⟩:=h6.out;have HP:=Zh hP;rcases ztx with ⟨rfl,hno⟩|⟨c,Q,zc,rfl,hcn,hcb,hcQ,hS,hR⟩
  ·have HNO:Hid (Zt (Zy a b) P n []=none∨(zP b q<=1000000/\(zB b q false).length≠(zB a q false).length)):=Zh (by
    rcases hno with ⟨h1,h2⟩|⟨Q,hQ,hQl,hne⟩
    ·exact .inr ⟨h1,by rw[HC0.out];exact h2⟩
    ·refine .inl ?_
     cases hE:Zt (Zy a b) P n [] with
     |none=>rfl
     |some t=>
      obtain⟨h1,h2,-⟩:=J3 HA.out.2.2.2 hP n [] t hE ParC.nil;have hi:=h1.iso HA.out.2.2.2 HB.out.2.2.2 hP (by rw[HA.out.2.1,HB.out.2.1]) (by rw[HA.out.2.1];simpa using h2);exact absurd (hi.cT HA.out.2.2.2 HB.out.2.2.2 hP hQ aa []) hne)
   clear hno hP hPl h6;go_wp2_with fail
   go_ret3
   exact⟨Step.of _ _,.inr ⟨HBU.out,P,HP.out,.inr ⟨rfl,HNO.out⟩⟩⟩
  ·subst hcn;subst hcb;have hNc:c.N=2*ll:=by have:=hS.plen;omega
   have HSA:=Zh (fun W(e:W=w6)=>zjd hS);have ztO:=hP.zc;rw[HA.out.2.1]at ztO;have HCM:=Zh (zqn (w0:=w5) (w:=w6) (Q:=Q) (h:=ll) (b:=b) hS rfl rfl hR (HB.out.1.ext (Zi:Ext w0 w5)) HB.out.2.1 HBA.out Zr af (by have:=HN.out;have:=HA.out.2.1;omega) hNc (by have:=HL4.out;omega) HA.out.2.1 ztO hP.rev (hP.ip HA.out.2.2.2));have zsv:=ziv (cd:=c.cd) (Q:=Q) HA.out.2.2.2 HB.out.2.2.2 (by rw[HA.out.2.1,HB.out.2.1]) hP (fun hc=>⟨(hcQ hc).1,by rw[hPl,(hcQ hc).2]⟩) (by have:=HQ1.out;omega) c.n [] (by rw[HA.out.2.1];simp) ParC.nil
   have zrl:=Zh ztO;have hs0:=hS.blk;have oS6:Old c.sb w6:=⟨zi hs0⟩;unfold zeQ at HCM;simp only[List.length_nil,Nat.sub_zero,show zu P []=[] from rfl]at HCM;rw[zsv]at HCM;have HST:Hid (Cq 83 #[.pointer (some ⟨c.sb,0,none⟩),.slice none 0 0] w6 (Zq w6 (.bool true))):=Zh (zjd hS)
   cases hR2:Zt (Zy a b) P c.n [] with
   |none=>
    rw[hR2]at HCM;have HR2:=Zh hR2;have HCN:Hid (Cq 84 #[.pointer (some ⟨c.sb,0,none⟩)] w6 fun e w'=>e= .returned (.bool false)/\Ext w5 w'):=Zh (HCM.out.mono fun e w' h=>⟨h.1,h.2.1⟩);have zt8:(Value.pointer (some (⟨c.sb,0,none⟩:Addr)))≠ .pointer none:=af
    clear hS hR zsv ztO hs0 HCM HSA hR2 hP hPl h6 hcQ hNc;generalize c.sb=sb at*
    go_wp2_with (first
     |(go_at_call 83;refine(HST.out).mono ?_;rintro e w7 ⟨rfl,rfl⟩)
     |(go_at_call 84;refine(HCN.out).mono ?_;rintro e w8 ⟨rfl,hx8⟩))
    go_ret3
    exact⟨((Zi:Ext w w5).trans hx8).toStep,.inr ⟨HBU.out,P,HP.out,.inr ⟨rfl,.inl HR2.out⟩⟩⟩
   |some t=>
    rw[hR2]at HCM;have HR2:=Zh hR2;have htl:t.length=c.n:=by
     have:=(J3 HA.out.2.2.2 hP c.n [] t hR2 ParC.nil).2.1;simpa using this
    have HIS:Hid (∀W SA' sc' st' rows',SeaM c w5.heap.size W a P (qo c.n (ZB c.cd b Q)) (J5 c.cd b Q c.n) SA' sc' st' rows'->zu P st'=t->Cq 85 #[.pointer (some ⟨c.sb,0,none⟩)] W (zeS W c.n t)):=Zh (fun W SA' sc' st' rows' h1 h2=>by
     have h3:=zqw h1 (by rw[<-htl,<-h2,jW]) (by have:=HN.out;have:=HA.out.2.1;omega) ztO;rwa [h2]at h3)
    have HCN:Hid (Cq 84 #[.pointer (some ⟨c.sb,0,none⟩)] w6 fun e w'=>e= .returned (.bool true)/\Ext w5 w'/\Hid (Cq 85 #[.pointer (some ⟨c.sb,0,none⟩)] w' (zeS w' c.n t))):=Zh (HCM.out.mono fun e w' h=>⟨h.1,h.2.1,by
     obtain⟨SA',sc',st',rows',h1,h2⟩:=h.2.2 t rfl;exact Zh (HIS.out w' SA' sc' st' rows' h1 h2)⟩)
    clear hS hR zsv ztO hs0 HCM HSA hR2 hP hPl h6 hcQ hNc HIS htl;generalize c.sb=sb at*
    go_wp2_with (first
     |(go_at_call 83;refine(HST.out).mono ?_;rintro e w7 ⟨rfl,rfl⟩)
     |(go_at_call 84;refine(HCN.out).mono ?_;rintro e w8 ⟨rfl,hx8,hc8⟩)
     |(go_at_call 85;refine(hc8.out).mono ?_;rintro e w9 ⟨T9,rfl,hM9,hs9⟩))
    go_ret3
    exact⟨(((Zi:Ext w w5).trans hx8).trans hs9.ext).toStep,.inr ⟨HBU.out,P,HP.out,.inl ⟨t,T9,HR2.out,rfl,hM9⟩⟩⟩
 ·have HK:=Zh hk;clear hk h5;go_wp2_with fail
  go_ret3
  exact⟨Step.of _ _,.inl ⟨k5,rfl,HK.out⟩⟩
theorem zcV{Bb:Option Addr}{a:List (List Int)}(ha:MatA w0 A a)(hb:MatA w0 Bb b)(hal:a.length=n)(hbl:b.length=n)(hca:n<=ca)(zsO:ca<=9223372036854775807)(hbc:n<=bc)(zsT:bc<=9223372036854775807)(hra:zM a=true)(hrb:zM b=true)
  (zsY:Za a=Za b) (hu0:0<=budget) (hu1:budget<=1000000) (hne:1<=(zB a q false).length) (hq:Zu b n=q) (hq1:(q:Int)<1073741824) [hx:Ext w0 w]:
  Cq 10 #[.slice A n ca,.slice Bb n bc,.int .i64 budget] w (zbD w a b n q budget):=by
 have HE:=Zh (fun W(e:Ext w0 W)=>zqI (w:=W) ha hb hal hbl hca zsO hbc zsT hra hrb zsY hu0 hu1 hne hq hq1);clear ha hb hal hbl hra hrb zsY hq hq1 hca zsO hbc zsT hu0 hu1 hne;go_enter Tryz.func10,Tryz.ntmps10;go_wp2_with (go_at_call 38;refine(HE.out _ Zi).mono ?_;rintro e w5 h5;obtain⟨v1,v2,v3,rfl,h6⟩:=zqH h5)
 go_ret3
 exact h6.out
def zeU(w:World)(a:List (List Int))(x:List Int)(n:Nat)(X:Option Addr)(dx:Nat)(e:Ending)(w':World):Prop:=∃D d,e= .returned (.agg #[.slice X n dx,.slice D n d,.bool false])/\Ints w' D 2 .i64 (zC a x)/\Step w w'
set_option maxRecDepth 20000 in
theorem zqJ{a:List (List Int)}{x:List Int}(hA:MatA w0 A a)(hn:a.length=n)(hc:n<=c)(hc2:c<=9223372036854775807)(hR:RedM a)(hX:Ints w0 X 2 .i64 x)(hxl:x.length=n)(hb:∀y∈x,-1099511627776<=y/\y<=1099511627776)(hnm:Qt (zh a x)=true)[hx:Ext w0 w]:
  Cq 40 #[.slice A n c,.slice X n dx] w (zeU w a x n X dx):=by
 have hn8:=hR.n8;have HN:Hid (∀W,Ext w0 W->Cq 90 #[.slice A n c,.slice X n dx] W (zA W (.tuple #[.int .i64 (zh a x),.bool true]))):=Zh (fun W e=>by
  have:=zpE (w:=W) (c:=c) (d:=dx) hA aa hc2 hR hX aa hb;rw[hn,hxl,hnm]at this;simpa using this)
 have HA:=Zh hA;have HX:=Zh hX;have HAL:Hid (AllLen a n):=Zh (by rw[<-hn];exact hR.all);have HNN:=Zh hn;have HXL:=Zh hxl;have zyM:n<=8:=aa
 clear hA hn hc hc2 hR hX hxl hb hnm hn8;go_enter Tryz.func40,Tryz.ntmps40;go_wp2_with (go_at_call 90;refine(HN.out _ Zi).mono ?_;rintro e w1 ⟨rfl,hs1⟩)
 have ztp:Ext w0 w1:=hx.trans Zi;go_loopw [9,22] (fun _ s22 wr=>∃(k:Nat) (D:Option Addr) (d:Nat),k<=n/\s22= .int .i64 k/\Hid (wr.heap[w1.heap.size]? =some (.cells #[.slice X n dx,.slice D k d,.bool false] 73 (0,0)))/\Hid (Own wr w1.heap.size 2 1 D k d (((zC a x).take k).map (Value.int .i64)))/\Ext w1 wr) (fun _ s22 _=>n-(intOf s22).toNat)
 case atStart=>exact⟨0,none,0,aa,rfl,Zh (heap_alloc_new w1 _),Zh (by simpa using Own.nil _ _ _ _),Zi⟩
 case round=>
  obtain⟨k,D,d,hk,rfl,HBX,HOW,hxr⟩:=hrel;by_cases hlt:k<n
  ·obtain⟨rw0,hrw⟩:∃r,a[k]? =some r:=⟨_,Ze (by rw[HNN.out];exact hlt)⟩;obtain⟨b,o,B,c2,rfl,hc1,hI,h1,h2,h3⟩:=(HA.out.ext (ztp.trans hxr)).at_ hrw;have hrl:rw0.length=n:=HAL.out rw0 (Zm hrw);rw[hrl]at hc1;have hD:=Zh (fun W(e:Ext wr W)=>J4 (w0:=wr) (w:=W) (c:=c2) (d:=dx) hI ⟨_,HX.out.ext (ztp.trans hxr)⟩ hrl HXL.out Zr aa);have hnv:(zC a x).take (k+1)=(zC a x).take k++[z6 rw0 x]:=by
    rw[List.take_add_one];simp[zC,hrw]
   have HNV:=Zh hnv;generalize z6 rw0 x=v at*
   have hst:=HBX.out;have r1:wr.cell? ⟨w1.heap.size,1,none⟩=some (.slice D k d):=by simp[World.cell?,hst]
   have r2:wr.frozen? ⟨w1.heap.size,1,none⟩=false:=by simp[World.frozen?,hst]
   have hsz:=zi hst;have oS:Old w1.heap.size wr:=⟨hsz⟩;have oB:Old b wr:=⟨h3⟩;clear hrw hI h1 h2 h3 hrl hnv hst;go_wp2_with fail
   go_region_law (first
    |((refine QS _ rfl (.tmp 27) (.tmp 31) 34 rfl w1.heap.size 2 (.int .i64 0) 1 8 Tryz.underlying34 qb rfl ac ac D k d _ (by simp[Act.eval]) (HOW.out.ext Zi) (some ⟨wr.heap.size,0,none⟩) 1 1 [.int .i64 v] (by simp[Act.eval]) ((Arr.new wr 2 #[.int .i64 v]).ext Zi) rfl (by simp[Value.oneCell']) aa (by simp<;>omega) ?_);intro A6 d6 w6 zsx hg6;have hb6:=hg6.heap (zg (Zi:Ext wr ((wr.alloc (Obj.cells #[Value.int .i64 v] 2)).drew)) HBX.out) ac;have z1:w6.frozen? ⟨w1.heap.size,1,none⟩=false:=(by simp[World.frozen?,hb6]);have z2:w6.cell? ⟨w1.heap.size,1,none⟩=some (.slice D k d):=(by simp[World.cell?,hb6]);have z3:=zi hb6)
    |(go_simp;go_at_call 91;refine(hD.out _ Zi).mono ?_;rintro e w5 ⟨rfl,rfl⟩))
   all_goals
    have HO6:=Zh zsx;have HG6:=Zh hg6;have HB6:=Zh hb6;clear zsx hg6 hb6 z1 z2;go_wp2_with fail
    refine⟨⟨k+1,A6,d6,aa,by go_num,Zh ?_,Zh ?_,?_⟩,by simp[intOf]<;>omega⟩
    ·have:=zX (i:=1) HB6.out (.slice A6 (k+1) d6);simpa using this
    ·rw[HNV.out,List.map_append];exact HO6.out.far (p:=⟨w1.heap.size,1,none⟩) HB6.out ac _
    ·exact(HG6.out.ext (hxr.trans Zi) Zr).setCell (p:=⟨w1.heap.size,1,none⟩) Zr _
  ·obtain rfl:n=k:=aa
   have hst:=HBX.out;have hr1:wr.heap[w.heap.size]? =some (.cells #[.slice none 0 0,.slice none 0 0,.bool false] 73 (0,0)):=zg hxr (BlkAt.eq);have r0:wr.cell? ⟨w1.heap.size,0,none⟩=some (.slice X n dx):=by simp[World.cell?,hst]
   have r1:wr.cell? ⟨w1.heap.size,1,none⟩=some (.slice D n d):=by simp[World.cell?,hst]
   have r2:wr.cell? ⟨w1.heap.size,2,none⟩=some (.bool false):=by simp[World.cell?,hst]
   have q0:wr.cell? ⟨w.heap.size,0,none⟩=some (.slice none 0 0):=by simp[World.cell?,hr1]
   have q1:wr.cell? ⟨w.heap.size,1,none⟩=some (.slice none 0 0):=by simp[World.cell?,hr1]
   have q2:wr.cell? ⟨w.heap.size,2,none⟩=some (.bool false):=by simp[World.cell?,hr1]
   have f0:wr.frozen? ⟨w.heap.size,0,none⟩=false:=by simp[World.frozen?,hr1]
   have f1:wr.frozen? ⟨w.heap.size,1,none⟩=false:=by simp[World.frozen?,hr1]
   have f2:wr.frozen? ⟨w.heap.size,2,none⟩=false:=by simp[World.frozen?,hr1]
   have oS:Old w1.heap.size wr:=⟨zi hst⟩;have oR:Old w.heap.size wr:=⟨zi hr1⟩;have HR1:=Zh hr1;have HDI:Hid (Ints wr D 2 .i64 (zC a x)):=Zh (by
    have h:=HOW.out.arr;rw[List.take_of_length_le (by simp[zC,HNN.out])]at h;exact h)
   clear hst hr1;go_wp2_with fail
   have g1:=zX (i:=0) HR1.out (.slice X n dx);have g2:=zX (i:=1) g1 (.slice D n d);refine bodyPost_ret (v:= .agg #[.slice X n dx,.slice D n d,.bool false]) (by simp[results,Tryz.results40,go_sem,q0,q1,q2]) rfl ⟨D,d,rfl,?_,?_⟩
   ·exact((HDI.out.oth (Oth.set (p:=⟨w.heap.size,0,none⟩) HR1.out _) ac).oth (Oth.set (p:=⟨w.heap.size,1,none⟩) g1 _) ac).oth (Oth.set (p:=⟨w.heap.size,2,none⟩) g2 _) ac
   ·exact(((((Zi:Ext w w1).trans hxr).setCell (p:=⟨w.heap.size,0,none⟩) Zr _).setCell (p:=⟨w.heap.size,1,none⟩) Zr _).setCell (p:=⟨w.heap.size,2,none⟩) Zr _).toStep
theorem zqK{D Y:Option Addr}{dd dy:Nat}{u y:List Int}{v:Int}(hD:Ints w0 D 2 .i64 u)(hul:u.length=n)(hY:Ints w0 Y 2 .i64 y)(hyl:y.length=n)(hn:n<=8)[hx:Ext w0 w]:
  Cq 42 #[.agg #[.slice X n dx,.slice D n dd,.bool false],.slice A n c,.slice Y n dy,.int .i64 v] w (zA w (.bool (z6 u y==v))):=by
 have HDT:=Zh (fun W(e:Ext w0 W)=>J4 (w0:=w0) (w:=W) (c:=dd) (d:=dy) ⟨_,hD⟩ ⟨_,hY⟩ hul hyl Zr aa);clear hD hY hul hyl;generalize z6 u y=z at*
 by_cases hz:z=v
 ·subst hz;go_enter Tryz.func42,Tryz.ntmps42;go_wp2_with (go_at_call 91;refine(HDT.out _ Zi).mono ?_;rintro e w1 ⟨rfl,rfl⟩)
  go_ret;exact⟨af,Step.of _ _⟩
 ·have hz2:(z==v)=false:=by simpa using hz
  have hz3:(z !=v)=true:=by simpa using hz
  rw[hz2];go_enter Tryz.func42,Tryz.ntmps42;go_wp2_with (go_at_call 91;refine(HDT.out _ Zi).mono ?_;rintro e w1 ⟨rfl,rfl⟩)
  go_ret;exact⟨rfl,Step.of _ _⟩
end Go.Proofs.YtgoaelchibpffaaGreat
