/- Io15 Io16 Io17 -/
import Derived.Test.YtpcgfpmiphiacaaGreatQ20
import Derived.Test.YtpcgfpmiphiacaaGreatProg
import Derived.Test.YtpcgfpmiphiacaaGreatShelf
import Derived.Test.YtpcgfpmiphiacaaGreatShelfI
import Derived.Test.YtpcgfpmiphiacaaGreatRows
import Derived.Test.YtpcgfpmiphiacaaGreatShelfC
set_option maxHeartbeats 8000000
set_option linter.unusedVariables false
set_option linter.unusedSimpArgs false
set_option linter.constructorNameAsVariable false
namespace Go.Proofs.YtpcgfpmiphiacaaGreat
open Go.RowKit La
theorem infoSlU64:(Tryz.prog.info? 116).map (fun i=>(i.zero,i.size,i.bytes))=some (some (.slice none 0 0),1,24):=by kernel_rfl
theorem infoTr:(Tryz.prog.info? 170).map (fun i=>(i.zero,i.size,i.bytes))=some (some (.agg #[.int .i64 0,.int .u64 0]),2,16):=by kernel_rfl
structure SeaN (c:SeaC) (B:Nat) (w:World) (a b P:List (List Int)) (tk:Nat):Prop where
 blk:w.heap[c.sb]? =some (.cells #[.slice c.bA c.n c.bc,.slice c.PA c.N c.pc,.slice c.DA c.N c.dc,.slice c.NA c.N c.nc,.slice none 0 0,.slice none 0 0,.slice (some ⟨c.cb,0,none⟩) (c.n+1:Nat) (c.n+1:Nat),.slice c.TA tk c.tc,.slice (some ⟨c.ob,0,none⟩) (c.n+1:Nat) (c.n+1:Nat),.bool false] 167 (0,0))
 heads:VRow w c.cb 116 (c.hs.map (headW c.N)++List.replicate (c.n+1-c.hs.length) (.slice none 0 0))
 rws:∀g∈c.hs,Row w g 168 .u64 (List.replicate c.N 0)
 hl:c.hs.length<=c.n+1
 dist:∀(i j g:Nat),c.hs[i]? =some g->c.hs[j]? =some g->i=j
 tots:Row w c.ob 168 .u64 (List.replicate (c.n+1) 0)
 obn:c.ob∉c.hs
 trs:Own w B 170 2 c.TA tk c.tc (trG b tk fun _=>0)
 pts:Mat64 w c.PA P
 duals:Mat64 w c.DA (P.map (applyW a))
 norms:Ints w c.NA 2 .i64 (P.map (nrm a))
 plen:P.length=c.N
 bsb:B<=c.sb
 bcb:B<=c.cb
 bob:B<=c.ob
 bhs:∀g∈c.hs,B<=g
section
variable {c:SeaC} {B:Nat} {w w':World} {a b P:List (List Int)} {tk:Nat}
theorem SeaN.ext (h:SeaN c B w a b P tk) (hx:Ext w w'):SeaN c B w' a b P tk:=
 ⟨heap_of_ext hx h.blk,heap_of_ext hx h.heads,fun g hg=>(h.rws g hg).ext hx,h.hl,h.dist,h.tots.ext hx,h.obn,h.trs.ext hx,h.pts.ext hx,h.duals.ext hx,h.norms.ext hx,h.plen,h.bsb,h.bcb,h.bob,h.bhs⟩
theorem SeaN.put (h:SeaN c B w a b P tk) (hk:c.hs.length<c.n+1) {g:Nat} (hg:Row w g 168 .u64 (List.replicate c.N 0)) (hB:B<=g) (hgn:g∉c.hs) (hgo:g≠c.ob):
  SeaN {c with hs:=c.hs++[g]} B (w.setCell ⟨c.cb,c.hs.length,none⟩ (.slice (some ⟨g,0,none⟩) c.N c.N)) a b P tk:=by
 have ho:Oth 116 w (w.setCell ⟨c.cb,c.hs.length,none⟩ (.slice (some ⟨g,0,none⟩) c.N c.N)):=Oth.set (p:=⟨c.cb,c.hs.length,none⟩) h.heads _
 have hr:∀g',Row w g' 168 .u64 (List.replicate c.N 0)->Row (w.setCell ⟨c.cb,c.hs.length,none⟩ (.slice (some ⟨g,0,none⟩) c.N c.N)) g' 168 .u64 (List.replicate c.N 0):=fun g' hg'=>ho _ _ _ _ (by decide) hg'
 refine ⟨ho _ _ _ _ (by decide) h.blk,?_,fun g' hg'=>?_,by simp;omega,fun i j g' h1 h2=>?_,ho _ _ _ _ (by decide) h.tots,fun hm=>?_,h.trs.oth ho (by decide),h.pts.oth ho (by decide) (by decide),h.duals.oth ho (by decide) (by decide),h.norms.oth ho (by decide),h.plen,h.bsb,h.bcb,h.bob,fun g' hg'=>?_⟩
 ·have h1:=h.heads.set c.hs.length (.slice (some ⟨g,0,none⟩) c.N c.N)
  have e:(c.hs.map (headW c.N)++List.replicate (c.n+1-c.hs.length) (Value.slice none 0 0)).set c.hs.length (.slice (some ⟨g,0,none⟩) c.N c.N)=(c.hs++[g]).map (headW c.N)++List.replicate (c.n+1-(c.hs++[g]).length) (.slice none 0 0):=by
   obtain ⟨t,ht⟩:∃t,c.n+1-c.hs.length=t+1:=⟨c.n+1-c.hs.length-1,by omega⟩
   have ht2:c.n+1-(c.hs++[g]).length=t:=by simp;omega
   rw [ht,ht2,List.set_append_right _ _ (by simp)]
   simp [List.replicate_succ,headW]
  rw [e] at h1
  exact h1
 ·rcases List.mem_append.1 hg' with hm |hm
  ·exact hr g' (h.rws g' hm)
  ·rw [List.mem_singleton.1 hm];exact hr g hg
 ·have key:∀t,(c.hs++[g])[t]? =some g'->(t<c.hs.length/\c.hs[t]? =some g')∨(t=c.hs.length/\g'=g):=fun t ht=>by
   rcases Nat.lt_or_ge t c.hs.length with hi |hi
   ·rw [List.getElem?_append_left hi] at ht;exact .inl ⟨hi,ht⟩
   ·rw [List.getElem?_append_right hi] at ht
    have h3:=(List.getElem?_eq_some_iff.1 ht).1
    simp at h3
    exact .inr ⟨by omega,by have :=List.mem_of_getElem? ht;simpa using this⟩
  rcases key i h1 with ⟨a1,a2⟩ |⟨a1,a2⟩<;>rcases key j h2 with ⟨b1,b2⟩ |⟨b1,b2⟩
  ·exact h.dist i j g' a2 b2
  ·exact absurd (b2▸List.mem_of_getElem? a2) hgn
  ·exact absurd (a2▸List.mem_of_getElem? b2) hgn
  ·omega
 ·rcases List.mem_append.1 hm with hm |hm
  ·exact h.obn hm
  ·exact hgo (List.mem_singleton.1 hm).symm
 ·rcases List.mem_append.1 hg' with hm |hm
  ·exact h.bhs g' hm
  ·rw [List.mem_singleton.1 hm];exact hB
theorem SeaN.trait (h:SeaN c B w a b P tk) {w6 W:World} {A6:Option Addr} {d6:Nat} (hW:Ext w W) (hown:Own w6 B 170 2 A6 (tk+1) d6 (trG b tk (fun _=>0)++[.int .i64 (ent b tk tk),.int .u64 0])) (hg:Grow B 170 W w6):
  SeaN {c with TA:=A6,tc:=d6} B (w6.setCell ⟨c.sb,7,none⟩ (.slice A6 (tk+1) d6)) a b P (tk+1):=by
 have h1:=h.ext hW
 have hot:Oth 170 W w6:=Oth.of_grow hg
 have hb:=hot _ _ _ _ (by decide) h1.blk
 have ho2:Oth 167 w6 (w6.setCell ⟨c.sb,7,none⟩ (.slice A6 (tk+1) d6)):=Oth.set (p:=⟨c.sb,7,none⟩) hb _
 exact ⟨by rw [heap_setCell_self hb];rfl,ho2 _ _ _ _ (by decide) (hot _ _ _ _ (by decide) h1.heads),fun g hg=>ho2 _ _ _ _ (by decide) (hot _ _ _ _ (by decide) (h1.rws g hg)),h.hl,h.dist,ho2 _ _ _ _ (by decide) (hot _ _ _ _ (by decide) h1.tots),h.obn,by rw [trG_succ];exact hown.oth ho2 (by decide),(h1.pts.oth hot (by decide) (by decide)).oth ho2 (by decide) (by decide),(h1.duals.oth hot (by decide) (by decide)).oth ho2 (by decide) (by decide),(h1.norms.oth hot (by decide)).oth ho2 (by decide),h.plen,h.bsb,h.bcb,h.bob,h.bhs⟩
theorem SeaN.done (h:SeaN c B w a b P c.n) (hl:c.hs.length=c.n+1):SeaM {c with CV:= .slice none 0 0,cd:=false} B w a P (totG c.n fun _=>0) (trG b c.n fun _=>0) none 0 [] (List.replicate (c.n+1) (List.replicate c.N 0)):=by
 have hh:=h.heads
 rw [hl,Nat.sub_self,List.replicate_zero,List.append_nil] at hh
 have e:totG c.n (fun _=>0)=List.replicate (c.n+1) 0:=by
  unfold totG
  rw [List.map_const',List.length_range]
 have hrw:∀(j g:Nat) (r:List Int),c.hs[j]? =some g->(List.replicate (c.n+1) (List.replicate c.N (0:Int)))[j]? =some r->Row w g 168 .u64 r:=fun j g r h1 h2=>by
  rw [List.getElem?_replicate] at h2
  split at h2
  ·injection h2 with h2
   subst h2
   exact h.rws g (List.mem_of_getElem? h1)
  ·cases h2
 refine ⟨h.blk,hh,hrw,hl,List.length_replicate ..,fun r hr=>?_,h.dist,?_,?_,h.obn,h.trs,h.pts,h.duals,h.norms,h.plen,Own.nil _ _ _ _,h.bsb,h.bcb,h.bob,h.bhs,fun i hi=>?_⟩
 ·rw [(List.mem_replicate.1 hr).2,List.length_replicate]
 ·rw [e];exact h.tots
 ·rw [e,List.length_replicate]
 ·simp at hi
end
def RetNS (w:World) (a b:List (List Int)) (n q ll:Nat) (Bb:Option Addr) (e:Ending) (w':World):Prop:=
 ∃P,PtsOf a q P/\P.length=2*ll/\Step w w'/\
 ((e= .returned (.pointer none)/\((totS b q<=1000000/\(collL b q false).length≠ll)∨∃Q,PtsOf b q Q/\Q.length=2*ll/\clT a P []≠clT b Q []))∨
  ∃(c:SeaC) (Q rows:List (List Int)),e= .returned (.pointer (some ⟨c.sb,0,none⟩))/\c.n=n/\c.bA=Bb/\(c.cd=true->PtsOf b q Q/\Q.length=2*ll)/\SeaM c w.heap.size w' a P (totG n (totF c.cd b Q)) (trV c.cd b Q n) none 0 [] rows/\RowsOK c.cd n a P [] rows)
theorem SeaM.recolor {c:SeaC} {B:Nat} {w w':World} {a P:List (List Int)} {tot:List Int} {tv:List Value} {SA:Option Addr} {sc:Nat} {st:List Nat} {rows:List (List Int)} {cv:Value} {d:Bool} (h:SeaM c B w a P tot tv SA sc st rows) (ho:Oth 167 w w') (hb:w'.heap[c.sb]? =some (.cells (SeaC.cells {c with CV:=cv,cd:=d} SA st.length sc) 167 (0,0))):SeaM {c with CV:=cv,cd:=d} B w' a P tot tv SA sc st rows:=
 ⟨hb,ho _ _ _ _ (by decide) h.heads,fun j g r h1 h2=>ho _ _ _ _ (by decide) (h.rws j g r h1 h2),h.hl,h.rl,h.all,h.dist,ho _ _ _ _ (by decide) h.tots,h.tl,h.obn,h.trs.oth ho (by decide),h.pts.oth ho (by decide) (by decide),h.duals.oth ho (by decide) (by decide),h.norms.oth ho (by decide),h.plen,h.own.oth ho (by decide),h.bsb,h.bcb,h.bob,h.bhs,h.stl⟩
theorem addr_add (b o j:Nat):(⟨b,o,none⟩:Addr).add j=⟨b,o+j,none⟩:=by
 unfold Addr.add
 split
 ·simp_all
 ·rfl
theorem hd_of {w:World} {b n:Nat} {T:TypeId} (h:w.heap[b]? =some (.cells (mkCells #[.slice none 0 0] n) T (0,0))):VRow w b T (List.replicate n (.slice none 0 0)):=by
 have h2:VRow w b T (mkCells #[.slice none 0 0] n).toList:=by unfold VRow;simpa using h
 rw [mkCells_one] at h2
 exact h2
theorem row_of {w:World} {b n:Nat} {T:TypeId} {k:IntKind} (h:w.heap[b]? =some (.cells (mkRow n k) T (0,0))):Row w b T k (List.replicate n 0):=h
set_option maxRecDepth 20000 in
theorem inewSearch_ok {w0 w:World} {A Bb LA:Option Addr} {ca bc lc n q ll:Nat} {a b L:List (List Int)} (ha:MatA w0 A a) (hb:MatA w0 Bb b) (hal:a.length=n) (hbl:b.length=n) (hca:n<=ca) (hca2:ca<=9223372036854775807) (hbc:n<=bc) (hbc2:bc<=9223372036854775807) (hra:isRedB a=true) (hrb:isRedB b=true)
  (hL:Mat64 w0 LA L) (hll:L.length=ll) (hV:VecList a q false L) (h1:1<=ll) (h2:ll<=4096) (hq:grL b n=q) (hq1:(q:Int)<1073741824) [hx:Ext w0 w]:
  Calls Tryz.prog 53 #[.slice A n ca,.slice Bb n bc,.slice LA ll lc] w (RetNS w a b n q ll Bb):=by
 have hRa:=red_ok hra
 have hRb:=red_ok hrb
 have hn:=isSmallB_len hRa.small
 have hsys:=vec_sys hRa (Int.natCast_nonneg q) hq1 hV
 have HNS:Hid (∀W,Ext w0 W->Calls Tryz.prog 59 #[.slice A n ca,.slice LA ll lc] W (RetSysI W a L)):=Lib.hid (fun W e=>inewSystem_ok ha hal (by omega) (by rw [<-hal];exact isSmallB_all hRa.small) hL hll (by omega) h1 (pre_nodup hV) hsys.1 (fun x hx=>by have :=hsys.2 x hx;rw [hal] at this;exact this))
 have HBA:Hid (AllLen b n):=Lib.hid (by rw [<-hbl];exact isSmallB_all hRb.small)
 have HA:=Lib.hid (And.intro ha (And.intro hal (And.intro hra hRa)))
 have HB:=Lib.hid (And.intro hb (And.intro hbl (And.intro hrb hRb)))
 have HV:=Lib.hid hV
 have HLL:=Lib.hid hll
 have HQ:=Lib.hid hq
 have hn1:1<=n:=by omega
 have hn8:n<=1000:=by omega
 have HQ1:=Lib.hid hq1
 have hmk1:=run_make_any (P:=Tryz.prog) Tryz.underlying164 infoSlU64 (by omega) ((n:Int)+1) (by omega) (by omega)
 have hmk2:=run_make_ints (P:=Tryz.prog) (k:= .u64) Tryz.underlying116 infoU64 (by omega) ((n:Int)+1) (by omega) (by omega)
 have hzz:((n:Int)+1).toNat=n+1:=by omega
 rw [hzz] at hmk1 hmk2
 unfold RetSysI at HNS
 have hzn:(0:Int)<=(n:Int)+1:=by omega
 clear ha hb hal hbl hra hrb hL hll hV hq hRa hRb hn hsys hq1
 go_enter Tryz.func53,Tryz.ntmps53
 go_wp2_with fail
 have hwr1:IntKind.i64.wrap ((n:Int)+1)=(n:Int)+1:=IntWalk.i64_in _ (by omega)
 have hwr2:wrap64 ((n:Int)+1)=(n:Int)+1:=by rw [w64];exact hwr1
 go_cut [8] (fun s8 wx=>∃(sb cb ob g pc dc nc:Nat) (DA NA:Option Addr) (els:List VE),s8= .pointer (some ⟨sb,0,none⟩)/\Hid (wx.heap[sb]? =some (.cells #[.slice Bb n bc,.slice (some ⟨g,0,none⟩) els.length pc,.slice DA els.length dc,.slice NA els.length nc,.slice none 0 0,.slice none 0 0,.slice (some ⟨cb,0,none⟩) (n+1) (n+1),.slice none 0 0,.slice (some ⟨ob,0,none⟩) (n+1) (n+1),.bool false] 167 (0,0)))/\Hid (VRow wx cb 116 (List.replicate (n+1) (.slice none 0 0)))/\Hid (Row wx ob 168 .u64 (List.replicate (n+1) 0))/\Hid ((els.map VE.l).Perm (preL L)/\(els.map VE.l).Pairwise (fun x y=>lexI x y<0)/\VRowV wx g els/\(∀x∈els,x.ok wx)/\Mat64 wx DA ((els.map VE.l).map (applyW a))/\Ints wx NA 2 .i64 ((els.map VE.l).map (nrm a)))/\Hid (w.heap.size<=sb/\w.heap.size<=cb/\w.heap.size<=ob)/\Ext w wx)
 case first=>
  go_region_with (go_at_call 59;refine (HNS.out _ inferInstance).mono ?_;rintro e w5 ⟨g,pc,dc,nc,DA,NA,els,rfl,hp5⟩;have hs5:=hp5.2.2.2.2.2.2;have HP5:=Lib.hid hp5;clear hp5)
  all_goals
   go_wp2_with fail
   go_meet
   exact ⟨_,_,_,g,pc,dc,nc,DA,NA,els,rfl,Lib.hid BlkAt.eq,Lib.hid (hd_of BlkAt.eq),Lib.hid (row_of BlkAt.eq),Lib.hid ⟨HP5.out.1,HP5.out.2.1,HP5.out.2.2.1.ext inferInstance,fun x hx=>(HP5.out.2.2.2.1 x hx).ext inferInstance,HP5.out.2.2.2.2.1.ext inferInstance,HP5.out.2.2.2.2.2.1.ext inferInstance⟩,Lib.hid ⟨New.le,New.le,New.le⟩,inferInstance⟩
 case rest=>
  obtain ⟨sb,cb,ob,g,pc,dc,nc,DA,NA,els,rfl,HBK,HHD,HTO,HPT,HNE,hxc⟩:=hcut
  obtain ⟨N,hN⟩:∃N,els.length=N:=⟨_,rfl⟩
  obtain ⟨P,hP⟩:∃P,els.map VE.l=P:=⟨_,rfl⟩
  have HPP:Hid (PtsOf a q P/\P.length=2*ll/\N=2*ll/\P.length=N):=Lib.hid (by
   have e1:=pts_len (L:=L) (P:=P) (by rw [<-hP];exact HPT.out.1)
   rw [HLL.out] at e1
   have e2:P.length=N:=by rw [<-hP,List.length_map];exact hN
   exact ⟨pts_of HV.out (by rw [<-hP];exact HPT.out.1) (by rw [<-hP];exact HPT.out.2.1),e1,by omega,e2⟩)
  have HSN:Hid (SeaN ⟨sb,n,N,Bb,bc,some ⟨g,0,none⟩,pc,DA,dc,NA,nc,.slice none 0 0,cb,[],none,0,ob,false⟩ w.heap.size wc a b P 0):=Lib.hid (by
   have h6:=HPT.out.2.2.1.mat HPT.out.2.2.2.1
   rw [hP] at h6
   have h7:=HPT.out.2.2.2.2.1
   have h8:=HPT.out.2.2.2.2.2
   rw [hP] at h7 h8
   have hb:=HBK.out
   rw [hN] at hb
   exact ⟨hb,by simpa using HHD.out,fun g hg=>by simp at hg,by simp,fun i j g h=>by simp at h,HTO.out,by simp,Own.nil _ _ _ _,h6,h7,h8,HPP.out.2.2.2,HNE.out.1,HNE.out.2.1,HNE.out.2.2,fun g hg=>by simp at hg⟩)
  clear HBK HHD HTO HPT hP hN
  have r6:wc.cell? ⟨sb,6,none⟩=some (.slice (some ⟨cb,0,none⟩) (n+1) (n+1)):=by rw [cell_of_row wc sb 6 _ _ _ HSN.out.blk];rfl
  have oSc:Old sb wc:=⟨lt_of_heap HSN.out.blk⟩
  go_wp2_with fail
  clear hmk1 hmk2 hwr1 hwr2 r6 oSc
  have hN1:N<=100000:=by have :=HPP.out.2.2.1;omega
  have hmk3:=run_make_ints (P:=Tryz.prog) (k:= .u64) Tryz.underlying116 infoU64 (by omega) (N:Int) (by omega) (by omega)
  obtain ⟨B,hB⟩:∃B,w.heap.size=B:=⟨_,rfl⟩
  rw [hB] at HSN HNE
  have HL0:Hid (([]:List Nat).length=0):=Lib.hid rfl
  go_loopw [9,34] (fun _ i wr=>∃(k:Nat) (hs:List Nat),k<=n+1/\i= .int .i64 k/\Hid (SeaN ⟨sb,n,N,Bb,bc,some ⟨g,0,none⟩,pc,DA,dc,NA,nc,.slice none 0 0,cb,hs,none,0,ob,false⟩ B wr a b P 0)/\Hid (hs.length=k)/\Ext w wr) (fun _ i _=>n+1-(intOf i).toNat)
  case atStart=>exact ⟨0,[],by omega,rfl,HSN,HL0,hxc⟩
  case round=>
   obtain ⟨k,hs,hk,rfl,HS,HL,hxr⟩:=hrel
   obtain ⟨wd,rfl⟩:∃wd:World,wd=wr:=⟨_,rfl⟩
   have oSd:Old sb wd:=⟨lt_of_heap HS.out.blk⟩
   by_cases hlt:k<n+1
   ·have r6:wd.cell? ⟨sb,6,none⟩=some (.slice (some ⟨cb,0,none⟩) (n+1) (n+1)):=by rw [cell_of_row wd sb 6 _ _ _ HS.out.blk];rfl
    have r1:wd.cell? ⟨sb,1,none⟩=some (.slice (some ⟨g,0,none⟩) N pc):=by rw [cell_of_row wd sb 1 _ _ _ HS.out.blk];rfl
    have h7:=HS.out.heads
    dsimp only at h7
    rw [HL.out] at h7
    have q1:wd.cell? ⟨cb,k,none⟩=some (.slice none 0 0):=h7.cell (by rw [List.getElem?_append_right (by rw [List.length_map,HL.out];exact Nat.le_refl _),List.length_map,HL.out,Nat.sub_self,List.getElem?_replicate,if_pos (by omega)])
    have q2:wd.frozen? ⟨cb,k,none⟩=false:=h7.frozen k
    have oC:Old cb wd:=⟨h7.lt⟩
    have hkn2:(k:Int)<(n:Int)+1:=by omega
    clear h7
    go_wp2_with fail
    go_region
    have hxm:Ext wd (wd.alloc (.cells (mkRow N .u64) 168)):=inferInstance
    have hput:=(HS.out.ext hxm).put (by dsimp only;rw [HL.out];exact hlt) (g:=wd.heap.size) (Row.made wd N .u64 168) (by have :=hxr.size;omega) (fun hm=>by have :=(HS.out.rws _ hm).lt;omega) (by have :=HS.out.tots.lt;dsimp only at this |-;omega)
    dsimp only at hput
    rw [HL.out] at hput
    have hxd:Ext ((wd.alloc (.cells (mkRow N .u64) 168)).setCell ⟨cb,k,none⟩ (.slice (some ⟨wd.heap.size,0,none⟩) N N)) ((wd.alloc (.cells (mkRow N .u64) 168)).setCell ⟨cb,k,none⟩ (.slice (some ⟨wd.heap.size,0,none⟩) N N)).drew:=inferInstance
    have HPU:=Lib.hid (hput.ext hxd)
    have hx2:Ext w ((wd.alloc (.cells (mkRow N .u64) 168)).setCell ⟨cb,k,none⟩ (.slice (some ⟨wd.heap.size,0,none⟩) N N)).drew:=((hxr.trans hxm).setCell (p:=⟨cb,k,none⟩) (by have :=HNE.out.2.1;dsimp only;omega) _).trans hxd
    have HL2:Hid ((hs++[wd.heap.size]).length=k+1):=Lib.hid (by rw [List.length_append,HL.out];rfl)
    clear hput hxm hxd q1 q2 oC r6 r1 oSd
    go_wp2_with fail
    exact ⟨⟨k+1,_,by omega,by go_num,HPU,HL2,hx2⟩,by simp [intOf];omega⟩
   ·obtain rfl:k=n+1:=by omega
    have HT0:Hid (SeaN ⟨sb,n,N,Bb,bc,some ⟨g,0,none⟩,pc,DA,dc,NA,nc,.slice none 0 0,cb,hs,none,0,ob,false⟩ B wd a b P 0):=HS
    go_wp2_with fail
    clear hmk3 HS HSN
    go_loopw [10,52] (fun _ i wr=>∃(k tc:Nat) (TA:Option Addr),k<=n/\i= .int .i64 k/\Hid (SeaN ⟨sb,n,N,Bb,bc,some ⟨g,0,none⟩,pc,DA,dc,NA,nc,.slice none 0 0,cb,hs,TA,tc,ob,false⟩ B wr a b P k)/\Ext w wr) (fun _ i _=>n-(intOf i).toNat)
    case atStart=>exact ⟨0,0,none,by omega,rfl,HT0,hxr⟩
    case round=>
     obtain ⟨k,tc,TA,hk,rfl,HS,hxr2⟩:=hrel
     obtain ⟨we,rfl⟩:∃we:World,we=wr:=⟨_,rfl⟩
     have oSe:Old sb we:=⟨lt_of_heap HS.out.blk⟩
     by_cases hlt:k<n
     ·obtain ⟨rb,hrb⟩:∃r,b[k]? =some r:=⟨_,List.getElem?_eq_getElem (by rw [HB.out.2.1];exact hlt)⟩
      have hrl:rb.length=n:=HBA.out rb (List.mem_of_getElem? hrb)
      obtain ⟨bb,bo,R1,c4,rfl,b1,hR1,-,-,b5⟩:=(HB.out.1.ext (hx.trans hxr2)).at_ hrb
      obtain ⟨b2,o2,en,rfl,he,e1,e2⟩:=hR1.at_ (i:=k) (by omega)
      rw [hrl] at b1
      have hen:ent b k k=en:=by
       unfold ent
       simp [List.getD_eq_getElem?_getD,hrb,he]
      have r7:we.cell? ⟨sb,7,none⟩=some (.slice TA k tc):=by rw [cell_of_row we sb 7 _ _ _ HS.out.blk];rfl
      have r7f:we.frozen? ⟨sb,7,none⟩=false:=by have :=HS.out.blk;simp [World.frozen?,this]
      have oB1:Old bb we:=⟨b5⟩
      have oB2:Old b2 we:=⟨e2⟩
      have hkn2:(k:Int)<(n:Int):=by omega
      have hBw:B<=we.heap.size:=by have :=hxr2.size;omega
      have HEN:=Lib.hid hen
      clear hrb hR1 he hen hrl
      go_wp2_with fail
      go_region_law (refine step_app _ rfl (.tmp 59) (.tmp 68) 165 rfl B 170 (.agg #[.int .i64 0,.int .u64 0]) 2 16 Tryz.underlying165 infoTr rfl (by decide) (by decide) TA k tc _ (by simp [Act.eval]) (HS.out.trs.ext inferInstance) (some ⟨we.heap.size,0,none⟩) 1 1 [.int .i64 en,.int .u64 0] (by simp [Act.eval]) ((Arr.new we 170 #[.int .i64 en,.int .u64 0]).ext inferInstance) rfl (by simp [Value.oneCell']) (by omega) (by simp<;>omega) ?_;intro A6 d6 w6 hown6 hg6;have hb6:=hg6.heap (heap_of_ext (inferInstance:Ext we ((we.alloc (Obj.cells #[.int .i64 en,.int .u64 0] 170)).drew)) HS.out.blk) (by decide);have z1:w6.frozen? ⟨sb,7,none⟩=false:=(by simp [World.frozen?,hb6]);have z2:w6.cell? ⟨sb,7,none⟩=some (.slice TA k tc):=(by rw [cell_of_row w6 sb 7 _ _ _ hb6];rfl);have z3:=lt_of_heap hb6)
      all_goals
       have hW:Ext we ((we.alloc (Obj.cells #[.int .i64 en,.int .u64 0] 170)).drew):=inferInstance
       have hfin:=HS.out.trait hW (by rw [HEN.out];exact hown6) hg6
       have hx6:Ext w (w6.setCell ⟨sb,7,none⟩ (.slice A6 (k+1) d6)):=(hg6.ext (hxr2.trans hW) (Nat.le_of_eq hB)).setCell (p:=⟨sb,7,none⟩) (by have :=HNE.out.1;dsimp only;omega) _
       have HFIN:=Lib.hid hfin
       clear hfin hown6 hg6 hb6 z1 z2 z3 r7 r7f oB1 oB2 b1 e1
       go_wp2_with fail
       exact ⟨⟨k+1,by omega,by go_num,d6,A6,HFIN⟩,by simp [intOf];omega⟩
     ·obtain rfl:k=n:=by omega
      have HD:=Lib.hid (HS.out.done HL.out)
      have hx0e:Ext w0 we:=hx.trans hxr2
      have HGR:=Lib.hid (fun W (e:Ext we W)=>igreatest_any (w:=W) (c:=bc) (HB.out.1.ext (hx0e.trans e)) HB.out.2.1 HBA.out hn8)
      rw [HQ.out] at HGR
      have HVG:=fun W (e:Ext we W)=>Vectors_gen (w:=W) (c:=bc) (q:=q) (budget:=1000000) (HB.out.1.ext (hx0e.trans e)) HB.out.2.1 hbc hbc2 HB.out.2.2.1 HQ1.out (by omega) (by omega)
      have HCN:Hid (∀T,VecList b q false T->T.length=(collL b q false).length):=Lib.hid (fun T hT=>vecList_len HB.out.2.2.2 (Int.natCast_nonneg q) hT)
      unfold RetVG at HVG
      have hBle:B<=we.heap.size:=by have :=hxr2.size;omega
      by_cases hbud:totS b q<=1000000
      ·by_cases hbig:4096<(collL b q false).length
       ·have HVX:Hid (∀W,Ext we W->Calls Tryz.prog 34 #[.slice Bb k bc,.int .i64 q,.int .i64 1000000] W (RetVal W (.tuple #[.slice none 0 0,.int .i64 0,.int .i64 7]))):=Lib.hid (fun W e=>(HVG W e).mono (by
         rintro e' w' (⟨B1,d1,T,-,-,-,-,hT,h5,-,-⟩ |⟨k7,he,h7,hs⟩)
         ·have :=HCN.out _ hT;omega
         ·rcases h7 with ⟨rfl,-,-⟩ |⟨-,h8⟩
          ·exact ⟨he,hs⟩
          ·omega))
        have HNO:Hid ((totS b q<=1000000/\(collL b q false).length≠ll)):=Lib.hid ⟨hbud,by omega⟩
        clear HVG hbud hbig
        go_wp2_with (first
         |(go_at_call 103;refine (HGR.out _ inferInstance).mono ?_;rintro e w7 ⟨rfl,hs7⟩)
         |(go_at_call 34;refine (HVX.out _ inferInstance).mono ?_;rintro e w8 ⟨rfl,hs8⟩))
        go_ret
        exact ⟨P,HPP.out.1,HPP.out.2.1,(hxr2.trans inferInstance).toStep,.inl ⟨rfl,.inl HNO.out⟩⟩
       ·have HVX:Hid (∀W,Ext we W->Calls Tryz.prog 34 #[.slice Bb k bc,.int .i64 q,.int .i64 1000000] W fun e w'=>∃B1 d T,e= .returned (.tuple #[.slice B1 (List.length T) d,.int .i64 (totS b q),.int .i64 0])/\Mat64 w' B1 T/\VecList b q false T/\Step W w'):=Lib.hid (fun W e=>(HVG W e).mono (by
         rintro e' w' (⟨B1,d1,T,he,hM,-,-,hT,h5,-,hs⟩ |⟨k7,he,h7,hs⟩)
         ·exact ⟨B1,d1,T,he,hM,hT,hs⟩
         ·rcases h7 with ⟨rfl,-,h8⟩ |⟨-,h8⟩<;>omega))
        clear HVG
        go_upto_region 14 with (first
         |(go_at_call 103;refine (HGR.out _ inferInstance).mono ?_;rintro e w7 ⟨rfl,hs7⟩)
         |(go_at_call 34;refine (HVX.out _ inferInstance).mono ?_;rintro e w8 ⟨B1,d1,T,rfl,hM8,hT8,hs8⟩))
        have hTl:=HCN.out _ hT8
        obtain ⟨lt,hlt⟩:∃lt,T.length=lt:=⟨_,rfl⟩
        rw [hlt] at hTl |-
        by_cases hne:lt=ll
        ·subst hne
         have hT1:T.length=lt:=hlt
         have hx8:Ext we w8:=inferInstance
         have HT:=Lib.hid (And.intro hM8 (And.intro hT8 hT1))
         have HD8:=Lib.hid (HD.out.ext hx8)
         have hb8:=HD8.out.blk
         dsimp only at hb8
         have c9:w8.cell? ⟨sb,9,none⟩=some (.bool false):=by rw [cell_of_row w8 sb 9 _ _ _ hb8];rfl
         have f9:w8.frozen? ⟨sb,9,none⟩=false:=by simp [World.frozen?,hb8]
         have oS8:Old sb w8:=⟨lt_of_heap hb8⟩
         have HB8:=Lib.hid hb8
         have HX8:=Lib.hid (hxr2.trans hx8)
         clear hM8 hT8 hT1 hb8 hbud hbig hTl hlt HVX HGR hs7 hs8 oSe
         go_upto_region 19 with fail
         have hs9:=heap_setCell_self HB8.out (i:=9) (.bool true)
         have ho9:Oth 167 w8 (w8.setCell ⟨sb,9,none⟩ (.bool true)):=Oth.set (p:=⟨sb,9,none⟩) HB8.out _
         have hS9:=HD8.out.recolor (cv:= .slice none 0 0) (d:=true) ho9 (by rw [hs9];rfl)
         have hx9:Ext w (w8.setCell ⟨sb,9,none⟩ (.bool true)):=HX8.out.setCell (p:=⟨sb,9,none⟩) (by have :=HNE.out.1;dsimp only;omega) _
         have hM9:Mat64 (w8.setCell ⟨sb,9,none⟩ (.bool true)) B1 T:=HT.out.1.oth ho9 (by decide) (by decide)
         have HS9:=Lib.hid hS9
         have HX9:=Lib.hid hx9
         have HM9:=Lib.hid hM9
         have hRa:=HA.out.2.2.2
         have hRb:=HB.out.2.2.2
         have HPT:Hid (SysB (w8.setCell ⟨sb,9,none⟩ (.bool true)) sb 1 N pc dc nc 167 (SeaC.cells ⟨sb,k,N,Bb,bc,some ⟨g,0,none⟩,pc,DA,dc,NA,nc,.slice none 0 0,cb,hs,TA,tc,ob,true⟩ none 0 0) (some ⟨g,0,none⟩) DA NA a P):=Lib.hid ⟨hS9.blk,rfl,rfl,rfl,by show 1+3<10;omega,hS9.pts,hS9.duals,hS9.norms,hS9.plen,by decide,by decide,by decide⟩
         clear c9 f9 oS8 hs9 ho9 hS9 hx9 hM9 HB8 HD8
         generalize w8.setCell ⟨sb,9,none⟩ (.bool true)=w9 at*
         have HPA:=Lib.hid (ipaint_ok HPT.out HPP.out.2.2.1 hN1 HA.out.2.1 (by rw [<-HA.out.2.1];exact HPP.out.1.rows) (by omega) HPP.out.1.rev (HPP.out.1.ip hRa) (fun x hx=>by have :=HPP.out.1.nb hRa hx;have :=HQ1.out;omega))
         unfold RetPt at HPA
         have oS9:Old sb w9:=⟨lt_of_heap HPT.out.blk⟩
         go_upto_region 20 with (go_at_call 104;refine (HPA.out).mono ?_;rintro e wa ⟨rfl,cg,hcg1,hcg2,hcg3,hcg4⟩)
         have hoa:Oth 167 w9 wa:=hcg4.othT HS9.out.blk
         have hSa:=HS9.out.recolor (cv:= .slice (some ⟨cg,0,none⟩) N N) (d:=true) hoa (by rw [hcg3];rfl)
         have hxa:Ext w wa:=hcg4.ext HX9.out (by rw [hB];exact HNE.out.1)
         have hMa:Mat64 wa B1 T:=HM9.out.oth hoa (by decide) (by decide)
         obtain ⟨g0,hg0,k1,k2,k3,k4,k5⟩:=hSa.row (j:=0) (Nat.zero_le _)
         dsimp only at k1 k3 hg0
         have hr0:Row wa g0 168 .u64 (List.replicate N 0):=hSa.rws 0 g0 _ hg0 (by rw [List.getElem?_replicate,if_pos (Nat.succ_pos _)])
         have k6:wa.cell? ⟨sb,6,none⟩=some (.slice (some ⟨cb,0,none⟩) (k+1) (k+1)):=hSa.cell 6
         have k7:wa.cell? ⟨sb,4,none⟩=some (.slice (some ⟨cg,0,none⟩) N N):=hSa.cell 4
         have oSa:Old sb wa:=⟨lt_of_heap hSa.blk⟩
         have oCa:Old cb wa:=⟨k3⟩
         have hkz:(0:Int)<(k:Int)+1:=by omega
         have HR0:=Lib.hid hr0
         have HCG:=Lib.hid hcg2
         have HSa:=Lib.hid hSa
         have HXa:=Lib.hid hxa
         have HMa:=Lib.hid hMa
         have HG0:=Lib.hid hg0
         have hcl:(P.map (clP a P)).length=N:=by rw [List.length_map];exact HPP.out.2.2.2
         have HCL:=Lib.hid hcl
         clear hoa hSa hxa hMa hr0 hcg2 hcg3 hcg4 hg0 HPT HPA HM9 HS9 HX9 oS9 hcl
         go_cut [] (fun wx=>Hid (VRow wx g0 168 ((P.map (clP a P)).map (Value.int .u64)))/\Hid (Only g0 wa wx))
         case first=>
          go_region_law (refine step_copyW rfl (.tmp 105) (.tmp 110) 116 116 rfl 168 1 Tryz.underlying116 (by kernel_rfl) g0 N N ⟨cg,0,none⟩ N N (by simp [Act.eval]) (by simp [Act.eval]) _ 168 HR0.out ((P.map (clP a P)).map (Value.int .u64)) (by rw [List.length_map,HCL.out,Nat.mul_one];exact (Nat.min_self N).symm) (fun j v hv=>by
          have h1:=HCG.out
          unfold Row at h1
          have e:(⟨cg,0,none⟩:Addr).add j=⟨cg,j,none⟩:=by rw [addr_add,Nat.zero_add]
          rw [e]
          refine (cell_of_row wa cg j _ _ _ h1).trans ?_
          simpa using hv) (by simp;exact HPP.out.2.2.2) (fun v hv=>by obtain ⟨z,-,rfl⟩:=List.mem_map.1 hv;rfl) ?_;intro wb hvb hob)
          all_goals
          go_wp2_with fail
          go_meet
          exact ⟨Lib.hid hvb,Lib.hid ((Only.of_ext (inferInstance:Ext wa wa.drew) (Nat.le_of_lt k2)).trans hob)⟩
         case rest=>
          obtain ⟨HVB,HOB⟩:=hcut
          have hrb:Row wc g0 168 .u64 (P.map (clP a P)):=HVB.out
          have hSb:=(HSa.out.color HG0.out hrb HCL.out HOB.out)
          have HSb:=Lib.hid hSb
          have hxb:Ext w wc:=HOB.out.ext HXa.out (by rw [hB];exact HSa.out.bhs g0 (List.mem_of_getElem? HG0.out))
          have hMb:Mat64 wc B1 T:=HMa.out.oth (HOB.out.oth HR0.out) (by decide) (by decide)
          have HXb:=Lib.hid hxb
          have HMb:=Lib.hid hMb
          have hsys2:=vec_sys hRb (Int.natCast_nonneg q) HQ1.out HT.out.2.1
          have HNS2:Hid (∀W,Ext wc W->Calls Tryz.prog 59 #[.slice Bb k bc,.slice B1 lt d1] W (RetSysI W b T)):=Lib.hid (fun W e=>inewSystem_ok (HB.out.1.ext ((hx.trans HXb.out).trans e)) HB.out.2.1 (by omega) HBA.out (HMb.out.ext e) HT.out.2.2 (by omega) h1 (pre_nodup HT.out.2.1) hsys2.1 (fun x hx=>by have :=hsys2.2 x hx;rw [HB.out.2.1] at this;exact this))
          unfold RetSysI at HNS2
          have oSb:Old sb wc:=⟨lt_of_heap hSb.blk⟩
          clear hrb hSb hxb hMb hsys2 oSa oCa k1 k2 k3 k4 k5 k6 k7 HR0 HVB HOB HMa HXa HSa
          go_upto_region 22 with (go_at_call 59;refine (HNS2.out _ inferInstance).mono ?_;rintro e w5 ⟨gq,qc,qd,qn,QD,QN,elq,rfl,hq5⟩;have hs5:=hq5.2.2.2.2.2.2;have HQ5:=Lib.hid hq5;clear hq5)
          have hx6:Ext wc (w5.alloc (.cells #[.slice (some ⟨gq,0,none⟩) elq.length qc,.slice QD elq.length qd,.slice QN elq.length qn,.slice none 0 0] 118)):=inferInstance
          have hx56:Ext w5 (w5.alloc (.cells #[.slice (some ⟨gq,0,none⟩) elq.length qc,.slice QD elq.length qd,.slice QN elq.length qn,.slice none 0 0] 118)):=inferInstance
          have hb6:=heap_alloc_new w5 (.cells #[.slice (some ⟨gq,0,none⟩) elq.length qc,.slice QD elq.length qd,.slice QN elq.length qn,.slice none 0 0] 118)
          have hot6:wc.heap.size<=w5.heap.size:=hs5.size
          obtain ⟨NQ,hNQ⟩:∃NQ,elq.length=NQ:=⟨_,rfl⟩
          obtain ⟨Q,hQ⟩:∃Q,elq.map VE.l=Q:=⟨_,rfl⟩
          rw [hNQ] at hx6 hx56 hb6 |-
          have HQQ:Hid (PtsOf b q Q/\Q.length=2*lt/\NQ=2*lt/\Q.length=NQ):=Lib.hid (by
           have e1:=pts_len (L:=T) (P:=Q) (by rw [<-hQ];exact HQ5.out.1)
           rw [HT.out.2.2] at e1
           have e2:Q.length=NQ:=by rw [<-hQ,List.length_map];exact hNQ
           exact ⟨pts_of HT.out.2.1 (by rw [<-hQ];exact HQ5.out.1) (by rw [<-hQ];exact HQ5.out.2.1),e1,by omega,e2⟩)
          obtain ⟨ot,hot⟩:∃ot,w5.heap.size=ot:=⟨_,rfl⟩
          rw [hot] at hb6 hot6 |-
          generalize w5.alloc (.cells #[.slice (some ⟨gq,0,none⟩) NQ qc,.slice QD NQ qd,.slice QN NQ qn,.slice none 0 0] 118)=w6 at*
          have HV6:Hid (VRowV w6 gq elq/\(∀x∈elq,x.ok w6)/\Mat64 w6 QD (Q.map (applyW b))/\Ints w6 QN 2 .i64 (Q.map (nrm b))):=Lib.hid (by
           rw [<-hQ]
           exact ⟨HQ5.out.2.2.1.ext hx56,fun x hx=>(HQ5.out.2.2.2.1 x hx).ext hx56,HQ5.out.2.2.2.2.1.ext hx56,HQ5.out.2.2.2.2.2.1.ext hx56⟩)
          have HPQ:Hid (SysB w6 ot 0 NQ qc qd qn 118 #[.slice (some ⟨gq,0,none⟩) NQ qc,.slice QD NQ qd,.slice QN NQ qn,.slice none 0 0] (some ⟨gq,0,none⟩) QD QN b Q):=Lib.hid ⟨hb6,rfl,rfl,rfl,by show 0+3<4;omega,by rw [<-hQ];exact HV6.out.1.mat HV6.out.2.1,HV6.out.2.2.1,HV6.out.2.2.2,HQQ.out.2.2.2,by decide,by decide,by decide⟩
          have hNQ8:NQ<=100000:=by have :=HQQ.out.2.2.1;omega
          have HPB:=Lib.hid (ipaint_ok HPQ.out HQQ.out.2.2.1 hNQ8 HB.out.2.1 (by rw [<-HB.out.2.1];exact HQQ.out.1.rows) (by omega) HQQ.out.1.rev (HQQ.out.1.ip hRb) (fun x hx=>by have :=HQQ.out.1.nb hRb hx;have :=HQ1.out;omega))
          unfold RetPt at HPB
          have HSOQ:Hid (Q.Pairwise fun x y=>lexI x y<0):=Lib.hid HQQ.out.1.sorted
          have HLQ:=Lib.hid hQ
          have HB6:=Lib.hid hb6
          have HX6:=Lib.hid hx6
          have oT6:Old ot w6:=⟨lt_of_heap hb6⟩
          clear hb6 hx56 hQ hNQ hot hs5 HNS2 oSb HQ5 hx6
          go_upto_region 23 with (go_at_call 104;refine (HPB.out).mono ?_;rintro e w7 ⟨rfl,cq,hcq1,hcq2,hcq3,hcq4⟩)
          have hxc7:Ext wc w7:=hcq4.ext HX6.out hot6
          have hoq:Oth 118 w6 w7:=hcq4.othT HB6.out
          have HS7:=Lib.hid (HSb.out.ext hxc7)
          have HX7:=Lib.hid (HXb.out.trans hxc7)
          have hob6:ob<w6.heap.size:=Nat.lt_of_lt_of_le HSb.out.tots.lt HX6.out.size
          have y0:w7.cell? ⟨ot,0,none⟩=some (.slice (some ⟨gq,0,none⟩) NQ qc):=by rw [cell_of_row w7 ot 0 _ _ _ hcq3];rfl
          have y1:w7.cell? ⟨ot,1,none⟩=some (.slice QD NQ qd):=by rw [cell_of_row w7 ot 1 _ _ _ hcq3];rfl
          have y2:w7.cell? ⟨ot,2,none⟩=some (.slice QN NQ qn):=by rw [cell_of_row w7 ot 2 _ _ _ hcq3];rfl
          have y3:w7.cell? ⟨ot,3,none⟩=some (.slice (some ⟨cq,0,none⟩) NQ NQ):=by rw [cell_of_row w7 ot 3 _ _ _ hcq3];rfl
          have oT7:Old ot w7:=⟨lt_of_heap hcq3⟩
          have hpq:=HQQ.out.1
          have HCP:=Lib.hid (icopy_ok (gq:=gq) (NQ:=NQ) (qc:=qc) (qd:=qd) (qn:=qn) (cg:=cq) (QD:=QD) (QN:=QN) (b:=b) (Q:=Q) (els:=elq) HS7.out rfl rfl HB.out.2.1 (HV6.out.1.oth hoq (by decide)) (fun x hx=>(HV6.out.2.1 x hx).oth hoq (by decide)) HLQ.out (HV6.out.2.2.1.oth hoq (by decide) (by decide)) HQQ.out.2.2.2 hcq2 (show cq≠ob by omega) HQQ.out.2.2.1 hNQ8 hn1 hn8 (by rw [<-HB.out.2.1];exact hpq.rows) hpq.rev (hpq.ip hRb) HSOQ.out (fun j hj=>by
           have h3:=hpq.unit hRb (k:=j) (by rw [HB.out.2.1];exact hj) (by rw [<-HQ.out];exact grL_ge _ _ hj)
           rw [HB.out.2.1] at h3
           exact h3))
          unfold RetCp at HCP
          clear hcq1 hcq2 hcq3 hcq4 hxc7 hoq hob6 hpq oT6 HPB HPQ HV6 HB6
          go_upto_region 24 with (go_at_call 105;refine (HCP.out).mono ?_;rintro e w9 ⟨rfl,hS9,hO9⟩)
          have hx9:Ext w w9:=hO9.ext HX7.out (fun z hz=>by
           rcases hz with e |⟨y,hy,e⟩
           ·rw [e,hB];exact HNE.out.2.2
           ·have h5:=HS7.out.trs.2
            rcases h5 with ⟨h6,-⟩ |⟨g',cap,cur,h6,h7,-⟩
            ·injection h6 with h6;dsimp only at hy h6;rw [h6] at hy;cases hy
            ·injection h6 with h6;dsimp only at hy h6;rw [h6] at hy;injection hy with hy;rw [hB,<-e,<-hy];exact h7)
          obtain ⟨g2,hg2,k1,k2,k3,k4,k5⟩:=hS9.row (j:=0) (Nat.zero_le _)
          dsimp only at k1 k3 hg2
          have hr2:Row w9 g2 168 .u64 (P.map (clP a P)):=hS9.rws 0 g2 _ hg2 (by rw [List.getElem?_set_self (by rw [List.length_replicate];exact Nat.succ_pos _)])
          obtain ⟨t0,ht0,k8⟩:=hS9.tots.cell (i:=0) (by have :=hS9.tl;dsimp only at this;omega)
          dsimp only at k8
          have ht0':t0=clT b Q []:=by
           unfold totG at ht0
           rw [List.getElem?_map,List.getElem?_range (Nat.succ_pos _)] at ht0
           injection ht0 with ht0
           rw [<-ht0];rfl
          have k6:w9.cell? ⟨sb,6,none⟩=some (.slice (some ⟨cb,0,none⟩) (k+1) (k+1)):=hS9.cell 6
          have k7:w9.cell? ⟨sb,8,none⟩=some (.slice (some ⟨ob,0,none⟩) (k+1) (k+1)):=hS9.cell 8
          have oS9:Old sb w9:=⟨lt_of_heap hS9.blk⟩
          have oC9:Old cb w9:=⟨k3⟩
          have oO9:Old ob w9:=⟨hS9.tots.lt⟩
          have hkz2:(0:Int)<(k:Int)+1:=by omega
          have HSU:=Lib.hid (fun W (e:Ext w9 W)=>isum_any (w:=W) (c:=N) (hr2.ext e) HCL.out hN1)
          have hsv:wU (P.map (clP a P)).sum=clT a P []:=rfl
          rw [hsv] at HSU
          have HK9:Hid (∀W,Ext w9 W->W.cell? ⟨sb,6,none⟩=some (.slice (some ⟨cb,0,none⟩) (k+1) (k+1))/\W.cell? ⟨cb,0,none⟩=some (.slice (some ⟨g2,0,none⟩) N N)/\W.cell? ⟨sb,8,none⟩=some (.slice (some ⟨ob,0,none⟩) (k+1) (k+1))/\W.cell? ⟨ob,0,none⟩=some (.int .u64 t0)):=Lib.hid (fun W e=>⟨(cellE w9).trans k6,(cellE w9).trans k1,(cellE w9).trans k7,(cellE w9).trans k8⟩)
          have HS9:=Lib.hid hS9
          have HX9:=Lib.hid hx9
          have HT0':=Lib.hid ht0'
          obtain ⟨sv,hsv2⟩:∃sv,clT a P []=sv:=⟨_,rfl⟩
          rw [hsv2] at HSU
          have HSV:=Lib.hid hsv2
          clear hS9 hO9 hx9 hr2 ht0 ht0' hsv hsv2 y0 y1 y2 y3 oT7 HCP
          rw [<-hB] at HS9
          by_cases heq:sv=t0
          ·subst heq
           go_region_held3 (fun w'=>w'.cell? ⟨sb,6,none⟩=some (.slice (some ⟨cb,0,none⟩) (k+1) (k+1))/\w'.cell? ⟨cb,0,none⟩=some (.slice (some ⟨g2,0,none⟩) N N)/\w'.cell? ⟨sb,8,none⟩=some (.slice (some ⟨ob,0,none⟩) (k+1) (k+1))/\w'.cell? ⟨ob,0,none⟩=some (.int .u64 sv))
            (exact HK9.out _ inferInstance)
            ((go_at_call 106;refine (HSU.out _ inferInstance).mono ?_;rintro e wz ⟨rfl,hsz⟩))
           have hx9z:Ext w9 wz:=inferInstance
           clear k1 k2 k3 k4 k5 k6 k7 k8 oS9 oC9 oO9 hkz2 HK9 HSU hsz
           go_wp2_with fail
           go_ret
           refine ⟨P,HPP.out.1,HPP.out.2.1,(HX9.out.trans hx9z).toStep,.inr ⟨⟨sb,k,N,Bb,bc,some ⟨g,0,none⟩,pc,DA,dc,NA,nc,.slice (some ⟨cg,0,none⟩) N N,cb,hs,TA,tc,ob,true⟩,Q,_,rfl,rfl,rfl,fun _=>⟨HQQ.out.1,HQQ.out.2.1⟩,HS9.out.ext hx9z,fun j hj=>?_⟩⟩
           obtain rfl:j=0:=by
            rcases hj with h |h
            ·simpa using h
            ·exact absurd (show true=false from h.1) (by decide)
           rw [List.getElem?_set_self (by rw [List.length_replicate];exact Nat.succ_pos _)]
           rfl
          ·have hbb:(sv !=t0)=true:=by simp [heq]
           go_region_held3 (fun w'=>w'.cell? ⟨sb,6,none⟩=some (.slice (some ⟨cb,0,none⟩) (k+1) (k+1))/\w'.cell? ⟨cb,0,none⟩=some (.slice (some ⟨g2,0,none⟩) N N)/\w'.cell? ⟨sb,8,none⟩=some (.slice (some ⟨ob,0,none⟩) (k+1) (k+1))/\w'.cell? ⟨ob,0,none⟩=some (.int .u64 t0))
            (exact HK9.out _ inferInstance)
            ((go_at_call 106;refine (HSU.out _ inferInstance).mono ?_;rintro e wz ⟨rfl,hsz⟩))
           have hx9z:Ext w9 wz:=inferInstance
           clear k1 k2 k3 k4 k5 k6 k7 k8 oS9 oC9 oO9 hkz2 HK9 HSU hsz
           go_wp2_with fail
           go_ret
           refine ⟨P,HPP.out.1,HPP.out.2.1,(HX9.out.trans hx9z).toStep,.inl ⟨rfl,.inr ⟨Q,HQQ.out.1,HQQ.out.2.1,fun e=>heq ?_⟩⟩⟩
           rw [<-HSV.out,HT0'.out]
           exact e
        ·have HNO:Hid ((totS b q<=1000000/\(collL b q false).length≠ll)):=Lib.hid ⟨hbud,by omega⟩
         have hne2:¬(lt:Int)=(ll:Int):=by omega
         have hne3:((lt:Int)==(ll:Int))=false:=by simp;omega
         have hne4:((lt:Int) !=(ll:Int))=true:=by simp;omega
         clear hne hTl hlt hT8 hM8 hbud hbig
         go_wp2_with fail
         go_ret
         refine ⟨P,HPP.out.1,HPP.out.2.1,?_,?_⟩
         ·exact ((hxr2.trans hs7.ext).trans hs8.ext).toStep
         ·refine .inl ⟨?_,.inl HNO.out⟩
          rfl
      ·have HVX:Hid (∀W,Ext we W->Calls Tryz.prog 34 #[.slice Bb k bc,.int .i64 q,.int .i64 1000000] W (RetVal W (.tuple #[.slice none 0 0,.int .i64 0,.int .i64 9]))):=Lib.hid (fun W e=>(HVG W e).mono (by
        rintro e' w' (⟨B1,d1,T,-,-,-,-,-,-,h8,-⟩ |⟨k7,he,h7,hs⟩)
        ·omega
        ·rcases h7 with ⟨-,h8,-⟩ |⟨rfl,-⟩
         ·omega
         ·exact ⟨he,hs⟩))
       clear HVG hbud
       go_wp2_with (first
        |(go_at_call 103;refine (HGR.out _ inferInstance).mono ?_;rintro e w7 ⟨rfl,hs7⟩)
        |(go_at_call 34;refine (HVX.out _ inferInstance).mono ?_;rintro e w8 ⟨rfl,hs8⟩))
       go_ret
       rw [<-hB] at HD
       refine ⟨P,HPP.out.1,HPP.out.2.1,(hxr2.trans inferInstance).toStep,.inr ⟨⟨sb,k,N,Bb,bc,some ⟨g,0,none⟩,pc,DA,dc,NA,nc,.slice none 0 0,cb,hs,TA,tc,ob,false⟩,[],_,rfl,rfl,rfl,(fun h=>by cases h),HD.out.ext inferInstance,fun j hj=>?_⟩⟩
       have hj2:j<=k:=by simp at hj;omega
       rw [List.getElem?_replicate,if_pos (show j<k+1 by omega)]
       have :P.map (colF false a P (colsL P (([]:List Nat).take j)))=List.replicate N 0:=by
        have e:colF false a P (colsL P (([]:List Nat).take j))=fun _=>0:=by funext x;rfl
        rw [e,List.map_const',HPP.out.2.2.2]
       rw [this]
set_option maxRecDepth 20000 in
theorem istart0_ok {w:World} {c:SeaC} {B:Nat} {a P:List (List Int)} {tot:List Int} {tv:List Value} {rows:List (List Int)} (hM:SeaM c B w a P tot tv none 0 [] rows):Calls Tryz.prog 54 #[.pointer (some ⟨c.sb,0,none⟩),.slice none 0 0] w (RetSame w (.bool true)):=by
 have s5:w.cell? ⟨c.sb,5,none⟩=some (.slice none 0 0):=hM.cell 5
 have f5:w.frozen? ⟨c.sb,5,none⟩=false:=by have :=hM.blk;simp [World.frozen?,this]
 have oS:Old c.sb w:=⟨lt_of_heap hM.blk⟩
 have HE:=Lib.hid (setCell_same s5)
 clear hM
 generalize c.sb=sb at*
 go_enter Tryz.func54,Tryz.ntmps54
 go_wp2_with fail
 go_loopw [6,7,8,19] (fun _ _ _ i wr=>i= .int .i64 0/\wr=w) (fun _ _ _ _ _=>0)
 case atStart=>exact ⟨rfl,HE.out⟩
 case round=>
  obtain ⟨rfl,rfl⟩:=hrel
  go_wp2_with fail
  go_ret
  exact ⟨rfl,rfl⟩
theorem vs_open {w w':World} {m:List (List Int)} {q:Nat} {budget:Int} {e:Ending} (h:RetVs w m q budget e w'):∃(B:Option Addr) (l d:Nat) (ok:Bool) (k:Int),e= .returned (.tuple #[.slice B l d,.bool ok,.int .i64 k])/\Step w w'/\Hid ((ok=true/\k=0/\totS m q<=budget/\∃L:List (List Int),L.length=l/\Mat64 w' B L/\VecList m q false L/\L.length<=4096)∨(ok=false/\((k=7/\totS m q<=budget/\4096<(collL m q false).length)∨(k=9/\budget<totS m q)))):=by
 rcases h with ⟨B,d,L,he,hM,-,-,hV,h4,hb,hs⟩ |⟨k,he,hk,hs⟩
 ·exact ⟨B,L.length,d,true,0,he,hs,Lib.hid (.inl ⟨rfl,rfl,hb,L,rfl,hM,hV,h4⟩)⟩
 ·exact ⟨none,0,0,false,k,he,hs,Lib.hid (.inr ⟨rfl,hk⟩)⟩
theorem ns_open {w w':World} {a b:List (List Int)} {n q ll:Nat} {Bb:Option Addr} {e:Ending} (h:RetNS w a b n q ll Bb e w'):∃v:Option Addr,e= .returned (.pointer v)/\Step w w'/\Hid (∃P,PtsOf a q P/\P.length=2*ll/\((v=none/\((totS b q<=1000000/\(collL b q false).length≠ll)∨∃Q,PtsOf b q Q/\Q.length=2*ll/\clT a P []≠clT b Q []))∨
  ∃(c:SeaC) (Q rows:List (List Int)),v=some ⟨c.sb,0,none⟩/\c.n=n/\c.bA=Bb/\(c.cd=true->PtsOf b q Q/\Q.length=2*ll)/\SeaM c w.heap.size w' a P (totG n (totF c.cd b Q)) (trV c.cd b Q n) none 0 [] rows/\RowsOK c.cd n a P [] rows)):=by
 obtain ⟨P,hP,hl,hs,h1 |⟨c,Q,rows,h1,h2⟩⟩:=h
 ·exact ⟨none,h1.1,hs,Lib.hid ⟨P,hP,hl,.inl ⟨rfl,h1.2⟩⟩⟩
 ·exact ⟨_,h1,hs,Lib.hid ⟨P,hP,hl,.inr ⟨c,Q,rows,rfl,h2⟩⟩⟩
def RetFd (w:World) (a b:List (List Int)) (n q:Nat) (budget:Int) (e:Ending) (w':World):Prop:=
 Step w w'/\((∃k:Int,e= .returned (.tuple #[.slice none 0 0,.bool false,.int .i64 k])/\((k=7/\totS a q<=budget/\4096<(collL a q false).length)∨(k=9/\budget<totS a q)))∨
  totS a q<=budget/\∃P,PtsOf a q P/\
  ((∃t T,extG (fitB a b) P n []=some t/\e= .returned (.tuple #[.slice T n n,.bool true,.int .i64 0])/\Mat64 w' T (rowsOf n t))∨
   e= .returned (.tuple #[.slice none 0 0,.bool false,.int .i64 0])/\(extG (fitB a b) P n []=none∨(totS b q<=1000000/\(collL b q false).length≠(collL a q false).length))))
theorem fd_open {w w':World} {a b:List (List Int)} {n q:Nat} {budget:Int} {e:Ending} (h:RetFd w a b n q budget e w'):∃v1 v2 v3:Value,e= .returned (.tuple #[v1,v2,v3])/\Hid (RetFd w a b n q budget (.returned (.tuple #[v1,v2,v3])) w'):=by
 have h0:=h
 rcases h.2 with ⟨k,rfl,-⟩ |⟨-,P,-,⟨t,T,-,rfl,-⟩ |⟨rfl,-⟩⟩
 ·exact ⟨_,_,_,rfl,Lib.hid h0⟩
 ·exact ⟨_,_,_,rfl,Lib.hid h0⟩
 ·exact ⟨_,_,_,rfl,Lib.hid h0⟩
set_option maxRecDepth 20000 in
theorem iExtend0_ok {w0 w:World} {A Bb:Option Addr} {ca bc n q:Nat} {a b:List (List Int)} {budget:Int} (ha:MatA w0 A a) (hb:MatA w0 Bb b) (hal:a.length=n) (hbl:b.length=n) (hca:n<=ca) (hca2:ca<=9223372036854775807) (hbc:n<=bc) (hbc2:bc<=9223372036854775807) (hra:isRedB a=true) (hrb:isRedB b=true)
  (hdet:detS a=detS b) (hu0:0<=budget) (hu1:budget<=1000000) (hne:1<=(collL a q false).length) (hq:grL b n=q) (hq1:(q:Int)<1073741824) [hx:Ext w0 w]:
  Calls Tryz.prog 27 #[.slice A n ca,.slice Bb n bc,.int .i64 budget,.slice none 0 0] w (RetFd w a b n q budget):=by
 have hRa:=red_ok hra
 have hRb:=red_ok hrb
 have hn:=isSmallB_len hRa.small
 have HVS:Hid (∀W,Ext w0 W->Calls Tryz.prog 52 #[.slice A n ca,.slice Bb n bc,.int .i64 budget,.slice none 0 0,.int .i64 n] W (RetVs W a q budget)):=Lib.hid (fun W e=>ivectors_ok (C:=none) (cc:=0) (k:=0) (most:=n) (cols:=[]) ha hb hal hbl hca hca2 hbc hbc2 hra hrb hdet hu0 hu1 ⟨[],rfl,Arr.nil,fun i r h=>by simp at h⟩ rfl (Nat.zero_le _) (by omega) (fun x hx=>by simp at hx) hq hq1)
 have HNS:Hid (∀W LA L lc,Ext w0 W->Mat64 W LA L->VecList a q false L->L.length<=4096->Calls Tryz.prog 53 #[.slice A n ca,.slice Bb n bc,.slice LA (List.length L) lc] W (RetNS W a b n q L.length Bb)):=Lib.hid (fun W LA L lc e hL hV h4=>inewSearch_ok (w0:=W) (ha.ext e) (hb.ext e) hal hbl hca hca2 hbc hbc2 hra hrb hL rfl hV (by have :=vecList_len hRa (Int.natCast_nonneg q) hV;omega) h4 hq hq1)
 have HA:=Lib.hid (And.intro ha (And.intro hal (And.intro hra hRa)))
 have HB:=Lib.hid (And.intro hb (And.intro hbl (And.intro hrb hRb)))
 have HBA:Hid (AllLen b n):=Lib.hid (by rw [<-hbl];exact isSmallB_all hRb.small)
 have HQ1:=Lib.hid hq1
 have HN:=Lib.hid hn
 clear ha hb hal hbl hra hrb hRa hRb hdet hq hq1 hn hca hca2 hbc hbc2 hu0 hu1 hne
 unfold RetFd
 go_enter Tryz.func27,Tryz.ntmps27
 go_upto_region 2 with (go_at_call 52;refine (HVS.out _ inferInstance).mono ?_;rintro e w5 h5;obtain ⟨LA,ll,lc,ok,k5,rfl,hs5,h5⟩:=vs_open h5)
 rcases h5.out with ⟨rfl,rfl,hbud,L,hLl,hM,hV,h4⟩ |⟨rfl,hk⟩
 ·have HNL:Hid (∀W,Ext w5 W->Calls Tryz.prog 53 #[.slice A n ca,.slice Bb n bc,.slice LA ll lc] W (RetNS W a b n q ll Bb)):=Lib.hid (fun W e=>by
   have :=HNS.out W LA L lc (((inferInstance:Ext w0 w5)).trans e) (hM.ext e) hV h4
   rwa [hLl] at this)
  have HC0:Hid ((collL a q false).length=ll):=Lib.hid (by rw [<-hLl];exact (vecList_len HA.out.2.2.2 (Int.natCast_nonneg q) hV).symm)
  have HBU:=Lib.hid hbud
  have HL4:Hid (ll<=4096):=Lib.hid (by omega)
  clear hLl hM hV h4 hbud h5
  go_upto_region 5 with (go_at_call 53;refine (HNL.out _ inferInstance).mono ?_;rintro e w6 h6;obtain ⟨v,rfl,hs6,h6⟩:=ns_open h6)
  obtain ⟨P,hP,hPl,hcase⟩:=h6.out
  have HP:=Lib.hid hP
  rcases hcase with ⟨rfl,hno⟩ |⟨c,Q,rows,rfl,hcn,hcb,hcQ,hS,hR⟩
  ·have HNO:Hid (extG (fitB a b) P n []=none∨(totS b q<=1000000/\(collL b q false).length≠(collL a q false).length)):=Lib.hid (by
    rcases hno with ⟨h1,h2⟩ |⟨Q,hQ,hQl,hne⟩
    ·exact .inr ⟨h1,by rw [HC0.out];exact h2⟩
    ·refine .inl ?_
     cases hE:extG (fitB a b) P n [] with
     |none=>rfl
     |some t=>
      obtain ⟨h1,h2,-⟩:=extG_some HA.out.2.2.2 hP n [] t hE ParC.nil
      have hi:=h1.iso HA.out.2.2.2 HB.out.2.2.2 hP (by rw [HA.out.2.1,HB.out.2.1]) (by rw [HA.out.2.1];simpa using h2)
      exact absurd (hi.cT HA.out.2.2.2 HB.out.2.2.2 hP hQ (by omega) []) hne)
   clear hno hP hPl h6
   go_wp2_with fail
   go_ret3
   exact ⟨Step.of _ _,.inr ⟨HBU.out,P,HP.out,.inr ⟨rfl,HNO.out⟩⟩⟩
  ·subst hcn
   subst hcb
   have hNc:c.N=2*ll:=by have :=hS.plen;omega
   have HSA:=Lib.hid (fun W (e:W=w6)=>istart0_ok hS)
   have hrows:=hP.rows
   rw [HA.out.2.1] at hrows
   have HCM:=Lib.hid (icomplete_ok (w0:=w5) (w:=w6) (Q:=Q) (h:=ll) (b:=b) hS rfl rfl hR (HB.out.1.ext (inferInstance:Ext w0 w5)) HB.out.2.1 HBA.out (Nat.le_refl _) (by simp) (by have :=HN.out;have :=HA.out.2.1;omega) hNc (by have :=HL4.out;omega) HA.out.2.1 hrows hP.rev (hP.ip HA.out.2.2.2))
   have hfit:=extG_eq (cd:=c.cd) (Q:=Q) HA.out.2.2.2 HB.out.2.2.2 (by rw [HA.out.2.1,HB.out.2.1]) hP (fun hc=>⟨(hcQ hc).1,by rw [hPl,(hcQ hc).2]⟩) (by have :=HQ1.out;omega) c.n [] (by rw [HA.out.2.1];simp) ParC.nil
   have HROW:=Lib.hid hrows
   have hs0:=hS.blk
   have oS6:Old c.sb w6:=⟨lt_of_heap hs0⟩
   unfold RetComp at HCM
   simp only [List.length_nil,Nat.sub_zero,show colsL P []=[] from rfl] at HCM
   rw [hfit] at HCM
   have HST:Hid (Calls Tryz.prog 54 #[.pointer (some ⟨c.sb,0,none⟩),.slice none 0 0] w6 (RetSame w6 (.bool true))):=Lib.hid (istart0_ok hS)
   cases hR2:extG (fitB a b) P c.n [] with
   |none=>
    rw [hR2] at HCM
    have HR2:=Lib.hid hR2
    have HCN:Hid (Calls Tryz.prog 55 #[.pointer (some ⟨c.sb,0,none⟩)] w6 fun e w'=>e= .returned (.bool false)/\Ext w5 w'):=Lib.hid (HCM.out.mono fun e w' h=>⟨h.1,h.2.1⟩)
    have hne2:(Value.pointer (some (⟨c.sb,0,none⟩:Addr)))≠ .pointer none:=by simp
    clear hS hR hfit hrows hs0 HCM HSA hR2 hP hPl h6 hcQ hNc
    generalize c.sb=sb at*
    go_wp2_with (first
     |(go_at_call 54;refine (HST.out).mono ?_;rintro e w7 ⟨rfl,rfl⟩)
     |(go_at_call 55;refine (HCN.out).mono ?_;rintro e w8 ⟨rfl,hx8⟩))
    go_ret3
    exact ⟨((inferInstance:Ext w w5).trans hx8).toStep,.inr ⟨HBU.out,P,HP.out,.inr ⟨rfl,.inl HR2.out⟩⟩⟩
   |some t=>
    rw [hR2] at HCM
    have HR2:=Lib.hid hR2
    have htl:t.length=c.n:=by
     have :=(extG_some HA.out.2.2.2 hP c.n [] t hR2 ParC.nil).2.1
     simpa using this
    have HIS:Hid (∀W SA' sc' st' rows',SeaM c w5.heap.size W a P (totG c.n (totF c.cd b Q)) (trV c.cd b Q c.n) SA' sc' st' rows'->colsL P st'=t->Calls Tryz.prog 56 #[.pointer (some ⟨c.sb,0,none⟩)] W (RetIso W c.n t)):=Lib.hid (fun W SA' sc' st' rows' h1 h2=>by
     have h3:=iiso_ok h1 (by rw [<-htl,<-h2,colsL_len]) (by have :=HN.out;have :=HA.out.2.1;omega) hrows
     rwa [h2] at h3)
    have HCN:Hid (Calls Tryz.prog 55 #[.pointer (some ⟨c.sb,0,none⟩)] w6 fun e w'=>e= .returned (.bool true)/\Ext w5 w'/\Hid (Calls Tryz.prog 56 #[.pointer (some ⟨c.sb,0,none⟩)] w' (RetIso w' c.n t))):=Lib.hid (HCM.out.mono fun e w' h=>⟨h.1,h.2.1,by
     obtain ⟨SA',sc',st',rows',h1,h2⟩:=h.2.2 t rfl
     exact Lib.hid (HIS.out w' SA' sc' st' rows' h1 h2)⟩)
    clear hS hR hfit hrows hs0 HCM HSA hR2 hP hPl h6 hcQ hNc HIS htl
    generalize c.sb=sb at*
    go_wp2_with (first
     |(go_at_call 54;refine (HST.out).mono ?_;rintro e w7 ⟨rfl,rfl⟩)
     |(go_at_call 55;refine (HCN.out).mono ?_;rintro e w8 ⟨rfl,hx8,hc8⟩)
     |(go_at_call 56;refine (hc8.out).mono ?_;rintro e w9 ⟨T9,rfl,hM9,hs9⟩))
    go_ret3
    exact ⟨(((inferInstance:Ext w w5).trans hx8).trans hs9.ext).toStep,.inr ⟨HBU.out,P,HP.out,.inl ⟨t,T9,HR2.out,rfl,hM9⟩⟩⟩
 ·have HK:=Lib.hid hk
  clear hk h5
  go_wp2_with fail
  go_ret3
  exact ⟨Step.of _ _,.inl ⟨k5,rfl,HK.out⟩⟩
theorem iFind_ok {w0 w:World} {A Bb:Option Addr} {ca bc n q:Nat} {a b:List (List Int)} {budget:Int} (ha:MatA w0 A a) (hb:MatA w0 Bb b) (hal:a.length=n) (hbl:b.length=n) (hca:n<=ca) (hca2:ca<=9223372036854775807) (hbc:n<=bc) (hbc2:bc<=9223372036854775807) (hra:isRedB a=true) (hrb:isRedB b=true)
  (hdet:detS a=detS b) (hu0:0<=budget) (hu1:budget<=1000000) (hne:1<=(collL a q false).length) (hq:grL b n=q) (hq1:(q:Int)<1073741824) [hx:Ext w0 w]:
  Calls Tryz.prog 10 #[.slice A n ca,.slice Bb n bc,.int .i64 budget] w (RetFd w a b n q budget):=by
 have HE:=Lib.hid (fun W (e:Ext w0 W)=>iExtend0_ok (w:=W) ha hb hal hbl hca hca2 hbc hbc2 hra hrb hdet hu0 hu1 hne hq hq1)
 clear ha hb hal hbl hra hrb hdet hq hq1 hca hca2 hbc hbc2 hu0 hu1 hne
 go_enter Tryz.func10,Tryz.ntmps10
 go_wp2_with (go_at_call 27;refine (HE.out _ inferInstance).mono ?_;rintro e w5 h5;obtain ⟨v1,v2,v3,rfl,h6⟩:=fd_open h5)
 go_ret3
 exact h6.out
def RetCol (w:World) (a:List (List Int)) (x:List Int) (n:Nat) (X:Option Addr) (dx:Nat) (e:Ending) (w':World):Prop:=∃D d,e= .returned (.agg #[.slice X n dx,.slice D n d,.bool false])/\Ints w' D 2 .i64 (applyW a x)/\Step w w'
set_option maxRecDepth 20000 in
theorem inewColumn_ok {w0 w:World} {A X:Option Addr} {c dx n:Nat} {a:List (List Int)} {x:List Int} (hA:MatA w0 A a) (hn:a.length=n) (hc:n<=c) (hc2:c<=9223372036854775807) (hR:RedM a) (hX:Ints w0 X 2 .i64 x) (hxl:x.length=n) (hb:∀y∈x,-1099511627776<=y/\y<=1099511627776) (hnm:dotB (nrm a x)=true) [hx:Ext w0 w]:
  Calls Tryz.prog 58 #[.slice A n c,.slice X n dx] w (RetCol w a x n X dx):=by
 have hn8:=hR.n8
 have HN:Hid (∀W,Ext w0 W->Calls Tryz.prog 51 #[.slice A n c,.slice X n dx] W (RetVal W (.tuple #[.int .i64 (nrm a x),.bool true]))):=Lib.hid (fun W e=>by
  have :=vNorm_ok (w:=W) (c:=c) (d:=dx) hA (by omega) hc2 hR hX (by omega) hb
  rw [hn,hxl,hnm] at this
  simpa using this)
 have HA:=Lib.hid hA
 have HX:=Lib.hid hX
 have HAL:Hid (AllLen a n):=Lib.hid (by rw [<-hn];exact hR.all)
 have HNN:=Lib.hid hn
 have HXL:=Lib.hid hxl
 have hn8':n<=8:=by omega
 clear hA hn hc hc2 hR hX hxl hb hnm hn8
 go_enter Tryz.func58,Tryz.ntmps58
 go_wp2_with (go_at_call 51;refine (HN.out _ inferInstance).mono ?_;rintro e w1 ⟨rfl,hs1⟩)
 have hxw1:Ext w0 w1:=hx.trans inferInstance
 go_loopw [9,22] (fun _ s22 wr=>∃(k:Nat) (D:Option Addr) (d:Nat),k<=n/\s22= .int .i64 k/\Hid (wr.heap[w1.heap.size]? =some (.cells #[.slice X n dx,.slice D k d,.bool false] 114 (0,0)))/\Hid (Own wr w1.heap.size 2 1 D k d (((applyW a x).take k).map (Value.int .i64)))/\Ext w1 wr) (fun _ s22 _=>n-(intOf s22).toNat)
 case atStart=>exact ⟨0,none,0,by omega,rfl,Lib.hid (heap_alloc_new w1 _),Lib.hid (by simpa using Own.nil _ _ _ _),inferInstance⟩
 case round=>
  obtain ⟨k,D,d,hk,rfl,HBX,HOW,hxr⟩:=hrel
  by_cases hlt:k<n
  ·obtain ⟨rw0,hrw⟩:∃r,a[k]? =some r:=⟨_,List.getElem?_eq_getElem (by rw [HNN.out];exact hlt)⟩
   obtain ⟨b,o,B,c2,rfl,hc1,hI,h1,h2,h3⟩:=(HA.out.ext (hxw1.trans hxr)).at_ hrw
   have hrl:rw0.length=n:=HAL.out rw0 (List.mem_of_getElem? hrw)
   rw [hrl] at hc1
   have hD:=Lib.hid (fun W (e:Ext wr W)=>idot_any (w0:=wr) (w:=W) (c:=c2) (d:=dx) hI ⟨_,HX.out.ext (hxw1.trans hxr)⟩ hrl HXL.out (Nat.le_refl _) (by omega))
   have hnv:(applyW a x).take (k+1)=(applyW a x).take k++[dotW rw0 x]:=by
    rw [List.take_add_one]
    simp [applyW,hrw]
   have HNV:=Lib.hid hnv
   generalize dotW rw0 x=v at*
   have hst:=HBX.out
   have r1:wr.cell? ⟨w1.heap.size,1,none⟩=some (.slice D k d):=by simp [World.cell?,hst]
   have r2:wr.frozen? ⟨w1.heap.size,1,none⟩=false:=by simp [World.frozen?,hst]
   have hsz:=lt_of_heap hst
   have oS:Old w1.heap.size wr:=⟨hsz⟩
   have oB:Old b wr:=⟨h3⟩
   clear hrw hI h1 h2 h3 hrl hnv hst
   go_wp2_with fail
   go_region_law (first
    |((refine step_app _ rfl (.tmp 27) (.tmp 31) 35 rfl w1.heap.size 2 (.int .i64 0) 1 8 Tryz.underlying35 infoI64 rfl (by decide) (by decide) D k d _ (by simp [Act.eval]) (HOW.out.ext inferInstance) (some ⟨wr.heap.size,0,none⟩) 1 1 [.int .i64 v] (by simp [Act.eval]) ((Arr.new wr 2 #[.int .i64 v]).ext inferInstance) rfl (by simp [Value.oneCell']) (by omega) (by simp<;>omega) ?_);intro A6 d6 w6 hown6 hg6;have hb6:=hg6.heap (heap_of_ext (inferInstance:Ext wr ((wr.alloc (Obj.cells #[Value.int .i64 v] 2)).drew)) HBX.out) (by decide);have z1:w6.frozen? ⟨w1.heap.size,1,none⟩=false:=(by simp [World.frozen?,hb6]);have z2:w6.cell? ⟨w1.heap.size,1,none⟩=some (.slice D k d):=(by simp [World.cell?,hb6]);have z3:=lt_of_heap hb6)
    |(go_simp;go_at_call 110;refine (hD.out _ inferInstance).mono ?_;rintro e w5 ⟨rfl,rfl⟩))
   all_goals
    have HO6:=Lib.hid hown6
    have HG6:=Lib.hid hg6
    have HB6:=Lib.hid hb6
    clear hown6 hg6 hb6 z1 z2
    go_wp2_with fail
    refine ⟨⟨k+1,A6,d6,by omega,by go_num,Lib.hid ?_,Lib.hid ?_,?_⟩,by simp [intOf]<;>omega⟩
    ·have :=heap_setCell_self (i:=1) HB6.out (.slice A6 (k+1) d6)
     simpa using this
    ·rw [HNV.out,List.map_append]
     exact HO6.out.far (p:=⟨w1.heap.size,1,none⟩) HB6.out (by decide) _
    ·exact (HG6.out.ext (hxr.trans inferInstance) (Nat.le_refl _)).setCell (p:=⟨w1.heap.size,1,none⟩) (Nat.le_refl _) _
  ·obtain rfl:n=k:=by omega
   have hst:=HBX.out
   have hr1:wr.heap[w.heap.size]? =some (.cells #[.slice none 0 0,.slice none 0 0,.bool false] 114 (0,0)):=heap_of_ext hxr (BlkAt.eq)
   have r0:wr.cell? ⟨w1.heap.size,0,none⟩=some (.slice X n dx):=by simp [World.cell?,hst]
   have r1:wr.cell? ⟨w1.heap.size,1,none⟩=some (.slice D n d):=by simp [World.cell?,hst]
   have r2:wr.cell? ⟨w1.heap.size,2,none⟩=some (.bool false):=by simp [World.cell?,hst]
   have q0:wr.cell? ⟨w.heap.size,0,none⟩=some (.slice none 0 0):=by simp [World.cell?,hr1]
   have q1:wr.cell? ⟨w.heap.size,1,none⟩=some (.slice none 0 0):=by simp [World.cell?,hr1]
   have q2:wr.cell? ⟨w.heap.size,2,none⟩=some (.bool false):=by simp [World.cell?,hr1]
   have f0:wr.frozen? ⟨w.heap.size,0,none⟩=false:=by simp [World.frozen?,hr1]
   have f1:wr.frozen? ⟨w.heap.size,1,none⟩=false:=by simp [World.frozen?,hr1]
   have f2:wr.frozen? ⟨w.heap.size,2,none⟩=false:=by simp [World.frozen?,hr1]
   have oS:Old w1.heap.size wr:=⟨lt_of_heap hst⟩
   have oR:Old w.heap.size wr:=⟨lt_of_heap hr1⟩
   have HR1:=Lib.hid hr1
   have HDI:Hid (Ints wr D 2 .i64 (applyW a x)):=Lib.hid (by
    have h:=HOW.out.arr
    rw [List.take_of_length_le (by simp [applyW,HNN.out])] at h
    exact h)
   clear hst hr1
   go_wp2_with fail
   have g1:=heap_setCell_self (i:=0) HR1.out (.slice X n dx)
   have g2:=heap_setCell_self (i:=1) g1 (.slice D n d)
   refine bodyPost_ret (v:= .agg #[.slice X n dx,.slice D n d,.bool false]) (by simp [results,Tryz.results58,go_sem,q0,q1,q2]) rfl ⟨D,d,rfl,?_,?_⟩
   ·exact ((HDI.out.oth (Oth.set (p:=⟨w.heap.size,0,none⟩) HR1.out _) (by decide)).oth (Oth.set (p:=⟨w.heap.size,1,none⟩) g1 _) (by decide)).oth (Oth.set (p:=⟨w.heap.size,2,none⟩) g2 _) (by decide)
   ·exact (((((inferInstance:Ext w w1).trans hxr).setCell (p:=⟨w.heap.size,0,none⟩) (Nat.le_refl _) _).setCell (p:=⟨w.heap.size,1,none⟩) (Nat.le_refl _) _).setCell (p:=⟨w.heap.size,2,none⟩) (Nat.le_refl _) _).toStep
theorem imeets_ok {w0 w:World} {A X D Y:Option Addr} {c n dx dd dy:Nat} {u y:List Int} {v:Int} (hD:Ints w0 D 2 .i64 u) (hul:u.length=n) (hY:Ints w0 Y 2 .i64 y) (hyl:y.length=n) (hn:n<=8) [hx:Ext w0 w]:
  Calls Tryz.prog 60 #[.agg #[.slice X n dx,.slice D n dd,.bool false],.slice A n c,.slice Y n dy,.int .i64 v] w (RetVal w (.bool (dotW u y==v))):=by
 have HDT:=Lib.hid (fun W (e:Ext w0 W)=>idot_any (w0:=w0) (w:=W) (c:=dd) (d:=dy) ⟨_,hD⟩ ⟨_,hY⟩ hul hyl (Nat.le_refl _) (by omega))
 clear hD hY hul hyl
 generalize dotW u y=z at*
 by_cases hz:z=v
 ·subst hz
  go_enter Tryz.func60,Tryz.ntmps60
  go_wp2_with (go_at_call 110;refine (HDT.out _ inferInstance).mono ?_;rintro e w1 ⟨rfl,rfl⟩)
  go_ret
  exact ⟨by simp,Step.of _ _⟩
 ·have hz2:(z==v)=false:=by simpa using hz
  have hz3:(z !=v)=true:=by simpa using hz
  rw [hz2]
  go_enter Tryz.func60,Tryz.ntmps60
  go_wp2_with (go_at_call 110;refine (HDT.out _ inferInstance).mono ?_;rintro e w1 ⟨rfl,rfl⟩)
  go_ret
  exact ⟨rfl,Step.of _ _⟩
end Go.Proofs.YtpcgfpmiphiacaaGreat
