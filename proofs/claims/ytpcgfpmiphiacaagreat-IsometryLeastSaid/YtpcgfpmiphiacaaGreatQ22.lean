/- Io18 Awk18 Lst18 Prm18 Lea18 LeaW18 -/
import Derived.Test.YtpcgfpmiphiacaaGreatQ21
import Derived.Test.YtpcgfpmiphiacaaGreatProg
import Derived.Test.YtpcgfpmiphiacaaGreatShelf
import Derived.Test.YtpcgfpmiphiacaaGreatRows
import Derived.Test.YtpcgfpmiphiacaaGreatShelfC
import Derived.Test.YtpcgfpmiphiacaaGreatShelfI
set_option maxHeartbeats 8000000
set_option linter.unusedVariables false
set_option linter.unusedSimpArgs false
set_option linter.constructorNameAsVariable false
namespace Go.Proofs.YtpcgfpmiphiacaaGreat
open Go.RowKit La
theorem infoCol:(Tryz.prog.info? 114).map (fun i=>(i.zero,i.size,i.bytes))=some (some (.agg #[.slice none 0 0,.slice none 0 0,.bool false]),3,56):=by kernel_rfl
def ColsR (w:World) (a:List (List Int)) (n:Nat) (cols:List (List Int)) (cvs:List Value):Prop:=∀(i:Nat) (x:List Int),cols[i]? =some x->∃X dx D d,cvs[i*3]? =some (.slice X n dx)/\cvs[i*3+1]? =some (.slice D n d)/\cvs[i*3+2]? =some (.bool false)/\Ints w D 2 .i64 (applyW a x)
theorem ColsR.map {w w':World} {a cols:List (List Int)} {n:Nat} {cvs:List Value} (h:ColsR w a n cols cvs) (hk:∀{D:Option Addr} {l:List Int},Ints w D 2 .i64 l->Ints w' D 2 .i64 l):ColsR w' a n cols cvs:=fun i x hx=>by
 obtain ⟨X,dx,D,d,h1,h2,h3,h4⟩:=h i x hx
 exact ⟨X,dx,D,d,h1,h2,h3,hk h4⟩
theorem ColsR.snoc {w:World} {a cols:List (List Int)} {n j dx d:Nat} {cvs:List Value} {X D:Option Addr} {x:List Int} (h:ColsR w a n (cols.take j) cvs) (hx:cols[j]? =some x) (hl:cvs.length=j*3) (hD:Ints w D 2 .i64 (applyW a x)):ColsR w a n (cols.take (j+1)) (cvs++[.slice X n dx,.slice D n d,.bool false]):=fun i y hy=>by
 rw [List.getElem?_take] at hy
 split at hy
 ·rcases Nat.lt_or_ge i j with hi |hi
  ·obtain ⟨X',dx',D',d',h1,h2,h3,h4⟩:=h i y (by rw [List.getElem?_take,if_pos hi];exact hy)
   exact ⟨X',dx',D',d',by rw [List.getElem?_append_left (by omega)];exact h1,by rw [List.getElem?_append_left (by omega)];exact h2,by rw [List.getElem?_append_left (by omega)];exact h3,h4⟩
  ·obtain rfl:i=j:=by omega
   rw [hx] at hy
   injection hy with hy
   subst hy
   refine ⟨X,dx,D,d,?_,?_,?_,hD⟩
   ·rw [List.getElem?_append_right (by omega),hl];simp
   ·rw [List.getElem?_append_right (by omega),hl,show i*3+1-i*3=1 by omega];rfl
   ·rw [List.getElem?_append_right (by omega),hl,show i*3+2-i*3=2 by omega];rfl
 ·cases hy
def goodB (a b cols:List (List Int)) (n:Nat) (y:List Int):Bool:=nrm a y==ent b cols.length cols.length&&(List.range cols.length).all fun j=>dotW (applyW a (cols.getD j [])) y==ent b j cols.length
def RetCd (w:World) (a b cols:List (List Int)) (n q:Nat) (budget:Int) (e:Ending) (w':World):Prop:=
 Step w w'/\((∃k:Int,e= .returned (.tuple #[.slice none 0 0,.int .i64 k])/\((k=7/\totS a q<=budget/\4096<(collL a q false).length)∨(k=9/\budget<totS a q)))∨
  totS a q<=budget/\∃P S sc,PtsOf a q P/\e= .returned (.tuple #[.slice S (P.filter (goodB a b cols n)).length sc,.int .i64 0])/\Mat64 w' S (P.filter (goodB a b cols n)))
theorem mat_of_enc {w:World} {R:Option Addr} {els:List VE} (h:Arr w R 35 (els.map VE.enc)) (hok:∀x∈els,x.ok w):Mat64 w R (els.map VE.l):=by
 refine ⟨els.map VE.enc,by simp,h,fun i r hr=>?_⟩
 rw [List.getElem?_map] at hr
 cases he:els[i]? with
 |none=>rw [he] at hr;cases hr
 |some x=>
  rw [he] at hr
  injection hr with hr
  subst hr
  have hx:=hok x (List.mem_of_getElem? he)
  exact ⟨x.A,x.c,by rw [List.getElem?_map,he];rfl,hx.1,hx.2.2.1,hx.2.2.2⟩
theorem five_keep (w:World) (T:TypeId) {w':World} {x y z u v:Value} {b o b' o':Nat} (h1:w.cell? ⟨b,o,none⟩=some u) (h2:w.cell? ⟨b',o',none⟩=some v) [hb:Old b w] [hb':Old b' w] [h:Ext (w.alloc (.cells #[x,y,z] T)) w']:
  w'.cell? ⟨w.heap.size,0,none⟩=some x/\w'.cell? ⟨w.heap.size,1,none⟩=some y/\w'.cell? ⟨w.heap.size,2,none⟩=some z/\w'.cell? ⟨b,o,none⟩=some u/\w'.cell? ⟨b',o',none⟩=some v:=by
 have hx:Ext w w':=(Ext.alloc w w _).trans h
 have hh:=heap_of_ext h (heap_alloc_new w (.cells #[x,y,z] T))
 exact ⟨by simp [World.cell?,hh],by simp [World.cell?,hh],by simp [World.cell?,hh],(cellE w).trans h1,(cellE w).trans h2⟩
set_option maxRecDepth 20000 in
theorem iCandidates_ok {w0 w:World} {A Bb C:Option Addr} {ca bc cc n q k:Nat} {a b cols:List (List Int)} {budget:Int} (ha:MatA w0 A a) (hb:MatA w0 Bb b) (hal:a.length=n) (hbl:b.length=n) (hca:n<=ca) (hca2:ca<=9223372036854775807) (hbc:n<=bc) (hbc2:bc<=9223372036854775807) (hra:isRedB a=true) (hrb:isRedB b=true)
  (hdet:detS a=detS b) (hu0:0<=budget) (hu1:budget<=1000000) (hC:Mat64 w0 C cols) (hk:cols.length=k) (hkn:k<n) (hv:∀x∈cols,fitsB n x=true/\x.length=n) (hnm:∀x∈cols,dotB (nrm a x)=true) (hne:1<=(collL a q false).length) (hq:grL b n=q) (hq1:(q:Int)<1073741824) [hx:Ext w0 w]:
  Calls Tryz.prog 29 #[.slice A n ca,.slice Bb n bc,.int .i64 budget,.slice C k cc] w (RetCd w a b cols n q budget):=by
 have hRa:=red_ok hra
 have hRb:=red_ok hrb
 have hn:=isSmallB_len hRa.small
 have hn8:n<=8:=by omega
 have hn1:((n-1:Nat):Int)=(n:Int)-1:=by omega
 have HVS:Hid (∀W,Ext w0 W->Calls Tryz.prog 52 #[.slice A n ca,.slice Bb n bc,.int .i64 budget,.slice C k cc,.int .i64 ((n:Int)-1)] W (RetVs W a q budget)):=Lib.hid (fun W e=>by
  rw [<-hn1];exact ivectors_ok (most:=n-1) ha hb hal hbl hca hca2 hbc hbc2 hra hrb hdet hu0 hu1 hC hk (by omega) (by omega) hv hq hq1)
 have HNC:Hid (∀W X dx x,Ext w0 W->x∈cols->Ints W X 2 .i64 x->Calls Tryz.prog 58 #[.slice A n ca,.slice X n dx] W (RetCol W a x n X dx)):=Lib.hid (fun W X dx x e hxm hX=>inewColumn_ok (w0:=W) (ha.ext e) hal hca hca2 (redM_of hra) hX (hv x hxm).2 (by have h:=(hv x hxm).1;rw [fitsB_eq (hv x hxm).2] at h;exact inRangeB_iff.1 h) (hnm x hxm))
 have HNS:Hid (∀W LA L lc,Ext w0 W->Mat64 W LA L->VecList a q false L->L.length<=4096->Calls Tryz.prog 59 #[.slice A n ca,.slice LA (List.length L) lc] W (RetSysI W a L)):=Lib.hid (fun W LA L lc e hL hV h4=>by
  have hsys:=vec_sys hRa (Int.natCast_nonneg q) hq1 hV
  exact inewSystem_ok (w0:=W) (ha.ext e) hal (by omega) (by rw [<-hal];exact isSmallB_all hRa.small) hL rfl (by omega) (by have :=vecList_len hRa (Int.natCast_nonneg q) hV;omega) (pre_nodup hV) hsys.1 (fun x hx=>by have :=hsys.2 x hx;rw [hal] at this;exact this))
 have HA:=Lib.hid (And.intro ha (And.intro hal (And.intro hra hRa)))
 have HB:=Lib.hid (And.intro hb (And.intro hbl (And.intro hrb hRb)))
 have HC:=Lib.hid (And.intro hC (And.intro hk hv))
 have HN:=Lib.hid hn
 have hwr1:IntKind.i64.wrap ((n:Int)-1)=(n:Int)-1:=by rw [IntKind.wrap_i64];omega
 have hwr2:wrap64 ((n:Int)-1)=(n:Int)-1:=by rw [w64];exact hwr1
 clear ha hb hal hbl hra hrb hRa hRb hdet hq hq1 hn hca hca2 hbc hbc2 hu0 hu1 hne hC hk hv hnm hn1
 unfold RetCd
 go_enter Tryz.func29,Tryz.ntmps29
 go_wp2_with fail
 go_step3
 go_upto_region 2 with (go_at_call 52;refine (HVS.out _ inferInstance).mono ?_;rintro e w5 h5;obtain ⟨LA,ll,lc,ok,k5,rfl,hs5,h5⟩:=vs_open h5)
 rcases h5.out with ⟨rfl,rfl,hbud,L,hLl,hM,hV,h4⟩ |⟨rfl,hk⟩
 ·have HNL:Hid (∀W,Ext w5 W->Calls Tryz.prog 59 #[.slice A n ca,.slice LA ll lc] W (RetSysI W a L)):=Lib.hid (fun W e=>by
   have :=HNS.out W LA L lc (((inferInstance:Ext w0 w5)).trans e) (hM.ext e) hV h4
   rwa [hLl] at this)
  have HVL:=Lib.hid hV
  have HBU:=Lib.hid hbud
  have HL4:Hid (ll<=4096/\L.length=ll):=Lib.hid ⟨by omega,hLl⟩
  clear hLl hM hV h4 hbud h5 HVS HNS hwr1 hwr2
  go_wp2_with fail
  go_loopw [14,16,42] (fun s14 _ s42 wr=>∃(j:Nat) (S:Option Addr) (sc:Nat) (cvs:List Value),j<=k/\s42= .int .i64 j/\s14= .slice S j sc/\Hid (Own wr w5.heap.size 114 3 S j sc cvs)/\Hid (ColsR wr a n (cols.take j) cvs)/\Ext w5 wr) (fun _ _ s42 _=>k-(intOf s42).toNat)
  case atStart=>exact ⟨0,none,0,[],by omega,rfl,rfl,Lib.hid (Own.nil _ _ _ _),Lib.hid (fun i x h=>by simp at h),inferInstance⟩
  case round=>
   obtain ⟨j,S,sc,cvs,hj,rfl,rfl,HOW,HCR,hxr⟩:=hrel
   by_cases hlt:j<k
   ·obtain ⟨x,hxg⟩:∃x,cols[j]? =some x:=⟨_,List.getElem?_eq_getElem (by rw [HC.out.2.1];exact hlt)⟩
    have hx0:Ext w0 wr:=(hx.trans (inferInstance:Ext w w5)).trans hxr
    obtain ⟨b,o,B,c2,rfl,hc1,hI,h1,h2,h3⟩:=(HC.out.1.ext hx0).at_ hxg
    have hxl:x.length=n:=(HC.out.2.2 x (List.mem_of_getElem? hxg)).2
    rw [hxl] at hc1
    have HNX:Hid (∀W,Ext wr W->Calls Tryz.prog 58 #[.slice A n ca,.slice B n c2] W (RetCol W a x n B c2)):=Lib.hid (fun W e=>HNC.out W B c2 x (hx0.trans e) (List.mem_of_getElem? hxg) (hI.ext e))
    have HXG:=Lib.hid hxg
    have oB:Old b wr:=⟨h3⟩
    have hszr:w5.heap.size<=wr.heap.size:=hxr.size
    clear hxg hI h1 h2 h3 hxl
    go_wp2_with (first
     |(go_at_call 58;refine (HNX.out _ inferInstance).mono ?_;rintro e w6 ⟨D,d,rfl,hD,hs6⟩;have HD:=Lib.hid hD;clear hD;have hsz6:wr.heap.size<=w6.heap.size:=hs6.ext.size)
     |(at_builtin;refine wpList_app _ rfl _ _ 112 rfl w5.heap.size 114 (.agg #[.slice none 0 0,.slice none 0 0,.bool false]) 3 56 Tryz.underlying112 infoCol rfl (by omega) (by omega) S j sc cvs rfl (HOW.out.ext inferInstance) (some ⟨w6.heap.size,0,none⟩) 1 1 [.slice B n c2,.slice D n d,.bool false] rfl (Arr.new w6 114 #[.slice B n c2,.slice D n d,.bool false]) rfl (by simp [Value.oneCell']) (by omega) (by simp<;>omega) ?_;intro S7 sc7 w7 hown7 hg7;have HO7:=Lib.hid hown7;have HG7:=Lib.hid hg7;clear hown7 hg7))
    have hx7:Ext w5 w7:=HG7.out.ext (hxr.trans inferInstance) (Nat.le_refl _)
    refine ⟨⟨j+1,S7,sc7,_,by omega,by go_num,rfl,HO7,Lib.hid ?_,hx7⟩,by simp [intOf]<;>omega⟩
    refine ColsR.snoc (HCR.out.map fun hz=>((hz.ext (inferInstance:Ext wr w6)).ext (inferInstance:Ext w6 (w6.alloc (.cells #[.slice B n c2,.slice D n d,.bool false] 114)))).grow HG7.out (by decide)) HXG.out HOW.out.len ((HD.out.ext (inferInstance:Ext w6 (w6.alloc (.cells #[.slice B n c2,.slice D n d,.bool false] 114)))).grow HG7.out (by decide))
   ·obtain rfl:k=j:=by omega
    obtain ⟨wl,rfl⟩:∃wl:World,wl=wr:=⟨_,rfl⟩
    have HCR1:Hid (ColsR wl a n cols cvs):=Lib.hid (by have h:=HCR.out;rwa [List.take_of_length_le (by rw [HC.out.2.1];exact Nat.le_refl _)] at h)
    unfold RetSysI at HNL
    clear hj hlt HNC HCR
    go_upto_region 13 with (go_at_call 59;refine (HNL.out _ inferInstance).mono ?_;rintro e w6 ⟨g,pc,dc,nc,DA,NA,els,rfl,hp6⟩;have hs6:=hp6.2.2.2.2.2.2;have HP6:=Lib.hid hp6;clear hp6)
    have hx6:Ext w w6:=((inferInstance:Ext w w5).trans hxr).trans inferInstance
    have hxl6:Ext wl w6:=inferInstance
    obtain ⟨N,hN⟩:∃N,els.length=N:=⟨_,rfl⟩
    obtain ⟨P,hP⟩:∃P,els.map VE.l=P:=⟨_,rfl⟩
    rw [hN]
    have HPP:Hid (PtsOf a q P/\P.length=N/\N<=8192):=Lib.hid (by
     have e1:=pts_len (L:=L) (P:=P) (by rw [<-hP];exact HP6.out.1)
     have e2:P.length=N:=by rw [<-hP,List.length_map];exact hN
     exact ⟨pts_of HVL.out (by rw [<-hP];exact HP6.out.1) (by rw [<-hP];exact HP6.out.2.1),e2,by have :=HL4.out;omega⟩)
    have HNN:=Lib.hid hN
    have HPD:=Lib.hid hP
    clear hN hP
    go_wp2_with fail
    go_step3
    go_wp2_with fail
    go_loopg [18,19,20,21,22,59] N (fun gi s18 _ _ _ _ s59 wr=>∃(i l:Nat) (R:Option Addr) (rc:Nat),i<=N/\gi=N-i/\s59= .int .i64 i/\s18= .slice R l rc/\Hid (((els.take i).filter (fun e=>goodB a b cols n e.l)).length=l)/\Hid (Own wr (w6.heap.size+1) 35 1 R l rc (((els.take i).filter (fun e=>goodB a b cols n e.l)).map VE.enc))/\Hid (wr.heap[w6.heap.size]? =some (.cells #[.slice (some ⟨g,0,none⟩) N pc,.slice DA N dc,.slice NA N nc,.slice none 0 0] 118 (0,0)))/\Ext w6 wr)
    case atStart=>exact ⟨0,0,none,0,by omega,by omega,rfl,rfl,Lib.hid rfl,Lib.hid (Own.nil _ _ _ _),Lib.hid (heap_alloc_new w6 _),inferInstance⟩
    case round=>
     obtain ⟨i,l,R,rc,hi,rfl,rfl,rfl,HRL,HRO,HBX,hxr6⟩:=hrel
     obtain ⟨wi,rfl⟩:∃wi:World,wi=wr:=⟨_,rfl⟩
     have hN8:=HPP.out.2.2
     by_cases hlt:i<N
     ·obtain ⟨ve,hve⟩:∃ve,els[i]? =some ve:=⟨_,List.getElem?_eq_getElem (by rw [HNN.out];exact hlt)⟩
      have hvm:=List.mem_of_getElem? hve
      have hok:=(HP6.out.2.2.2.1 ve hvm).ext hxr6
      have hPm:ve.l∈P:=by rw [<-HPD.out];exact List.mem_map_of_mem hvm
      have hvl:ve.l.length=n:=by rw [HPP.out.1.rows _ hPm];exact HA.out.2.1
      obtain ⟨p1,-,p3⟩:=HP6.out.2.2.1.cell hve
      have oGw:Old g w6:=⟨p3⟩
      have q1:wi.cell? ⟨g,i,none⟩=some (.slice ve.A n ve.c):=by rw [<-hvl];exact (cellE w6).trans p1
      obtain ⟨bn,on_,yv,rfl,hy1,hy2,hy3⟩:=(HP6.out.2.2.2.2.2.1.ext hxr6).at_ (i:=i) (by rw [List.length_map,List.length_map,HNN.out];exact hlt)
      have hyv:yv=nrm a ve.l:=by
       rw [List.getElem?_map,List.getElem?_map,hve] at hy1
       injection hy1 with hy1
       exact hy1.symm
      subst hyv
      have hb3:=HB.out.1.ext (hx.trans (hx6.trans hxr6))
      have hbr:∀j,j<=k->j<b.length:=fun j hj=>by rw [HB.out.2.1];omega
      have hst:=HBX.out
      have s0:wi.cell? ⟨w6.heap.size,2,none⟩=some (.slice (some ⟨bn,on_,none⟩) N nc):=by simp [World.cell?,hst]
      have oS:Old w6.heap.size wi:=⟨lt_of_heap hst⟩
      have oN:Old bn wi:=⟨hy3⟩
      have oG:Old g wi:=⟨Nat.lt_of_lt_of_le p3 hxr6.size⟩
      have hbl:∀j,j<=k->(b.getD j []).length=n:=fun j hj=>by
       have h1:b.getD j []∈b:=by
        rw [List.getD_eq_getElem?_getD,List.getElem?_eq_getElem (hbr j hj)]
        exact List.getElem_mem _
       rw [isSmallB_all HB.out.2.2.2.small _ h1,HB.out.2.1]
      obtain ⟨bb,ob,br,orr,cr,rfl,e1,e2,e3,e4⟩:=hb3.ent_ (i:=k) (hbr k (Nat.le_refl _)) (hbl k (Nat.le_refl _)) hkn
      have HTK:Hid (els.take (i+1)=els.take i++[ve]):=Lib.hid (by rw [List.take_add_one,hve];rfl)
      have HYI:Hid (Ints wi ve.A 2 .i64 ve.l/\ve.l.length=n):=Lib.hid ⟨hok.1,hvl⟩
      have HB3:=Lib.hid hb3
      have HBR:=Lib.hid hbr
      have HBL:=Lib.hid hbl
      have oBB:Old bb wi:=⟨e4.2.1⟩
      have oBR:Old br wi:=⟨e4.2.2⟩
      by_cases hE:nrm a ve.l=ent b k k
      ·have hEb:(nrm a ve.l !=ent b k k)=false:=by simpa using hE
       have HEE:=Lib.hid hE
       clear hve hvm hok hPm hvl p1 hy1 hb3 hbr hbl hst hE
       go_wp2_with fail
       go_quiet (fail)
       go_upto_region 18 with fail
       go_loopw [21,22,79] (fun _ _ s79 wr=>∃j:Nat,j<=k/\s79= .int .i64 j/\Hid (∀j',j'<j->dotW (applyW a (cols.getD j' [])) ve.l=ent b j' k)/\Ext wi wr) (fun _ _ s79 _=>k-(intOf s79).toNat)
       case atStart=>exact ⟨0,by omega,rfl,Lib.hid (fun j' h=>by omega),inferInstance⟩
       case round=>
        obtain ⟨j,hj,rfl,HALL,hxj⟩:=hrel
        obtain ⟨wj,rfl⟩:∃wj:World,wj=wr:=⟨_,rfl⟩
        by_cases hjl:j<k
        ·obtain ⟨x,hxg⟩:∃x,cols[j]? =some x:=⟨_,List.getElem?_eq_getElem (by rw [HC.out.2.1];exact hjl)⟩
         have hgd:cols.getD j []=x:=by simp [List.getD,hxg]
         obtain ⟨X,dx,D,d,c1,c2,c3,hDI⟩:=HCR1.out j x hxg
         have harr:=HOW.out.arr
         have hxlj:Ext wl wj:=hxl6.trans (hxr6.trans hxj)
         obtain ⟨cb,co,hS1,k1,k0⟩:=harr.at_ c1
         obtain ⟨cb',co',hS2,k2,-⟩:=harr.at_ c2
         rw [hS1] at hS2
         injection hS2 with hS2
         injection hS2 with x1 x2
         subst x1 x2
         obtain ⟨cb',co',hS2,k3,-⟩:=harr.at_ c3
         rw [hS1] at hS2
         injection hS2 with hS2
         injection hS2 with x1 x2
         subst x1 x2
         rw [<-Nat.add_assoc] at k2 k3
         have oCl:Old cb wl:=⟨k0⟩
         have m1:wj.cell? ⟨cb,co+j*3,none⟩=some (.slice X n dx):=(cellE wl).trans k1
         have m2:wj.cell? ⟨cb,co+j*3+1,none⟩=some (.slice D n d):=(cellE wl).trans k2
         have m3:wj.cell? ⟨cb,co+j*3+2,none⟩=some (.bool false):=(cellE wl).trans k3
         have oCj:Old cb wj:=⟨Nat.lt_of_lt_of_le k0 hxlj.size⟩
         obtain ⟨b2,o2,b3,o3,c4,hA2,f1,f2,f3,f4,f5,f6⟩:=(HB3.out.ext hxj).ent_ (i:=j) (HBR.out j hj) (HBL.out j hj) hkn
         injection hA2 with hA2
         injection hA2 with x1 x2
         subst x1 x2
         have oB2:Old bb wj:=⟨f5⟩
         have oB3:Old b3 wj:=⟨f6⟩
         have HMT:=Lib.hid (fun W (e:Ext wj W)=>imeets_ok (w0:=wj) (w:=W) (A:=A) (X:=X) (c:=ca) (dx:=dx) (dd:=d) (dy:=ve.c) (v:=ent b j k) (hDI.ext hxlj) (by simp [applyW,HA.out.2.1]) (HYI.out.1.ext hxj) HYI.out.2 hn8)
         subst hS1
         have HFF:=Lib.hid (And.intro f1 f2)
         have HXG:=Lib.hid (And.intro hxg hgd)
         clear k1 k2 k3 c1 c2 c3 harr hxg hgd hDI
         have hjn:j<n:=by omega
         have hjnI:(j:Int)<(n:Int):=by omega
         by_cases hz:dotW (applyW a x) ve.l=ent b j k
         ·have hzb:(dotW (applyW a x) ve.l==ent b j k)=true:=by simpa using hz
          rw [hzb] at HMT
          have HZ:=Lib.hid hz
          clear hz hzb
          go_upto_region 20 with fail
          go_region_held3 (fun w'=>w'.cell? ⟨wj.heap.size,0,none⟩=some (.slice X n dx)/\w'.cell? ⟨wj.heap.size,1,none⟩=some (.slice D n d)/\w'.cell? ⟨wj.heap.size,2,none⟩=some (.bool false)/\w'.cell? ⟨bb,ob+j,none⟩=some (.slice (some ⟨b3,o3,none⟩) n c4)/\w'.cell? ⟨b3,o3+k,none⟩=some (.int .i64 (ent b j k)))
           (exact five_keep wj 114 HFF.out.1 HFF.out.2)
           ((go_at_call 60;refine (HMT.out _ inferInstance).mono ?_;rintro e w8 ⟨rfl,hs8⟩))
          go_wp2_with fail
          refine ⟨⟨j+1,by omega,by go_num,Lib.hid (fun j' h=>?_),hxj.trans inferInstance⟩,by simp [intOf]<;>omega⟩
          rcases Nat.lt_or_ge j' j with hlj |hlj
          ·exact HALL.out j' hlj
          ·obtain rfl:j'=j:=by omega
           rw [HXG.out.2];exact HZ.out
         ·have hzb:(dotW (applyW a x) ve.l==ent b j k)=false:=by simpa using hz
          rw [hzb] at HMT
          have HGD:Hid (goodB a b cols n ve.l=false):=Lib.hid (by
           unfold goodB
           rw [HC.out.2.1,Bool.and_eq_false_iff]
           refine .inr ?_
           rw [List.all_eq_false]
           exact ⟨j,List.mem_range.2 hjl,by rw [HXG.out.2,hzb];simp⟩)
          clear hz hzb
          go_upto_region 20 with fail
          go_region_held3 (fun w'=>w'.cell? ⟨wj.heap.size,0,none⟩=some (.slice X n dx)/\w'.cell? ⟨wj.heap.size,1,none⟩=some (.slice D n d)/\w'.cell? ⟨wj.heap.size,2,none⟩=some (.bool false)/\w'.cell? ⟨bb,ob+j,none⟩=some (.slice (some ⟨b3,o3,none⟩) n c4)/\w'.cell? ⟨b3,o3+k,none⟩=some (.int .i64 (ent b j k)))
           (exact five_keep wj 114 HFF.out.1 HFF.out.2)
           ((go_at_call 60;refine (HMT.out _ inferInstance).mono ?_;rintro e w8 ⟨rfl,hs8⟩))
          go_wp2_with fail
          go_roundg (N-(i+1))
          case measure=>omega
          case rel=>exact ⟨i+1,l,R,rc,by omega,by omega,by go_num,rfl,Lib.hid (by rw [HTK.out,List.filter_append];simp [HGD.out,HRL.out]),Lib.hid (by rw [HTK.out,List.filter_append];simp [HGD.out];exact HRO.out.ext (hxj.trans inferInstance)),Lib.hid (heap_of_ext (hxj.trans inferInstance) HBX.out),hxr6.trans (hxj.trans inferInstance)⟩
        ·obtain rfl:k=j:=by omega
         have HGD:Hid (goodB a b cols n ve.l=true):=Lib.hid (by
          unfold goodB
          rw [HC.out.2.1]
          simp only [Bool.and_eq_true,List.all_eq_true,List.mem_range]
          exact ⟨by simpa using HEE.out,fun j' h=>by simpa using HALL.out j' h⟩)
         have hszj:w6.heap.size+1<=wj.heap.size:=by have :=lt_of_heap (heap_of_ext hxj HBX.out);omega
         have hll:l<=N:=by rw [<-HRL.out];exact Nat.le_trans (List.length_filter_le _ _) (by rw [List.length_take];omega)
         go_wp2_with (at_builtin;refine wpList_app _ rfl _ _ 25 rfl (w6.heap.size+1) 35 (.slice none 0 0) 1 24 Tryz.underlying25 infoSlI64 rfl (by omega) (by omega) R l rc _ rfl (HRO.out.ext (hxj.trans inferInstance)) (some ⟨wj.heap.size,0,none⟩) 1 1 [.slice ve.A n ve.c] rfl (Arr.new wj 35 #[.slice ve.A n ve.c]) rfl (by simp [Value.oneCell']) (by omega) (by simp<;>omega) ?_;intro R7 rc7 w7 hown7 hg7;have HO7:=Lib.hid hown7;have HG7:=Lib.hid hg7;clear hown7 hg7)
         go_roundg (N-(i+1))
         case measure=>omega
         case rel=>
          have hbx7:=HG7.out.heap (heap_of_ext (hxj.trans inferInstance) HBX.out) (by decide)
          refine ⟨i+1,l+1,R7,rc7,by omega,by omega,by go_num,rfl,Lib.hid (by rw [HTK.out,List.filter_append];simp [HGD.out,HRL.out]),Lib.hid ?_,Lib.hid hbx7,HG7.out.ext (hxr6.trans (hxj.trans inferInstance)) (by omega)⟩
          have h:=HO7.out
          rw [HTK.out,List.filter_append]
          simp only [HGD.out,List.filter_cons,List.filter_nil,if_true,List.map_append,List.map_cons,List.map_nil]
          rw [show ve.enc= .slice ve.A n ve.c by unfold VE.enc;rw [HYI.out.2]]
          exact h
      ·have hEb:(nrm a ve.l !=ent b k k)=true:=by simpa using hE
       have HGD:Hid (goodB a b cols n ve.l=false):=Lib.hid (by unfold goodB;rw [HC.out.2.1];simp [hE])
       clear hve hvm hok hPm hvl p1 hy1 hb3 hbr hbl hst hE
       go_wp2_with fail
       go_quiet (fail)
       go_wp2_with fail
       go_roundg (N-(i+1))
       case measure=>omega
       case rel=>exact ⟨i+1,l,R,rc,by omega,by omega,by go_num,rfl,Lib.hid (by rw [HTK.out,List.filter_append];simp [HGD.out,HRL.out]),Lib.hid (by rw [HTK.out,List.filter_append];simp [HGD.out];exact HRO.out.ext inferInstance),Lib.hid (heap_of_ext (inferInstance:Ext wi _) HBX.out),hxr6.trans inferInstance⟩
     ·obtain rfl:N=i:=by omega
      have HFI:Hid (((els.filter (fun e=>goodB a b cols n e.l)).map VE.l)=P.filter (goodB a b cols n)):=Lib.hid (by rw [<-HPD.out,List.filter_map];rfl)
      have HMR:Hid (l=(P.filter (goodB a b cols n)).length/\Mat64 wi R (P.filter (goodB a b cols n))):=Lib.hid (by
       have h1:=HRL.out
       have h2:=HRO.out
       rw [List.take_of_length_le (by rw [HNN.out];exact Nat.le_refl _)] at h1 h2
       refine ⟨by rw [<-HFI.out,List.length_map];exact h1.symm,?_⟩
       rw [<-HFI.out]
       exact mat_of_enc h2.arr (fun x hx=>(HP6.out.2.2.2.1 x (List.mem_filter.1 hx).1).ext hxr6))
      go_wp2_with fail
      rw [Exit.noGoto_ret]
      go_ret2
      obtain ⟨rfl,hm⟩:=HMR.out
      exact ⟨(hx6.trans hxr6).toStep,.inr ⟨HBU.out,P,R,rc,HPP.out.1,rfl,hm⟩⟩
 ·have HK:=Lib.hid hk
  clear hk h5
  go_wp2_with fail
  rw [Exit.noGoto_ret]
  go_ret2
  exact ⟨Step.of _ _,.inl ⟨k5,rfl,HK.out⟩⟩
theorem pts_uniq {m:List (List Int)} {q:Int} {P Q:List (List Int)} (h:PtsOf m q P) (h':PtsOf m q Q):P=Q:=
 List.Perm.eq_of_pairwise (fun a b _ _ h1 h2=>by have :=lexI_anti a b;omega) h.sorted h'.sorted ((List.perm_ext_iff_of_nodup (lex_nodup h.sorted) (lex_nodup h'.sorted)).2 fun x=>(h.mem x).trans (h'.mem x).symm)
def o2:List (List Int):=[[1,0],[0,1]]
def t2:List (List Int):=[[2,1],[1,2]]
def d3:List (List Int):=[[1,0],[0,3]]
theorem red_o2:isRedB o2=true:=by decide+kernel
theorem red_t2:isRedB t2=true:=by decide+kernel
theorem red_d3:isRedB d3=true:=by decide+kernel
theorem vl_o2:VecList o2 1 false [[0,1],[1,0]]:=vecList_of (red_ok red_o2) (by decide) (by decide+kernel) (by decide+kernel)
theorem vl_t2:VecList t2 3 false [[0,1],[1,-1],[1,0]]:=vecList_of (red_ok red_t2) (by decide) (by decide+kernel) (by decide+kernel)
theorem pts_o2:PtsOf o2 1 [[-1,0],[0,-1],[0,1],[1,0]]:=pts_of vl_o2 (by decide+kernel) (by decide+kernel)
theorem pts_t2:PtsOf t2 3 [[-1,0],[-1,1],[0,-1],[0,1],[1,-1],[1,0]]:=pts_of vl_t2 (by decide+kernel) (by decide+kernel)
theorem ext_o2:extG (fitB o2 o2) [[-1,0],[0,-1],[0,1],[1,0]] 2 []=some [[-1,0],[0,-1]]:=by decide+kernel
theorem ext_t2:extG (fitB t2 d3) [[-1,0],[-1,1],[0,-1],[0,1],[1,-1],[1,0]] 2 []=none:=by decide+kernel
theorem can_o2:[[-1,0],[0,-1],[0,1],[1,0]].filter (goodB o2 o2 [[0,1]] 2)=[[-1,0],[1,0]]:=by decide+kernel
theorem num_o2:grL o2 2=((1:Nat):Int)/\totS o2 ((1:Nat):Int)<=100/\(collL o2 ((1:Nat):Int) false).length=2:=by decide+kernel
theorem num_t2:grL d3 2=((3:Nat):Int)/\detS t2=detS d3/\totS t2 ((3:Nat):Int)<=100/\(collL t2 ((3:Nat):Int) false).length=3:=by decide+kernel
theorem awk_find {w0 w:World} {A:Option Addr} (hM:Mat64 w0 A o2) [hx:Ext w0 w]:Calls Tryz.prog 10 #[.slice A 2 2,.slice A 2 2,.int .i64 100] w fun e w'=>∃T,e= .returned (.tuple #[.slice T 2 2,.bool true,.int .i64 0])/\Mat64 w' T [[-1,0],[0,-1]]/\Step w w':=
 (iFind_ok (w0:=w0) (w:=w) (n:=2) (q:=1) hM.a hM.a rfl rfl (by decide) (by decide) (by decide) (by decide) red_o2 red_o2 rfl (by decide) (by decide) (by rw [num_o2.2.2];decide) num_o2.1 (by decide)).mono fun e w' h=>by
  obtain ⟨hs,h1 |⟨-,P,hP,h2⟩⟩:=h
  ·obtain ⟨k,-,hk |hk⟩:=h1
   ·have h:=hk.2.2;rw [num_o2.2.2] at h;omega
   ·have :=num_o2.2.1;have h:=hk.2;omega
  ·obtain rfl:=pts_uniq hP pts_o2
   rcases h2 with ⟨t,T,hE,he,hT⟩ |⟨he,hE |⟨-,hE⟩⟩
   ·rw [ext_o2] at hE
    injection hE with hE
    subst hE
    exact ⟨T,he,hT,hs⟩
   ·rw [ext_o2] at hE;cases hE
   ·exact absurd rfl hE
theorem awk_none {w0 w:World} {A B:Option Addr} (hM:Mat64 w0 A t2) (hB:Mat64 w0 B d3) [hx:Ext w0 w]:Calls Tryz.prog 10 #[.slice A 2 2,.slice B 2 2,.int .i64 100] w (RetVal w (.tuple #[.slice none 0 0,.bool false,.int .i64 0])):=
 (iFind_ok (w0:=w0) (w:=w) (n:=2) (q:=3) hM.a hB.a rfl rfl (by decide) (by decide) (by decide) (by decide) red_t2 red_d3 num_t2.2.1 (by decide) (by decide) (by rw [num_t2.2.2.2];decide) num_t2.1 (by decide)).mono fun e w' h=>by
  obtain ⟨hs,h1 |⟨-,P,hP,h2⟩⟩:=h
  ·obtain ⟨k,-,hk |hk⟩:=h1
   ·have h:=hk.2.2;rw [num_t2.2.2.2] at h;omega
   ·have :=num_t2.2.2.1;have h:=hk.2;omega
  ·obtain rfl:=pts_uniq hP pts_t2
   rcases h2 with ⟨t,T,hE,he,hT⟩ |⟨he,-⟩
   ·rw [ext_t2] at hE;cases hE
   ·exact ⟨he,hs⟩
theorem awk_cand {w0 w:World} {A C:Option Addr} (hM:Mat64 w0 A o2) (hC:Mat64 w0 C [[0,1]]) [hx:Ext w0 w]:Calls Tryz.prog 29 #[.slice A 2 2,.slice A 2 2,.int .i64 100,.slice C 1 1] w fun e w'=>∃T c,e= .returned (.tuple #[.slice T 2 c,.int .i64 0])/\Mat64 w' T [[-1,0],[1,0]]/\Step w w':=
 (iCandidates_ok (w0:=w0) (w:=w) (n:=2) (q:=1) (k:=1) (cols:=[[0,1]]) hM.a hM.a rfl rfl (by decide) (by decide) (by decide) (by decide) red_o2 red_o2 rfl (by decide) (by decide) hC rfl (by decide) (by decide+kernel) (by decide+kernel) (by rw [num_o2.2.2];decide) num_o2.1 (by decide)).mono fun e w' h=>by
  obtain ⟨hs,h1 |⟨-,P,S,sc,hP,he,hm⟩⟩:=h
  ·obtain ⟨k,-,hk |hk⟩:=h1
   ·have h:=hk.2.2;rw [num_o2.2.2] at h;omega
   ·have :=num_o2.2.1;have h:=hk.2;omega
  ·obtain rfl:=pts_uniq hP pts_o2
   rw [can_o2] at he hm
   exact ⟨S,sc,he,hm,hs⟩
theorem mat22S (w:World) (s:Nat) (hs:w.heap.size=s) (a b c d:Int):Mat64 (((w.alloc (.cells #[.int .i64 a,.int .i64 b] 2)).alloc (.cells #[.int .i64 c,.int .i64 d] 2)).alloc (.cells #[.slice (some ⟨s,0,none⟩) 2 2,.slice (some ⟨s+1,0,none⟩) 2 2] 35)) (some ⟨s+1+1,0,none⟩) [[a,b],[c,d]]:=by
 subst hs;exact mat22 w a b c d
theorem mat12 (w:World) (a b:Int):Mat64 ((w.alloc (.cells #[.int .i64 a,.int .i64 b] 2)).alloc (.cells #[.slice (some ⟨w.heap.size,0,none⟩) 2 2] 35)) (some ⟨w.heap.size+1,0,none⟩) [[a,b]]:=by
 have h1:Ints (w.alloc (.cells #[.int .i64 a,.int .i64 b] 2)) (some ⟨w.heap.size,0,none⟩) 2 .i64 [a,b]:=Arr.new w 2 #[.int .i64 a,.int .i64 b]
 have h3:=Arr.new (w.alloc (.cells #[.int .i64 a,.int .i64 b] 2)) 35 #[.slice (some ⟨w.heap.size,0,none⟩) 2 2]
 rw [World.size_alloc] at h3
 refine ⟨_,rfl,h3,fun i r hr=>?_⟩
 match i with
 |0=>obtain rfl:[a,b]=r:=by simpa using hr
     exact ⟨_,2,rfl,h1.ext inferInstance,by simp,by omega⟩
 |i+1=>simp at hr
set_option maxRecDepth 100000 in
theorem awake18_any {w:World}:Calls Tryz.prog 15 #[] w (RetVal w (.bool true)):=by
 have HF:Hid (∀W0 W A,Mat64 W0 A o2->Ext W0 W->Calls Tryz.prog 10 #[.slice A 2 2,.slice A 2 2,.int .i64 100] W fun e w'=>∃T,e= .returned (.tuple #[.slice T 2 2,.bool true,.int .i64 0])/\Mat64 w' T [[-1,0],[0,-1]]/\Step W w'):=Lib.hid (fun W0 W A h hx=>awk_find h)
 have HG:Hid (∀W0 W A B,Mat64 W0 A t2->Mat64 W0 B d3->Ext W0 W->Calls Tryz.prog 10 #[.slice A 2 2,.slice B 2 2,.int .i64 100] W (RetVal W (.tuple #[.slice none 0 0,.bool false,.int .i64 0]))):=Lib.hid (fun W0 W A B h h' hx=>awk_none h h')
 have HC:Hid (∀W0 W A C,Mat64 W0 A o2->Mat64 W0 C [[0,1]]->Ext W0 W->Calls Tryz.prog 29 #[.slice A 2 2,.slice A 2 2,.int .i64 100,.slice C 1 1] W fun e w'=>∃T c,e= .returned (.tuple #[.slice T 2 c,.int .i64 0])/\Mat64 w' T [[-1,0],[1,0]]/\Step W w'):=Lib.hid (fun W0 W A C h h' hx=>awk_cand h h')
 have HS1:Hid (∀W B c C d,Mat64 W B [[-1,0],[0,-1]]->Mat64 W C [[-1,0],[0,-1]]->Calls Tryz.prog 30 #[.slice B 2 c,.slice C 2 d] W (RetQ W (.bool true))):=Lib.hid (fun W B c C d h1 h2=>ref09_Same_any (w0:=W) (w:=W) (c:=c) (d:=d) h1 h2 (by decide) (by decide) (by decide) (by decide))
 have HS2:Hid (∀W B c C d,Mat64 W B [[-1,0],[1,0]]->Mat64 W C [[-1,0],[1,0]]->Calls Tryz.prog 30 #[.slice B 2 c,.slice C 2 d] W (RetQ W (.bool true))):=Lib.hid (fun W B c C d h1 h2=>ref09_Same_any (w0:=W) (w:=W) (c:=c) (d:=d) h1 h2 (by decide) (by decide) (by decide) (by decide))
 have HM:=Lib.hid (mat22 w 1 0 0 1)
 have k1:True:=trivial
 have k0:True:=trivial
 go_enter Tryz.func15,Tryz.ntmps15
 go_wp2_with (first
  |(go_at_call 10;have _t:=k0;clear _t k0;refine (HF.out _ _ _ HM.out inferInstance).mono ?_;rintro e w1 ⟨T1,rfl,hT1,hs1⟩)
  |(go_at_call 10;refine (HG.out _ _ _ _ ((mat22 w1 2 1 1 2).ext inferInstance) (mat22S (((w1.alloc (.cells #[.int .i64 2,.int .i64 1] 2)).alloc (.cells #[.int .i64 1,.int .i64 2] 2)).alloc (.cells #[.slice (some ⟨w1.heap.size,0,none⟩) 2 2,.slice (some ⟨w1.heap.size+1,0,none⟩) 2 2] 35)) (w1.heap.size+1+1+1) (by simp) 1 0 0 3) inferInstance).mono ?_;rintro e w2 ⟨rfl,hs2⟩)
  |(go_at_call 29;refine (HC.out _ _ _ _ (HM.out.ext inferInstance) (mat12 w2 0 1) inferInstance).mono ?_;rintro e w3 ⟨T3,c3,rfl,hT3,hs3⟩)
  |(go_at_call 30;have _t:=k1;clear _t k1;refine (HS1.out _ _ _ _ _ (hT1.ext inferInstance) (mat22S w3 w3.heap.size rfl (-1) 0 0 (-1))).mono ?_;rintro e w4 ⟨rfl,n4,rfl⟩)
  |(go_at_call 30;refine (HS2.out _ _ _ _ _ (hT3.ext inferInstance) (mat22S (((w3.alloc (.cells #[.int .i64 (-1),.int .i64 0] 2)).alloc (.cells #[.int .i64 0,.int .i64 (-1)] 2)).alloc (.cells #[.slice (some ⟨w3.heap.size,0,none⟩) 2 2,.slice (some ⟨w3.heap.size+1,0,none⟩) 2 2] 35) |>.drewN n4) (w3.heap.size+1+1+1) (by simp) (-1) 0 1 0)).mono ?_;rintro e w5 ⟨rfl,n5,rfl⟩))
 go_ret
 exact ⟨rfl,Step.of _ _⟩
theorem square18_any {w0 w:World} {A:Option Addr} {c n r:Nat} {m:List (List Int)} (h:Mat64 w0 A m) (hr:m.length=r) (hn:AllLen m n) (hr8:r<=1000000) (hn8:n<=1000000) [hx:Ext w0 w]:
  Calls Tryz.prog 12 #[.slice A r c,.int .i64 n] w (RetVal w (.bool ((r:Int)==(n:Int)))):=by
 have HM:=Lib.hid (h.ext hx)
 have HR:=Lib.hid hr
 have HN:=Lib.hid hn
 clear h hr hn
 have hne:((n:Int) !=(n:Int))=false:=by simp
 go_enter Tryz.func12,Tryz.ntmps12
 go_wp2_with fail
 go_loopw [6,9] (fun _ s9 wr=>∃i:Nat,i<=r/\s9= .int .i64 i/\wr=w) (fun _ s9 _=>r-(intOf s9).toNat)
 case atStart=>exact ⟨0,by omega,rfl,rfl⟩
 case round=>
  obtain ⟨i,hi,rfl,rfl⟩:=hrel
  by_cases hlt:i<r
  ·obtain ⟨x,hx1⟩:∃x,m[i]? =some x:=⟨_,List.getElem?_eq_getElem (by rw [HR.out];exact hlt)⟩
   obtain ⟨b,o,B,c2,rfl,hc1,hI,h1,h2,h3⟩:=HM.out.at_ hx1
   have hxl:x.length=n:=HN.out x (List.mem_of_getElem? hx1)
   rw [hxl] at hc1
   clear hx1 hI h1 h2 hxl
   go_wp2_with fail
   exact ⟨⟨i+1,by omega,by go_num,trivial⟩,by simp [intOf]<;>omega⟩
  ·obtain rfl:r=i:=by omega
   go_wp2_with fail
   go_ret
   exact ⟨rfl,Step.of _ _⟩
theorem rColumnOf_any {w0 w:World} {A:Option Addr} {c n r j:Nat} {m:List (List Int)} (h:Mat64 w0 A m) (hr:m.length=r) (hn:AllLen m n) (hr8:r<=1000000) (hn8:n<=1000000) (hj:j<n) [hx:Ext w0 w]:
  Calls Tryz.prog 14 #[.slice A r c,.int .i64 j] w fun e w'=>∃S d,e= .returned (.slice S r d)/\Ints w' S 2 .i64 (m.map fun x=>x.getD j 0)/\Step w w':=by
 have HM:=Lib.hid (h.ext hx)
 have HR:=Lib.hid hr
 have HN:=Lib.hid hn
 clear h hr hn
 go_enter Tryz.func14,Tryz.ntmps14
 go_wp2_with fail
 go_loopw [5,6,9] (fun s5 _ s9 wr=>∃(i:Nat) (S:Option Addr) (d:Nat),i<=r/\s9= .int .i64 i/\s5= .slice S i d/\Hid (Own wr w.heap.size 2 1 S i d ((m.take i).map fun x=>Value.int .i64 (x.getD j 0)))/\Ext w wr) (fun _ _ s9 _=>r-(intOf s9).toNat)
 case atStart=>exact ⟨0,none,0,by omega,rfl,rfl,Lib.hid (by simpa using Own.nil _ _ _ _),inferInstance⟩
 case round=>
  obtain ⟨i,S,d,hi,rfl,rfl,HOW,hxr⟩:=hrel
  by_cases hlt:i<r
  ·obtain ⟨x,hx1⟩:∃x,m[i]? =some x:=⟨_,List.getElem?_eq_getElem (by rw [HR.out];exact hlt)⟩
   obtain ⟨b,o,B,c2,rfl,hc1,hI,h1,h2,h3⟩:=(HM.out.ext hxr).at_ hx1
   have hxl:x.length=n:=HN.out x (List.mem_of_getElem? hx1)
   obtain ⟨b2,o2,v,rfl,hv,hc2,hb2⟩:=hI.at_ (i:=j) (by omega)
   have hvv:v=x.getD j 0:=by simp [List.getD,hv]
   have HTK:Hid ((m.take (i+1)).map (fun x=>Value.int .i64 (x.getD j 0))=(m.take i).map (fun x=>Value.int .i64 (x.getD j 0))++[.int .i64 v]):=Lib.hid (by
    rw [List.take_add_one,hx1,hvv];simp)
   rw [hxl] at hc1
   have hsz:=hxr.size
   clear hx1 hI h1 h2 hxl hv hvv
   go_wp2_with (at_builtin;refine wpList_app _ rfl _ _ 35 rfl w.heap.size 2 (.int .i64 0) 1 8 Tryz.underlying35 infoI64 rfl (by omega) (by omega) S i d _ rfl (HOW.out.ext inferInstance) (some ⟨wr.heap.size,0,none⟩) 1 1 [.int .i64 v] rfl (Arr.new wr 2 #[.int .i64 v]) rfl (by simp [Value.oneCell']) (by omega) (by simp<;>omega) ?_;intro S7 d7 w7 hown7 hg7;have HO7:=Lib.hid hown7;have HG7:=Lib.hid hg7;clear hown7 hg7)
   exact ⟨⟨i+1,S7,d7,by omega,by go_num,rfl,Lib.hid (by rw [HTK.out];exact HO7.out),HG7.out.ext (hxr.trans inferInstance) (Nat.le_refl _)⟩,by simp [intOf]<;>omega⟩
  ·obtain rfl:r=i:=by omega
   have HDI:Hid (Ints wr S 2 .i64 (m.map fun x=>x.getD j 0)):=Lib.hid (by
    have h:=HOW.out.arr
    rw [List.take_of_length_le (by rw [HR.out];exact Nat.le_refl _)] at h
    unfold Ints
    rw [List.map_map]
    exact h)
   go_wp2_with fail
   go_ret
   exact ⟨S,d,rfl,HDI.out,hxr.toStep⟩
def RowP (w:World) (g:Nat) (p:List Nat):Prop:=∃cur,w.heap[g]? =some (.cells cur 3 (0,0))/\∀(i:Nat) (x:Nat),p[i]? =some x->cur[i]? =some (.int .i64 (x:Int))
theorem RowP.of_own {w:World} {base n c:Nat} {A:Option Addr} {p:List Nat} (h:Own w base 3 1 A n c (p.map fun x:Nat=>Value.int .i64 (x:Int))) (hn:0<n):∃g,A=some ⟨g,0,none⟩/\base<=g/\RowP w g p:=by
 obtain ⟨hl,h2⟩:=h
 rcases h2 with ⟨_,h0⟩ |⟨g,cap,cur,hv,hb,hh,h3,h4,h5,h6⟩
 ·omega
 ·injection hv with hA
  refine ⟨g,hA,hb,cur,hh,fun i x hx=>?_⟩
  have a:(p.map fun x:Nat=>Value.int .i64 (x:Int))[i]? =some (.int .i64 (x:Int)):=by rw [List.getElem?_map,hx];rfl
  rw [<-h6,List.getElem?_take] at a
  split at a
  ·simpa using a
  ·cases a
theorem RowP.set {w:World} {g i:Nat} {p:List Nat} (h:RowP w g p) (x:Nat):RowP (w.setCell ⟨g,i,none⟩ (.int .i64 (x:Int))) g (p.set i x):=by
 obtain ⟨cur,h1,h2⟩:=h
 refine ⟨_,heap_setCell_self h1 _,fun j y hy=>?_⟩
 by_cases e:j=i
 ·subst e
  have hl:=(List.getElem?_eq_some_iff.1 hy).1
  rw [List.length_set] at hl
  rw [List.getElem?_set_self hl] at hy
  injection hy with hy
  subst hy
  have h3:=h2 j p[j] (by simp)
  have hc:=(Array.getElem?_eq_some_iff.1 h3).1
  rw [Array.getElem?_setIfInBounds_self_of_lt hc]
 ·rw [List.getElem?_set_ne (by omega)] at hy
  rw [Array.getElem?_setIfInBounds_ne (by omega)]
  exact h2 j y hy
theorem RowP.cell {w:World} {g i x:Nat} {p:List Nat} (h:RowP w g p) (hx:p[i]? =some x):w.cell? ⟨g,i,none⟩=some (.int .i64 (x:Int))/\w.frozen? ⟨g,i,none⟩=false/\g<w.heap.size:=by
 obtain ⟨cur,h1,h2⟩:=h
 have h3:=h2 i x hx
 exact ⟨by simp [World.cell?,h1,h3],by simp [World.frozen?,h1],lt_of_heap h1⟩
theorem mPerm_ok {w0 w:World} {te:TypeId} {A:Option Addr} {c n:Nat} {l:List Int} (hI:Ints w0 A te .i8 l) (h8:I8 l) (hl:l.length<=9223372036854775807) (hn1:1<=n) (hn:n<=1000) [hx:Ext w0 w]:
  Calls Tryz.prog 11 #[.slice A l.length c,.int .i64 n] w fun e w'=>∃(S:Option Addr) (d:Nat) (p:List Nat),e= .returned (.slice S n d)/\p.Perm (List.range n)/\Ints w' S 3 .i64 (p.map fun x:Nat=>(x:Int))/\Step w w':=by
 have HI:=Lib.hid (hI.ext hx)
 have H8:=Lib.hid h8
 have HAL:Hid (0<l.length->∀a,A=some a->a.block<w.heap.size):=Lib.hid (fun h0 a ha=>by
  obtain ⟨b,o,cs,fr,e1,hb,-⟩:=(hI.ext hx) (by simpa using h0)
  rw [ha] at e1
  injection e1 with e1
  subst e1
  exact lt_of_heap hb)
 have HL:=Lib.hid hl
 clear hI h8 hl
 go_enter Tryz.func11,Tryz.ntmps11
 go_wp2_with fail
 go_loopw [6,7] (fun s6 s7 wr=>∃(i:Nat) (S:Option Addr) (d:Nat),i<=n/\s7= .int .i64 i/\s6= .slice S i d/\Hid (Own wr (w.heap.size+1) 3 1 S i d ((List.range i).map fun x:Nat=>Value.int .i64 (x:Int)))/\Hid (TapeA wr w.heap.size te A c l 0)/\Ext w wr) (fun _ s7 _=>n-(intOf s7).toNat)
 case atStart=>
  exact ⟨0,none,0,by omega,rfl,rfl,Lib.hid (by simpa using Own.nil _ _ _ _),Lib.hid ⟨by have :=heap_alloc_new w (.cells #[.slice A l.length c,.int .i64 0] 75);simpa using this,HI.out.ext inferInstance,HAL.out⟩,inferInstance⟩
 case round=>
  obtain ⟨i,S,d,hi,rfl,rfl,HOW,HT,hxr⟩:=hrel
  by_cases hlt:i<n
  ·have hsz:w.heap.size<wr.heap.size:=HT.out.lt
   go_wp2_with (at_builtin;refine wpList_app _ rfl _ _ 28 rfl (w.heap.size+1) 3 (.int .i64 0) 1 8 Tryz.underlying28 infoInt_ rfl (by omega) (by omega) S i d _ rfl (HOW.out.ext inferInstance) (some ⟨wr.heap.size,0,none⟩) 1 1 [.int .i64 (i:Int)] rfl (Arr.new wr 3 #[.int .i64 (i:Int)]) rfl (by simp [Value.oneCell']) (by omega) (by simp<;>omega) ?_;intro S7 d7 w7 hown7 hg7;have HO7:=Lib.hid hown7;have HG7:=Lib.hid hg7;clear hown7 hg7)
   refine ⟨⟨i+1,S7,d7,by omega,by go_num,rfl,Lib.hid (by rw [List.range_succ,List.map_append];exact HO7.out),Lib.hid ?_,?_⟩,by simp [intOf]<;>omega⟩
   ·exact TapeA.keep (TapeA.ext HT.out (inferInstance:Ext wr (wr.alloc (.cells #[.int .i64 (i:Int)] 3)))) HAL.out fun b hb=>HG7.out.below.block b (by omega)
   ·exact ⟨(hxr.trans (inferInstance:Ext wr (wr.alloc (.cells #[.int .i64 (i:Int)] 3)))).below.trans (HG7.out.below.mono (by omega))⟩
  ·obtain rfl:n=i:=by omega
   obtain ⟨g,rfl,hgb,hRP⟩:=RowP.of_own HOW.out (by omega)
   have HRP:=Lib.hid hRP
   have hgT:w.heap.size<g:=by omega
   clear hRP HOW
   go_wp2_with fail
   go_loopw [8,9] (fun s8 _ wr=>∃(i k:Nat) (p:List Nat),i<n/\s8= .int .i64 i/\Hid (RowP wr g p)/\Hid (p.Perm (List.range n))/\Hid (TapeA wr w.heap.size te A c l k)/\Ext w wr) (fun s8 _ _=>(intOf s8).toNat)
   case atStart=>exact ⟨n-1,0,List.range n,by omega,by congr 1;omega,HRP,Lib.hid (List.Perm.refl _),HT,hxr⟩
   case round=>
    obtain ⟨i,k,p,hi2,rfl,HRP,HPP,HT,hxr⟩:=hrel
    obtain ⟨wi,rfl⟩:∃wi:World,wi=wr:=⟨_,rfl⟩
    have hpl:p.length=n:=by rw [HPP.out.length_eq,List.length_range]
    by_cases h0:0<i
    ·have HBL:=Lib.hid (rBelowA_ok (m:=i+1) HT.out H8.out HL.out (by omega) (by omega))
     obtain ⟨j,hz,hji⟩:∃j:Nat,l.getD k 0%256%((i+1:Nat):Int)=(i:Int)-(j:Int)/\j<=i:=by
      have e1:=Int.emod_nonneg (l.getD k 0%256) (show ((i+1:Nat):Int)≠0 by omega)
      have e2:=Int.emod_lt_of_pos (l.getD k 0%256) (show (0:Int)<((i+1:Nat):Int) by omega)
      generalize l.getD k 0%256%((i+1:Nat):Int)=z at*
      exact ⟨((i:Int)-z).toNat,by omega,by omega⟩
     rw [hz] at HBL
     have hii:((i+1:Nat):Int)=(i:Int)+1:=by omega
     rw [hii] at HBL
     have hw1:IntKind.i64.wrap ((i:Int)-((i:Int)-(j:Int)))=(j:Int):=by rw [IntKind.wrap_i64];omega
     clear hz hii
     have hjn:j<n:=by omega
     go_upto_region 11 with (go_at_call 28;refine HBL.out.mono ?_;rintro e w5 ⟨rfl,hT5,hO5⟩;have HT5:=Lib.hid hT5;have HO5:=Lib.hid hO5;clear hT5 hO5)
     have hR5:RowP w5 g p:=by
      obtain ⟨cur,h1,h2⟩:=HRP.out
      exact ⟨cur,(HO5.out.at_ (lt_of_heap h1) (by omega)).trans h1,h2⟩
     obtain ⟨xi,hxi⟩:∃xi,p[i]? =some xi:=⟨_,List.getElem?_eq_getElem (by omega)⟩
     obtain ⟨xj,hxj⟩:∃xj,p[j]? =some xj:=⟨_,List.getElem?_eq_getElem (by omega)⟩
     obtain ⟨c1,c2,c3⟩:=hR5.cell hxi
     obtain ⟨c4,c5,-⟩:=hR5.cell hxj
     have oG:Old g w5:=⟨c3⟩
     have hPS:Hid (((p.set i xj).set j xi).Perm (List.range n)):=Lib.hid (by
      have e1:p[i]'(by omega)=xi:=(List.getElem?_eq_some_iff.1 hxi).2
      have e2:p[j]'(by omega)=xj:=(List.getElem?_eq_some_iff.1 hxj).2
      have :=List.set_set_perm (show i<p.length by omega) (show j<p.length by omega)
      rw [e1,e2] at this
      exact this.trans HPP.out)
     have HR7:=Lib.hid ((hR5.set (i:=i) xj).set (i:=j) xi)
     have hx5:Ext w w5:=⟨hxr.below.trans (HO5.out.below.mono (Nat.le_refl _))⟩
     have HT7:Hid (TapeA ((w5.setCell ⟨g,i,none⟩ (.int .i64 (xj:Int))).setCell ⟨g,j,none⟩ (.int .i64 (xi:Int))) w.heap.size te A c l (k+1)):=Lib.hid (TapeA.keep (TapeA.keep HT5.out HAL.out fun b hb=>Below.heap_setCell w5 ⟨g,i,none⟩ _ b (by simp;omega)) HAL.out fun b hb=>Below.heap_setCell _ ⟨g,j,none⟩ _ b (by simp;omega))
     obtain ⟨x6,hx6⟩:∃x6,(p.set i xj)[j]? =some x6:=⟨_,List.getElem?_eq_getElem (by rw [List.length_set];omega)⟩
     obtain ⟨m1,m2,-⟩:=(hR5.set (i:=i) xj).cell hx6
     clear hR5 hxi hxj hx6
     go_region
     all_goals
      go_wp2_with fail
      exact ⟨⟨i-1,k+1,(p.set i xj).set j xi,by omega,by go_num,Lib.hid (by obtain ⟨cur,h1,h2⟩:=HR7.out;exact ⟨cur,heap_of_ext inferInstance h1,h2⟩),hPS,Lib.hid (HT7.out.ext inferInstance),((hx5.setCell (p:=⟨g,i,none⟩) (by simp;omega) (.int .i64 (xj:Int))).setCell (p:=⟨g,j,none⟩) (by simp;omega) (.int .i64 (xi:Int))).trans inferInstance⟩,by simp [intOf]<;>omega⟩
    ·obtain rfl:i=0:=by omega
     have HDI:Hid (Ints wi (some ⟨g,0,none⟩) 3 .i64 (p.map fun x:Nat=>(x:Int))):=Lib.hid (fun _=>by
      obtain ⟨cur,h1,h2⟩:=HRP.out
      refine ⟨g,0,cur,(0,0),rfl,h1,fun j u hu=>?_⟩
      rw [List.getElem?_map,List.getElem?_map] at hu
      cases hp:p[j]? with
      |none=>rw [hp] at hu;cases hu
      |some y=>
       rw [hp] at hu
       injection hu with hu
       subst hu
       rw [Nat.zero_add];exact h2 j y hp)
     go_wp2_with fail
     go_ret
     exact ⟨some ⟨g,0,none⟩,d,p,rfl,HPP.out,HDI.out,hxr.toStep⟩
set_option maxRecDepth 1000000 in
theorem scal_num:∀{k:Nat},1<=k->k<=4->∀{q:Nat},1<=q->q<=3->totS (scalF k q) q<=4000/\1<=(collL (scalF k q) q false).length/\(collL (scalF k q) q false).length<=4096:=by
 intro k h1 h2 c h3 h4
 have hc:c=1∨c=2∨c=3:=by omega
 have hk:k=1∨k=2∨k=3∨k=4:=by omega
 rcases hc with rfl |rfl |rfl<;>rcases hk with rfl |rfl |rfl |rfl<;>decide+kernel
def sgL (n:Nat) (es:Nat->Int) (p:List Nat):List (List Int):=p.mapIdx fun j y=>sgU n y (es j)
section
variable {n q:Nat} {P t:List (List Int)} {p:List Nat} {es:Nat->Int}
theorem sgL_mem (h0:1<=n) (h1:n<=4) (h3:1<=q) (h4:q<=3) (hP:PtsOf (scalF n q) q P) (hp:p.Perm (List.range n)) (he:∀j,es j=1∨es j=-1):∀x∈sgL n es p,x∈P:=fun x hx=>by
 unfold sgL at hx
 obtain ⟨i,hi,rfl⟩:=List.getElem_of_mem hx
 rw [List.getElem_mapIdx]
 exact sg_mem h0 h1 (by omega) (by omega) hP (by simpa using hp.mem_iff.1 (List.getElem_mem _)) (he i)
theorem sgL_iso (hp:p.Perm (List.range n)) (he:∀j,es j=1∨es j=-1):IsoC (scalF n q) (scalF n q) (sgL n es p):=sgn_iso (by simpa using hp.length_eq) hp he
theorem least_first (h0:1<=n) (h1:n<=4) (h3:1<=q) (h4:q<=3) (hP:PtsOf (scalF n q) q P) (ht:extG (fitB (scalF n q) (scalF n q)) P n []=some t):
  t.length=n/\(∀x∈t,x.length=n)/\∀(p:List Nat) (es:Nat->Int),p.Perm (List.range n)->(∀j,es j=1∨es j=-1)->∀i,i<n->t.take i=(sgL n es p).take i->t.getD i []=(sgL n es p).getD i []∨lexI (t.getD i []) ((sgL n es p).getD i [])<0:=by
 have hR:=red_ok (scalF_red h0 h1 (c:=q) (by omega) (by omega))
 have hl:=scalF_len n q
 obtain ⟨a1,a2,-⟩:=extG_some hR hP n [] t ht ParC.nil
 refine ⟨by simpa using a2,fun x hx=>by rw [((hP.mem x).1 (a1.mem x hx)).1,hl],fun p es hp he i hi hti=>?_⟩
 obtain ⟨t',e1,e2⟩:=extG_first hR hP (sgL_iso hp he) (sgL_mem h0 h1 h3 h4 hP hp he) n [] (by simp [hl]) rfl
 rw [ht] at e1
 injection e1 with e1
 subst e1
 rcases e2 with e2 |⟨j,b1,b2,b3⟩
 ·exact .inl (by rw [e2])
 ·have key:∀(u v:List (List Int)) (k m:Nat),u.take m=v.take m->k<m->u.getD k []=v.getD k []:=fun u v k m huv hkm=>by
   have :=congrArg (fun l=>l.getD k []) huv
   simpa [List.getD_eq_getElem?_getD,List.getElem?_take,hkm] using this
  rcases Nat.lt_trichotomy i j with hij |hij |hij
  ·exact .inl (key _ _ _ _ b2 hij)
  ·subst hij;exact .inr b3
  ·rw [key _ _ _ _ hti hij,lexI_self] at b3
   omega
end
theorem least_find {w0 w:World} {A:Option Addr} {n q ca:Nat} (hM:Mat64 w0 A (scalF n q)) (h0:1<=n) (h1:n<=4) (h3:1<=q) (h4:q<=3) (hca:n<=ca) (hca2:ca<=9223372036854775807) [hx:Ext w0 w]:Calls Tryz.prog 10 #[.slice A n ca,.slice A n ca,.int .i64 4000] w fun e w'=>∃T t P,e= .returned (.tuple #[.slice T n n,.bool true,.int .i64 0])/\Mat64 w' T (rowsOf n t)/\PtsOf (scalF n q) q P/\extG (fitB (scalF n q) (scalF n q)) P n []=some t/\Step w w':=by
 have hred:=scalF_red h0 h1 (c:=q) (by omega) (by omega)
 have hR:=red_ok hred
 obtain ⟨n1,n2,n3⟩:=scal_num h0 h1 h3 h4
 refine (iFind_ok (w0:=w0) (w:=w) (n:=n) (q:=q) hM.a hM.a (scalF_len n q) (scalF_len n q) hca hca2 hca hca2 hred hred rfl (by decide) (by decide) n2 (scal_gr h0 (by omega)) (by omega)).mono fun e w' h=>?_
 obtain ⟨hs,h1' |⟨-,P,hP,h2⟩⟩:=h
 ·obtain ⟨k,-,hk |hk⟩:=h1'
  ·have h:=hk.2.2;omega
  ·have h:=hk.2;omega
 ·rcases h2 with ⟨t,T,hE,he,hT⟩ |⟨he,hE |⟨-,hE⟩⟩
  ·exact ⟨T,t,P,he,hT,hP,hE,hs⟩
  ·obtain ⟨t',e1,-⟩:=extG_first hR hP (sgL_iso (n:=n) (q:=q) (p:=List.range n) (es:=fun _=>1) (List.Perm.refl _) (fun _=> .inl rfl)) (sgL_mem h0 h1 h3 h4 hP (List.Perm.refl _) (fun _=> .inl rfl)) n [] (by simp [scalF_len]) rfl
   rw [hE] at e1
   cases e1
  ·exact absurd rfl hE
theorem rowsOf_col {n i:Nat} {t:List (List Int)} (hl:t.length=n) (hr:∀x∈t,x.length=n) (hi:i<n):(rowsOf n t).map (fun x=>x.getD i 0)=t.getD i []:=by
 have hti:t[i]? =some t[i]:=List.getElem?_eq_getElem (by omega)
 have hx:=hr t[i] (List.getElem_mem _)
 rw [List.getD_eq_getElem?_getD,hti,Option.getD_some]
 refine List.ext_getElem (by simp [rowsOf,hx]) fun k h1 h2=>?_
 simp only [rowsOf,List.map_map,List.getElem_map,List.getElem_range,Function.comp]
 rw [List.getD_eq_getElem?_getD,List.getElem?_map,hti,Option.map_some,Option.getD_some,List.getD_eq_getElem?_getD,List.getElem?_eq_getElem h2,Option.getD_some]
theorem rowsOf_all {n:Nat} {t:List (List Int)} (hl:t.length=n):AllLen (rowsOf n t) n:=fun r hr=>by
 obtain ⟨i,-,rfl⟩:=List.mem_map.1 hr
 simp [hl]
/-! ## The rows of the form -/
theorem IsoI.put {w w3:World} {g n b:Nat} {hd:List Value} {m:List (List Int)} {r:List Int} (h:IsoI w g n hd m) (hk:hd.length<n) (hb:b=w.heap.size) (hh:w3.heap[g]? =(w.setCell ⟨g,hd.length,none⟩ (.slice (some ⟨b,0,none⟩) n n)).heap[g]?) (ho:∀x,x<w.heap.size->x≠g->w3.heap[x]? =w.heap[x]?) (hv:Row w3 b 2 .i64 r) (hrl:r.length=n) (hn:n<=1000):IsoI w3 g n (hd++[.slice (some ⟨b,0,none⟩) n n]) (m++[r]):=by
 have hl:=h.len
 refine ⟨?_,by simp [hl],fun i x hx=>?_⟩
 ·have h7:=h.head.set hd.length (.slice (some ⟨b,0,none⟩) n n)
  obtain ⟨t,ht⟩:∃t,n-hd.length=t+1:=⟨n-hd.length-1,by omega⟩
  rw [ht,List.replicate_succ,List.set_append_right _ _ (Nat.le_refl _),Nat.sub_self,List.set_cons_zero] at h7
  unfold VRow at h7 |-
  rw [hh,h7]
  simp [show n-(hd.length+1)=t by omega]
 ·rcases Nat.lt_or_ge i hd.length with hi |hi
  ·rw [List.getElem?_append_left (by omega)] at hx
   obtain ⟨B,c,a1,a2,a3⟩:=h.row i x hx
   exact ⟨B,c,by rw [List.getElem?_append_left hi];exact a1,a2.keep fun b cs fr hb=>ho b (lt_of_heap hb) (fun e=>heap_ne hb h.head (by decide) e),a3⟩
  ·rw [List.getElem?_append_right (by omega)] at hx
   have hi2:=(List.getElem?_eq_some_iff.1 hx).1
   simp only [List.length_singleton] at hi2
   have hr2:x=r:=by have :=List.mem_of_getElem? hx;simpa using this
   subst hr2
   exact ⟨some ⟨b,0,none⟩,n,by rw [show i=hd.length by omega,List.getElem?_append_right (Nat.le_refl _),Nat.sub_self,hrl];rfl,hv.ints,by omega,by omega⟩
theorem IsoI.mat {w:World} {g n:Nat} {hd:List Value} {m:List (List Int)} (h:IsoI w g n hd m) (hn:hd.length=n):Mat64 w (some ⟨g,0,none⟩) m:=by
 have hh:=h.head
 rw [hn,Nat.sub_self,List.replicate_zero,List.append_nil] at hh
 exact ⟨hd,h.len,hh.arr,fun i r hr=>h.row i r hr⟩
theorem scalF_take {n i:Nat} {c:Int} (hi:i<n):(scalF n c).take (i+1)=(scalF n c).take i++[(List.replicate n 0).set i c]:=by
 rw [List.take_add_one]
 simp [scalF,hi]
theorem bit1:∀x:Fin 256,bits .and .i64 ((x.val:Nat):Int) 1=((x.val:Nat):Int)%2:=by decide+kernel
def bZ (a:Int) (j:Nat):Int:=bits .and .i64 (a / 2^(4+j)) 1
theorem bZ_01 {a:Int} (h0:0<=a) (h1:a<256) (j:Nat):bZ a j=0∨bZ a j=1:=by
 have a1:0<=a / 2^(4+j):=Int.ediv_nonneg h0 (Int.le_of_lt (Int.pow_pos (by decide)))
 have a2:a / 2^(4+j)<=a:=Int.ediv_le_self _ h0
 unfold bZ
 generalize a / 2^(4+j)=x at*
 have :=bit1 ⟨x.toNat,by omega⟩
 simp only [Int.toNat_of_nonneg a1] at this
 rw [this]
 omega
def esZ (a:Int) (j:Nat):Int:=if bZ a j=1 then-1 else 1
theorem esZ_1 (a:Int) (j:Nat):esZ a j=1∨esZ a j=-1:=by unfold esZ;split<;>simp
set_option maxRecDepth 20000 in
theorem IsometryLeast_any {w:World} {d a:Int} {te:TypeId} {A:Option Addr} {c:Nat} {l:List Int} (hd0:0<=d) (hd1:d<256) (hI:Ints w A te .i8 l) (h8:I8 l) (hl:l.length<=9223372036854775807) (ha0:0<=a) (ha1:a<256):
  Calls Tryz.prog 4 #[.int .u8 d,.slice A l.length c,.int .u8 a] w (RetVal w (.bool true)):=by
 have HAW:Hid (∀W,Calls Tryz.prog 15 #[] W (RetVal W (.bool true))):=Lib.hid (fun W=>awake18_any)
 obtain ⟨n,hn⟩:∃n:Nat,1+a%4=n:=⟨(1+a%4).toNat,by omega⟩
 obtain ⟨q,hq⟩:∃q:Nat,1+d%3=q:=⟨(1+d%3).toNat,by omega⟩
 have hn1:1<=n:=by omega
 have hn4:n<=4:=by omega
 have hq1:1<=q:=by omega
 have hq3:q<=3:=by omega
 have HPM:Hid (∀W,Ext w W->Calls Tryz.prog 11 #[.slice A l.length c,.int .i64 n] W fun e w'=>∃(S:Option Addr) (d:Nat) (p:List Nat),e= .returned (.slice S n d)/\p.Perm (List.range n)/\Ints w' S 3 .i64 (p.map fun x:Nat=>(x:Int))/\Step W w'):=Lib.hid (fun W e=>mPerm_ok hI h8 hl hn1 (by omega))
 have HES:Hid (∀j,bZ a j=0∨bZ a j=1):=Lib.hid (bZ_01 ha0 ha1)
 generalize l.length=ln at*
 clear hI h8 hl
 have hmk1:=run_make_any (P:=Tryz.prog) Tryz.underlying25 infoSlI64 (by omega) (n:Int) (by omega) (by omega)
 have hmk2:=run_make_ints (P:=Tryz.prog) (k:= .i64) Tryz.underlying35 infoI64 (by omega) (n:Int) (by omega) (by omega)
 have HI0:Hid (IsoI (w.alloc (.cells (mkCells #[.slice none 0 0] n) 35)) w.heap.size n [] ((scalF n q).take 0)):=Lib.hid ⟨by
  have :=VRow.new w 35 (mkCells #[.slice none 0 0] n)
  rw [mkCells_one] at this
  simpa [mkCells_one] using this,rfl,fun i r hr=>by simp at hr⟩
 go_enter Tryz.func4,Tryz.ntmps4
 go_wp2_with fail
 obtain ⟨g,hg⟩:∃g,w.heap.size=g:=⟨_,rfl⟩
 have hgw:w.heap.size<=g:=by omega
 rw [hg] at HI0
 rw [hg]
 clear hg hmk1
 go_loopw [9,28] (fun _ i wr=>∃(k:Nat) (hd:List Value),k<=n/\i= .int .i64 k/\Hid (hd.length=k)/\Hid (IsoI wr g n hd ((scalF n q).take k))/\Ext w wr) (fun _ i _=>n-(intOf i).toNat)
 case atStart=>exact ⟨0,[],by omega,rfl,Lib.hid rfl,HI0,inferInstance⟩
 case round=>
  obtain ⟨k,hd,hk,rfl,HL,HI,hxr⟩:=hrel
  obtain ⟨wo,rfl⟩:∃wo:World,wo=wr:=⟨_,rfl⟩
  by_cases hlt:k<n
  ·have q1:wo.cell? ⟨g,k,none⟩=some (.slice none 0 0):=HI.out.head.cell (by rw [List.getElem?_append_right (by rw [HL.out];exact Nat.le_refl _),HL.out,Nat.sub_self,List.getElem?_replicate,if_pos (by omega)])
   have q2:wo.frozen? ⟨g,k,none⟩=false:=HI.out.head.frozen k
   have oG:Old g wo:=⟨HI.out.head.lt⟩
   have hV:=Row.made wo n .i64 2
   obtain ⟨z0,-,hcz⟩:=hV.cell (i:=k) (by simp;exact hlt)
   have hfz:=hV.frozen k
   have hsz:=hV.lt
   clear hV
   go_wp2_with fail
   have hne:wo.heap.size≠g:=by have :=oG.lt;omega
   have hxm:Ext wo (wo.alloc (.cells (mkRow n .i64) 2)):=inferInstance
   have hv:Row (((wo.alloc (.cells (mkRow n .i64) 2)).setCell ⟨g,k,none⟩ (.slice (some ⟨wo.heap.size,0,none⟩) n n)).setCell ⟨wo.heap.size,k,none⟩ (.int .i64 q)) wo.heap.size 2 .i64 ((List.replicate n 0).set k q):=((Row.made wo n .i64 2).far (p:=⟨g,k,none⟩) hne _).set k q
   have hput:=HI.out.put (w3:=((wo.alloc (.cells (mkRow n .i64) 2)).setCell ⟨g,k,none⟩ (.slice (some ⟨wo.heap.size,0,none⟩) n n)).setCell ⟨wo.heap.size,k,none⟩ (.int .i64 q)) (b:=wo.heap.size) (by rw [HL.out];exact hlt) rfl (by
     rw [Below.heap_setCell _ _ _ g hne.symm,HL.out,heap_setCell_self' (heap_of_ext hxm HI.out.head),heap_setCell_self' HI.out.head]) (fun x h1 h2=>by
     rw [Below.heap_setCell _ _ _ x (show x≠wo.heap.size by omega),Below.heap_setCell _ _ _ x (show x≠g from h2)]
     exact hxm.below.block x h1) hv (by simp) (by omega)
   exact ⟨⟨k+1,hd++[.slice (some ⟨wo.heap.size,0,none⟩) n n],by omega,by go_num,Lib.hid (by rw [List.length_append,HL.out];rfl),Lib.hid (by rw [scalF_take hlt];exact hput),((hxr.trans hxm).setCell (p:=⟨g,k,none⟩) hgw _).setCell (p:=⟨wo.heap.size,k,none⟩) hxr.size _⟩,by simp [intOf]<;>omega⟩
  ·obtain rfl:k=n:=by omega
   have HM:Hid (Mat64 wo (some ⟨g,0,none⟩) (scalF k q)):=Lib.hid (by
    have :=HI.out.mat HL.out
    rwa [List.take_of_length_le (by rw [scalF_len];exact Nat.le_refl _)] at this)
   go_upto_region 10 with (go_at_call 10;refine (least_find HM.out hn1 hn4 hq1 hq3 (Nat.le_refl _) (by omega)).mono ?_;rintro e w2 ⟨T,t,P,rfl,hT,hP,hE,hs2⟩)
   obtain ⟨f1,f2,f3⟩:=least_first hn1 hn4 hq1 hq3 hP hE
   have HT:=Lib.hid hT
   have HTL:=Lib.hid (And.intro f1 f2)
   have HPM2:Hid (∀W,Ext w2 W->Calls Tryz.prog 11 #[.slice A ln c,.int .i64 k] W fun e w'=>∃(S:Option Addr) (d:Nat) (p:List Nat),e= .returned (.slice S k d)/\p.Perm (List.range k)/\Ints w' S 3 .i64 (p.map fun x:Nat=>(x:Int))/\Step W w'):=Lib.hid (fun W e=>HPM.out W (hxr.trans (hs2.ext.trans e)))
   clear hT hP hE f1 f2 HI HL HM HPM
   go_wp2_with (go_at_call 11;refine (HPM2.out _ inferInstance).mono ?_;rintro e w3 ⟨PS,pd,p,rfl,hp,hPI,hs3⟩)
   have HPL:Hid (p.length=k):=Lib.hid (by simpa using hp.length_eq)
   have HPI:=Lib.hid hPI
   have HPR:Hid (∀i y,p[i]? =some y->y<k):=Lib.hid (fun i y h=>by simpa using hp.mem_iff.1 (List.mem_of_getElem? h))
   have HFP:=Lib.hid (f3 p (esZ a) hp (esZ_1 a))
   have HT3:=Lib.hid (HT.out.ext hs3.ext)
   clear hp hPI HPM2 HT f3
   go_loopw [13,14,15,16,58] (fun s13 _ _ _ i wr=>∃(m:Nat) (S:Option Addr) (dd:Nat) (vs:List Value),m<=k/\i= .int .i64 m/\s13= .slice S m dd/\Hid (MOwn wr w3.heap.size S m dd ((sgL k (esZ a) p).take m) vs)/\Ext w3 wr) (fun _ _ _ _ i _=>k-(intOf i).toNat)
   case atStart=>exact ⟨0,none,0,[],by omega,rfl,rfl,Lib.hid (MOwn.nil _ _),inferInstance⟩
   case round=>
    obtain ⟨m,S,dd,vs,hm,rfl,rfl,HO,hxm⟩:=hrel
    obtain ⟨wm,rfl⟩:∃wm:World,wm=wr:=⟨_,rfl⟩
    by_cases hmk:m<k
    ·obtain ⟨y,hy⟩:∃y,p[m]? =some y:=⟨_,List.getElem?_eq_getElem (by rw [HPL.out];exact hmk)⟩
     have hyk:=HPR.out m y hy
     obtain ⟨b2,o2,v,rfl,hv,hc2,hb2⟩:=(HPI.out.ext hxm).at_ (i:=m) (by rw [List.length_map,HPL.out];exact hmk)
     rw [List.getElem?_map,hy] at hv
     obtain rfl:(y:Int)=v:=by simpa using hv
     have HTK:Hid ((sgL k (esZ a) p).take (m+1)=(sgL k (esZ a) p).take m++[sgU k y (esZ a m)]):=Lib.hid (by
      rw [List.take_add_one]
      simp [sgL,hy])
     have hV:=Row.made wm k .i64 2
     obtain ⟨z0,-,hcz⟩:=hV.cell (i:=y) (by simp;exact hyk)
     have hfz:=hV.frozen y
     have hsz:=hV.lt
     have hsm:=hxm.size
     have HEV:Hid (wrap64 (1-wrap64 (2*bits .and .i64 (a / 2^(4+m)) 1))=esZ a m):=Lib.hid (by
      have hb:=HES.out m
      unfold bZ at hb
      unfold esZ bZ
      rcases hb with hb |hb<;>rw [hb]<;>decide+kernel)
     clear hV hv hy
     have hm4:m<=3:=by omega
     have hyk2:(y:Int)<(k:Int):=by omega
     obtain ⟨V,hVV⟩:∃V,V=wrap64 (1-wrap64 (2*bits .and .i64 (a / 2^(4+m)) 1)):=⟨_,rfl⟩
     obtain ⟨W1,hW1⟩:∃W1,W1=wm.alloc (.cells ((mkRow k .i64).setIfInBounds y (.int .i64 (wrap64 (1-wrap64 (2*bits .and .i64 (a / 2^(4+m)) 1))))) 2):=⟨_,rfl⟩
     have hx1:Ext wm W1:=by rw [hW1];infer_instance
     have hs1:W1.heap.size=wm.heap.size+1:=by rw [hW1];simp
     have hR1:Ints W1 (some ⟨wm.heap.size,0,none⟩) 2 .i64 (sgU k y (esZ a m)):=by
      have e:(mkRow k .i64).setIfInBounds y (.int .i64 (esZ a m))=((sgU k y (esZ a m)).map (Value.int .i64)).toArray:=by
       apply Array.ext'
       simp [mkRow,sgU,List.map_set]
      rw [hW1,HEV.out,e]
      exact Arr.new wm 2 _
     have hsrc:Arr (W1.alloc (.cells #[.slice (some ⟨wm.heap.size,0,none⟩) k k] 35)) (some ⟨wm.heap.size+1,0,none⟩) 35 [.slice (some ⟨wm.heap.size,0,none⟩) k k]:=by
      have :=Arr.new W1 35 #[.slice (some ⟨wm.heap.size,0,none⟩) k k]
      rwa [hs1] at this
     have hx2:Ext w3 (W1.alloc (.cells #[.slice (some ⟨wm.heap.size,0,none⟩) k k] 35)):=(hxm.trans hx1).trans inferInstance
     have HR1:=Lib.hid hR1
     have HSRC:=Lib.hid hsrc
     have HX:=Lib.hid (And.intro hx1 hx2)
     have HOX:=Lib.hid (HO.out.own.ext (hx1.trans (inferInstance:Ext W1 (W1.alloc (.cells #[.slice (some ⟨wm.heap.size,0,none⟩) k k] 35)))))
     rw [hW1] at HSRC HOX
     clear hR1 hsrc hx1 hx2 hVV
     go_wp2_with (at_builtin;refine wpList_app _ rfl _ _ 25 rfl w3.heap.size 35 (.slice none 0 0) 1 24 Tryz.underlying25 infoSlI64 rfl (by omega) (by omega) S m dd vs rfl HOX.out (some ⟨wm.heap.size+1,0,none⟩) 1 1 [.slice (some ⟨wm.heap.size,0,none⟩) k k] rfl HSRC.out rfl (by simp [Value.oneCell']) (by omega) (by simp<;>omega) ?_;intro S7 d7 w7 hown7 hg7;have HO7:=Lib.hid hown7;have HG7:=Lib.hid hg7;clear hown7 hg7)
     rw [<-hW1] at HG7
     have hsl:(sgU k y (esZ a m)).length=k:=sgU_len _ _ _
     have hsn:=HO.out.snoc (r:=sgU k y (esZ a m)) (d:=k) (HX.out.1.trans inferInstance) HG7.out (by rw [hsl];exact HO7.out) (HR1.out.ext inferInstance) (by omega) (by omega)
     exact ⟨⟨m+1,S7,d7,_,by omega,by go_num,rfl,Lib.hid (by rw [HTK.out];exact hsn),HG7.out.ext HX.out.2 (Nat.le_refl _)⟩,by simp [intOf]<;>omega⟩
    ·obtain rfl:m=k:=by omega
     have HMC:Hid (Mat64 wm S (sgL m (esZ a) p)):=Lib.hid (by
      have :=HO.out.mat
      rwa [List.take_of_length_le (by simp [sgL,HPL.out])] at this)
     have HSQ:Hid (∀W,Ext w3 W->Calls Tryz.prog 12 #[.slice T m m,.int .i64 m] W (RetVal W (.bool true))):=Lib.hid (fun W e=>by
      have h:=square18_any (w:=W) (c:=m) (r:=m) (n:=m) HT3.out (rowsOf_len _ _) (rowsOf_all HTL.out.1) (by omega) (by omega)
      rwa [beq_self_eq_true] at h)
     clear HO
     go_wp2_with (go_at_call 12;refine (HSQ.out _ inferInstance).mono ?_;rintro e w5 ⟨rfl,hs5⟩)
     have HSL:Hid ((sgL m (esZ a) p).length=m):=Lib.hid (by simp [sgL,HPL.out])
     have HSR:Hid (∀x∈sgL m (esZ a) p,x.length=m):=Lib.hid (fun x hx=>by
      unfold sgL at hx
      obtain ⟨i,hi,rfl⟩:=List.getElem_of_mem hx
      rw [List.getElem_mapIdx,sgU_len])
     have hxa:Ext w w5:=hxr.trans (hs2.ext.trans (hs3.ext.trans (hxm.trans hs5.ext)))
     generalize sgL m (esZ a) p=s at*
     clear HSQ HPI HPR HPL HES
     go_loopw [6,17,18,19,95] (fun s6 _ _ _ i wr=>∃j:Nat,j<=m/\i= .int .i64 j/\s6= .bool false/\Hid (t.take j=s.take j)/\Ext w5 wr) (fun _ _ _ _ i _=>m-(intOf i).toNat)
     case atStart=>exact ⟨0,by omega,rfl,rfl,Lib.hid rfl,inferInstance⟩
     case round=>
      obtain ⟨j,hj,rfl,rfl,HTJ,hxj⟩:=hrel
      obtain ⟨wj,rfl⟩:∃wj:World,wj=wr:=⟨_,rfl⟩
      have hxb:Ext w wj:=hxa.trans hxj
      by_cases hjl:j<m
      ·obtain ⟨x,hx⟩:∃x,s[j]? =some x:=⟨_,List.getElem?_eq_getElem (by rw [HSL.out];exact hjl)⟩
       obtain ⟨xb,xo,B,c2,rfl,xc1,hXI,h1,h2,h3⟩:=((HMC.out.ext hs5.ext).ext hxj).at_ hx
       have hxl:x.length=m:=HSR.out x (List.mem_of_getElem? hx)
       have hxg:s.getD j []=x:=by rw [List.getD_eq_getElem?_getD,hx];rfl
       have hyl:(t.getD j []).length=m:=by
        rw [List.getD_eq_getElem?_getD,List.getElem?_eq_getElem (by rw [HTL.out.1];exact hjl)]
        exact HTL.out.2 _ (List.getElem_mem _)
       have hcase:=HFP.out j hjl HTJ.out
       rw [hxg] at hcase
       rw [hxl] at xc1
       have HCO:Hid (∀W,Ext wj W->Calls Tryz.prog 14 #[.slice T m m,.int .i64 j] W fun e w'=>∃S d,e= .returned (.slice S m d)/\Ints w' S 2 .i64 (t.getD j [])/\Step W w'):=Lib.hid (fun W e=>by
        have h:=rColumnOf_any (w:=W) (c:=m) (r:=m) (n:=m) (j:=j) ((HT3.out.ext (((inferInstance:Ext w3 w5).trans hxj).trans e))) (rowsOf_len _ _) (rowsOf_all HTL.out.1) (by omega) (by omega) hjl
        rwa [rowsOf_col HTL.out.1 HTL.out.2 hjl] at h)
       have HCM:Hid (∀W S d,Ext wj W->Ints W S 2 .i64 (t.getD j [])->Calls Tryz.prog 13 #[.slice S m d,.slice B m c2] W (RetVal W (.int .i64 (lexI (t.getD j []) x)))):=Lib.hid (fun W S d e hS=>by
        have h:=ref09_Compare_any (w:=W) (c:=d) (d:=c2) hS (hXI.ext e) (by omega) (by omega)
        rw [hyl,hxl] at h
        refine h.mono ?_
        rintro e w' ⟨rfl,n,rfl⟩
        exact ⟨rfl,Step.of _ _⟩)
       have HZ:Hid ((t.getD j []=x->t.take (j+1)=s.take (j+1))):=Lib.hid (fun h=>by
        rw [List.take_add_one,List.take_add_one,HTJ.out,hx]
        congr 1
        rw [<-h,List.getD_eq_getElem?_getD,List.getElem?_eq_getElem (by rw [HTL.out.1];exact hjl)]
        rfl)
       obtain ⟨z,hz⟩:∃z,z=lexI (t.getD j []) x:=⟨_,rfl⟩
       rw [<-hz] at HCM
       clear hx hXI h1 h2 hxl hxg hyl
       rcases hcase with hc |hc
       ·have hz0:z=0:=by rw [hz,hc,lexI_self]
        subst hz0
        have HZ2:=Lib.hid (HZ.out hc)
        clear hz hc HZ
        go_wp2_with (first
         |(go_at_call 14;refine (HCO.out _ inferInstance).mono ?_;rintro e w6 ⟨S6,d6,rfl,hI6,hs6⟩)
         |(go_at_call 13;refine (HCM.out _ _ _ inferInstance hI6).mono ?_;rintro e w7 ⟨rfl,hs7⟩))
        exact ⟨⟨j+1,by omega,by go_num,rfl,HZ2,hxj.trans inferInstance⟩,by simp [intOf]<;>omega⟩
       ·rw [<-hz] at hc
        clear hz HZ
        have hz1:(z !=0)=true:=by simpa using (show z≠0 by omega)
        go_wp2_with (first
         |(go_at_call 14;refine (HCO.out _ inferInstance).mono ?_;rintro e w6 ⟨S6,d6,rfl,hI6,hs6⟩)
         |(go_at_call 13;refine (HCM.out _ _ _ inferInstance hI6).mono ?_;rintro e w7 ⟨rfl,hs7⟩)
         |(go_at_call 15;refine (HAW.out _).mono ?_;rintro e w8 ⟨rfl,hs8⟩))
        go_ret
        exact ⟨rfl,Step.of _ _⟩
      ·obtain rfl:j=m:=by omega
       go_wp2_with (go_at_call 15;refine (HAW.out _).mono ?_;rintro e w8 ⟨rfl,hs8⟩)
       go_ret
       exact ⟨rfl,Step.of _ _⟩
end Go.Proofs.YtpcgfpmiphiacaaGreat
