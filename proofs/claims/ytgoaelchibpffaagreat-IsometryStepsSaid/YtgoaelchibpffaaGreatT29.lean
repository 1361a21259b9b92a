import Derived.Test.YtgoaelchibpffaaGreatT28
set_option maxHeartbeats 8000000
set_option linter.unusedVariables false
set_option linter.unusedSimpArgs false
namespace Go.Proofs.YtgoaelchibpffaaGreat
open List (getElem?_take getElem?_append_left getElem?_append_right getElem?_map length_map getD_eq_getElem?_getD getElem_mem filter_append length_take mem_filter mem_map)
variable {P b cols m t:List (List Int)} {x:List Int} {cvs hd:List Value} {bc c ca cc g i j n q r:Nat} {A C:Option Addr} {w w' w0:World}
section
open Go.RowKit La
theorem zqL:(Tryz.prog.info? 73).map (fun i=>(i.zero,i.size,i.bytes))=some (some (.agg #[.slice none 0 0,.slice none 0 0,.bool false]),3,56):=ai
def ColsR(w:World)(a:List (List Int))(n:Nat)(cols:List (List Int))(cvs:List Value):Prop:=∀(i:Nat)(x:List Int),cols[i]? =some x->∃X dx D d,cvs[i*3]? =some (.slice X n dx)/\cvs[i*3+1]? =some (.slice D n d)/\cvs[i*3+2]? =some (.bool false)/\Ints w D 2 .i64 (zC a x)
theorem ColsR.map{a:List (List Int)}(h:ColsR w a n cols cvs)(hk:∀{D:Option Addr}{l:List Int},Ints w D 2 .i64 l->Ints w' D 2 .i64 l):ColsR w' a n cols cvs:=fun i x hx=>by
 obtain⟨X,dx,D,d,h1,h2,h3,h4⟩:=h i x hx;exact⟨X,dx,D,d,h1,h2,h3,hk h4⟩
theorem ColsR.snoc{a:List (List Int)}{dx d:Nat}{X D:Option Addr}(h:ColsR w a n (cols.take j) cvs)(hx:cols[j]? =some x)(hl:cvs.length=j*3)(hD:Ints w D 2 .i64 (zC a x)):ColsR w a n (cols.take (j+1)) (cvs++[.slice X n dx,.slice D n d,.bool false]):=fun i y hy=>by
 rw[getElem?_take]at hy;split at hy
 ·rcases Zl i j with hi|hi
  ·obtain⟨X',dx',D',d',h1,h2,h3,h4⟩:=h i y (by rw[getElem?_take,if_pos hi];exact hy);exact⟨X',dx',D',d',by rw[getElem?_append_left aa];exact h1,by rw[getElem?_append_left aa];exact h2,by rw[getElem?_append_left aa];exact h3,h4⟩
  ·obtain rfl:i=j:=aa
   rw[hx]at hy;injection hy with hy
   subst hy;refine⟨X,dx,D,d,?_,?_,?_,hD⟩
   ·rw[getElem?_append_right aa,hl];simp
   ·rw[getElem?_append_right aa,hl,(aa:i*3+1-i*3=1)];rfl
   ·rw[getElem?_append_right aa,hl,(aa:i*3+2-i*3=2)];rfl
 ·cases hy
def qD(a b cols:List (List Int))(n:Nat)(y:List Int):Bool:=zh a y==ent b cols.length cols.length&&(List.range cols.length).all fun j=>z6 (zC a (cols.getD j [])) y==ent b j cols.length
def zjf(w:World)(a b cols:List (List Int))(n q:Nat)(budget:Int)(e:Ending)(w':World):Prop:=
 Step w w'/\((∃k:Int,e= .returned (.tuple #[.slice none 0 0,.int .i64 k])/\((k=7/\zP a q<=budget/\4096<(zB a q false).length)∨(k=9/\budget<zP a q)))∨
  zP a q<=budget/\∃P S sc,PtsOf a q P/\e= .returned (.tuple #[.slice S (P.filter (qD a b cols n)).length sc,.int .i64 0])/\Mat64 w' S (P.filter (qD a b cols n)))
theorem zqM{R:Option Addr}{els:List VE}(h:Arr w R 34 (els.map VE.enc))(hok:∀x∈els,x.ok w):Mat64 w R (els.map VE.l):=by
 refine⟨els.map VE.enc,af,h,fun i r hr=>?_⟩;rw[getElem?_map]at hr
 cases he:els[i]? with
 |none=>rw[he]at hr;cases hr
 |some x=>
  rw[he]at hr;injection hr with hr
  subst hr;have hx:=hok x (Zm he);exact⟨x.A,x.c,by rw[getElem?_map,he];rfl,hx.1,hx.2.2.1,hx.2.2.2⟩
theorem zjg(w:World)(T:TypeId){x y z u v:Value}{b o b' o':Nat}(h1:w.cell? ⟨b,o,none⟩=some u)(h2:w.cell? ⟨b',o',none⟩=some v)[hb:Old b w][hb':Old b' w][h:Ext (w.alloc (.cells #[x,y,z] T)) w']:
  w'.cell? ⟨w.heap.size,0,none⟩=some x/\w'.cell? ⟨w.heap.size,1,none⟩=some y/\w'.cell? ⟨w.heap.size,2,none⟩=some z/\w'.cell? ⟨b,o,none⟩=some u/\w'.cell? ⟨b',o',none⟩=some v:=by
 have hx:Ext w w':=(Ext.alloc w w _).trans h;have hh:=zg h (heap_alloc_new w (.cells #[x,y,z] T));exact⟨by simp[World.cell?,hh],by simp[World.cell?,hh],by simp[World.cell?,hh],(zk w).trans h1,(zk w).trans h2⟩
set_option maxRecDepth 20000 in
theorem zjh{Bb:Option Addr}{k:Nat}{a:List (List Int)}{budget:Int}(ha:MatA w0 A a)(hb:MatA w0 Bb b)(hal:a.length=n)(hbl:b.length=n)(hca:n<=ca)(zsO:ca<=9223372036854775807)(hbc:n<=bc)(zsT:bc<=9223372036854775807)(hra:zM a=true)(hrb:zM b=true)
  (zsY:Za a=Za b) (hu0:0<=budget) (hu1:budget<=1000000) (hC:Mat64 w0 C cols) (hk:cols.length=k) (hkn:k<n) (hv:∀x∈cols,Qr n x=true/\x.length=n) (hnm:∀x∈cols,Qt (zh a x)=true) (hne:1<=(zB a q false).length) (hq:Zu b n=q) (hq1:(q:Int)<1073741824) [hx:Ext w0 w]:
  Cq 13 #[.slice A n ca,.slice Bb n bc,.int .i64 budget,.slice C k cc] w (zjf w a b cols n q budget):=by
 have hRa:=Zk hra;have hRb:=Zk hrb;have hn:=Z2 hRa.small;have hn8:n<=8:=aa
 have hn1:((n-1:Nat):Int)=(n:Int)-1:=aa
 have HVS:Hid (∀W,Ext w0 W->Cq 39 #[.slice A n ca,.slice Bb n bc,.int .i64 budget,.slice C k cc,.int .i64 ((n:Int)-1)] W (zbC W a q budget)):=Zh (fun W e=>by
  rw[<-hn1];exact zjc (most:=n-1) ha hb hal hbl hca zsO hbc zsT hra hrb zsY hu0 hu1 hC hk aa aa hv hq hq1)
 have HNC:Hid (∀W X dx x,Ext w0 W->x∈cols->Ints W X 2 .i64 x->Cq 40 #[.slice A n ca,.slice X n dx] W (zeU W a x n X dx)):=Zh (fun W X dx x e hxm hX=>zqJ (w0:=W) (ha.ext e) hal hca zsO (zgY hra) hX (hv x hxm).2 (by have h:=(hv x hxm).1;rw[zdk (hv x hxm).2]at h;exact JR.1 h) (hnm x hxm));have HNS:Hid (∀W LA L lc,Ext w0 W->Mat64 W LA L->VecList a q false L->L.length<=4096->Cq 41 #[.slice A n ca,.slice LA (List.length L) lc] W (Jd W a L)):=Zh (fun W LA L lc e hL hV h4=>by
  have ztL:=zeJ hRa (Int.natCast_nonneg q) hq1 hV;exact zeG (w0:=W) (ha.ext e) hal aa (by rw[<-hal];exact zV hRa.small) hL rfl aa (by have:=jQ hRa (Int.natCast_nonneg q) hV;omega) (zcS hV) ztL.1 (fun x hx=>by have:=ztL.2 x hx;rw[hal]at this;exact this))
 have HA:=Zh (And.intro ha (And.intro hal (And.intro hra hRa)));have HB:=Zh (And.intro hb (And.intro hbl (And.intro hrb hRb)));have HC:=Zh (And.intro hC (And.intro hk hv));have HN:=Zh hn;have ztk:IntKind.i64.wrap ((n:Int)-1)=(n:Int)-1:=by rw[IntKind.wrap_i64];omega
 have ztz:wrap64 ((n:Int)-1)=(n:Int)-1:=by rw[JF];exact ztk
 clear ha hb hal hbl hra hrb hRa hRb zsY hq hq1 hn hca zsO hbc zsT hu0 hu1 hne hC hk hv hnm hn1;unfold zjf;go_enter Tryz.func13,Tryz.ntmps13;go_wp2_with fail
 go_step3
 go_upto_region 2 with (go_at_call 39;refine(HVS.out _ Zi).mono ?_;rintro e w5 h5;obtain⟨LA,ll,lc,ok,k5,rfl,hs5,h5⟩:=zje h5)
 rcases h5.out with ⟨rfl,rfl,zsZ,L,hLl,hM,hV,h4⟩|⟨rfl,hk⟩
 ·have HNL:Hid (∀W,Ext w5 W->Cq 41 #[.slice A n ca,.slice LA ll lc] W (Jd W a L)):=Zh (fun W e=>by
   have:=HNS.out W LA L lc (((Zi:Ext w0 w5)).trans e) (hM.ext e) hV h4;rwa [hLl]at this)
  have HVL:=Zh hV;have HBU:=Zh zsZ;have HL4:Hid (ll<=4096/\L.length=ll):=Zh ⟨aa,hLl⟩;clear hLl hM hV h4 zsZ h5 HVS HNS ztk ztz;go_wp2_with fail
  go_loopw [14,16,42] (fun s14 _ s42 wr=>∃(j:Nat) (S:Option Addr) (sc:Nat) (cvs:List Value),j<=k/\s42= .int .i64 j/\s14= .slice S j sc/\Hid (Own wr w5.heap.size 73 3 S j sc cvs)/\Hid (ColsR wr a n (cols.take j) cvs)/\Ext w5 wr) (fun _ _ s42 _=>k-(intOf s42).toNat)
  case atStart=>exact⟨0,none,0,[],aa,rfl,rfl,Zh (Own.nil _ _ _ _),Zh (fun i x h=>by simp at h),Zi⟩
  case round=>
   obtain⟨j,S,sc,cvs,hj,rfl,rfl,HOW,HCR,hxr⟩:=hrel;by_cases hlt:j<k
   ·obtain⟨x,hxg⟩:∃x,cols[j]? =some x:=⟨_,Ze (by rw[HC.out.2.1];exact hlt)⟩;have hx0:Ext w0 wr:=(hx.trans (Zi:Ext w w5)).trans hxr;obtain⟨b,o,B,c2,rfl,hc1,hI,h1,h2,h3⟩:=(HC.out.1.ext hx0).at_ hxg;have hxl:x.length=n:=(HC.out.2.2 x (Zm hxg)).2;rw[hxl]at hc1;have HNX:Hid (∀W,Ext wr W->Cq 40 #[.slice A n ca,.slice B n c2] W (zeU W a x n B c2)):=Zh (fun W e=>HNC.out W B c2 x (hx0.trans e) (Zm hxg) (hI.ext e))
    have HXG:=Zh hxg;have oB:Old b wr:=⟨h3⟩;have ztj:w5.heap.size<=wr.heap.size:=hxr.size;clear hxg hI h1 h2 h3 hxl;go_wp2_with (first
     |(go_at_call 40;refine(HNX.out _ Zi).mono ?_;rintro e w6 ⟨D,d,rfl,hD,hs6⟩;have HD:=Zh hD;clear hD;have zyN:wr.heap.size<=w6.heap.size:=hs6.ext.size)
     |(at_builtin;refine Zp _ rfl _ _ 71 rfl w5.heap.size 73 (.agg #[.slice none 0 0,.slice none 0 0,.bool false]) 3 56 Tryz.underlying71 zqL rfl aa aa S j sc cvs rfl (HOW.out.ext Zi) (some ⟨w6.heap.size,0,none⟩) 1 1 [.slice B n c2,.slice D n d,.bool false] rfl (Arr.new w6 73 #[.slice B n c2,.slice D n d,.bool false]) rfl (by simp[Value.oneCell']) aa (by simp<;>omega) ?_;intro S7 sc7 w7 ztq hg7;have HO7:=Zh ztq;have HG7:=Zh hg7;clear ztq hg7))
    have hx7:Ext w5 w7:=HG7.out.ext (hxr.trans Zi) Zr;refine⟨⟨j+1,S7,sc7,_,aa,by go_num,rfl,HO7,Zh ?_,hx7⟩,by simp[intOf]<;>omega⟩;refine ColsR.snoc (HCR.out.map fun hz=>((hz.ext (Zi:Ext wr w6)).ext (Zi:Ext w6 (w6.alloc (.cells #[.slice B n c2,.slice D n d,.bool false] 73)))).grow HG7.out ac) HXG.out HOW.out.len ((HD.out.ext (Zi:Ext w6 (w6.alloc (.cells #[.slice B n c2,.slice D n d,.bool false] 73)))).grow HG7.out ac)
   ·obtain rfl:k=j:=aa
    obtain⟨wl,rfl⟩:∃wl:World,wl=wr:=⟨_,rfl⟩;have zsl:Hid (ColsR wl a n cols cvs):=Zh (by have h:=HCR.out;rwa [List.take_of_length_le (by rw[HC.out.2.1];exact Zr)]at h);unfold Jd at HNL;clear hj hlt HNC HCR;go_upto_region 13 with (go_at_call 41;refine(HNL.out _ Zi).mono ?_;rintro e w6 ⟨g,pc,dc,nc,DA,NA,els,rfl,hp6⟩;have hs6:=hp6.2.2.2.2.2.2;have HP6:=Zh hp6;clear hp6)
    have hx6:Ext w w6:=((Zi:Ext w w5).trans hxr).trans Zi;have zxK:Ext wl w6:=Zi;obtain⟨N,hN⟩:=Yz els.length;obtain⟨P,hP⟩:=Yz (els.map VE.l);rw[hN];have HPP:Hid (PtsOf a q P/\P.length=N/\N<=8192):=Zh (by
     have e1:=zeI (L:=L) (P:=P) (by rw[<-hP];exact HP6.out.1);have e2:P.length=N:=by rw[<-hP,length_map];exact hN
     exact⟨zby HVL.out (by rw[<-hP];exact HP6.out.1) (by rw[<-hP];exact HP6.out.2.1),e2,by have:=HL4.out;omega⟩)
    have HNN:=Zh hN;have HPD:=Zh hP;clear hN hP;go_wp2_with fail
    go_step3
    go_wp2_with fail
    go_loopg [18,19,20,21,22,59] N (fun gi s18 _ _ _ _ s59 wr=>∃(i l:Nat) (R:Option Addr) (rc:Nat),i<=N/\gi=N-i/\s59= .int .i64 i/\s18= .slice R l rc/\Hid (((els.take i).filter (fun e=>qD a b cols n e.l)).length=l)/\Hid (Own wr (w6.heap.size+1) 34 1 R l rc (((els.take i).filter (fun e=>qD a b cols n e.l)).map VE.enc))/\Hid (wr.heap[w6.heap.size]? =some (.cells #[.slice (some ⟨g,0,none⟩) N pc,.slice DA N dc,.slice NA N nc,.slice none 0 0] 77 (0,0)))/\Ext w6 wr)
    case atStart=>exact⟨0,0,none,0,aa,aa,rfl,rfl,Zh rfl,Zh (Own.nil _ _ _ _),Zh (heap_alloc_new w6 _),Zi⟩
    case round=>
     obtain⟨i,l,R,rc,hi,rfl,rfl,rfl,HRL,HRO,HBX,zte⟩:=hrel;obtain⟨wi,rfl⟩:∃wi:World,wi=wr:=⟨_,rfl⟩;have hN8:=HPP.out.2.2;by_cases hlt:i<N
     ·obtain⟨ve,hve⟩:∃ve,els[i]? =some ve:=⟨_,Ze (by rw[HNN.out];exact hlt)⟩;have hvm:=Zm hve;have hok:=(HP6.out.2.2.2.1 ve hvm).ext zte;have hPm:ve.l∈P:=by rw[<-HPD.out];exact List.mem_map_of_mem hvm
      have hvl:ve.l.length=n:=by rw[HPP.out.1.zc _ hPm];exact HA.out.2.1
      obtain⟨p1,-,p3⟩:=HP6.out.2.2.1.cell hve;have oGw:Old g w6:=⟨p3⟩;have q1:wi.cell? ⟨g,i,none⟩=some (.slice ve.A n ve.c):=by rw[<-hvl];exact(zk w6).trans p1
      obtain⟨bn,on_,yv,rfl,hy1,hy2,hy3⟩:=(HP6.out.2.2.2.2.2.1.ext zte).at_ (i:=i) (by rw[length_map,length_map,HNN.out];exact hlt);have hyv:yv=zh a ve.l:=by
       rw[getElem?_map,getElem?_map,hve]at hy1;injection hy1 with hy1
       exact hy1.symm
      subst hyv;have hb3:=HB.out.1.ext (hx.trans (hx6.trans zte));have hbr:∀j,j<=k->j<b.length:=fun j hj=>by rw[HB.out.2.1];omega
      have hst:=HBX.out;have s0:wi.cell? ⟨w6.heap.size,2,none⟩=some (.slice (some ⟨bn,on_,none⟩) N nc):=by simp[World.cell?,hst]
      have oS:Old w6.heap.size wi:=⟨zi hst⟩;have oN:Old bn wi:=⟨hy3⟩;have oG:Old g wi:=⟨Nat.lt_of_lt_of_le p3 zte.size⟩;have hbl:∀j,j<=k->(b.getD j []).length=n:=fun j hj=>by
       have h1:b.getD j []∈b:=by
        rw[getD_eq_getElem?_getD,Ze (hbr j hj)];exact getElem_mem _
       rw[zV HB.out.2.2.2.small _ h1,HB.out.2.1]
      obtain⟨bb,ob,br,orr,cr,rfl,e1,e2,e3,e4⟩:=hb3.ent_ (i:=k) (hbr k Zr) (hbl k Zr) hkn;have HTK:Hid (els.take (i+1)=els.take i++[ve]):=Zh (by rw[List.take_add_one,hve];rfl);have HYI:Hid (Ints wi ve.A 2 .i64 ve.l/\ve.l.length=n):=Zh ⟨hok.1,hvl⟩;have HB3:=Zh hb3;have HBR:=Zh hbr;have HBL:=Zh hbl;have oBB:Old bb wi:=⟨e4.2.1⟩;have oBR:Old br wi:=⟨e4.2.2⟩;by_cases hE:zh a ve.l=ent b k k
      ·have hEb:(zh a ve.l !=ent b k k)=false:=by simpa using hE
       have HEE:=Zh hE;clear hve hvm hok hPm hvl p1 hy1 hb3 hbr hbl hst hE;go_wp2_with fail
       go_quiet (fail)
       go_upto_region 18 with fail
       go_loopw [21,22,79] (fun _ _ s79 wr=>∃j:Nat,j<=k/\s79= .int .i64 j/\Hid (∀j',j'<j->z6 (zC a (cols.getD j' [])) ve.l=ent b j' k)/\Ext wi wr) (fun _ _ s79 _=>k-(intOf s79).toNat)
       case atStart=>exact⟨0,aa,rfl,Zh (fun j' h=>aa),Zi⟩
       case round=>
        obtain⟨j,hj,rfl,zrS,hxj⟩:=hrel;obtain⟨wj,rfl⟩:∃wj:World,wj=wr:=⟨_,rfl⟩;by_cases hjl:j<k
        ·obtain⟨x,hxg⟩:∃x,cols[j]? =some x:=⟨_,Ze (by rw[HC.out.2.1];exact hjl)⟩;have hgd:cols.getD j []=x:=by simp[List.getD,hxg]
         obtain⟨X,dx,D,d,c1,c2,c3,hDI⟩:=zsl.out j x hxg;have zuy:=HOW.out.arr;have zwk:Ext wl wj:=zxK.trans (zte.trans hxj);obtain⟨cb,co,hS1,k1,k0⟩:=zuy.at_ c1;obtain⟨cb',co',hS2,k2,-⟩:=zuy.at_ c2;rw[hS1]at hS2;injection hS2 with hS2
         injection hS2 with x1 x2
         subst x1 x2;obtain⟨cb',co',hS2,k3,-⟩:=zuy.at_ c3;rw[hS1]at hS2;injection hS2 with hS2
         injection hS2 with x1 x2
         subst x1 x2;rw[<-Nat.add_assoc]at k2 k3;have oCl:Old cb wl:=⟨k0⟩;have m1:wj.cell? ⟨cb,co+j*3,none⟩=some (.slice X n dx):=(zk wl).trans k1;have m2:wj.cell? ⟨cb,co+j*3+1,none⟩=some (.slice D n d):=(zk wl).trans k2;have m3:wj.cell? ⟨cb,co+j*3+2,none⟩=some (.bool false):=(zk wl).trans k3;have oCj:Old cb wj:=⟨Nat.lt_of_lt_of_le k0 zwk.size⟩;obtain⟨b2,o2,b3,o3,c4,hA2,f1,f2,f3,f4,f5,f6⟩:=(HB3.out.ext hxj).ent_ (i:=j) (HBR.out j hj) (HBL.out j hj) hkn
         injection hA2 with hA2
         injection hA2 with x1 x2
         subst x1 x2;have oB2:Old bb wj:=⟨f5⟩;have oB3:Old b3 wj:=⟨f6⟩;have HMT:=Zh (fun W(e:Ext wj W)=>zqK (w0:=wj) (w:=W) (A:=A) (X:=X) (c:=ca) (dx:=dx) (dd:=d) (dy:=ve.c) (v:=ent b j k) (hDI.ext zwk) (by simp[zC,HA.out.2.1]) (HYI.out.1.ext hxj) HYI.out.2 hn8);subst hS1;have HFF:=Zh (And.intro f1 f2);have HXG:=Zh (And.intro hxg hgd);clear k1 k2 k3 c1 c2 c3 zuy hxg hgd hDI;have hjn:j<n:=aa
         have hjnI:(j:Int)<(n:Int):=aa
         by_cases hz:z6 (zC a x) ve.l=ent b j k
         ·have hzb:(z6 (zC a x) ve.l==ent b j k)=true:=by simpa using hz
          rw[hzb]at HMT;have HZ:=Zh hz;clear hz hzb;go_upto_region 20 with fail
          go_region_held3 (fun w'=>w'.cell? ⟨wj.heap.size,0,none⟩=some (.slice X n dx)/\w'.cell? ⟨wj.heap.size,1,none⟩=some (.slice D n d)/\w'.cell? ⟨wj.heap.size,2,none⟩=some (.bool false)/\w'.cell? ⟨bb,ob+j,none⟩=some (.slice (some ⟨b3,o3,none⟩) n c4)/\w'.cell? ⟨b3,o3+k,none⟩=some (.int .i64 (ent b j k)))
           (exact zjg wj 73 HFF.out.1 HFF.out.2)
           ((go_at_call 42;refine(HMT.out _ Zi).mono ?_;rintro e w8 ⟨rfl,hs8⟩))
          go_wp2_with fail
          refine⟨⟨j+1,aa,by go_num,Zh (fun j' h=>?_),hxj.trans Zi⟩,by simp[intOf]<;>omega⟩;rcases Zl j' j with hlj|hlj
          ·exact zrS.out j' hlj
          ·obtain rfl:j'=j:=aa
           rw[HXG.out.2];exact HZ.out
         ·have hzb:(z6 (zC a x) ve.l==ent b j k)=false:=by simpa using hz
          rw[hzb]at HMT;have HGD:Hid (qD a b cols n ve.l=false):=Zh (by
           unfold qD;rw[HC.out.2.1,Bool.and_eq_false_iff];refine .inr ?_;rw[List.all_eq_false];exact⟨j,List.mem_range.2 hjl,by rw[HXG.out.2,hzb];simp⟩)
          clear hz hzb;go_upto_region 20 with fail
          go_region_held3 (fun w'=>w'.cell? ⟨wj.heap.size,0,none⟩=some (.slice X n dx)/\w'.cell? ⟨wj.heap.size,1,none⟩=some (.slice D n d)/\w'.cell? ⟨wj.heap.size,2,none⟩=some (.bool false)/\w'.cell? ⟨bb,ob+j,none⟩=some (.slice (some ⟨b3,o3,none⟩) n c4)/\w'.cell? ⟨b3,o3+k,none⟩=some (.int .i64 (ent b j k)))
           (exact zjg wj 73 HFF.out.1 HFF.out.2)
           ((go_at_call 42;refine(HMT.out _ Zi).mono ?_;rintro e w8 ⟨rfl,hs8⟩))
          go_wp2_with fail
          go_roundg (N-(i+1))
          case measure=>omega
          case rel=>exact⟨i+1,l,R,rc,aa,aa,by go_num,rfl,Zh (by rw[HTK.out,filter_append];simp[HGD.out,HRL.out]),Zh (by rw[HTK.out,filter_append];simp[HGD.out];exact HRO.out.ext (hxj.trans Zi)),Zh (zg (hxj.trans Zi) HBX.out),zte.trans (hxj.trans Zi)⟩
        ·obtain rfl:k=j:=aa
         have HGD:Hid (qD a b cols n ve.l=true):=Zh (by
          unfold qD;rw[HC.out.2.1];simp only[Bool.and_eq_true,List.all_eq_true,List.mem_range];exact⟨by simpa using HEE.out,fun j' h=>by simpa using zrS.out j' h⟩)
         have zyO:w6.heap.size+1<=wj.heap.size:=by have:=zi (zg hxj HBX.out);omega
         have hll:l<=N:=by rw[<-HRL.out];exact Nat.le_trans (List.length_filter_le _ _) (by rw[length_take];omega)
         go_wp2_with (at_builtin;refine Zp _ rfl _ _ 25 rfl (w6.heap.size+1) 34 (.slice none 0 0) 1 24 Tryz.underlying25 qe rfl aa aa R l rc _ rfl (HRO.out.ext (hxj.trans Zi)) (some ⟨wj.heap.size,0,none⟩) 1 1 [.slice ve.A n ve.c] rfl (Arr.new wj 34 #[.slice ve.A n ve.c]) rfl (by simp[Value.oneCell']) aa (by simp<;>omega) ?_;intro R7 rc7 w7 ztq hg7;have HO7:=Zh ztq;have HG7:=Zh hg7;clear ztq hg7)
         go_roundg (N-(i+1))
         case measure=>omega
         case rel=>
          have zxL:=HG7.out.heap (zg (hxj.trans Zi) HBX.out) ac;refine⟨i+1,l+1,R7,rc7,aa,aa,by go_num,rfl,Zh (by rw[HTK.out,filter_append];simp[HGD.out,HRL.out]),Zh ?_,Zh zxL,HG7.out.ext (zte.trans (hxj.trans Zi)) aa⟩;have h:=HO7.out;rw[HTK.out,filter_append];simp only[HGD.out,List.filter_cons,List.filter_nil,if_true,List.map_append,List.map_cons,List.map_nil]
          rw[show ve.enc= .slice ve.A n ve.c by unfold VE.enc;rw[HYI.out.2]];exact h
      ·have hEb:(zh a ve.l !=ent b k k)=true:=by simpa using hE
       have HGD:Hid (qD a b cols n ve.l=false):=Zh (by unfold qD;rw[HC.out.2.1];simp[hE]);clear hve hvm hok hPm hvl p1 hy1 hb3 hbr hbl hst hE;go_wp2_with fail
       go_quiet (fail)
       go_wp2_with fail
       go_roundg (N-(i+1))
       case measure=>omega
       case rel=>exact⟨i+1,l,R,rc,aa,aa,by go_num,rfl,Zh (by rw[HTK.out,filter_append];simp[HGD.out,HRL.out]),Zh (by rw[HTK.out,filter_append];simp[HGD.out];exact HRO.out.ext Zi),Zh (zg (Zi:Ext wi _) HBX.out),zte.trans Zi⟩
     ·obtain rfl:N=i:=aa
      have HFI:Hid (((els.filter (fun e=>qD a b cols n e.l)).map VE.l)=P.filter (qD a b cols n)):=Zh (by rw[<-HPD.out,List.filter_map];rfl);have HMR:Hid (l=(P.filter (qD a b cols n)).length/\Mat64 wi R (P.filter (qD a b cols n))):=Zh (by
       have h1:=HRL.out;have h2:=HRO.out;rw[List.take_of_length_le (by rw[HNN.out];exact Zr)]at h1 h2;refine⟨by rw[<-HFI.out,length_map];exact h1.symm,?_⟩;rw[<-HFI.out];exact zqM h2.arr (fun x hx=>(HP6.out.2.2.2.1 x (mem_filter.1 hx).1).ext zte))
      go_wp2_with fail
      rw[Exit.noGoto_ret];go_ret2
      obtain⟨rfl,hm⟩:=HMR.out;exact⟨(hx6.trans zte).toStep,.inr ⟨HBU.out,P,R,rc,HPP.out.1,rfl,hm⟩⟩
 ·have HK:=Zh hk;clear hk h5;go_wp2_with fail
  rw[Exit.noGoto_ret];go_ret2
  exact⟨Step.of _ _,.inl ⟨k5,rfl,HK.out⟩⟩
theorem zcW{q:Int}{Q:List (List Int)}(h:PtsOf m q P)(h':PtsOf m q Q):P=Q:=
 List.Perm.eq_of_pairwise (fun a b _ _ h1 h2=>by have:=Qc a b;omega) h.sorted h'.sorted ((List.perm_ext_iff_of_nodup (zcG h.sorted) (zcG h'.sorted)).2 fun x=>(h.mem x).trans (h'.mem x).symm)
def o2:List (List Int):=[[1,0],[0,1]]
def t2:List (List Int):=[[2,1],[1,2]]
def d3:List (List Int):=[[1,0],[0,3]]
theorem zbE:zM o2=true:=by decide+kernel
theorem zji:zM t2=true:=by decide+kernel
theorem zqN:zM d3=true:=by decide+kernel
theorem zqO:VecList o2 1 false [[0,1],[1,0]]:=zd2 (Zk zbE) ac (by decide+kernel) (by decide+kernel)
theorem zqP:VecList t2 3 false [[0,1],[1,-1],[1,0]]:=zd2 (Zk zji) ac (by decide+kernel) (by decide+kernel)
theorem zjj:PtsOf o2 1 [[-1,0],[0,-1],[0,1],[1,0]]:=zby zqO (by decide+kernel) (by decide+kernel)
theorem zqQ:PtsOf t2 3 [[-1,0],[-1,1],[0,-1],[0,1],[1,-1],[1,0]]:=zby zqP (by decide+kernel) (by decide+kernel)
theorem zjk:Zt (Zy o2 o2) [[-1,0],[0,-1],[0,1],[1,0]] 2 []=some [[-1,0],[0,-1]]:=by decide+kernel
theorem zqR:Zt (Zy t2 d3) [[-1,0],[-1,1],[0,-1],[0,1],[1,-1],[1,0]] 2 []=none:=by decide+kernel
theorem zqS:[[-1,0],[0,-1],[0,1],[1,0]].filter (qD o2 o2 [[0,1]] 2)=[[-1,0],[1,0]]:=by decide+kernel
theorem JG:Zu o2 2=((1:Nat):Int)/\zP o2 ((1:Nat):Int)<=100/\(zB o2 ((1:Nat):Int) false).length=2:=by decide+kernel
theorem zbF:Zu d3 2=((3:Nat):Int)/\Za t2=Za d3/\zP t2 ((3:Nat):Int)<=100/\(zB t2 ((3:Nat):Int) false).length=3:=by decide+kernel
theorem zqT(hM:Mat64 w0 A o2)[hx:Ext w0 w]:Cq 10 #[.slice A 2 2,.slice A 2 2,.int .i64 100] w fun e w'=>∃T,e= .returned (.tuple #[.slice T 2 2,.bool true,.int .i64 0])/\Mat64 w' T [[-1,0],[0,-1]]/\Step w w':=
 (zcV (w0:=w0) (w:=w) (n:=2) (q:=1) hM.a hM.a rfl rfl ac ac ac ac zbE zbE rfl ac ac (by rw[JG.2.2];decide) JG.1 ac).mono fun e w' h=>by
  obtain⟨hs,h1|⟨-,P,hP,h2⟩⟩:=h
  ·obtain⟨k,-,hk|hk⟩:=h1
   ·have h:=hk.2.2;rw[JG.2.2]at h;omega
   ·have:=JG.2.1;have h:=hk.2;omega
  ·obtain rfl:=zcW hP zjj;rcases h2 with ⟨t,T,hE,he,hT⟩|⟨he,hE|⟨-,hE⟩⟩
   ·rw[zjk]at hE;injection hE with hE
    subst hE;exact⟨T,he,hT,hs⟩
   ·rw[zjk]at hE;cases hE
   ·exact absurd rfl hE
theorem zqU{B:Option Addr}(hM:Mat64 w0 A t2)(hB:Mat64 w0 B d3)[hx:Ext w0 w]:Cq 10 #[.slice A 2 2,.slice B 2 2,.int .i64 100] w (zA w (.tuple #[.slice none 0 0,.bool false,.int .i64 0])):=
 (zcV (w0:=w0) (w:=w) (n:=2) (q:=3) hM.a hB.a rfl rfl ac ac ac ac zji zqN zbF.2.1 ac ac (by rw[zbF.2.2.2];decide) zbF.1 ac).mono fun e w' h=>by
  obtain⟨hs,h1|⟨-,P,hP,h2⟩⟩:=h
  ·obtain⟨k,-,hk|hk⟩:=h1
   ·have h:=hk.2.2;rw[zbF.2.2.2]at h;omega
   ·have:=zbF.2.2.1;have h:=hk.2;omega
  ·obtain rfl:=zcW hP zqQ;rcases h2 with ⟨t,T,hE,he,hT⟩|⟨he,-⟩
   ·rw[zqR]at hE;cases hE
   ·exact⟨he,hs⟩
theorem zqV(hM:Mat64 w0 A o2)(hC:Mat64 w0 C [[0,1]])[hx:Ext w0 w]:Cq 13 #[.slice A 2 2,.slice A 2 2,.int .i64 100,.slice C 1 1] w fun e w'=>∃T c,e= .returned (.tuple #[.slice T 2 c,.int .i64 0])/\Mat64 w' T [[-1,0],[1,0]]/\Step w w':=
 (zjh (w0:=w0) (w:=w) (n:=2) (q:=1) (k:=1) (cols:=[[0,1]]) hM.a hM.a rfl rfl ac ac ac ac zbE zbE rfl ac ac hC rfl ac (by decide+kernel) (by decide+kernel) (by rw[JG.2.2];decide) JG.1 ac).mono fun e w' h=>by
  obtain⟨hs,h1|⟨-,P,S,sc,hP,he,hm⟩⟩:=h
  ·obtain⟨k,-,hk|hk⟩:=h1
   ·have h:=hk.2.2;rw[JG.2.2]at h;omega
   ·have:=JG.2.1;have h:=hk.2;omega
  ·obtain rfl:=zcW hP zjj;rw[zqS]at he hm;exact⟨S,sc,he,hm,hs⟩
theorem zeV(w:World)(s:Nat)(hs:w.heap.size=s)(a b c d:Int):Mat64 (((w.alloc (.cells #[.int .i64 a,.int .i64 b] 2)).alloc (.cells #[.int .i64 c,.int .i64 d] 2)).alloc (.cells #[.slice (some ⟨s,0,none⟩) 2 2,.slice (some ⟨s+1,0,none⟩) 2 2] 34)) (some ⟨s+1+1,0,none⟩) [[a,b],[c,d]]:=by
 subst hs;exact zdK w a b c d
theorem zqW(w:World)(a b:Int):Mat64 ((w.alloc (.cells #[.int .i64 a,.int .i64 b] 2)).alloc (.cells #[.slice (some ⟨w.heap.size,0,none⟩) 2 2] 34)) (some ⟨w.heap.size+1,0,none⟩) [[a,b]]:=by
 have h1:Ints (w.alloc (.cells #[.int .i64 a,.int .i64 b] 2)) (some ⟨w.heap.size,0,none⟩) 2 .i64 [a,b]:=Arr.new w 2 #[.int .i64 a,.int .i64 b];have h3:=Arr.new (w.alloc (.cells #[.int .i64 a,.int .i64 b] 2)) 34 #[.slice (some ⟨w.heap.size,0,none⟩) 2 2];rw[World.size_alloc]at h3;refine⟨_,rfl,h3,fun i r hr=>?_⟩;match i with
 |0=>obtain rfl:[a,b]=r:=by simpa using hr
     exact⟨_,2,rfl,h1.ext Zi,af,aa⟩
 |i+1=>simp at hr
set_option maxRecDepth 100000 in
theorem zqX :Cq 11 #[] w (zA w (.bool true)):=by
 have HF:Hid (∀W0 W A,Mat64 W0 A o2->Ext W0 W->Cq 10 #[.slice A 2 2,.slice A 2 2,.int .i64 100] W fun e w'=>∃T,e= .returned (.tuple #[.slice T 2 2,.bool true,.int .i64 0])/\Mat64 w' T [[-1,0],[0,-1]]/\Step W w'):=Zh (fun W0 W A h hx=>zqT h);have HG:Hid (∀W0 W A B,Mat64 W0 A t2->Mat64 W0 B d3->Ext W0 W->Cq 10 #[.slice A 2 2,.slice B 2 2,.int .i64 100] W (zA W (.tuple #[.slice none 0 0,.bool false,.int .i64 0]))):=Zh (fun W0 W A B h h' hx=>zqU h h')
 have HC:Hid (∀W0 W A C,Mat64 W0 A o2->Mat64 W0 C [[0,1]]->Ext W0 W->Cq 13 #[.slice A 2 2,.slice A 2 2,.int .i64 100,.slice C 1 1] W fun e w'=>∃T c,e= .returned (.tuple #[.slice T 2 c,.int .i64 0])/\Mat64 w' T [[-1,0],[1,0]]/\Step W w'):=Zh (fun W0 W A C h h' hx=>zqV h h');have HS1:Hid (∀W B c C d,Mat64 W B [[-1,0],[0,-1]]->Mat64 W C [[-1,0],[0,-1]]->Cq 32 #[.slice B 2 c,.slice C 2 d] W (zb6 W (.bool true))):=Zh (fun W B c C d h1 h2=>zgw (w0:=W) (w:=W) (c:=c) (d:=d) h1 h2 ac ac ac ac)
 have HS2:Hid (∀W B c C d,Mat64 W B [[-1,0],[1,0]]->Mat64 W C [[-1,0],[1,0]]->Cq 32 #[.slice B 2 c,.slice C 2 d] W (zb6 W (.bool true))):=Zh (fun W B c C d h1 h2=>zgw (w0:=W) (w:=W) (c:=c) (d:=d) h1 h2 ac ac ac ac);have HM:=Zh (zdK w 1 0 0 1);have k1:True:=trivial;have k0:True:=trivial;go_enter Tryz.func11,Tryz.ntmps11;go_wp2_with (first
  |(go_at_call 10;have _t:=k0;clear _t k0;refine(HF.out _ _ _ HM.out Zi).mono ?_;rintro e w1 ⟨T1,rfl,hT1,hs1⟩)
  |(go_at_call 10;refine(HG.out _ _ _ _ ((zdK w1 2 1 1 2).ext Zi) (zeV (((w1.alloc (.cells #[.int .i64 2,.int .i64 1] 2)).alloc (.cells #[.int .i64 1,.int .i64 2] 2)).alloc (.cells #[.slice (some ⟨w1.heap.size,0,none⟩) 2 2,.slice (some ⟨w1.heap.size+1,0,none⟩) 2 2] 34)) (w1.heap.size+1+1+1) af 1 0 0 3) Zi).mono ?_;rintro e w2 ⟨rfl,hs2⟩)
  |(go_at_call 13;refine(HC.out _ _ _ _ (HM.out.ext Zi) (zqW w2 0 1) Zi).mono ?_;rintro e w3 ⟨T3,c3,rfl,hT3,hs3⟩)
  |(go_at_call 32;have _t:=k1;clear _t k1;refine(HS1.out _ _ _ _ _ (hT1.ext Zi) (zeV w3 w3.heap.size rfl (-1) 0 0 (-1))).mono ?_;rintro e w4 ⟨rfl,n4,rfl⟩)
  |(go_at_call 32;refine(HS2.out _ _ _ _ _ (hT3.ext Zi) (zeV (((w3.alloc (.cells #[.int .i64 (-1),.int .i64 0] 2)).alloc (.cells #[.int .i64 0,.int .i64 (-1)] 2)).alloc (.cells #[.slice (some ⟨w3.heap.size,0,none⟩) 2 2,.slice (some ⟨w3.heap.size+1,0,none⟩) 2 2] 34) |>.drewN n4) (w3.heap.size+1+1+1) af (-1) 0 1 0)).mono ?_;rintro e w5 ⟨rfl,n5,rfl⟩))
 go_ret;exact⟨rfl,Step.of _ _⟩
theorem zqY(h:Mat64 w0 A m)(hr:m.length=r)(hn:AllLen m n)(hr8:r<=1000000)(hn8:n<=1000000)[hx:Ext w0 w]:
  Cq 12 #[.slice A r c,.int .i64 n] w (zA w (.bool ((r:Int)==(n:Int)))):=by
 have HM:=Zh (h.ext hx);have HR:=Zh hr;have HN:=Zh hn;clear h hr hn;have hne:((n:Int) !=(n:Int))=false:=af
 go_enter Tryz.func12,Tryz.ntmps12;go_wp2_with fail
 go_loopw [6,9] (fun _ s9 wr=>∃i:Nat,i<=r/\s9= .int .i64 i/\wr=w) (fun _ s9 _=>r-(intOf s9).toNat)
 case atStart=>exact⟨0,aa,rfl,rfl⟩
 case round=>
  obtain⟨i,hi,rfl,rfl⟩:=hrel;by_cases hlt:i<r
  ·obtain⟨x,hx1⟩:∃x,m[i]? =some x:=⟨_,Ze (by rw[HR.out];exact hlt)⟩;obtain⟨b,o,B,c2,rfl,hc1,hI,h1,h2,h3⟩:=HM.out.at_ hx1;have hxl:x.length=n:=HN.out x (Zm hx1);rw[hxl]at hc1;clear hx1 hI h1 h2 hxl;go_wp2_with fail
   exact⟨⟨i+1,aa,by go_num,trivial⟩,by simp[intOf]<;>omega⟩
  ·obtain rfl:r=i:=aa
   go_wp2_with fail
   go_ret;exact⟨rfl,Step.of _ _⟩
theorem zjl(h:Mat64 w0 A m)(hr:m.length=r)(hn:AllLen m n)(hr8:r<=1000000)(hn8:n<=1000000)(hj:j<n)[hx:Ext w0 w]:
  Cq 15 #[.slice A r c,.int .i64 j] w fun e w'=>∃S d,e= .returned (.slice S r d)/\Ints w' S 2 .i64 (m.map fun x=>x.getD j 0)/\r<=d/\d<=9223372036854775807/\Step w w':=by
 have HM:=Zh (h.ext hx);have HR:=Zh hr;have HN:=Zh hn;clear h hr hn;go_enter Tryz.func15,Tryz.ntmps15;go_wp2_with fail
 go_loopw [5,6,9] (fun s5 _ s9 wr=>∃(i:Nat) (S:Option Addr) (d:Nat),i<=r/\s9= .int .i64 i/\s5= .slice S i d/\Hid (Own wr w.heap.size 2 1 S i d ((m.take i).map fun x=>Value.int .i64 (x.getD j 0)))/\Ext w wr) (fun _ _ s9 _=>r-(intOf s9).toNat)
 case atStart=>exact⟨0,none,0,aa,rfl,rfl,Zh (by simpa using Own.nil _ _ _ _),Zi⟩
 case round=>
  obtain⟨i,S,d,hi,rfl,rfl,HOW,hxr⟩:=hrel;by_cases hlt:i<r
  ·obtain⟨x,hx1⟩:∃x,m[i]? =some x:=⟨_,Ze (by rw[HR.out];exact hlt)⟩;obtain⟨b,o,B,c2,rfl,hc1,hI,h1,h2,h3⟩:=(HM.out.ext hxr).at_ hx1;have hxl:x.length=n:=HN.out x (Zm hx1);obtain⟨b2,o2,v,rfl,hv,hc2,hb2⟩:=hI.at_ (i:=j) aa;have hvv:v=x.getD j 0:=by simp[List.getD,hv]
   have HTK:Hid ((m.take (i+1)).map (fun x=>Value.int .i64 (x.getD j 0))=(m.take i).map (fun x=>Value.int .i64 (x.getD j 0))++[.int .i64 v]):=Zh (by
    rw[List.take_add_one,hx1,hvv];simp)
   rw[hxl]at hc1;have hsz:=hxr.size;clear hx1 hI h1 h2 hxl hv hvv;go_wp2_with (at_builtin;refine Zp _ rfl _ _ 34 rfl w.heap.size 2 (.int .i64 0) 1 8 Tryz.underlying34 qb rfl aa aa S i d _ rfl (HOW.out.ext Zi) (some ⟨wr.heap.size,0,none⟩) 1 1 [.int .i64 v] rfl (Arr.new wr 2 #[.int .i64 v]) rfl (by simp[Value.oneCell']) aa (by simp<;>omega) ?_;intro S7 d7 w7 ztq hg7;have HO7:=Zh ztq;have HG7:=Zh hg7;clear ztq hg7)
   exact⟨⟨i+1,S7,d7,aa,by go_num,rfl,Zh (by rw[HTK.out];exact HO7.out),HG7.out.ext (hxr.trans Zi) Zr⟩,by simp[intOf]<;>omega⟩
  ·obtain rfl:r=i:=aa
   have HDI:Hid (Ints wr S 2 .i64 (m.map fun x=>x.getD j 0)):=Zh (by
    have h:=HOW.out.arr;rw[List.take_of_length_le (by rw[HR.out];exact Zr)]at h;unfold Ints;rw[List.map_map];exact h)
   have HCP:=Zh HOW.out.cap;go_wp2_with fail
   go_ret;exact⟨S,d,rfl,HDI.out,HCP.out.1,HCP.out.2,hxr.toStep⟩
theorem zrg(h:Mat64 w0 A m)(hr:m.length=r)(hn:AllLen m n)(hr8:r<=1000000)(hn8:n<=1000000)(hj:j<n)[hx:Ext w0 w]:
  Cq 15 #[.slice A r c,.int .i64 j] w fun e w'=>∃S d,e= .returned (.slice S r d)/\Ints w' S 2 .i64 (m.map fun x=>x.getD j 0)/\Step w w':=
 (zjl h hr hn hr8 hn8 hj).mono fun e w'⟨S,d,h1,h2,_,_,h3⟩=>⟨S,d,h1,h2,h3⟩
def RowP(w:World)(g:Nat)(p:List Nat):Prop:=∃cur,w.heap[g]? =some (.cells cur 3 (0,0))/\∀(i:Nat)(x:Nat),p[i]? =some x->cur[i]? =some (.int .i64 (x:Int))
theorem RowP.of_own{ze:Nat}{p:List Nat}(h:Own w ze 3 1 A n c (p.map fun x:Nat=>Value.int .i64 (x:Int)))(hn:0<n):∃g,A=some ⟨g,0,none⟩/\ze<=g/\RowP w g p:=by
 obtain⟨hl,h2⟩:=h;rcases h2 with ⟨_,h0⟩|⟨g,cap,cur,hv,hb,hh,h3,h4,h5,h6⟩
 ·omega
 ·injection hv with hA
  refine⟨g,hA,hb,cur,hh,fun i x hx=>?_⟩;have a:(p.map fun x:Nat=>Value.int .i64 (x:Int))[i]? =some (.int .i64 (x:Int)):=by rw[getElem?_map,hx];rfl
  rw[<-h6,getElem?_take]at a;split at a
  ·simpa using a
  ·cases a
theorem RowP.set{p:List Nat}(h:RowP w g p)(x:Nat):RowP (w.setCell ⟨g,i,none⟩ (.int .i64 (x:Int))) g (p.set i x):=by
 obtain⟨cur,h1,h2⟩:=h;refine⟨_,zX h1 _,fun j y hy=>?_⟩;by_cases e:j=i
 ·subst e;have hl:=(Zg.1 hy).1;rw[List.length_set]at hl;rw[List.getElem?_set_self hl]at hy;injection hy with hy
  subst hy;have h3:=h2 j p[j] af;have hc:=(Array.getElem?_eq_some_iff.1 h3).1;rw[Array.getElem?_setIfInBounds_self_of_lt hc]
 ·rw[List.getElem?_set_ne aa]at hy;rw[Array.getElem?_setIfInBounds_ne aa];exact h2 j y hy
theorem RowP.cell{x:Nat}{p:List Nat}(h:RowP w g p)(hx:p[i]? =some x):w.cell? ⟨g,i,none⟩=some (.int .i64 (x:Int))/\w.frozen? ⟨g,i,none⟩=false/\g<w.heap.size:=by
 obtain⟨cur,h1,h2⟩:=h;have h3:=h2 i x hx;exact⟨by simp[World.cell?,h1,h3],by simp[World.frozen?,h1],zi h1⟩
set_option maxRecDepth 1000000 in
theorem zqZ:∀{k:Nat},1<=k->k<=4->∀{q:Nat},1<=q->q<=3->zP (ZA k q) q<=4000/\1<=(zB (ZA k q) q false).length/\(zB (ZA k q) q false).length<=4096:=by
 intro k h1 h2 c h3 h4;have hc:c=1∨c=2∨c=3:=aa
 have hk:k=1∨k=2∨k=3∨k=4:=aa
 rcases hc with rfl|rfl|rfl<;>rcases hk with rfl|rfl|rfl|rfl<;>decide+kernel
def sgL(n:Nat)(es:Nat->Int)(p:List Nat):List (List Int):=p.mapIdx fun j y=>jc n y (es j)
section
variable {n q:Nat} {P t:List (List Int)} {p:List Nat} {es:Nat->Int}
theorem zjm(h0:1<=n)(h1:n<=4)(h3:1<=q)(h4:q<=3)(hP:PtsOf (ZA n q) q P)(hp:p.Perm (List.range n))(he:∀j,es j=1∨es j=-1):∀x∈sgL n es p,x∈P:=fun x hx=>by
 unfold sgL at hx;obtain⟨i,hi,rfl⟩:=List.getElem_of_mem hx;rw[List.getElem_mapIdx];exact zqc h0 h1 aa aa hP (by simpa using hp.mem_iff.1 (getElem_mem _)) (he i)
theorem zjn(hp:p.Perm (List.range n))(he:∀j,es j=1∨es j=-1):IsoC (ZA n q) (ZA n q) (sgL n es p):=zqb (by simpa using hp.length_eq) hp he
theorem zrh(h0:1<=n)(h1:n<=4)(h3:1<=q)(h4:q<=3)(hP:PtsOf (ZA n q) q P)(ht:Zt (Zy (ZA n q) (ZA n q)) P n []=some t):
  t.length=n/\(∀x∈t,x.length=n)/\∀(p:List Nat)(es:Nat->Int),p.Perm (List.range n)->(∀j,es j=1∨es j=-1)->∀i,i<n->t.take i=(sgL n es p).take i->t.getD i []=(sgL n es p).getD i []∨zn (t.getD i []) ((sgL n es p).getD i [])<0:=by
 have hR:=Zk (zeL h0 h1 (c:=q) aa aa);have hl:=jV n q;obtain⟨a1,a2,-⟩:=J3 hR hP n [] t ht ParC.nil;refine⟨by simpa using a2,fun x hx=>by rw[((hP.mem x).1 (a1.mem x hx)).1,hl],fun p es hp he i hi hti=>?_⟩;obtain⟨t',e1,e2⟩:=zcL hR hP (zjn hp he) (zjm h0 h1 h3 h4 hP hp he) n [] (by simp[hl]) rfl;rw[ht]at e1;injection e1 with e1
 subst e1;rcases e2 with e2|⟨j,b1,b2,b3⟩
 ·exact .inl (by rw[e2])
 ·have key:∀(u v:List (List Int))(k m:Nat),u.take m=v.take m->k<m->u.getD k []=v.getD k []:=fun u v k m huv hkm=>by
   have:=congrArg (fun l=>l.getD k []) huv;simpa[getD_eq_getElem?_getD,getElem?_take,hkm] using this
  rcases Nat.lt_trichotomy i j with hij|hij|hij
  ·exact .inl (key _ _ _ _ b2 hij)
  ·subst hij;exact .inr b3
  ·rw[key _ _ _ _ hti hij,jk]at b3;omega
end
theorem zri(hM:Mat64 w0 A (ZA n q))(h0:1<=n)(h1:n<=4)(h3:1<=q)(h4:q<=3)(hca:n<=ca)(zsO:ca<=9223372036854775807)[hx:Ext w0 w]:Cq 10 #[.slice A n ca,.slice A n ca,.int .i64 4000] w fun e w'=>∃T t P,e= .returned (.tuple #[.slice T n n,.bool true,.int .i64 0])/\Mat64 w' T (qZ n t)/\PtsOf (ZA n q) q P/\Zt (Zy (ZA n q) (ZA n q)) P n []=some t/\Step w w':=by
 have zsN:=zeL h0 h1 (c:=q) aa aa;have hR:=Zk zsN;obtain⟨n1,n2,n3⟩:=zqZ h0 h1 h3 h4;refine(zcV (w0:=w0) (w:=w) (n:=n) (q:=q) hM.a hM.a (jV n q) (jV n q) hca zsO hca zsO zsN zsN rfl ac ac n2 (zqd h0 aa) aa).mono fun e w' h=>?_
 obtain⟨hs,h1'|⟨-,P,hP,h2⟩⟩:=h
 ·obtain⟨k,-,hk|hk⟩:=h1'
  ·have h:=hk.2.2;omega
  ·have h:=hk.2;omega
 ·rcases h2 with ⟨t,T,hE,he,hT⟩|⟨he,hE|⟨-,hE⟩⟩
  ·exact⟨T,t,P,he,hT,hP,hE,hs⟩
  ·obtain⟨t',e1,-⟩:=zcL hR hP (zjn (n:=n) (q:=q) (p:=List.range n) (es:=fun _=>1) (List.Perm.refl _) (fun _=> .inl rfl)) (zjm h0 h1 h3 h4 hP (List.Perm.refl _) (fun _=> .inl rfl)) n [] (by simp[jV]) rfl;rw[hE]at e1
   cases e1
  ·exact absurd rfl hE
theorem zq0(hl:t.length=n)(hr:∀x∈t,x.length=n)(hi:i<n):(qZ n t).map (fun x=>x.getD i 0)=t.getD i []:=by
 have hti:t[i]? =some t[i]:=Ze aa;have hx:=hr t[i] (getElem_mem _);rw[getD_eq_getElem?_getD,hti,Option.getD_some];refine List.ext_getElem (by simp[qZ,hx]) fun k h1 h2=>?_
 simp only[qZ,List.map_map,List.getElem_map,List.getElem_range,Function.comp];rw[getD_eq_getElem?_getD,getElem?_map,hti,Option.map_some,Option.getD_some,getD_eq_getElem?_getD,Ze h2,Option.getD_some]
theorem zjo(hl:t.length=n):AllLen (qZ n t) n:=fun r hr=>by
 obtain⟨i,-,rfl⟩:=mem_map.1 hr;simp[hl]
theorem IsoI.put{w3:World}{b:Nat}{r:List Int}(h:IsoI w g n hd m)(hk:hd.length<n)(hb:b=w.heap.size)(hh:w3.heap[g]? =(w.setCell ⟨g,hd.length,none⟩ (.slice (some ⟨b,0,none⟩) n n)).heap[g]?)(ho:∀x,x<w.heap.size->x≠g->w3.heap[x]? =w.heap[x]?)(hv:Row w3 b 2 .i64 r)(hrl:r.length=n)(hn:n<=1000):IsoI w3 g n (hd++[.slice (some ⟨b,0,none⟩) n n]) (m++[r]):=by
 have hl:=h.len;refine⟨?_,by simp[hl],fun i x hx=>?_⟩
 ·have h7:=h.head.set hd.length (.slice (some ⟨b,0,none⟩) n n);obtain⟨t,ht⟩:∃t,n-hd.length=t+1:=⟨n-hd.length-1,aa⟩;rw[ht,List.replicate_succ,List.set_append_right _ _ Zr,Nat.sub_self,List.set_cons_zero]at h7;unfold VRow at h7|-
  rw[hh,h7];simp[(aa:n-(hd.length+1)=t)]
 ·rcases Zl i hd.length with hi|hi
  ·rw[getElem?_append_left aa]at hx;obtain⟨B,c,a1,a2,a3⟩:=h.row i x hx;exact⟨B,c,by rw[getElem?_append_left hi];exact a1,a2.keep fun b cs fr hb=>ho b (zi hb) (fun e=>Je hb h.head ac e),a3⟩
  ·rw[getElem?_append_right aa]at hx;have hi2:=(Zg.1 hx).1;simp only[List.length_singleton]at hi2;have hr2:x=r:=by have:=Zm hx;simpa using this
   subst hr2;exact⟨some ⟨b,0,none⟩,n,by rw[(aa:i=hd.length),getElem?_append_right Zr,Nat.sub_self,hrl];rfl,hv.ints,aa,aa⟩
theorem IsoI.mat(h:IsoI w g n hd m)(hn:hd.length=n):Mat64 w (some ⟨g,0,none⟩) m:=by
 have hh:=h.head;rw[hn,Nat.sub_self,List.replicate_zero,List.append_nil]at hh;exact⟨hd,h.len,hh.arr,fun i r hr=>h.row i r hr⟩
theorem zrj{c:Int}(hi:i<n):(ZA n c).take (i+1)=(ZA n c).take i++[(List.replicate n 0).set i c]:=by
 rw[List.take_add_one];simp[ZA,hi]
end
section
open La
section
variable {n:Nat} {f g k:Nat->Nat->Int}
theorem La.Bs.back(h:Bs n f g):Bs n g f:=by
 induction h with
 |refl=>exact .refl
 |@red g i j q _ h1 h2 ih=>
  have e:qN i j (-q) (qN i j q g)=g:=by
   funext x y
   unfold qN;by_cases hx:x=i<;>by_cases hy:y=i<;>simp only[hx,hy,if_true,if_false,(aa:¬j=i)]<;>grind
  have:=Bs.red i j (-q) (.refl (n:=n) (f:=qN i j q g)) h1 h2;rw[e]at this;exact this.trans ih
 |@sw g p _ h1 ih=>
  have e:ja p (ja p g)=g:=by funext x y;unfold ja;rw[zaH,zaH]
  have:=Bs.sw p (.refl (n:=n) (f:=ja p g)) h1;rw[e]at this;exact this.trans ih
 |@ng g i _ h1 ih=>
  have e:jt i (jt i g)=g:=by
   funext x y
   unfold jt Z9;by_cases hx:x=i<;>by_cases hy:y=i<;>simp only[hx,hy,if_true,if_false]<;>grind
  have:=Bs.ng i (.refl (n:=n) (f:=jt i g)) h1;rw[e]at this;exact this.trans ih
end
theorem zjp(h:LLLed m):(Za m:Rat)=dd (zf (ent m)) m.length:=by
 have hl:=h.len1;have e:Za m=E (ent m) (m.length-1) (m.length-1) (m.length-1):=by
  unfold Za;rw[zbc Zr];obtain⟨t,ht⟩:∃t,m.length=t+1:=⟨m.length-1,aa⟩;rw[ht];rfl
 obtain⟨t,ht⟩:∃t,m.length=t+1:=⟨m.length-1,aa⟩;have hp:=h.pos.piv;rw[e,ht];rw[ht]at hp;rw[Nat.add_sub_cancel,(ZX (ent m) t (hp.le aa)).1];rfl
def Qi(n:Nat)(u:(Nat->Int)->Nat->Int)(j:Nat):List Int:=(List.range n).map (u fun k=>if k=j then 1 else 0)
theorem zjq(u:(Nat->Int)->Nat->Int)(hi:i<n):(Qi n u j).getD i 0=u (fun k=>if k=j then 1 else 0) i:=by
 unfold Qi;simp[getD_eq_getElem?_getD,hi]
theorem zq1(f:Nat->Nat->Int)(hi:i<n)(hj:j<n):bz n f (fun k=>if k=i then 1 else 0) (fun k=>if k=j then 1 else 0)=f i j:=by
 unfold bz;rw[QJ hi (fun k _ hne=>by dsimp only;rw[if_neg hne,Int.zero_mul])];dsimp only;rw[if_pos rfl,Int.one_mul,QJ hj (fun k _ hne=>by rw[if_neg hne,Int.mul_zero])];rw[if_pos rfl,Int.mul_one]
theorem zq2(hn:m.length=n)(u:(Nat->Int)->Nat->Int)(i j:Nat):zE m (Qi n u i) (Qi n u j)=bz n (ent m) (u fun k=>if k=i then 1 else 0) (u fun k=>if k=j then 1 else 0):=by
 unfold zE bz;rw[hn];refine zT fun r hr=>?_
 rw[zjq u hr];congr 1
 exact zT fun c hc=>by rw[zjq u hc]
theorem zjr{a h1 h2:List (List Int)}(b1:Bs n (ent a) (ent h1))(b2:Bs n (ent a) (ent h2))(l1:LLLed h1)(l2:LLLed h2)(e1:h1.length=n)(e2:h2.length=n):
  Za h1=Za h2/\∃s,IsoC h1 h2 s/\∀q:Nat,Zu h2 n=q->∀x∈s,x.length=h1.length/\zD x≠0/\zh h1 x<=q:=by
 have hb:=b1.back.trans b2;have zsw:Sym (zf (ent h1)):=l1.symO;have hp:=l1.pos;rw[e1]at hp;obtain⟨-,-,hdd⟩:=hb.ok zsw hp;have d1:=zjp l1;have d2:=zjp l2;rw[e1]at d1;rw[e2]at d2;obtain⟨u,v,hj⟩:=hb.bij;have hr1:=Zk l1.red;have hr2:=Zk l2.red;have zsX:∀i,i<n->((List.range n).map (Qi n u)).getD i []=Qi n u i:=fun i hi=>by simp[getD_eq_getElem?_getD,hi]
 have hip:∀i j,i<n->j<n->zE h1 (Qi n u i) (Qi n u j)=ent h2 i j:=fun i j hi hj'=>by
  rw[zq2 e1,<-hj.bil,zq1 _ hi hj']
 refine⟨?_,(List.range n).map (Qi n u),⟨by simp[e1],aa,fun x hx=>?_,fun i j hi hj'=>?_⟩,fun q hq x hx=>?_⟩
 ·have:(Za h1:Rat)=(Za h2:Rat):=by rw[d1,d2,hdd]
  exact_mod_cast this
 ·obtain⟨i,-,rfl⟩:=mem_map.1 hx;simp[Qi,e1]
 ·rw[e1]at hi hj';rw[zsX i hi,zsX j hj',hip i j hi hj']
 ·obtain⟨i,hi,rfl⟩:=mem_map.1 hx;have hi:i<n:=by simpa using hi
  have hnn:zh h1 (Qi n u i)=ent h2 i i:=by rw[<-Qf (zV hr1.small) _ (by simp[Qi,e1]),hip i i hi hi]
  refine⟨by simp[Qi,e1],fun hz=>?_,?_⟩
  ·have h0:=Jy hz;have hn0:zh h2 (ZJ h2.length i)=0:=by
    rw[ziV hr2 aa,<-hip i i hi hi];unfold zE;have:∀r,(Qi n u i).getD r 0=0:=fun r=>by
     rw[getD_eq_getElem?_getD]
     cases h:(Qi n u i)[r]? with
     |none=>rfl
     |some y=>exact h0 y (Zm h)
    simp only[this,Int.zero_mul];generalize h1.length=N;induction N with
    |zero=>rfl
    |succ N ih=>rw[Zx,ih];rfl
   have zsC:=zem hr2 (zaK h2.length i) (by have:=ziW (n:=h2.length) (k:=i) aa;omega);omega
  ·rw[hnn,<-hq];exact zeE n i hi
end
section
open Go.RowKit La
theorem zjs(hr:RedOK m)(hi:i<m.length)(hj:j<m.length):-262144<ent m i j/\ent m i j<262144:=((of_decide_eq_true hr.small).2.2.2 i hi j hj).2
theorem zjt(hr:RedOK m):Zu m m.length<262144:=by
 have:=ziQ (m:=m) (B:=262143) aa m.length (fun j hj=>by have:=zjs hr hj hj;omega);omega
theorem zju(hr:RedOK m)(h1:x.length=m.length)(h2:zD x≠0)(h3:zh m x<=q):1<=(zB m q false).length:=by
 have hq:=Int.natCast_nonneg q;have hne:¬∀y∈x,y=0:=fun hz=>h2 (by
  clear h1 h2 h3;induction x with
  |nil=>rfl
  |cons a x ih=>
   have ha:=hz a af;have:=ih fun y hy=>hz y (by simp[hy])
   simp only[zD];grind)
 rcases zce hne with h5|h5
 ·exact List.length_pos_of_mem ((Q5 hr hq false x).2 ⟨h1,h5,h3,af⟩)
 ·exact List.length_pos_of_mem ((Q5 hr hq false _).2 ⟨by simpa using h1,h5,by rw[jl];exact h3,af⟩)
theorem zeW(h:zM m=true)(hq:(q:Int)<1073741824):2*((zB m q false).length:Int)+1<=zP m q:=by
 have hl:=Z2 (Zk h).small;have hst:=(zcg h (b:=q) hq).1;have h1:=hst.last_le aa;have h2:=hst.zd;omega
theorem zq3(hr:RedOK m)(hP:PtsOf m q P):P.length=2*(zB m q false).length:=by
 have hq:=Int.natCast_nonneg q;have hv:=(zcz hr hq).1;have hp:=(List.perm_ext_iff_of_nodup (zcG hP.sorted) (zcS hv)).2 fun x=>(hP.mem x).trans (zeH hv x).symm
 rw[hp.length_eq,zcQ,jQ hr hq hv]
def zeX(w:World)(a b:List (List Int))(n q:Nat)(e:Ending)(w':World):Prop:=
 Step w w'/\(e= .returned (.tuple #[.slice none 0 0,.bool false,.int .i64 9])∨
  zP a q<=4000/\∃P t T,PtsOf a q P/\Zt (Zy a b) P n []=some t/\e= .returned (.tuple #[.slice T n n,.bool true,.int .i64 0])/\Mat64 w' T (qZ n t))
theorem zq4{Bb:Option Addr}{g a:List (List Int)}(ha:Mat64 w0 A a)(hb:Mat64 w0 Bb b)(hca:n<=ca)(zsO:ca<=9223372036854775807)(hbc:n<=bc)(zsT:bc<=9223372036854775807)(b1:Bs n (ent g) (ent a))(b2:Bs n (ent g) (ent b))(l1:LLLed a)(l2:LLLed b)(e1:a.length=n)(e2:b.length=n)(hq:Zu b n=q)[hx:Ext w0 w]:
  Cq 10 #[.slice A n ca,.slice Bb n bc,.int .i64 4000] w (zeX w a b n q):=by
 have hRa:=Zk l1.red;have hRb:=Zk l2.red;have hl:=Z2 hRa.small;obtain⟨hd,s,hs,hsm⟩:=zjr b1 b2 l1 l2 e1 e2;have hsm:=hsm q hq;have hq1:(q:Int)<1073741824:=by have:=zjt hRb;rw[e2,hq]at this;omega
 obtain⟨x,hxs⟩:∃x,x∈s:=⟨s[0]'(by rw[hs.len];omega),getElem_mem _⟩;obtain⟨x1,x2,x3⟩:=hsm x hxs;refine(zcV (w0:=w0) (w:=w) (n:=n) (q:=q) ha.a hb.a e1 e2 hca zsO hbc zsT l1.red l2.red hd aa aa (zju hRa x1 x2 x3) hq hq1).mono fun e w' h=>?_
 obtain⟨hst,h1|⟨ht,P,hP,h2⟩⟩:=h
 ·obtain⟨k,he,hk|hk⟩:=h1
  ·have:=zeW l1.red hq1;have h3:=hk.2.1;have h4:=hk.2.2;omega
  ·rw[hk.1]at he;exact⟨hst,.inl he⟩
 ·refine⟨hst,.inr ⟨ht,P,?_⟩⟩;obtain⟨t',et,-⟩:=zcL hRa hP hs (fun x hx=>(hP.mem x).2 (hsm x hx)) n [] (by simp[e1]) rfl;rcases h2 with ⟨t,T,hE,he,hT⟩|⟨he,hE|⟨-,hE⟩⟩
  ·exact⟨t,T,hP,hE,he,hT⟩
  ·rw[hE]at et;cases et
  ·exact absurd (zpy b1 b2 l1 l2 e1 e2 (Int.natCast_nonneg q)).symm hE
section
variable {a b P t:List (List Int)} {n q:Nat}
theorem zeY(hra:RedOK a)(hrb:RedOK b)(e1:a.length=n)(e2:b.length=n)(hP:PtsOf a q P)(ht:Zt (Zy a b) P n []=some t)(hj:j<n):t.length=n/\(∀x∈t,x∈P)/\t.getD j []∈P.filter (qD a b (t.take j) n):=by
 obtain⟨h1,h2,-⟩:=J3 hra hP n [] t ht ParC.nil;have htl:t.length=n:=by simpa using h2
 have hi:=h1.iso hra hrb hP aa aa;have hm:∀i,i<n->t.getD i []∈P:=fun i hi=>h1.mem _ (by rw[getD_eq_getElem?_getD,Ze aa];exact getElem_mem _)
 refine⟨htl,h1.mem,mem_filter.2 ⟨hm j hj,?_⟩⟩;have hjl:(t.take j).length=j:=by rw[length_take];omega
 unfold qD;rw[hjl,Bool.and_eq_true,List.all_eq_true];refine⟨?_,fun i hi'=>?_⟩
 ·rw[<-Qf (zV hra.small) _ ((hP.mem _).1 (hm j hj)).1,hi.ip j j aa aa];simp
 ·have hij:i<j:=by simpa using hi'
  have hti:(t.take j).getD i []=t.getD i []:=by
   rw[getD_eq_getElem?_getD,getElem?_take,if_pos hij,<-getD_eq_getElem?_getD]
  have he:=zjs hrb (i:=i) (j:=j) aa aa;have hw:z6 (zC a (t.getD i [])) (t.getD j [])=ent b i j:=by
   rw[zbu];unfold z6;rw[<-hP.ip hra _ (hm i aa) _ (hm j hj),hi.ip i j aa aa];exact Iw
  rw[hti,hw];simp
end
def zjv(w:World)(n:Nat)(x:List Int)(e:Ending)(w':World):Prop:=
 ∃S sc L,e= .returned (.tuple #[.slice S (List.length L) sc,.int .i64 0])/\Mat64 w' S L/\x∈L/\(∀y∈L,y.length=n)/\L.length<=8000/\Step w w'
theorem zq5{Bb:Option Addr}{g a:List (List Int)}(ha:Mat64 w0 A a)(hb:Mat64 w0 Bb b)(hca:n<=ca)(zsO:ca<=9223372036854775807)(hbc:n<=bc)(zsT:bc<=9223372036854775807)(b1:Bs n (ent g) (ent a))(b2:Bs n (ent g) (ent b))(l1:LLLed a)(l2:LLLed b)(e1:a.length=n)(e2:b.length=n)(hq:Zu b n=q)(zsP:zP a q<=4000)(hP:PtsOf a q P)(ht:Zt (Zy a b) P n []=some t)(hj:j<n)(hC:Mat64 w0 C (t.take j))[hx:Ext w0 w]:
  Cq 13 #[.slice A n ca,.slice Bb n bc,.int .i64 4000,.slice C j cc] w (zjv w n (t.getD j [])):=by
 have hRa:=Zk l1.red;have hRb:=Zk l2.red;obtain⟨hd,-⟩:=zjr b1 b2 l1 l2 e1 e2;have hq1:(q:Int)<1073741824:=by have:=zjt hRb;rw[e2,hq]at this;omega
 obtain⟨htl,zs2,-⟩:=zeY hRa hRb e1 e2 hP ht hj;have hpt:∀x∈t.take j,x.length=n/\zD x≠0/\zh a x<=q:=fun x hx=>by
  have:=(hP.mem x).1 (zs2 x (List.mem_of_mem_take hx));rwa [e1]at this
 have hP0:=(hP.mem _).1 (zs2 (t[0]'aa) (getElem_mem _));refine(zjh (w0:=w0) (w:=w) (n:=n) (q:=q) (k:=j) (cols:=t.take j) ha.a hb.a e1 e2 hca zsO hbc zsT l1.red l2.red hd aa aa hC (by rw[length_take];omega) hj (fun x hx=>?_) (fun x hx=>?_) (zju hRa hP0.1 hP0.2.1 hP0.2.2) hq hq1).mono fun e w' h=>?_
 ·obtain⟨x1,-,x3⟩:=hpt x hx;exact⟨by simp[Qr,x1,zd0 (zdZ hRa (Int.natCast_nonneg q) hq1 x aa x3)],x1⟩
 ·obtain⟨x1,-,x3⟩:=hpt x hx;have:=Jw hRa x aa;simp only[Qt,decide_eq_true_eq];omega
 ·obtain⟨hs,h1|⟨-,P',S,sc,hP',he,hm⟩⟩:=h
  ·obtain⟨k,-,hk|hk⟩:=h1
   ·have:=zeW l1.red hq1;have h3:=hk.2.2;omega
   ·have h3:=hk.2;omega
  ·exact⟨S,sc,_,he,hm,(zeY hRa hRb e1 e2 hP' (by rw[zcW hP' hP];exact ht) hj).2.2,fun y hy=>by rw[((hP'.mem y).1 (mem_filter.1 hy).1).1,e1],by have h1:=List.length_filter_le (qD a b (t.take j) n) P';have h2:=zq3 hRa hP';have h3:=zeW l1.red hq1;omega,hs⟩
end
end Go.Proofs.YtgoaelchibpffaaGreat
