import Derived.Test.YtgoaelchibpffaaGreatT20
set_option maxHeartbeats 8000000
set_option linter.unusedVariables false
set_option linter.unusedSimpArgs false
namespace Go.Proofs.YtgoaelchibpffaaGreat
variable {c dim kind q:Int} {U h1 h2 m:List (List Int)} {bl l:List Int} {T b bc g i j k lo most n nc r:Nat} {A BA NA:Option Addr} {tb te:TypeId} {w:World}
section
open Go.RowKit
open La
def TapeA(w:World)(T:Nat)(te:TypeId)(A:Option Addr)(c:Nat)(l:List Int)(k:Nat):Prop:=w.heap[T]? =some (.cells #[.slice A l.length c,.int .i64 (min k l.length:Nat)] 113 (0,0))/\Ints w A te .i8 l/\(0<l.length->∀a,A=some a->a.block<T)
section
variable {w w':World} {T:Nat} {te:TypeId} {A:Option Addr} {c:Nat} {l:List Int} {k:Nat}
theorem TapeA.ext(h:TapeA w T te A c l k)(hx:Ext w w'):TapeA w' T te A c l k:=⟨zg hx h.1,h.2.1.ext hx,h.2.2⟩
theorem TapeA.lt(h:TapeA w T te A c l k):T<w.heap.size:=zi h.1
theorem TapeA.keep(h:TapeA w T te A c l k)(hA:0<l.length->∀a,A=some a->a.block<lo)(hk:∀b,(b=T∨b<lo)->w'.heap[b]? =w.heap[b]?):TapeA w' T te A c l k:=by
 refine⟨(hk T (.inl rfl)).trans h.1,fun h0=>?_,h.2.2⟩;obtain⟨b,o,cs,fr,rfl,hb,hc⟩:=h.2.1 h0;exact⟨b,o,cs,fr,rfl,(hk b (.inr (hA (by simpa using h0) _ rfl))).trans hb,hc⟩
end
def zcD(w:World)(T:Nat)(te:TypeId)(A:Option Addr)(c:Nat)(l:List Int)(k:Nat)(v:Value)(e:Ending)(w':World):Prop:=e= .returned v/\TapeA w' T te A c l k/\Only T w w'
theorem zh9{c:Nat}(h:TapeA w T te A c l k)(h8:I8 l)(hl:l.length<=9223372036854775807):
  Cq 148 #[.pointer (some ⟨T,0,none⟩)] w (zcD w T te A c l (k+1) (.int .i64 (l.getD k 0))):=by
 have hT:=h.lt;obtain⟨h1,h2,h3⟩:=id h;obtain⟨q1,q2,q3,q4,q5⟩:=zN h1;by_cases hk:k<l.length
 ·rw[(aa:min k l.length=k)]at q2 h1;obtain⟨b,o,x,rfl,hx,hc,hb⟩:=h2.at_ hk;have hbT:=h3 aa _ rfl;simp only at hbT;have hxe:l.getD k 0=x:=by simp[hx]
  have hx8:=h8 x (Zm hx);have HG:=Zh h;have H1:=Zh h1;have H2:=Zh h2;have hge:decide ((l.length:Int)<=(k:Int))=false:=by simp;omega
  have hap:Apart b T:=⟨aa⟩;rw[hxe];clear h h1 h2 h3 hx hxe;go_enter Tryz.func148,Tryz.ntmps148;go_wp2_with fail
  go_quiet (fail)
  go_wp2_with fail
  go_quiet (fail)
  go_wp2_with fail
  go_ret;rename_i nq1 _
  have hxa:Ext w (w.drewN nq1):=Zi;have hT2:T<(w.drewN nq1).heap.size:=hT;have hb2:((w.drewN nq1).setCell ⟨T,1,none⟩ (.int .i64 ((k:Int)+1))).heap[T]? =some (.cells #[.slice (some ⟨b,o,none⟩) l.length c,.int .i64 ((k:Int)+1)] 113 (0,0)):=zaj (zg hxa H1.out);refine⟨rfl,⟨?_,?_,fun _ a ha=>?_⟩,?_⟩
  ·rw[(aa:((min (k+1) l.length:Nat):Int)=(k:Int)+1)];exact hb2
  ·have hA1:Ints ((w.drewN nq1).setCell ⟨T,1,none⟩ (.int .i64 ((k:Int)+1))) (some ⟨b,o,none⟩) te .i8 l:=fun h0=>by
    obtain⟨b',o',cs,fr,e1,hb',hc'⟩:=(H2.out.ext hxa) h0;have e2:b=b':=by injection e1 with e1;injection e1
    exact⟨b',o',cs,fr,e1,(Below.heap_setCell _ ⟨T,1,none⟩ _ b' (by simp;omega)).trans hb',hc'⟩
   exact hA1.ext Zi
  ·injection ha with ha
   subst ha;exact hbT
  ·exact((Only.of_ext hxa (Nat.le_of_lt hT)).trans (Only.set hT2 1 (.int .i64 ((k:Int)+1)))).trans (Only.of_ext Zi (by rw[ZE];exact Nat.le_of_lt hT2))
 ·rw[(aa:min k l.length=l.length)]at q2 h1;have hxe:l.getD k 0=0:=by rw[List.getD_eq_getElem?_getD,List.getElem?_eq_none aa];rfl
  have hge:decide ((l.length:Int)<=(l.length:Int))=true:=af
  have HH:Hid (∀W,Ext w W->TapeA W T te A c l (k+1)):=Zh (fun W hh=>by
   obtain⟨a1,a2,a3⟩:=h.ext hh;exact⟨by rw[(aa:min (k+1) l.length=min k l.length)];exact a1,a2,a3⟩)
  rw[hxe];clear h h1 h2 h3 hxe hk;go_enter Tryz.func148,Tryz.ntmps148;go_wp2_with fail
  go_quiet (fail)
  go_wp2_with fail
  go_ret;exact⟨rfl,HH.out _ Zi,Only.of_ext Zi (Nat.le_of_lt hT)⟩
theorem zpg{c:Nat}{m:Nat}(h:TapeA w T te A c l k)(h8:I8 l)(hl:l.length<=9223372036854775807)(hm:1<=m)(hm2:m<=1000):
  Cq 78 #[.pointer (some ⟨T,0,none⟩),.int .i64 m] w (zcD w T te A c l (k+1) (.int .i64 (l.getD k 0%256%m))):=by
 have HN:=Zh (zh9 h h8 hl);have hx8:=h8.get k;clear h;generalize l.getD k 0=x at*
 have hu:IntKind.u8.wrap x=x%256:=by simp only[IntKind.wrap_u8]
 have hu2:IntKind.i64.wrap (x%256)=x%256:=Iw;have hx0:0<=x%256:=aa
 have hx1:x%256<256:=aa
 have hmz:((m:Int)==0)=false:=by simp;omega
 have hrm:(x%256).tmod m=x%256%m:=Int.tmod_eq_emod_of_nonneg hx0;go_enter Tryz.func78,Tryz.ntmps78;go_wp2_with (go_at_call 148;refine HN.out.mono ?_;rintro e w1 ⟨rfl,hT1,hO1⟩)
 go_ret;exact⟨af,hT1,hO1⟩
theorem P64.onlyT{w':World}{zc:Nat}{hs:List Nat}{a:List (List Int)}(h:P64 w lo g n zc hs a)(ho:Only T w w')(hT:g<T)(hh:∀b∈hs,b<T):P64 w' lo g n zc hs a:=
 ⟨(ho.below.block g hT).trans h.head,h.glo,h.le,h.len,h.dist,h.new,h.all,fun i b r hp hr=>(ho.below.block b (hh b (Zm hp))).trans (h.row i b r hp hr)⟩
def ZI(i j:Nat)(c:Int)(U:List (List Int))(n r:Nat):List (List Int):=tab (fun p x=>if p<r then jS i j c (ent U) p x else ent U p x) n n
def zep(w:World)(n:Nat)(e:Ending)(w':World):Prop:=∃g hs U,e= .returned (.slice (some ⟨g,0,none⟩) n n)/\P64 w' w.heap.size g n n hs U/\U.length=n/\UOK n (ent U)/\(∀p x,-531441<=ent U p x/\ent U p x<=531441)/\Ext w w'
def zia(w:World)(n lo g T:Nat)(hs:List Nat)(te:TypeId)(A:Option Addr)(c:Nat)(l:List Int)(s8:Value)(wr:World):Prop:=
 ∃(k p:Nat) (U:List (List Int)),k<=12/\s8= .int .i64 k/\Hid (P64 wr lo g n n hs U)/\U.length=n/\Hid (UOK n (ent U))/\Hid (∀p x,-((3^k:Nat):Int)<=ent U p x/\ent U p x<=((3^k:Nat):Int))/\Hid (TapeA wr T te A c l p)/\Ext w wr
def zib(w:World)(n lo g T:Nat)(hs:List Nat)(te:TypeId)(A:Option Addr)(c:Nat)(l:List Int)(p i j:Nat)(d:Int)(U:List (List Int))(s62:Value)(wr:World):Prop:=
 ∃r:Nat,r<=n/\s62= .int .i64 r/\Hid (P64 wr lo g n n hs (ZI i j d U n r))/\Hid (TapeA wr T te A c l p)/\Ext w wr
theorem zic(i j:Nat)(c:Int)(U:List (List Int))(n r:Nat):(ZI i j c U n r).length=n:=zr _ _ _
theorem zid{x:Nat}(hr:r<n)(hx:x<n):ent (ZI i j c U n r) r x=ent U r x:=by
 unfold ZI;rw[qg _ _ _ _ _ hr hx,if_neg aa]
theorem zph(hl:U.length=n)(ha:AllLen U n):ZI i j c U n 0=U:=by
 have h:=Jl U n ha;rw[hl]at h;conv=>rhs;rw[<-h]
 exact ZC fun p x _ _=>by rw[if_neg aa];rfl
theorem zpi(hr:r<n)(hi:i<n)(hc:c<0):zI (ZI i i c U n r) r i (-ent U r i)=ZI i i c U n (r+1):=by
 unfold ZI;rw[Qe hr hi];refine ZC fun p x _ _=>?_
 unfold jS;simp only[if_true,if_pos hc];by_cases h1:p=r
 ·subst h1;by_cases h2:x=i
  ·subst h2;simp
  ·simp[h2]
 ·by_cases h2:p<r
  ·have h3:p<r+1:=aa
   simp[h1,h2,h3]
  ·have h3:¬p<r+1:=aa
   simp[h1,h2,h3]
theorem zpj(hr:r<n)(hi:i<n)(hj:j<n)(hne:i≠j):zI (zI (ZI i j 0 U n r) r i (ent U r j)) r j (ent U r i)=ZI i j 0 U n (r+1):=by
 unfold ZI;rw[Qe hr hi,Qe hr hj];refine ZC fun p x _ _=>?_
 unfold jS La.tr;simp only[if_neg hne,if_true];by_cases h1:p=r
 ·subst h1;by_cases h2:x=i
  ·subst h2;simp[hne]
  ·by_cases h3:x=j
   ·subst h3;simp[h2]
   ·simp[h2,h3]
 ·by_cases h2:p<r
  ·have h3:p<r+1:=aa
   simp[h1,h2,h3]
  ·have h3:¬p<r+1:=aa
   simp[h1,h2,h3]
theorem zpk(hr:r<n)(hi:i<n)(hne:i≠j)(hc:c≠0):zI (ZI i j c U n r) r i (ent U r i+c*ent U r j)=ZI i j c U n (r+1):=by
 unfold ZI;rw[Qe hr hi];refine ZC fun p x _ _=>?_
 unfold jS;simp only[if_neg hne,if_neg hc];by_cases h1:p=r
 ·subst h1;by_cases h2:x=i
  ·subst h2;simp
  ·simp[h2]
 ·by_cases h2:p<r
  ·have h3:p<r+1:=aa
   simp[h1,h2,h3]
  ·have h3:¬p<r+1:=aa
   simp[h1,h2,h3]
theorem zpl(hc:¬c<0):ZI i i c U n r=ZI i i c U n (r+1):=by
 unfold ZI;refine ZC fun p x _ _=>?_
 unfold jS;simp only[if_true,if_neg hc];split<;>split<;>rfl
theorem zpm(h:UOK n (ent U))(hi:i<n)(hj:j<n):UOK n (ent (ZI i j c U n n)):=(h.step c hi hj).congr fun p x hp hx=>by
 unfold ZI;rw[qg _ _ _ _ _ hp hx,if_pos hp]
theorem zpn{B:Int}(hB:0<=B)(hc:-2<=c/\c<=2)(h:∀p x,-B<=ent U p x/\ent U p x<=B)(p x:Nat):-(3*B)<=ent (ZI i j c U n n) p x/\ent (ZI i j c U n n) p x<=3*B:=by
 by_cases hpx:p<n/\x<n
 ·unfold ZI;rw[qg _ _ _ _ _ hpx.1 hpx.2,if_pos hpx.1];exact zpf hc h p x
 ·have:ent (ZI i j c U n n) p x=0:=JC _ _ _ _ _ hpx;rw[this];omega
theorem zpo{q:Nat}{hs:List Nat}(h:P64 w lo g n n (hs++[b]) (zI (tab (fun x y=>if x=y then (1:Int) else 0) q n++[List.replicate n 0]) q q 1)):P64 w lo g n n (hs++[b]) (tab (fun x y=>if x=y then 1 else 0) (q+1) n):=by
 have e:zI (tab (fun x y=>if x=y then (1:Int) else 0) q n++[List.replicate n 0]) q q 1=tab (fun x y=>if x=y then 1 else 0) (q+1) n:=by
  have h1:=zhI (a:=tab (fun x y=>if x=y then (1:Int) else 0) q n) (r:=List.replicate n 0) (j:=q) (z:=1);rw[zr]at h1;rw[h1];unfold tab;rw[List.range_succ,List.map_append];congr 1
  rw[List.map_singleton];congr 1
  apply List.ext_getElem?;intro j;by_cases hj:j<n
  ·by_cases e:q=j
   ·subst e;rw[List.getElem?_set_self (by simpa using hj)];simp[hj]
   ·rw[List.getElem?_set_ne e];simp[hj,e]
  ·rw[List.getElem?_eq_none (by simp;omega),List.getElem?_eq_none (by simp;omega)]
 rwa [e]at h
set_option maxRecDepth 20000 in
theorem zpp{c:Nat}(hI:Ints w A te .i8 l)(h8:I8 l)(hl:l.length<=9223372036854775807)(hn1:1<=n)(hn:n<=1000):
  Cq 81 #[.slice A l.length c,.int .i64 n] w (zep w n):=by
 have hmk:=ZH (P:=Tryz.prog) Tryz.underlying25 qe aa (n:Int) aa aa;have zs0:=qz (P:=Tryz.prog) Tryz.underlying34 qb aa (n:Int) aa aa;have hAlo:0<l.length->∀a,A=some a->a.block<w.heap.size:=fun h0 a ha=>by
  obtain⟨b,o,cs,fr,hA,hb,-⟩:=hI (by simpa using h0);rw[hA]at ha;injection ha with ha
  rw[<-ha];exact zi hb
 have HAL:=Zh hAlo;have HI:=Zh hI;have H8:=Zh h8;clear hI h8 hAlo;go_enter Tryz.func81,Tryz.ntmps81;go_wp2_with fail
 go_loopg [6,17] n (fun gk _ i wr=>∃(q:Nat) (hs:List Nat),q<=n/\gk=n-q/\i= .int .i64 q/\Hid (hs.length=q)/\Hid (P64 wr w.heap.size w.heap.size n n hs (tab (fun x y=>if x=y then 1 else 0) q n))/\Ext w wr)
 case atStart=>exact⟨0,[],aa,aa,rfl,Zh rfl,Zh (by simpa[Value.cells,tab] using P64.start w w.heap.size n n Zr),Zi⟩
 case round=>
  obtain⟨q,hs,hq,rfl,rfl,HL,HP,hxr⟩:=hrel;have ztj:=hxr.size;by_cases hlt:q<n
  ·have hc:=HP.out.cells (by rw[HL.out];exact hlt);rw[HL.out]at hc;obtain⟨c1,c2,c3⟩:=hc;have zs5:=HP.out.old;have hP1:=(HP.out.ext (Zi:Ext wr (wr.alloc (.cells (zO n .i64) 2)))).put (by rw[HL.out];exact hlt) (Row.made wr n .i64 2) af ztj (fun hb=>by have:=zs5 _ hb;omega);rw[HL.out]at hP1;have ztd:=World.setCell_alloc_past (w:=wr) (.cells (zO n .i64) 2) w.heap.size q (.slice (some ⟨wr.heap.size,0,none⟩) n n) c3
   rw[ztd]at hP1;obtain⟨w2,hw2⟩:=Xz ((wr.setCell ⟨w.heap.size,q,none⟩ (.slice (some ⟨wr.heap.size,0,none⟩) n n)).alloc (.cells (zO n .i64) 2));rw[<-hw2]at hP1;have zum:Ext w w2:=by rw[hw2];exact Zi
   have hpl:(hs++[wr.heap.size])[q]? =some wr.heap.size:=by rw[List.getElem?_append_right (by rw[HL.out];exact Zr),HL.out,Nat.sub_self];rfl
   have hal:(tab (fun x y=>if x=y then (1:Int) else 0) q n++[List.replicate n 0]).length=q+1:=by simp[zr]
   obtain⟨b',e1,h1,h2,h3,h4,-⟩:=hP1.hdr (i:=q) (by rw[hal];omega);rw[hpl]at e1;injection e1 with e1
   subst e1;obtain⟨k1,k2⟩:=hP1.entry (i:=q) (j:=q) hpl (by rw[hal];omega) hlt;have hP2:=hP1.set hpl (by rw[hal];omega) hlt 1;generalize ent (tab (fun x y=>if x=y then (1:Int) else 0) q n++[List.replicate n 0]) q q=v0 at k1;have HP2:=Zh hP2;have HPL:=Zh hpl;have zrN:=Zh hal;clear hP1 hP2 hpl hal;go_upto_region 6 with fail
   rw[<-hw2];have hnb:New wr.heap.size w:=⟨ztj⟩;clear hw2 ztd c1 c2;go_wp2_with fail
   go_roundg (n-(q+1))
   case measure=>omega
   case rel=>exact⟨q+1,hs++[wr.heap.size],aa,aa,by go_num,Zh (by simp[HL.out]),Zh (zpo HP2.out),by first|exact Zi|(rw[<-hw2];exact Zi)⟩
  ·obtain rfl:q=n:=aa
   have hl0:(tab (fun x y=>if x=y then (1:Int) else 0) q q).length=q:=zr _ _ _;obtain⟨U0,hU0⟩:∃U0,U0=tab (fun x y=>if x=y then (1:Int) else 0) q q:=⟨_,rfl⟩;have HU0:Hid (UOK q (ent U0)):=Zh ((UOK.one q).congr fun p x hp hx=>by rw[hU0,qg _ _ _ _ _ hp hx]);have HB0:Hid (∀p x,-((3^0:Nat):Int)<=ent U0 p x/\ent U0 p x<=((3^0:Nat):Int)):=Zh (fun p x=>by
    rw[hU0];by_cases hpx:p<q/\x<q
    ·rw[qg _ _ _ _ _ hpx.1 hpx.2];split<;>simp
    ·rw[JC _ _ _ _ _ hpx];simp)
   rw[<-hU0]at HP hl0;clear hU0;have zs5:∀b∈hs,b<wr.heap.size:=HP.out.old;have zrH:=Zh zs5;have HDR:=HP.out.head.lt;have hgT:w.heap.size<wr.heap.size:=HDR;have HT0:Hid (TapeA (wr.alloc (.cells #[.slice A l.length c,.int .i64 0] 113)) wr.heap.size te A c l 0):=Zh ⟨by have:=heap_alloc_new wr (.cells #[.slice A l.length c,.int .i64 0] 113);simpa using this,HI.out.ext Zi,fun h0 a ha=>Nat.lt_trans (HAL.out h0 a ha) hgT⟩
   have HP0:Hid (P64 (wr.alloc (.cells #[.slice A l.length c,.int .i64 0] 113)) w.heap.size w.heap.size q q hs U0):=Zh (HP.out.ext Zi);obtain⟨T,hT⟩:=Xz wr.heap.size;obtain⟨w1,hw1⟩:=Xz (wr.alloc (.cells #[.slice A l.length c,.int .i64 0] 113));have ztp:Ext w w1:=by rw[hw1];exact Zi
   rw[<-hw1]at HT0 HP0;rw[<-hT]at HT0 hgT;rw[<-hT]at zrH;clear zs5 HDR HP;go_wp2_with fail
   simp only[<-hw1,<-hT];clear hT hw1;have hn1:1<=q:=hn1;go_loopw [8] (fun s8 wr=>zia w q w.heap.size w.heap.size T hs te A c l s8 wr) (fun s8 _=>12-(intOf s8).toNat)
   case atStart=>exact⟨0,0,U0,aa,rfl,HP0,hl0,HU0,HB0,HT0,ztp⟩
   case round=>
    unfold zia at hrel;obtain⟨k,p,U,hk,rfl,HP,hUl,HUO,HUB,HTA,hxr⟩:=hrel;obtain⟨q1,q2,q3,q4,q5⟩:=zN HTA.out.1;have oT:Old T wr:=⟨q5⟩;by_cases hgo:k<12/\p<l.length
    ·obtain⟨zyu,hpl⟩:=hgo;have hd1:decide ((k:Int)<12)=true:=by simp;omega
     have hd2:decide ((p:Int)<(l.length:Int))=true:=by simp;omega
     rw[(aa:min p l.length=p)]at q2;clear oT;go_wp2_with fail
     go_quiet (fail)
     have HBL:Hid (∀W k,TapeA W T te A c l k->Cq 78 #[.pointer (some ⟨T,0,none⟩),.int .i64 q] W (zcD W T te A c l (k+1) (.int .i64 (l.getD k 0%256%q)))):=Zh (fun W k h=>zpg h H8.out hl hn1 hn);have HNX:Hid (∀W k,TapeA W T te A c l k->Cq 148 #[.pointer (some ⟨T,0,none⟩)] W (zcD W T te A c l (k+1) (.int .i64 (l.getD k 0)))):=Zh (fun W k h=>zh9 h H8.out hl);go_upto_region 14 with (first
      |(go_at_call 148;refine(HNX.out _ _ hT7).mono ?_;rintro e w8 ⟨rfl,hT8,hO8⟩)
      |(go_at_call 78;refine(HBL.out _ _ hT6).mono ?_;rintro e w7 ⟨rfl,hT7,hO7⟩)
      |(go_at_call 78;refine(HBL.out _ _ (HTA.out.ext Zi)).mono ?_;rintro e w6 ⟨rfl,hT6,hO6⟩))
     have hO:Only T wr w8:=((Only.of_ext (Zi:Ext wr (wr.drewN nq)) (Nat.le_of_lt q5)).trans (hO6.trans hO7)).trans hO8;have HP8:Hid (P64 w8 w.heap.size w.heap.size q q hs U):=Zh (HP.out.onlyT hO hgT zrH.out);have hx8:Ext w w8:=hO.ext hxr (Nat.le_of_lt hgT);have HT8:=Zh hT8;obtain⟨xp,hxp⟩:=Yz (l[p]);obtain⟨xq,hxq⟩:=Yz (l[p+1]?.getD 0);obtain⟨xd,hxd⟩:=Yz (l[p+1+1]?.getD 0)
     rw[hxp,hxq,hxd];obtain⟨i,hi⟩:∃i:Nat,xp%256%(q:Int)=i:=⟨(xp%256%(q:Int)).toNat,by have:=Int.emod_nonneg (xp%256) ((aa:(q:Int)≠0));omega⟩;obtain⟨j,hj⟩:∃j:Nat,xq%256%(q:Int)=j:=⟨(xq%256%(q:Int)).toNat,by have:=Int.emod_nonneg (xq%256) ((aa:(q:Int)≠0));omega⟩;have hiq:i<q:=by have:=Int.emod_lt_of_pos (xp%256) ((aa:(0:Int)<(q:Int)));omega
     have hjq:j<q:=by have:=Int.emod_lt_of_pos (xq%256) ((aa:(0:Int)<(q:Int)));omega
     obtain⟨hd3,hd4⟩:=zek xd;rw[hi,hj];clear hxp hxq hxd;generalize xd.tmod 3=d at*
     have h3k:(3^k:Nat)<=3^11:=Nat.pow_le_pow_right aa aa;rw[show (3:Nat)^11=177147 by decide]at h3k;have HUL:Hid (AllLen U q):=Zh HP8.out.all;have HPU:Hid (P64 w8 w.heap.size w.heap.size q q hs (ZI i j d U q 0)):=Zh (by rw[zph hUl HUL.out];exact HP8.out);clear hT6 hT7 hT8 hO6 hO7 hO8 hO hi hj q1 q2 q3 q4 hd1 hd2 HT0 HP0 HB0 HU0 ztp HI HL hxr HP HTA HBL HNX HP8 hpl hl0;go_wp2_with fail
     go_loopw [12,62] (fun _ s62 wr=>zib w q w.heap.size w.heap.size T hs te A c l (p+1+1+1) i j d U s62 wr) (fun _ s62 _=>q-(intOf s62).toNat)
     case atStart=>exact⟨0,aa,rfl,HPU,HT8,hx8⟩
     case round=>
      unfold zib at hrel;obtain⟨r,hr,rfl,HP,HTA,hxr⟩:=hrel;by_cases hlt:r<q
      ·have hML:(ZI i j d U q r).length=q:=zic _ _ _ _ _ _;obtain⟨br,hpr,c1,c2,c3,c4,c5⟩:=HP.out.hdr (i:=r) (by rw[hML];exact hlt);have zup:=HP.out.gne hpr (by rw[hML];exact hlt);obtain⟨f1,f2⟩:=HP.out.entry (i:=r) (j:=i) hpr (by rw[hML];exact hlt) hiq;obtain⟨f3,f4⟩:=HP.out.entry (i:=r) (j:=j) hpr (by rw[hML];exact hlt) hjq;rw[zid hlt hiq]at f1;rw[zid hlt hjq]at f3;have hbi:=HUB.out r i;have hbj:=HUB.out r j
       have hnb:New br w:=⟨c5⟩;have hbT:=zrH.out br (Zm hpr);by_cases hij:i=j
       ·subst hij;by_cases hdn:d<0
        ·have hS:=HP.out.set hpr (by rw[hML];exact hlt) hiq (-ent U r i);rw[zpi hlt hiq hdn]at hS;have HS:=Zh hS;generalize ent U r i=ei at*
         have hwn:IntKind.i64.wrap (-ei)=-ei:=Iw;have hdd:decide (d<0)=true:=by simpa using hdn
         clear hS hpr;go_wp2_with fail
         go_region
         all_goals
          go_wp2_with fail
          exact⟨⟨r+1,aa,by go_num,Zh (HS.out.ext Zi),Zh (TapeA.ext (TapeA.keep HTA.out HAL.out fun b hb=>Below.heap_setCell wr ⟨br,i,none⟩ (.int .i64 (-ei)) b (by simp;omega)) Zi),Zi⟩,by simp[intOf]<;>omega⟩
        ·have hdd:decide (d<0)=false:=by simpa using hdn
         rw[zpl hdn]at HP;clear hpr f1 f3 hbi hbj;go_wp2_with fail
         exact⟨⟨r+1,aa,by go_num,Zh (HP.out.ext Zi),Zh (HTA.out.ext Zi),Zi⟩,by simp[intOf]<;>omega⟩
       ·have zyv:((i:Int)==(j:Int))=false:=by simp;omega
        have zyw:((i:Int) !=(j:Int))=true:=by simp;omega
        by_cases hd0:d=0
        ·subst hd0;have hS:=(HP.out.set hpr (by rw[hML];exact hlt) hiq (ent U r j)).set hpr (by rw[j6,hML];exact hlt) hjq (ent U r i);rw[zpj hlt hiq hjq hij]at hS;have HS:=Zh hS;generalize ent U r i=ei at*
         generalize ent U r j=ej at*
         clear hS hpr hbi hbj;go_wp2_with fail
         go_region
         all_goals
          go_wp2_with fail
          exact⟨⟨r+1,aa,by go_num,Zh (HS.out.ext Zi),Zh (TapeA.ext (TapeA.keep (TapeA.keep HTA.out HAL.out fun b hb=>Below.heap_setCell wr ⟨br,i,none⟩ (.int .i64 ej) b (by simp;omega)) HAL.out fun b hb=>Below.heap_setCell _ ⟨br,j,none⟩ (.int .i64 ei) b (by simp;omega)) Zi),Zi⟩,by simp[intOf]<;>omega⟩
        ·have hS:=HP.out.set hpr (by rw[hML];exact hlt) hiq (ent U r i+d*ent U r j);rw[zpk hlt hiq hij hd0]at hS;have HS:=Zh hS;generalize ent U r i=ei at*
         generalize ent U r j=ej at*
         have hdz:(d==0)=false:=by simpa using hd0
         have hm:-400000<=d*ej/\d*ej<=400000:=by
          rcases(aa:d=-2∨d=-1∨d=1∨d=2) with rfl|rfl|rfl|rfl<;>omega
         obtain⟨hm1,hm2⟩:=hm;have hwm:IntKind.i64.wrap (d*ej)=d*ej:=Iw;have hws:IntKind.i64.wrap (ei+d*ej)=ei+d*ej:=Iw;clear hS hpr hbi hbj;go_wp2_with fail
         go_region
         all_goals
          go_wp2_with fail
          exact⟨⟨r+1,aa,by go_num,Zh (HS.out.ext Zi),Zh (TapeA.ext (TapeA.keep HTA.out HAL.out fun b hb=>Below.heap_setCell wr ⟨br,i,none⟩ (.int .i64 (ei+d*ej)) b (by simp;omega)) Zi),Zi⟩,by simp[intOf]<;>omega⟩
      ·obtain rfl:r=q:=aa
       go_wp2_with fail
       exact⟨⟨k+1,_,_,aa,by go_num,Zh (HP.out.ext Zi),zic _ _ _ _ _ _,Zh (zpm HUO.out hiq hjq),Zh (fun p x=>by
        have:=zpn (i:=i) (j:=j) (n:=r) (B:=((3^k:Nat):Int)) (Int.natCast_nonneg _) ⟨hd3,hd4⟩ HUB.out p x;rw[Nat.pow_succ];omega),Zh (HTA.out.ext Zi),Zi⟩,by simp[intOf]<;>omega⟩
    ·have hor:decide ((k:Int)<12)=false∨(decide ((k:Int)<12)=true/\¬p<l.length):=by
      by_cases h:k<12
      ·exact .inr ⟨by simp;omega,fun h2=>hgo ⟨h,h2⟩⟩
      ·exact .inl (by simp;omega)
     have zrm:Hid (∀W,Ext wr W->zep w q (.returned (.slice (some ⟨w.heap.size,0,none⟩) q q)) W):=Zh (fun W e=>⟨_,hs,U,rfl,HP.out.ext e,hUl,HUO.out,fun p x=>by
      have:=HUB.out p x;have h3k:(3^k:Nat)<=3^12:=Nat.pow_le_pow_right aa hk;rw[show (3:Nat)^12=531441 by decide]at h3k;omega,hxr.trans e⟩)
     rcases hor with hd1|⟨hd1,hpl⟩
     ·clear oT;go_wp2_with fail
      go_quiet (fail)
      go_wp2_with fail
      go_ret;exact zrm.out _ Zi
     ·rw[(aa:min p l.length=l.length)]at q2;have hd2:decide ((l.length:Int)<(l.length:Int))=false:=af
      clear oT;go_wp2_with fail
      go_quiet (fail)
      go_wp2_with fail
      go_ret;exact zrm.out _ Zi
theorem La.Bs.trans{f g k:Nat->Nat->Int}(h:Bs n f g)(h':Bs n g k):Bs n f k:=by
 induction h' with
 |refl=>exact h
 |red i j q _ h1 h2 ih=>exact ih.red i j q h1 h2
 |sw p _ h1 ih=>exact ih.sw p h1
 |ng i _ h1 ih=>exact ih.ng i h1
theorem zeq{z:Int}(h:-531441<=z/\z<=531441):Bd 20 z:=by
 unfold Bd;have:(2:Nat)^20=1048576:=ac
 omega
theorem zie{a:List (List Int)}(h:qf a)(i j:Nat):Bd 64 (ent a i j):=by
 unfold ent;rcases Zl i a.length with hi|hi
 ·have e:a.getD i []=a[i]:=by simp[List.getD,hi]
  rw[e];rcases Zl j (a[i]).length with hj|hj
  ·have e2:(a[i]).getD j 0=(a[i])[j]:=by simp[List.getD,hj]
   rw[e2];have:=h _ (List.getElem_mem hi) _ (List.getElem_mem hj);exact Bd.of64 this.1 this.2
  ·have e2:(a[i]).getD j 0=0:=by rw[List.getD_eq_getElem?_getD,List.getElem?_eq_none hj];rfl
   rw[e2];exact Bd.zero _
 ·have e:a.getD i []=[]:=by rw[List.getD_eq_getElem?_getD,List.getElem?_eq_none hi];rfl
  rw[e];exact Bd.zero _
theorem zpq{a u:List (List Int)}(h4:n<=16)(ha:qf a)(hu:∀p x,-531441<=ent u p x/\ent u p x<=531441):BdM 199 (Zb n a u):=fun i j=>by
 have h1:=zcv (n:=n) h4 (zeb (n:=n) (a:=u) (fun i j=>zeq (hu i j))) (fun i j=>zie ha i j);have h2:=zcv (n:=n) h4 h1 (fun i j=>zeq (hu i j));exact(h2 i j).mono aa
theorem zpr{a:List (List Int)}(ha:AllLen a n)(hu:∀p x,-531441<=ent a p x/\ent a p x<=531441):qf a:=fun r hr x hx=>by
 obtain⟨i,j,-,-,h⟩:=zdM ha hr hx;have:=hu i j;omega
def zcE(w:World)(n:Nat)(l:List Int)(kk:Int)(e:Ending)(w':World):Prop:=∃a hh A c,e= .returned (.slice A n c)/\GrOf l n kk a/\LLLed hh/\hh.length=n/\Bs n (ent a) (ent hh)/\Mat64 w' A hh/\n<=c/\c<=9223372036854775807/\Step w w'
def zif(w:World)(n:Nat)(l:List Int)(kk:Int)(e:Ending)(w':World):Prop:=∃a b A c,e= .returned (.slice A n c)/\GrOf l n kk a/\Gm n b/\Bs n (ent a) (ent b)/\MatV w' A b/\Step w w'
theorem zps{v3:Value}(hN:Ints w NA te .i8 l)(h8:I8 l)(hl:l.length<=9223372036854775807)(hd0:0<=dim)(hd1:dim<256)(hk0:0<=kind)(hk1:kind<256)(hm1:1<=most)(hm4:most<=4):
  Cq 8 #[.agg #[.int .u8 dim,.int .u8 kind,.slice NA l.length nc,v3],.int .i64 most] w (zcE w (1+(dim%most).toNat) l (kind%8)):=by
 have zuo:=Int.emod_lt_of_pos dim ((aa:(0:Int)<most));have HG:Hid (∀W,Ext w W->Cq 36 #[.agg #[.int .u8 dim,.int .u8 kind,.slice NA l.length nc,v3],.int .i64 most] W (zeo W (1+(dim%most).toNat) l (kind%8))):=Zh (fun W e=>zh8 (hN.ext e) h8 hl hd0 hd1 hk0 hk1 hm1 aa);have hn4:1+(dim%most).toNat<=4:=aa
 clear hN h8;generalize 1+(dim%most).toNat=n at*
 have HOF:Hid (∀(W0 W:World)(A:Option Addr)(c:Nat)(a:List (List Int)),Gm n a->Mat64 W0 A a->qf a->Ext W0 W->Cq 26 #[.slice A n c] W (RetOwnI W n a)):=Zh (fun W0 W A c a g hM hF e=>by
  have h:=zd9 (w:=W) (c:=c) hM.a n (by have:=g.n1;have:=g.len;omega) (by have:=g.len;omega) g.n1 aa g.all hF;rwa [g.len]at h)
 go_enter Tryz.func8,Tryz.ntmps8;go_wp2_with (first
  |(go_at_call 36;refine(HG.out _ Zi).mono ?_;rintro e w1 ⟨g,a,rfl,hM,hGm,hF,hgr,hs1⟩;have hL:=hGm.len;have HM:=Zh hM;have HGm:=Zh hGm;have HF:=Zh hF;have HGR:=Zh hgr;have zxs:=Step.of _ _ (h:=hs1);clear hM hGm hF hs1 hgr)
  |(go_at_call 26;refine(HOF.out _ _ _ _ _ HGm.out HM.out HF.out Zi).mono ?_;rintro e w2 ⟨g2,zxd,c2,rfl,hO2,-,-,hs2⟩;rw[hL];have HMV:=Zh hO2.mat;clear hO2)
  |(go_at_call 35;refine(zhF HMV.out HGm.out hn4).mono ?_;rintro e w3 ⟨hh,A1,c1,A2,c2',rfl,hLL,zss,hRel,hM3,hc1,hc2,hs3⟩))
 go_ret;exact⟨a,hh,A1,c1,rfl,HGR.out,hLL,zss,(hRel.bs HGm.out.len HGm.out.all).1,hM3,hc1,hc2,Step.of _ _⟩
theorem zpt(hN:Ints w NA te .i8 l)(h8:I8 l)(hl:l.length<=9223372036854775807)(hB:Ints w BA tb .i8 bl)(hb8:I8 bl)(hbl:bl.length<=9223372036854775807)(hd0:0<=dim)(hd1:dim<256)(hk0:0<=kind)(hk1:kind<256)(hm1:1<=most)(hm4:most<=8):
  Cq 37 #[.agg #[.int .u8 dim,.int .u8 kind,.slice NA l.length nc,.slice BA bl.length bc],.int .i64 most] w (zif w (1+(dim%most).toNat) l (kind%8)):=by
 have zuo:=Int.emod_lt_of_pos dim ((aa:(0:Int)<most));have HG:Hid (∀W,Ext w W->Cq 36 #[.agg #[.int .u8 dim,.int .u8 kind,.slice NA l.length nc,.slice BA bl.length bc],.int .i64 most] W (zeo W (1+(dim%most).toNat) l (kind%8))):=Zh (fun W e=>zh8 (hN.ext e) h8 hl hd0 hd1 hk0 hk1 hm1 aa);have hn8:1+(dim%most).toNat<=8:=aa
 have hn1:1<=1+(dim%most).toNat:=aa
 clear hN h8;generalize 1+(dim%most).toNat=n at*
 have HU:Hid (∀W,Ext w W->Cq 81 #[.slice BA bl.length bc,.int .i64 n] W (zep W n)):=Zh (fun W e=>zpp (hB.ext e) hb8 hbl hn1 aa);have HOF:Hid (∀(W0 W:World)(A:Option Addr)(c:Nat)(a:List (List Int)),a.length=n->AllLen a n->Mat64 W0 A a->qf a->Ext W0 W->Cq 26 #[.slice A n c] W (RetOwnI W n a)):=Zh (fun W0 W A c a gl ga hM hF e=>by
  have h:=zd9 (w:=W) (c:=c) hM.a n aa aa hn1 aa ga hF;rwa [gl]at h)
 have HCG:Hid (∀(W0 W1 W:World)(A B:Option Addr)(c d:Nat)(a u:List (List Int)),Gm n a->qf a->MatV W0 A a->MatV W1 B u->u.length=n->AllLen u n->(∀p x,-531441<=ent u p x/\ent u p x<=531441)->Ext W0 W->Ext W1 W->Cq 25 #[.slice A n c,.slice B n d] W (RetOwnI W n (Zb n a u))):=Zh (fun W0 W1 W A B c d a u g hF hA hB hul hua hub e1 e2=>
  zec (w:=W) (k:=64) hA hB g.len hul hn1 aa g.all hua aa (zie hF) (fun i j=>(zeq (hub i j)).mono aa))
 clear hB hb8;go_enter Tryz.func37,Tryz.ntmps37;go_upto_region 2 with (go_at_call 36;refine(HG.out _ Zi).mono ?_;rintro e w1 ⟨g,a,rfl,hM,hGm,hF,hgr,hs1⟩;have hL:=hGm.len;have HM:=Zh hM;have HGm:=Zh hGm;have HF:=Zh hF;have HGR:=Zh hgr;have zxs:=Step.of _ _ (h:=hs1);clear hM hGm hF hs1 hgr)
 have hfb:=zg (Zi:Ext (w.alloc (.cells #[.int .u8 dim,.int .u8 kind,.slice NA l.length nc,.slice BA bl.length bc] 24)) w1) (heap_alloc_new w _);have HFB:Hid (∀W,Ext w1 W->W.cell? ⟨w.heap.size,3,none⟩=some (.slice BA bl.length bc)):=Zh (fun W e=>by
  have:=zg e hfb;simp[World.cell?,this])
 have HOA:=Zh (fun W(e:Ext w1 W)=>HOF.out w1 W (some ⟨g,0,none⟩) n a HGm.out.len HGm.out.all HM.out HF.out e);obtain⟨f0,f1,f2,f3⟩:True/\True/\True/\w1.cell? ⟨w.heap.size,3,none⟩=some (.slice BA bl.length bc):=⟨trivial,trivial,trivial,HFB.out w1 (Ext.refl _)⟩;clear HG hfb hL;go_region_held3 (fun w'=>w'.cell? ⟨w.heap.size,3,none⟩=some (.slice BA bl.length bc))
  (exact HFB.out _ Zi)
  (first
   |(go_at_call 81;refine(HU.out _ Zi).mono ?_;rintro e w2 ⟨gu,hsu,U,rfl,hPu,hUl,hUk,hUb,hxu⟩;have hua:=hPu.all;have HOU:=Zh (fun W(e:Ext w2 W)=>HOF.out w2 W (some ⟨gu,0,none⟩) n U hUl hua (hPu.mat hUl aa) (zpr hua hUb) e);have HUA:=Zh (And.intro hUl (And.intro hua (And.intro hUk hUb)));have zyx:=hxu.toStep;clear hPu hUl hUk hUb hua hxu)
   |(go_at_call_of 26 (Value.slice (some ⟨g,0,none⟩) n n);refine(HOA.out _ Zi).mono ?_;rintro e w3 ⟨ga,hsa,ca,rfl,hOa,-,-,hs3⟩;have hMa:=hOa.mat;rw[HGm.out.len];clear hOa)
   |(go_at_call_of 26 (Value.slice (some ⟨gu,0,none⟩) n n);refine(HOU.out _ Zi).mono ?_;rintro e w4 ⟨gv,hsv,cv,rfl,hOv,-,-,hs4⟩;have hMv:=hOv.mat;rw[HUA.out.1];clear hOv)
   |(go_at_call 25;refine(HCG.out _ _ _ _ _ _ _ _ _ HGm.out HF.out hMa hMv HUA.out.1 HUA.out.2.1 HUA.out.2.2.2 Zi Zi).mono ?_;rintro e w5 ⟨gc,hsc,cc,rfl,hOc,-,-,hs5⟩;have hMc:=hOc.mat;rw[zaw];clear hOc))
 all_goals
  have hG2:=HGm.out.cong HUA.out.2.2.1 (zpq (n:=n) aa HF.out HUA.out.2.2.2);have hxw:Ext w w5:=Zi;go_wp2_with fail
  go_ret;exact⟨a,Zb n a U,_,_,rfl,HGR.out,hG2.1,hG2.2,hMc.ext Zi,Step.of _ _⟩
theorem zpu(hN:Ints w NA te .i8 l)(h8:I8 l)(hl:l.length<=9223372036854775807)(hB:Ints w BA tb .i8 bl)(hb8:I8 bl)(hbl:bl.length<=9223372036854775807)(hd0:0<=dim)(hd1:dim<256)(hk0:0<=kind)(hk1:kind<256)(hm1:1<=most)(hm4:most<=4):
  Cq 9 #[.agg #[.int .u8 dim,.int .u8 kind,.slice NA l.length nc,.slice BA bl.length bc],.int .i64 most] w (zcE w (1+(dim%most).toNat) l (kind%8)):=by
 have zuo:=Int.emod_lt_of_pos dim ((aa:(0:Int)<most));have HR:Hid (∀W,Ext w W->Cq 37 #[.agg #[.int .u8 dim,.int .u8 kind,.slice NA l.length nc,.slice BA bl.length bc],.int .i64 most] W (zif W (1+(dim%most).toNat) l (kind%8))):=Zh (fun W e=>zpt (hN.ext e) h8 hl (hB.ext e) hb8 hbl hd0 hd1 hk0 hk1 hm1 aa);have hn4:1+(dim%most).toNat<=4:=aa
 clear hN h8 hB hb8;generalize 1+(dim%most).toNat=n at*
 go_enter Tryz.func9,Tryz.ntmps9;go_wp2_with (first
  |(go_at_call 37;refine(HR.out _ Zi).mono ?_;rintro e w1 ⟨a,b,A1,c1,rfl,hgr,hGm,hBs,hM,hs1⟩;have HM:=Zh hM;have HGm:=Zh hGm;have HGR:=Zh hgr;have HBS:=Zh hBs;clear hM hGm hgr hBs)
  |(go_at_call 35;refine(zhF HM.out HGm.out hn4).mono ?_;rintro e w3 ⟨hh,A2,c2,A3,c3,rfl,hLL,zss,hRel,hM3,hc1,hc2,hs3⟩))
 go_ret;exact⟨a,hh,A2,c2,rfl,HGR.out,hLL,zss,HBS.out.trans (hRel.bs HGm.out.len HGm.out.all).1,hM3,hc1,hc2,Step.of _ _⟩
def shl(b:Int)(its:List (Int×List Int)):List (List Int):=(its.filter fun p=>p.1==b).map Prod.snd
theorem zpv(b:Int)(its:List (Int×List Int)):(shl b its).length<=its.length:=by
 unfold shl;rw[List.length_map];exact List.length_filter_le _ _
theorem zpw{b:Int}{its:List (Int×List Int)}(h:VecList m b false (its.map Prod.snd))(h2:its=(its.map Prod.snd).map fun x=>(zh m x,x)):VecList m b true (shl b its):=by
 have he:shl b its=(its.map Prod.snd).filter fun x=>zh m x==b:=by
  unfold shl;conv=>lhs;rw[h2]
  rw[List.filter_map,List.map_map];exact List.map_id _
 rw[he];refine⟨h.1.filter _,fun x=>?_⟩;rw[List.mem_filter,h.2];simp[and_assoc]
def zre(w:World)(m:List (List Int))(b:Int)(e:Ending)(w':World):Prop:=∃B d L,e= .returned (.tuple #[.slice B (List.length L) d,.int .i64 0])/\Mat64 w' B L/\L.length<=d/\d<=9223372036854775807/\VecList m b true L/\L.length<=4000/\Step w w'
theorem zrf(hr:zM m=true)(h4:m.length<=4)(hb:b+2*m.length<=12∨b<=6∨(m.length<=3/\b<=8)):(zB m b false).length<=4000/\(zB m b true).length<=4000:=by
 have hR:=Zk hr;have hl:=Z2 hR.small;have hst:=(zcg hr (b:=b) aa).1;have zyy:=zoA hr h4 hb;have zsS:=hst.last_le aa;have hll:=hst.zd;obtain⟨hv,hv2⟩:=zcz hR (b:=b) aa;have h1:=jQ hR aa hv;have h2:=jQ hR aa (zpw hv hv2);have h3:=zpv b (JE m (QM m b (m.length-1) []));rw[List.length_map]at h1;omega
theorem zpx{a:List (List Int)}(b1:Bs n (ent a) (ent h1))(b2:Bs n (ent a) (ent h2))(l1:LLLed h1)(l2:LLLed h2)(e1:h1.length=n)(e2:h2.length=n){e:Bool}{L T:List (List Int)}(hL:VecList h1 q e L)(hT:VecList h2 q e T):L.length=T.length:=by
 obtain⟨u1,v1,j1⟩:=b1.bij;obtain⟨u2,v2,j2⟩:=b2.bij;have hj:=j1.symm.trans j2;rw[<-e1]at hj;exact zpb l1.all l2.all aa hj hL hT
theorem zpy{a:List (List Int)}(b1:Bs n (ent a) (ent h1))(b2:Bs n (ent a) (ent h2))(l1:LLLed h1)(l2:LLLed h2)(e1:h1.length=n)(e2:h2.length=n)(hq:0<=q):(zB h1 q false).length=(zB h2 q false).length:=by
 have r1:=Zk l1.red;have r2:=Zk l2.red;have v1:=(zcz r1 hq).1;have v2:=(zcz r2 hq).1;rw[<-jQ r1 hq v1,<-jQ r2 hq v2];exact zpx b1 b2 l1 l2 e1 e2 v1 v2
end
section
structure STO{κ:Type}(lt:κ->κ->Prop):Prop where
 irr:∀a,¬lt a a
 trans:∀{a b c},lt a b->lt b c->lt a c
 jL:∀{a b},a≠b->lt a b∨lt b a
section
variable {κ:Type} [DecidableEq κ] {lt:κ->κ->Prop}
structure CountOK(lt:κ->κ->Prop)(L:List κ)(p:List (κ×Int)):Prop where
 sorted:p.Pairwise (fun a b=>lt a.1 b.1)
 mem:∀c,c∈p↔0<c.2/\c.2=(L.count c.1:Int)
theorem CountOK.nodup(O:STO lt){L:List κ}{p}(h:CountOK lt L p):p.Nodup:=h.sorted.imp (fun{a b}h(e:a=b)=>O.irr b.1 ae)
theorem CountOK.nil:CountOK lt ([]:List κ) []:=⟨List.Pairwise.nil,fun c=>ae⟩
theorem CountOK.append{L S:List κ}{p q}(h:CountOK lt L p)(h':CountOK lt S q)(hd:∀x∈L,∀y∈S,lt x y)(O:STO lt):CountOK lt (L++S) (p++q):=by
 have hin:∀{T:List κ}{r},CountOK lt T r->∀c∈r,c.1∈T:=fun h c hc=>List.count_pos_iff.1 (by have:=(h.mem c).1 hc;omega)
 refine⟨List.pairwise_append.2 ⟨h.sorted,h'.sorted,fun a ha b hb=>hd _ (hin h a ha) _ (hin h' b hb)⟩,fun c=>?_⟩;rw[List.mem_append,h.mem,h'.mem,List.count_append];by_cases hL:c.1∈L
 ·have hS:=fun hs=>O.irr _ (hd _ hL _ hs)
  grind
 grind
variable [DecidableRel lt]
end
abbrev Kc:=Int×Int
abbrev Ct:=Kc×Int
def ltK(a b:Kc):Prop:=a.1<b.1∨(a.1=b.1/\a.2<b.2)
instance:DecidableRel ltK:=fun a b=>by unfold ltK;exact Zi
def ltC(a b:Ct):Prop:=a.1.1<b.1.1∨(a.1.1=b.1.1/\(a.1.2<b.1.2∨(a.1.2=b.1.2/\a.2<b.2)))
instance:DecidableRel ltC:=fun a b=>by unfold ltC;exact Zi
def zig:List Ct->List Ct->Bool
 |_,[]=>false
 |[],_::_=>true
 |a::l,b::m=>if a=b then zig l m else decide (ltC a b)
abbrev Ks:=Int×List Ct
def ltS(a b:Ks):Prop:=a.1<b.1∨(a.1=b.1/\zig a.2 b.2=true)
instance:DecidableRel ltS:=fun a b=>by unfold ltS;exact Zi
end
end Go.Proofs.YtgoaelchibpffaaGreat
