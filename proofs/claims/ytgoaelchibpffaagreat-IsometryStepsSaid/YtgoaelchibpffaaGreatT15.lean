import Derived.Test.YtgoaelchibpffaaGreatT14
set_option maxHeartbeats 8000000
set_option linter.unusedVariables false
set_option linter.unusedSimpArgs false
namespace Go.Proofs.YtgoaelchibpffaaGreat
open Go.RowKit
open List (length_take setIfInBounds_toArray set_cons_zero set_cons_succ)
variable {x y:Int} {m:List (List Int)} {vs:List Value} {b c fuel i j k n ze:Nat} {A B:Option Addr} {P:Program} {v:Value} {w w' w0 w1:World}
def zW(l:List Nat):List Int:=l.map fun(x:Nat)=>(x:Int)
def zhs(w:World)(l:List Int)(e:Ending)(w':World):Prop:=∃B d,e= .returned (.slice B l.length d)/\Ints w' B 3 .i64 l/\l.length<=d/\d<=9223372036854775807/\Step w w'
theorem zay (x:Int):∀u∈[Value.int .i64 x],u.oneCell'=true:=by intro u hu;obtain rfl:u= .int .i64 x:=by simpa using hu
                                                              rfl
theorem zaz{A1:Option Addr}{c1:Nat}{s:List Int}(zsq:Own w1 ze 3 1 A1 (k+1) c1 (s.map (Value.int .i64)++[.int .i64 x])):Own w1 ze 3 1 A1 (k+1) c1 ((s++[x]).map (Value.int .i64)):=by
 simpa using zsq
theorem zee(k:Nat):zW (List.range (k+1))=zW (List.range k)++[(k:Int)]:=by simp[zW,List.range_succ]
theorem zht(l:List Nat):(zW l).length=l.length:=by simp[zW]
theorem znO(k more:Nat)(hk:k<=1000):
  Cq 205 #[.int .i64 k,.int .i64 more] w (zhs w (zW (List.range k++[more]))):=by
 go_enter Tryz.func205,Tryz.ntmps205;go_wp2;go_loopw [5,6] (fun v i wr=>∃(q:Nat) (A1:Option Addr) (c1:Nat),q<=k/\i= .int .i64 q/\v= .slice A1 q c1/\Hid (Own wr w.heap.size 3 1 A1 q c1 ((zW (List.range q)).map (Value.int .i64)))/\Ext w wr) (fun _ i _=>k-(intOf i).toNat)
 case atStart=>exact⟨0,none,0,aa,rfl,rfl,Zh (Own.nil _ _ _ _),Zi⟩
 case round=>
  obtain⟨q,A1,c1,hq,rfl,rfl,HO,hxr⟩:=hrel;by_cases hlt:q<k
  ·go_wp2_with (at_builtin;refine Zp _ rfl _ _ 85 rfl w.heap.size 3 (.int .i64 0) 1 8 Tryz.underlying85 JO rfl aa aa A1 q c1 ((zW (List.range q)).map (Value.int .i64)) rfl (HO.out.ext Zi) (some ⟨wr.heap.size,0,none⟩) 1 1 [.int .i64 q] rfl (Arr.new wr 3 #[.int .i64 q]) rfl (zay _) aa (by have:=hxr.size;simp;omega) ?_;intro A2 c2 w2 zsq hg;have HO2:=Zh (zaz zsq);have hx2:Ext w w2:=hg.ext Zi Zr;clear zsq hg)
   exact⟨⟨q+1,A2,c2,aa,by go_num,rfl,Zh (by rw[zee];exact HO2.out),Zi⟩,by simp[intOf]<;>omega⟩
  ·obtain rfl:q=k:=aa
   go_wp2_with (at_builtin;refine Zp _ rfl _ _ 85 rfl w.heap.size 3 (.int .i64 0) 1 8 Tryz.underlying85 JO rfl aa aa A1 q c1 ((zW (List.range q)).map (Value.int .i64)) rfl (HO.out.ext Zi) (some ⟨wr.heap.size,0,none⟩) 1 1 [.int .i64 more] rfl (Arr.new wr 3 #[.int .i64 more]) rfl (zay _) aa (by have:=hxr.size;simp;omega) ?_;intro A2 c2 w2 zsq hg;have HO2:=Zh (zaz zsq);have hx2:Ext w w2:=hg.ext Zi Zr;clear zsq hg)
   go_ret;have e:zW (List.range q++[more])=zW (List.range q)++[(more:Int)]:=by simp[zW]
   have hl:(zW (List.range q++[more])).length=q+1:=by simp[zW]
   refine⟨A2,c2,by rw[hl];rfl,by rw[e];exact HO2.out.arr,by rw[hl];exact HO2.out.cap.1,HO2.out.cap.2,Step.of _ _⟩
def RowsOf(w:World)(vs:List Value)(m:List (List Int)):Prop:=∀(i:Nat)(r:List Int),m[i]? =some r->∃B c,vs[i]? =some (.slice B r.length c)/\IntsV w B r/\r.length<=c/\c<=9223372036854775807
theorem RowsOf.map(h:RowsOf w vs m)(hk:∀{B:Option Addr}{r:List Int},IntsV w B r->IntsV w' B r):RowsOf w' vs m:=fun i r hr=>by
 obtain⟨B,c,a1,a2,a3⟩:=h i r hr;exact⟨B,c,a1,hk a2,a3⟩
theorem RowsOf.snoc{r:List Int}(h:RowsOf w vs m)(hl:vs.length=m.length)(hr:IntsV w B r)(h1:r.length<=c)(h2:c<=9223372036854775807):RowsOf w (vs++[.slice B r.length c]) (m++[r]):=fun i x hx=>by
 rcases Zl i m.length with hi|hi
 ·rw[List.getElem?_append_left hi]at hx;obtain⟨B',c',a1,a2⟩:=h i x hx;exact⟨B',c',by rw[List.getElem?_append_left aa];exact a1,a2⟩
 ·rw[List.getElem?_append_right hi]at hx;have hi':i=m.length:=by have:=(Zg.1 hx).1;simp at this;omega
  subst hi';have:x=r:=by simpa using hx.symm
  subst this;exact⟨B,c,by rw[List.getElem?_append_right aa,hl];simp,hr,h1,h2⟩
theorem znP(B:Option Addr)(n c:Nat):∀u∈[Value.slice B n c],u.oneCell'=true:=by
 intro u hu;obtain rfl:u= .slice B n c:=by simpa using hu
 rfl
theorem zhu(g:Bool)(B:Option Addr)(n c:Nat):∀u∈[Value.bool g,Value.slice B n c],u.oneCell'=true:=by
 intro u hu;rcases List.mem_cons.1 hu with rfl|hu
 ·rfl
 ·obtain rfl:u= .slice B n c:=by simpa using hu
  rfl
theorem zhv{R:List Nat}(h:Ints w A 3 .i64 (zW R)){q:Nat}(hq:q<R.length):∃b o,A=some ⟨b,o,none⟩/\w.cell? ⟨b,o+q,none⟩=some (.int .i64 (R.getD q 0:Nat))/\b<w.heap.size:=by
 obtain⟨b,o,x,hA,hx,hc,hb⟩:=h.at_ (i:=q) (by rw[zht];exact hq);have:x=((R.getD q 0:Nat):Int):=by
  simp[zW,hq]at hx;rw[<-hx];simp[List.getD,hq]
 subst this;exact⟨b,o,hA,hc,hb⟩
theorem zhw{w2:World}{AR AC:Option Addr}{cR cC:Nat}{R C:List Nat}(hm':MatV w0 A m)(hR':Ints w1 AR 3 .i64 (zW R))(hC':Ints w2 AC 3 .i64 (zW C))(hn:AllLen m n)(hRl:R.length<=1000)(hCl:C.length<=1000)(hRb:∀x∈R,x<m.length)(hCb:∀x∈C,x<n)[hx:Ext w0 w][hy:Ext w1 w][hz:Ext w2 w]:
  Cq 122 #[.slice A m.length c,.slice AR R.length cR,.slice AC C.length cC] w (zaZ w (zS m R C)):=by
 have hm:=hm'.ext hx;have hR:=hR'.ext hy;have hC:=hC'.ext hz;have HA:=Zh hn;have HRB:=Zh hRb;have HCB:=Zh hCb;obtain⟨ml,zuX⟩:=Yz m.length;have HML:=Zh zuX;rw[zuX];clear hn hRb hCb hm' hR' hC' zuX;go_enter Tryz.func122,Tryz.ntmps122;go_wp2;go_loopw [7,9,10,12,15] (fun s7 _ _ _ i wr=>∃(k:Nat) (A1:Option Addr) (c1:Nat) (vs:List Value),k<=R.length/\i= .int .i64 k/\s7= .slice A1 k c1/\Hid (Own wr w.heap.size 95 1 A1 k c1 vs)/\Hid (RowsOf wr vs ((zS m R C).take k))/\Ext w wr) (fun _ _ _ _ i _=>R.length-(intOf i).toNat)
 case atStart=>exact⟨0,none,0,[],aa,rfl,rfl,Zh (Own.nil _ _ _ _),Zh (fun i r hr=>by simp at hr),Zi⟩
 case round=>
  obtain⟨k,A1,c1,vs,hk,rfl,rfl,HO,HRS,hxr⟩:=hrel;obtain⟨wo,rfl⟩:∃wo:World,wo=wr:=⟨_,rfl⟩;by_cases hlt:k<R.length
  ·obtain⟨bR,oR,rfl,hcR,hbR⟩:=zhv (hR.ext hxr) hlt;obtain⟨ri,hri⟩:=Yz (R.getD k 0);rw[hri]at hcR;have zxe:ri<ml:=by rw[<-HML.out,<-hri];exact HRB.out _ (by simp[List.getD,hlt])
   have HRI:=Zh hri;clear hri;obtain⟨row,zsr⟩:∃row,row=C.map fun j=>ent m ri j:=⟨_,rfl⟩
   have HRW:=Zh zsr;have HRL:Hid (row.length=C.length):=Zh (by rw[zsr];simp);clear zsr;go_wp2;go_loopw [10,12,21] (fun s10 _ j wr=>∃(q:Nat) (A2:Option Addr) (c2:Nat) (vs2:List Value),q<=C.length/\j= .int .i64 q/\s10= .slice A2 q c2/\Hid (Own wr wo.heap.size 102 2 A2 q c2 vs2)/\Hid (VsOf wr vs2 (row.take q))/\Ext wo wr) (fun _ _ j _=>C.length-(intOf j).toNat)
   case atStart=>exact⟨0,none,0,[],aa,rfl,rfl,Zh (Own.nil _ _ _ _),Zh (fun i z hz=>by simp at hz),Zi⟩
   case round=>
    obtain⟨q,A2,c2,vs2,hq,rfl,rfl,HO2,HV2,hxq⟩:=hrel;have zti:Ext w wr:=hxr.trans hxq;by_cases zsz:q<C.length
    ·obtain⟨bC,oC,rfl,hcC,hbC⟩:=zhv (hC.ext zti) zsz;obtain⟨cj,hcj⟩:=Yz (C.getD q 0);rw[hcj]at hcC;have zxf:cj<n:=by rw[<-hcj];exact HCB.out _ (by simp[List.getD,zsz])
     have HEN:Hid (row.getD q 0=ent m ri cj):=Zh (by rw[HRW.out,<-hcj];simp[List.getD,zsz]);clear hcj;obtain⟨b,o,b',o',c',g,B,k',d,rfl,e1,e2,e3,hz3,hb1,hb2,-,-⟩:=(hm.ext zti).entry HA.out (i:=ri) (j:=cj) (by rw[HML.out];exact zxe) zxf;have HZ3:=Zh hz3;clear hz3;go_wp2_with (at_builtin;refine Zp _ rfl _ _ 95 rfl wo.heap.size 102 (.agg #[.bool false,.slice none 0 0]) 2 32 Tryz.underlying95 j3 rfl aa aa A2 q c2 vs2 rfl (HO2.out.ext Zi) (some ⟨wr.heap.size,0,none⟩) 1 1 [.bool g,.slice B k' d] rfl (Arr.new wr 102 #[.bool g,.slice B k' d]) rfl (zhu _ _ _ _) aa (by have:=hxq.size;simp;omega) ?_;intro A3 c3 w3 zsq hg;have HO3:=Zh zsq;have HG3:=Zh hg;have hx3:Ext wo w3:=hg.ext Zi Zr;clear zsq hg)
     refine⟨⟨q+1,A3,c3,vs2++[.bool g,.slice B k' d],aa,by go_num,rfl,HO3,Zh ?_,hx3⟩,by simp[intOf]<;>omega⟩;have hxa:Ext wr (wr.alloc (.cells #[.bool g,.slice B k' d] 102)):=Zi;have hv5:VsOf (wr.alloc (.cells #[.bool g,.slice B k' d] 102)) (vs2++[.bool g,.slice B k' d]) (row.take q++[row.getD q 0]):=VsOf.snoc (HV2.out.map fun hz=>hz.ext hxa) (by rw[HO2.out.len,length_take,HRL.out,Nat.min_eq_left hq]) (by rw[HEN.out];exact HZ3.out.ext hxa)
     rw[zco (by rw[HRL.out];exact zsz)];exact hv5.grow HG3.out ac
    ·obtain rfl:q=C.length:=aa
     have hI:IntsV wr A2 row:=by
      have:=HV2.out;rw[List.take_of_length_le (by rw[HRL.out];exact Zr)]at this;exact this.intsV (by rw[HO2.out.len,HRL.out]) HO2.out.arr (Ext.refl _)
     have HI:=Zh hI;have HCP:=Zh HO2.out.cap;clear hI;go_wp2_with (at_builtin;refine Zp _ rfl _ _ 48 rfl w.heap.size 95 (.slice none 0 0) 1 24 Tryz.underlying48 zad rfl aa aa A1 k c1 vs rfl ((HO.out.ext hxq).ext Zi) (some ⟨wr.heap.size,0,none⟩) 1 1 [.slice A2 C.length c2] rfl (Arr.new wr 95 #[.slice A2 C.length c2]) rfl (znP _ _ _) aa (by have:=zti.size;simp;omega) ?_;intro A3 c3 w3 zsq hg;have HO3:=Zh zsq;have HG3:=Zh hg;have hx3:Ext w w3:=hg.ext Zi Zr;clear zsq hg)
     refine⟨⟨k+1,A3,c3,vs++[.slice A2 C.length c2],aa,by go_num,rfl,HO3,Zh ?_,hx3⟩,by simp[intOf]<;>omega⟩;have hxa:Ext wr (wr.alloc (.cells #[.slice A2 C.length c2] 95)):=Zi;have hl:(zS m R C).length=R.length:=by simp[zS]
     have hv5:RowsOf (wr.alloc (.cells #[.slice A2 C.length c2] 95)) (vs++[.slice A2 row.length c2]) ((zS m R C).take k++[row]):=RowsOf.snoc (HRS.out.map fun hz=>(hz.ext hxq).ext hxa) (by have:=HO.out.len;rw[length_take,hl,Nat.min_eq_left hk];omega) (HI.out.ext hxa) (by rw[HRL.out];exact HCP.out.1) HCP.out.2;have e:(zS m R C).take (k+1)=(zS m R C).take k++[row]:=by
      rw[List.take_succ_eq_append_getElem (by rw[hl];exact hlt),HRW.out,<-HRI.out];congr 2
      simp[zS,List.getD,hlt]
     rw[e,<-HRL.out];exact hv5.map fun hz=>hz.grow HG3.out ac ac
  ·obtain rfl:k=R.length:=aa
   go_wp2;go_ret;have hl:(zS m R C).length=R.length:=by simp[zS]
   have h1:=HRS.out;rw[List.take_of_length_le (by rw[hl];exact Zr)]at h1;exact⟨A1,c1,by rw[hl];rfl,⟨vs,by have:=HO.out.len;rw[hl];omega,HO.out.arr,h1⟩,by rw[hl];exact HO.out.cap.1,HO.out.cap.2,hxr.toStep⟩
theorem OwnI.heapRow{lo g:Nat}{hs:List (Nat×Nat)}{a:List (List Int)}(h:OwnI w lo g n hs a)(hp:hs[i]? =some (b,c))(hi:i<a.length):∃cs,w.heap[b]? =some (.cells cs 102 (0,0)):=by
 obtain⟨r,hr⟩:∃r,a[i]? =some r:=⟨_,Ze hi⟩;exact(h.row i _ r hp hr).heap
theorem jN{W:World}{x y o:Nat}{u:Value}(h:c≠b∨(o≠x/\o≠y)):((W.setCell ⟨b,x,none⟩ u).setCell ⟨b,y,none⟩ v).cell? ⟨c,o,none⟩=W.cell? ⟨c,o,none⟩:=by
 rw[World.cell?_setCell_other _ _ _ _ (by intro e;injection e with e1 e2;omega),World.cell?_setCell_other _ _ _ _ (by intro e;injection e with e1 e2;omega)]
theorem Zd(i:Nat){ops:Array Oper}{Q:Exit->Act->World->Prop}{md:Region.Mode}{S:World->Prop}{oi:Oper}{listed:Array Bool}{a:Act}(hy:∀w,S w->(execOp a.eval oi).run P w= .ok (.value v) w)(h:wpAnyH P md ops Q S fuel (listed.setIfInBounds i true) (a.put oi.dst v) w)(hS:S w)
  (hr:(Region.ready md ops listed).contains i=true:=by decide+kernel) (hi:ops[i]? =some oi:=by simp only[List.getElem?_toArray,List.getElem?_cons_zero,List.getElem?_cons_succ];rfl) (hs:Region.noSelect ops=true:=by kernel_rfl) (hf:Region.free md ops listed i=true:=by decide+kernel) (hQ:∀c a w,Q (.panic c) (a.put oi.dst v) w->Q (.panic c) a w:=by exact fun _ _ _ h=>h) (hw:Region.wanted oi (yielded ops a.tmps)=true:=by rfl):wpAnyH P md ops Q S (fuel+1) listed a w:=wpAnyH_take hi hs hf hr hQ (.inl ⟨hw,hy⟩) hS h
theorem wrd(i:Nat){ops:Array Oper}{Q:Exit->Act->World->Prop}{md:Region.Mode}{S:World->Prop}{o:Oper}{listed:Array Bool}{a:Act}(h:∀K':Act->World->Prop,Shut (∀a w,S w->(S w->wpAnyH P md ops Q S fuel (listed.setIfInBounds i true) a w)->K' a w)->if Region.wanted o (yielded ops a.tmps)=true then Oper.wp P o a w K' Q else K' (a.put o.dst undef) w)
  (hr:Region.ready md ops listed=[i]:=by kernel_rfl) (ho:ops[i]? =some o:=by simp only[List.getElem?_toArray,List.getElem?_cons_zero,List.getElem?_cons_succ];rfl):wpAnyH P md ops Q S (fuel+1) listed a w:=wpAnyH_ready hr af (AllReadyH.cons ho h AllReadyH.nil)
theorem znQ(h:x≠0):(zo x 0==0)=false:=by
 unfold zo;by_cases h1:x<0
 ·rw[if_pos h1];rfl
 ·rw[if_neg h1,if_neg h];rfl
set_option linter.unusedSimpArgs false in
set_option maxRecDepth 20000 in
theorem zef(h:MatV w0 A m)(h1:m.length=n)(h3:1<=n)(h4:n<=8)(hn:AllLen m n)(hb:BdM b m)(hb1:1<=b)(hbb:b<=1000000)[hx:Ext w0 w]:
  Cq 64 #[.slice A n c] w (zz w (detF m)):=by
 have HCP:=Zh (fun W(hh:Ext w W)=>have:Ext w0 W:=hx.trans hh;zhn (w:=W) (c:=c) h n n h1 aa h3 aa hn (fun i j=>⟨b,aa,hb i j⟩));obtain⟨D,hD⟩:=Yz (detF m);rw[hD];have HST:Hid (DetI n 0 b 1 false m D):=Zh ⟨by rw[<-hD];unfold detF;rw[h1,Nat.sub_zero],ac,by rw[zci];exact Bd.one hb1,by rw[zci];exact hb⟩;have HML:=Zh h1;have zvN:∀k,k<=n->ZP b k<=256256256:=fun k hk=>by have:=zhc (b:=b) (s:=k) aa;omega
 have HBT:=Zh zvN;clear hD hn h1 zvN hb;go_enter Tryz.func64,Tryz.ntmps64;go_wp2_with (first
  |(go_at_call 73;refine(HCP.out _ Zi).mono ?_;rintro e w2 ⟨g,hs,cz,rfl,hO,zsL,zs3,hs2⟩;rw[HML.out]at zsL|-;have HO:=Zh hO;clear hO)
  |(go_at_call 114;refine(QF 1 aa aa _).mono ?_;rintro e w3 ⟨g3,B3,k3,d3,rfl,hz3,hs3⟩))
 have HZ3:=Zh hz3;clear hz3;have zyg:w.heap.size<w3.heap.size:=(Zi:Old w.heap.size w3).lt;have zyh:w2.heap.size<=w3.heap.size:=(Zi:Ext w2 w3).size;obtain⟨pl,hpl⟩:=Xz w3.heap.size;go_loopg [6,7,8,9,10] n (fun gk s6 s7 _ _ _ wr=>∃(k:Nat) (neg:Bool) (zd:Int) (hs:List (Nat×Nat)) (a:List (List Int)),k<=n/\gk=n-k/\s7= .int .i64 k/\s6= .bool neg/\Hid (DetI n k b zd neg a D)/\Hid (OwnI wr (w.heap.size+1) g n hs a)/\Hid (a.length=n)/\Hid (∀q∈hs,q.1<w3.heap.size)/\Hid (Box wr w3.heap.size zd)/\Hid (wr.heap[w.heap.size]? =some (.cells #[.bool false,.slice none 0 0] 102 (0,0)))/\Ext w wr)
 case atStart=>
  refine⟨0,false,1,hs,m,aa,aa,rfl,rfl,HST,Zh (by have:=HO.out.ext (Zi:Ext w2 (w3.alloc (.cells #[.bool g3,.slice B3 k3 d3] 102)));simpa using this),HML,Zh (fun q hq=>by have:=HO.out.old q hq;omega),Zh ⟨g3,B3,k3,d3,BlkAt.eq,HZ3.out.keeps⟩,Zh BlkAt.eq,Zi⟩
 case round=>
  obtain⟨k,neg,zd,hs,a,hk,rfl,rfl,rfl,HI,HO,HAL,HLT,HB,HR,hxr⟩:=hrel;obtain⟨wo,rfl⟩:∃wo:World,wo=wr:=⟨_,rfl⟩;by_cases hlt:k<n
  ·go_wp2_with fail
   go_loopw [8] (fun s8 wr=>∃p:Nat,k<=p/\p<=n/\s8= .int .i64 p/\Hid (ZO a k (n-k) k=ZO a k (n-p) p)/\Ext wo wr) (fun s8 _=>n-(intOf s8).toNat)
   case atStart=>exact⟨k,aa,aa,rfl,Zh rfl,Zi⟩
   case round=>
    obtain⟨p,hkp,hpn,rfl,HP,hxp⟩:=hrel;obtain⟨wp,rfl⟩:∃wp:World,wp=wr:=⟨_,rfl⟩;by_cases hpl:p<n
    ·obtain⟨b1,c1,hp1,d1,d2,d3,d4,d5,d6⟩:=(HO.out.ext hxp).hdr (i:=p) (by rw[HAL.out];exact hpl);obtain⟨s1,B1,n1,c2,e1,e2,hz1,-,-⟩:=(HO.out.ext hxp).entry (i:=p) (j:=k) hp1 (by rw[HAL.out];exact hpl) hlt;have l1:=hz1.bd (HI.out.ba p k) (by have:=HBT.out k hk;omega);have HSG:=Zh (fun W(hh:Ext wp W)=>jA (w:=W) hz1 aa);by_cases h0:ent a p k=0
     ·have HP2:=Zh (HP.out.trans (znM hpl h0));rw[Qm h0]at HSG;clear hz1 l1 hp1 h0;go_wp2_with (go_at_call 126;refine(HSG.out _ Zi).mono ?_;rintro e w6 ⟨rfl,hs6⟩)
      exact⟨⟨p+1,aa,aa,by go_num,HP2,Zi⟩,by simp[intOf]<;>omega⟩
     ·have HP2:=Zh (HP.out.trans (znN hpl h0));have hne:=znQ h0;have HNE:=Zh h0;generalize zo (ent a p k) 0=cs at*
      clear hz1 l1 hp1 h0;go_upto_if 44 with (go_at_call 126;refine(HSG.out _ Zi).mono ?_;rintro e w6 ⟨rfl,hs6⟩)
      have hx6:Ext wo w6:=hxp.trans Zi;have zxg:Ext w w6:=hxr.trans hx6;go_cut [6] (fun s6 wx=>∃(neg2:Bool) (hs2:List (Nat×Nat)) (a2:List (List Int)),s6= .bool neg2/\Hid (DetP n k b zd neg2 a2 D)/\Hid (OwnI wx (w.heap.size+1) g n hs2 a2)/\Hid (a2.length=n)/\Hid (∀q∈hs2,q.1<w3.heap.size)/\Hid (Box wx w3.heap.size zd)/\Hid (wx.heap[w.heap.size]? =some (.cells #[.bool false,.slice none 0 0] 102 (0,0)))/\Ext w wx)
      case first=>
       by_cases hgt:k<p
       ·obtain⟨b2,c2,hp2,e1,e2,e3,e4,e5,e6⟩:=(HO.out.ext hx6).hdr (i:=p) (by rw[HAL.out];exact hpl);obtain⟨b3,c3,hp3,f1,f2,f3,f4,f5,f6⟩:=(HO.out.ext hx6).hdr (i:=k) (by rw[HAL.out];exact hlt);have HSW:=Zh ((HO.out.ext hx6).swap hp2 hp3 (by rw[HAL.out];exact hpl) (by rw[HAL.out];exact hlt));have HDP:=Zh (HI.out.swap HAL.out hgt hpl HP2.out HNE.out);have HQ2:=Zh hp2;have HQ3:=Zh hp3;clear hp2 hp3
        go_wp2_with fail
        go_region
        all_goals
         go_wp2_with fail
         go_meet
         refine⟨!neg,(hs.set p (b3,c3)).set k (b2,c2),jn a p k,rfl,HDP,Zh ?_,Zh ?_,Zh ?_,Zh ?_,Zh ?_,?_⟩
         ·have hsw:=HSW.out;simp only[z8]at hsw;exact hsw.ext Zi
         ·have:=HAL.out;simp[jn,this]
         ·intro q hq;rcases List.mem_or_eq_of_mem_set hq with hq|rfl
          ·rcases List.mem_or_eq_of_mem_set hq with hq|rfl
           ·exact HLT.out q hq
           ·exact HLT.out _ (Zm HQ3.out)
          ·exact HLT.out _ (Zm HQ2.out)
         ·exact((HB.out.ext hx6).oth (Oth.set2 (HO.out.ext hx6).head p k (.slice (some ⟨b3,0,none⟩) n c3) (.slice (some ⟨b2,0,none⟩) n c2)) ac ac).ext Zi
         ·have hgl:=HO.out.glo;exact ZD (ZD (zg hx6 HR.out) (p:=⟨g,p,none⟩) (by simp;omega) _) (p:=⟨g,k,none⟩) (by simp;omega) _
         ·have hgl:New g w:=⟨by have:=HO.out.glo;omega⟩;exact Zi
       ·have hpk:p=k:=aa
        have HDP:Hid (DetP n k b zd neg a D):=Zh (by
         have h1:=HP2.out;have h2:=HNE.out;rw[hpk]at h1 h2;exact HI.out.same hlt h1 h2)
        clear hpk;go_wp2_with fail
        go_meet
        exact⟨neg,hs,a,rfl,HDP,Zh (HO.out.ext hx6),HAL,HLT,Zh (HB.out.ext hx6),Zh (zg hx6 HR.out),zxg⟩
      case rest=>
       obtain⟨neg2,hs2,a2,rfl,HDP,HO2,zrN,zrA,HB2,HR2,hxc⟩:=hcut;have HEL:=Zh (zho (zd:=zd) zrN.out HO2.out.all (k:=k));go_wp2_with fail
       go_loopw [9,10] (fun s9 _ wr=>∃i:Nat,k+1<=i/\i<=n/\s9= .int .i64 i/\Hid (OwnI wr (w.heap.size+1) g n hs2 (tab (Z3 k zd a2 i (k+1)) n n))/\Hid (Box wr w3.heap.size zd)/\Hid (wr.heap[w.heap.size]? =some (.cells #[.bool false,.slice none 0 0] 102 (0,0)))/\Ext w wr) (fun s9 _ _=>n-(intOf s9).toNat)
       case atStart=>exact⟨k+1,aa,aa,by go_num,Zh (by rw[HEL.out];exact HO2.out),HB2,HR2,hxc⟩
       case round=>
        obtain⟨i,hki,hin,rfl,HO3,HB3,HR3,hx3⟩:=hrel;by_cases hil:i<n
        ·go_wp2_with fail
         go_loopw [10] (fun s10 wr=>∃j:Nat,k+1<=j/\j<=n/\s10= .int .i64 j/\Hid (OwnI wr (w.heap.size+1) g n hs2 (tab (Z3 k zd a2 i j) n n))/\Hid (Box wr w3.heap.size zd)/\Hid (wr.heap[w.heap.size]? =some (.cells #[.bool false,.slice none 0 0] 102 (0,0)))/\Ext w wr) (fun s10 _=>n-(intOf s10).toNat)
         case atStart=>exact⟨k+1,aa,aa,by go_num,HO3,HB3,HR3,hx3⟩
         case round=>
          obtain⟨j,hkj,hjn,rfl,HO4,HB4,HR4,hx4⟩:=hrel;by_cases hjl:j<n
          ·have hML:(tab (Z3 k zd a2 i j) n n).length=n:=zr _ _ _;obtain⟨bk,ck,hqk,k1,k2,k3',k4,k5,k6⟩:=HO4.out.hdr (i:=k) (by rw[hML];exact hlt);obtain⟨bi,ci,hqi,i1,i2,i3,i4,i5,i6⟩:=HO4.out.hdr (i:=i) (by rw[hML];exact hil);obtain⟨s1,B1,n1,c1',x1,x2,hz1,-,-⟩:=HO4.out.entry (i:=k) (j:=k) hqk (by rw[hML];exact hlt) hlt;obtain⟨s2,B2,n2,c2',y1,y2,hz2,-,-⟩:=HO4.out.entry (i:=i) (j:=j) hqi (by rw[hML];exact hil) hjl
           obtain⟨s3,B3',n3,c3',z1,z2,hz3,-,-⟩:=HO4.out.entry (i:=i) (j:=k) hqi (by rw[hML];exact hil) hlt;obtain⟨s4,B4',n4,c4',t1,t2,hz4,-,-⟩:=HO4.out.entry (i:=k) (j:=j) hqk (by rw[hML];exact hlt) hjl;rw[JZ hlt hlt aa]at hz1;rw[JZ hil hjl aa]at hz2;rw[JZ hil hlt aa]at hz3;rw[JZ hlt hjl aa]at hz4;obtain⟨g5,B5,n5,c5,hbk,p1,p2,p3,p4,p5,hz5⟩:=HB4.out.cells
           have hK:=HBT.out k hk;have l1:=hz1.bd (HDP.out.ba k k) aa;have l2:=hz2.bd (HDP.out.ba i j) aa;have l3:=hz3.bd (HDP.out.ba i k) aa;have l4:=hz4.bd (HDP.out.ba k j) aa;have l5:=hz5.bd HDP.out.bl aa;have HM1:=Zh (fun W(hh:Ext wr W)=>zan (w:=W) hz1 hz2 aa aa);have HM2:=Zh (fun W(hh:Ext wr W)=>zan (w:=W) hz3 hz4 aa aa)
           have HP1:Hid (Bd (2*ZP b k) (ent a2 k k*ent a2 i j)/\Bd (2*ZP b k) (ent a2 i k*ent a2 k j)/\Bd (2*ZP b k+1) (ent a2 k k*ent a2 i j-ent a2 i k*ent a2 k j)):=Zh (by
            have q1:=(HDP.out.ba k k).mul (HDP.out.ba i j);have q2:=(HDP.out.ba i k).mul (HDP.out.ba k j);rw[(aa:ZP b k+ZP b k=2*ZP b k)]at q1 q2;exact⟨q1,q2,q1.sub q2⟩)
           have HEV:Hid (zI (tab (Z3 k zd a2 i j) n n) i j ((ent a2 k k*ent a2 i j-ent a2 i k*ent a2 k j) / zd)=tab (Z3 k zd a2 i (j+1)) n n):=Zh (zhp hil hjl aa aa);generalize ent a2 k k*ent a2 i j=P1 at*
           generalize ent a2 i k*ent a2 k j=P2 at*
           have HSU:Hid (∀(W1 W2 W:World)(ga:Bool)Ba na ca(gb:Bool)Bb nb cb,IntV W1 ga Ba na ca P1->IntV W2 gb Bb nb cb P2->Ext W1 W->Ext W2 W->Cq 128 #[.agg #[.bool ga,.slice Ba na ca],.agg #[.bool gb,.slice Bb nb cb]] W (zz W (P1-P2))):=Zh (fun W1 W2 W ga Ba na ca gb Bb nb cb ha hb e1 e2=>zfY ha hb (by have:=ha.bd HP1.out.1 aa;omega) (by have:=hb.bd HP1.out.2.1 aa;omega))
           have HQU:Hid (∀(W1 W:World)(ga:Bool)Ba na ca,IntV W1 ga Ba na ca (P1-P2)->Ext W1 W->Ext wr W->Cq 127 #[.agg #[.bool ga,.slice Ba na ca],.agg #[.bool g5,.slice B5 n5 c5]] W (zz W ((P1-P2) / zd))):=Zh (fun W1 W ga Ba na ca ha e1 e2=>zcm ha hz5 (ha.bd HP1.out.2.2 aa) l5 HDP.out.l0);have HQI:=Zh hqi;have hlo:=HO4.out.lo_row hqi;have zuY:=zrA.out _ (Zm hqi);obtain⟨csi,zt2⟩:=HO4.out.heapRow hqi (by rw[hML];exact hil)
           have HCS:=Zh zt2;have HLL:Hid (∀W,Ext wr W->W.cell? ⟨g,k,none⟩=some (.slice (some ⟨bk,0,none⟩) n ck)/\W.cell? ⟨g,i,none⟩=some (.slice (some ⟨bi,0,none⟩) n ci)/\W.cell? ⟨bk,k*2,none⟩=some (.bool s1)/\W.cell? ⟨bk,k*2+1,none⟩=some (.slice B1 n1 c1')/\W.cell? ⟨bi,j*2,none⟩=some (.bool s2)/\W.cell? ⟨bi,j*2+1,none⟩=some (.slice B2 n2 c2')/\W.cell? ⟨bi,k*2,none⟩=some (.bool s3)/\W.cell? ⟨bi,k*2+1,none⟩=some (.slice B3' n3 c3')/\W.cell? ⟨bk,j*2,none⟩=some (.bool s4)/\W.cell? ⟨bk,j*2+1,none⟩=some (.slice B4' n4 c4')/\W.cell? ⟨w3.heap.size,0,none⟩=some (.bool g5)/\W.cell? ⟨w3.heap.size,1,none⟩=some (.slice B5 n5 c5)):=Zh (fun W hh=>
            ⟨(hh.below.cell (p:=⟨g,k,none⟩) k6).trans k1,(hh.below.cell (p:=⟨g,i,none⟩) i6).trans i1,(hh.below.cell (p:=⟨bk,k*2,none⟩) k5).trans x1,(hh.below.cell (p:=⟨bk,k*2+1,none⟩) k5).trans x2,(hh.below.cell (p:=⟨bi,j*2,none⟩) i5).trans y1,(hh.below.cell (p:=⟨bi,j*2+1,none⟩) i5).trans y2,(hh.below.cell (p:=⟨bi,k*2,none⟩) i5).trans z1,(hh.below.cell (p:=⟨bi,k*2+1,none⟩) i5).trans z2,(hh.below.cell (p:=⟨bk,j*2,none⟩) k5).trans t1,(hh.below.cell (p:=⟨bk,j*2+1,none⟩) k5).trans t2,(hh.below.cell (p:=⟨w3.heap.size,0,none⟩) p5).trans p1,(hh.below.cell (p:=⟨w3.heap.size,1,none⟩) p5).trans p2⟩)
           have HLS:Hid (∀W,Ext wr W->W.cell? ⟨g,k,none⟩=some (.slice (some ⟨bk,0,none⟩) n ck)/\W.cell? ⟨g,i,none⟩=some (.slice (some ⟨bi,0,none⟩) n ci)/\W.cell? ⟨bk,k*2,none⟩=some (.bool s1)/\W.cell? ⟨bk,k*2+1,none⟩=some (.slice B1 n1 c1')/\W.cell? ⟨bi,k*2,none⟩=some (.bool s3)/\W.cell? ⟨bi,k*2+1,none⟩=some (.slice B3' n3 c3')/\W.cell? ⟨bk,j*2,none⟩=some (.bool s4)/\W.cell? ⟨bk,j*2+1,none⟩=some (.slice B4' n4 c4')/\W.cell? ⟨w3.heap.size,0,none⟩=some (.bool g5)/\W.cell? ⟨w3.heap.size,1,none⟩=some (.slice B5 n5 c5)):=Zh (fun W hh=>by
            obtain⟨h1,h2,h3,h4,-,-,h7,h8,h9,h10,h11,h12⟩:=HLL.out W hh;exact⟨h1,h2,h3,h4,h7,h8,h9,h10,h11,h12⟩)
           have HIJ:Hid (∀W,Ext wr W->W.cell? ⟨bi,j*2,none⟩=some (.bool s2)/\W.cell? ⟨bi,j*2+1,none⟩=some (.slice B2 n2 c2')):=Zh (fun W hh=>by
            obtain⟨-,-,-,-,h5,h6,-⟩:=HLL.out W hh;exact⟨h5,h6⟩)
           have zyi:bk≠bi:=HO4.out.dist k i _ _ hqk hqi aa;have hgi:g≠bi:=HO4.out.gne hqi (by rw[hML];exact hil);have HLF:Hid (∀W,Ext wr W->∀(u v:Value),((W.setCell ⟨bi,j*2,none⟩ u).setCell ⟨bi,j*2+1,none⟩ v).cell? ⟨g,k,none⟩=some (.slice (some ⟨bk,0,none⟩) n ck)/\((W.setCell ⟨bi,j*2,none⟩ u).setCell ⟨bi,j*2+1,none⟩ v).cell? ⟨g,i,none⟩=some (.slice (some ⟨bi,0,none⟩) n ci)/\((W.setCell ⟨bi,j*2,none⟩ u).setCell ⟨bi,j*2+1,none⟩ v).cell? ⟨bk,k*2,none⟩=some (.bool s1)/\((W.setCell ⟨bi,j*2,none⟩ u).setCell ⟨bi,j*2+1,none⟩ v).cell? ⟨bk,k*2+1,none⟩=some (.slice B1 n1 c1')/\((W.setCell ⟨bi,j*2,none⟩ u).setCell ⟨bi,j*2+1,none⟩ v).cell? ⟨bi,k*2,none⟩=some (.bool s3)/\((W.setCell ⟨bi,j*2,none⟩ u).setCell ⟨bi,j*2+1,none⟩ v).cell? ⟨bi,k*2+1,none⟩=some (.slice B3' n3 c3')/\((W.setCell ⟨bi,j*2,none⟩ u).setCell ⟨bi,j*2+1,none⟩ v).cell? ⟨bk,j*2,none⟩=some (.bool s4)/\((W.setCell ⟨bi,j*2,none⟩ u).setCell ⟨bi,j*2+1,none⟩ v).cell? ⟨bk,j*2+1,none⟩=some (.slice B4' n4 c4')/\((W.setCell ⟨bi,j*2,none⟩ u).setCell ⟨bi,j*2+1,none⟩ v).cell? ⟨w3.heap.size,0,none⟩=some (.bool g5)/\((W.setCell ⟨bi,j*2,none⟩ u).setCell ⟨bi,j*2+1,none⟩ v).cell? ⟨w3.heap.size,1,none⟩=some (.slice B5 n5 c5)):=Zh (fun W hh u v=>by
            obtain⟨h1,h2,h3,h4,h5,h6,h7,h8,h9,h10⟩:=HLS.out W hh;exact⟨(jN aa).trans h1,(jN aa).trans h2,(jN aa).trans h3,(jN aa).trans h4,(jN aa).trans h5,(jN aa).trans h6,(jN aa).trans h7,(jN aa).trans h8,(jN aa).trans h9,(jN aa).trans h10⟩)
           have HE:Hid (∀W,Ext wr W->∃s B k' d,W.cell? ⟨bi,j*2,none⟩=some (.bool s)/\W.cell? ⟨bi,j*2+1,none⟩=some (.slice B k' d)/\W.frozen? ⟨bi,j*2,none⟩=false/\W.frozen? ⟨bi,j*2+1,none⟩=false/\bi<W.heap.size):=Zh (fun W hh=>by
            obtain⟨s,B,k',d,a1,a2,-,a4,a5⟩:=(HO4.out.ext hh).entry (i:=i) HQI.out (by rw[hML];exact hil) hjl;exact⟨s,B,k',d,a1,a2,a4,a5,Nat.lt_of_lt_of_le i5 hh.size⟩)
           clear hz1 hz2 hz3 hz4 hz5 l1 l2 l3 l4 l5 hqk hqi zt2 hbk x1 x2 y1 y2 z1 z2 t1 t2 p1 p2 p3 p4 k1 k2 i1 i2;go_wp2_with fail
           refine wp_region_held_drew (S:=fun w'=>w'.cell? ⟨g,k,none⟩=some (.slice (some ⟨bk,0,none⟩) n ck)/\w'.cell? ⟨g,i,none⟩=some (.slice (some ⟨bi,0,none⟩) n ci)/\w'.cell? ⟨bk,k*2,none⟩=some (.bool s1)/\w'.cell? ⟨bk,k*2+1,none⟩=some (.slice B1 n1 c1')/\w'.cell? ⟨bi,k*2,none⟩=some (.bool s3)/\w'.cell? ⟨bi,k*2+1,none⟩=some (.slice B3' n3 c3')/\w'.cell? ⟨bk,j*2,none⟩=some (.bool s4)/\w'.cell? ⟨bk,j*2+1,none⟩=some (.slice B4' n4 c4')/\w'.cell? ⟨w3.heap.size,0,none⟩=some (.bool g5)/\w'.cell? ⟨w3.heap.size,1,none⟩=some (.slice B5 n5 c5)) ai ?_ (fun hHeld=>?_)
           ·exact HLS.out _ Zi
           iterate 33
            first|refine Zd 0 (v:=?_) ?_ ?_ hHeld|refine Zd 1 (v:=?_) ?_ ?_ hHeld|refine Zd 2 (v:=?_) ?_ ?_ hHeld|refine Zd 3 (v:=?_) ?_ ?_ hHeld|refine Zd 4 (v:=?_) ?_ ?_ hHeld|refine Zd 5 (v:=?_) ?_ ?_ hHeld|refine Zd 6 (v:=?_) ?_ ?_ hHeld|refine Zd 7 (v:=?_) ?_ ?_ hHeld|refine Zd 8 (v:=?_) ?_ ?_ hHeld|refine Zd 9 (v:=?_) ?_ ?_ hHeld|refine Zd 10 (v:=?_) ?_ ?_ hHeld|refine Zd 11 (v:=?_) ?_ ?_ hHeld|refine Zd 12 (v:=?_) ?_ ?_ hHeld|refine Zd 13 (v:=?_) ?_ ?_ hHeld|refine Zd 14 (v:=?_) ?_ ?_ hHeld|refine Zd 15 (v:=?_) ?_ ?_ hHeld|refine Zd 16 (v:=?_) ?_ ?_ hHeld|refine Zd 17 (v:=?_) ?_ ?_ hHeld|refine Zd 20 (v:=?_) ?_ ?_ hHeld|refine Zd 21 (v:=?_) ?_ ?_ hHeld|refine Zd 22 (v:=?_) ?_ ?_ hHeld|refine Zd 23 (v:=?_) ?_ ?_ hHeld|refine Zd 24 (v:=?_) ?_ ?_ hHeld|refine Zd 25 (v:=?_) ?_ ?_ hHeld|refine Zd 26 (v:=?_) ?_ ?_ hHeld|refine Zd 27 (v:=?_) ?_ ?_ hHeld|refine Zd 28 (v:=?_) ?_ ?_ hHeld|refine Zd 29 (v:=?_) ?_ ?_ hHeld|refine Zd 30 (v:=?_) ?_ ?_ hHeld|refine Zd 31 (v:=?_) ?_ ?_ hHeld|refine Zd 32 (v:=?_) ?_ ?_ hHeld|refine Zd 33 (v:=?_) ?_ ?_ hHeld|refine Zd 36 (v:=?_) ?_ ?_ hHeld
            rotate_left
            ·intro w hSw
             (try dsimp only at hSw);go_simp;try(with_reducible rfl)
            try simp only[Act.put,setIfInBounds_toArray,set_cons_zero,set_cons_succ]
           refine wrd 18 fun K hK=>?_
           obtain⟨v1',v2'⟩:=HIJ.out wr.drew Zi;go_simp
           refine hK.out _ _ (HLS.out _ Zi) (fun hHeld=>?_);clear hK K;try simp only[Act.put,setIfInBounds_toArray,set_cons_zero,set_cons_succ]
           refine wrd 19 fun K hK=>?_
           go_simp
           (go_at_call 125;refine(HM1.out _ Zi).mono ?_;rintro e wa ⟨ga,Ba,na,ca,rfl,hza,hsa⟩)
           go_wp2_with fail
           refine hK.out _ _ (HLS.out _ Zi) (fun hHeld=>?_);clear hK K;try simp only[Act.put,setIfInBounds_toArray,set_cons_zero,set_cons_succ]
           refine wrd 34 fun K hK=>?_
           go_simp
           (go_at_call 125;refine(HM2.out _ Zi).mono ?_;rintro e wb ⟨gb,Bb,nb,cb,rfl,hzb,hsb⟩)
           go_wp2_with fail
           refine hK.out _ _ (HLS.out _ Zi) (fun hHeld=>?_);clear hK K;try simp only[Act.put,setIfInBounds_toArray,set_cons_zero,set_cons_succ]
           refine wrd 35 fun K hK=>?_
           go_simp
           (go_at_call 128;refine(HSU.out _ _ _ _ _ _ _ _ _ _ _ hza hzb Zi Zi).mono ?_;rintro e wd ⟨gd,Bd',nd,cd,rfl,hzd,hsd⟩)
           go_wp2_with fail
           refine hK.out _ _ (HLS.out _ Zi) (fun hHeld=>?_);clear hK K;try simp only[Act.put,setIfInBounds_toArray,set_cons_zero,set_cons_succ]
           refine wrd 37 fun K hK=>?_
           go_simp
           (go_at_call 127;refine(HQU.out _ _ _ _ _ _ hzd Zi Zi).mono ?_;rintro e we ⟨ge,Be,ne,ce,rfl,hze,hse⟩;obtain⟨s6,B6,k6',n6,f1',f2',f3',f4',f5'⟩:=HE.out we Zi;obtain⟨u1,u2,u3,u4,u5,u6,u7,u8,u9,u10⟩:=HLS.out we Zi)
           go_wp2_with fail
           refine hK.out _ _ (HLS.out _ Zi) (fun hHeld=>?_);clear hK K;try simp only[Act.put,setIfInBounds_toArray,set_cons_zero,set_cons_succ]
           refine Zd 38 (v:=?_) ?_ ?_ hHeld;rotate_left
           ·(intro w hSw;(try dsimp only at hSw);go_simp;try(with_reducible rfl))
           try simp only[Act.put,setIfInBounds_toArray,set_cons_zero,set_cons_succ]
           refine wrd 39 fun K hK=>?_
           go_simp
           refine hK.out _ _ (HLF.out _ Zi _ _) (fun hHeld=>?_);clear hK K;try simp only[Act.put,setIfInBounds_toArray,set_cons_zero,set_cons_succ]
           refine wpAnyH_done ai ?_ _;go_wp2_with fail
           refine⟨⟨j+1,aa,aa,by go_num,Zh ?_,Zh ?_,Zh ?_,?_⟩,by simp[intOf]<;>omega⟩
           ·have hO5:=(HO4.out.ext (Zi:Ext wr we)).set HQI.out (by rw[hML];exact hil) hjl hze;rw[HEV.out]at hO5;exact hO5
           ·exact(HB4.out.ext (Zi:Ext wr we)).far (zg (Zi:Ext wr we) HCS.out) aa _ _ _ _
           ·exact ZD (ZD (zg (Zi:Ext wr we) HR4.out) (p:=⟨bi,j*2,none⟩) (by simp;omega) _) (p:=⟨bi,j*2+1,none⟩) (by simp;omega) _
           ·exact((hx4.trans (Zi:Ext wr we)).setCell (p:=⟨bi,j*2,none⟩) (by simp;omega) _).setCell (p:=⟨bi,j*2+1,none⟩) (by simp;omega) _
          ·obtain rfl:j=n:=aa
           go_wp2_with fail
           exact⟨⟨i+1,aa,aa,by go_num,Zh (by rw[<-zhq];exact HO4.out),HB4,HR4,hx4⟩,by simp[intOf]<;>omega⟩
        ·obtain rfl:i=n:=aa
         have hO5:=HO3.out;rw[zhr]at hO5;have HO5:=Zh hO5;have hEL:(Qu i k zd a2).length=i:=zr _ _ _;obtain⟨bk,ck,hqk,k1,k2,k3',k4,k5,k6⟩:=hO5.hdr (i:=k) (by rw[hEL];exact hlt);obtain⟨s1,B1,n1,c1',x1,x2,hz1,-,-⟩:=hO5.entry (i:=k) (j:=k) hqk (by rw[hEL];exact hlt) hlt;have zvO:ent (Qu i k zd a2) k k=ent a2 k k:=by
          unfold Qu;rw[jp _ _ _ _ _ hlt hlt,if_neg aa]
         rw[zvO]at hz1;have HZ1:=Zh hz1;obtain⟨g5,B5,n5,c5,hbk,p1,p2,p3,p4,p5,-⟩:=HB3.out.cells;have HBK:=Zh hbk;have HEK:=Zh hEL;clear hO5 hz1 zvO hqk hbk hEL;go_wp2_with fail
         go_roundg (i-(k+1))
         case measure=>omega
         case rel=>
          exact⟨k+1,neg2,ent a2 k k,hs2,Qu i k zd a2,aa,aa,by go_num,rfl,Zh HDP.out.next,Zh (HO5.out.far HBK.out (fun q hq=>by have:=zrA.out q hq;omega) _ _ _ _),HEK,zrA,Zh (Box.put HBK.out HZ1.out),Zh (ZD (ZD HR3.out (p:=⟨w3.heap.size,0,none⟩) (by simp;omega) _) (p:=⟨w3.heap.size,1,none⟩) (by simp;omega) _),(hx3.setCell (p:=⟨w3.heap.size,0,none⟩) (by simp;omega) _).setCell (p:=⟨w3.heap.size,1,none⟩) (by simp;omega) _⟩
    ·obtain rfl:p=n:=aa
     have HD0:=Zh (HI.out.none hlt (by rw[HP.out,Nat.sub_self];rfl));obtain⟨t1,t2,t3,t4,t5⟩:=zN (zg hxp HR.out);have tq:Typed w.heap.size 102 wp:=⟨_,_,zg hxp HR.out⟩;have zyj:Ext w wp:=hxr.trans hxp;go_wp2_with fail
     exact bodyPost_ret (v:= .agg #[.bool false,.slice none 0 0]) (by simp[results,Tryz.results64,go_sem,t1,t2]) rfl ⟨_,_,_,_,rfl,by rw[HD0.out];exact IntV.zero _ none 0 aa,Step.of _ _⟩
  ·obtain rfl:k=n:=aa
   obtain⟨g0,B0,n0,c0,hbk,p1,p2,p3,p4,p5,hz0⟩:=HB.out.cells;obtain⟨t1,t2,t3,t4,t5⟩:=zN HR.out;have oR:Old w.heap.size wo:=⟨t5⟩;have HT:=Zh (And.intro t1 (And.intro t2 (And.intro t3 t4)));have HFI:=Zh HI.out.done;have l0:=hz0.bd HI.out.bl (by have:=HBT.out k Zr;omega);have HZ:=Zh hz0;have HNG:=Zh (fun W(hh:Ext wo W)=>zdp (w:=W) hz0 aa);clear hbk hz0 l0
   cases neg
   ·have tq:Typed w.heap.size 102 wo:=⟨_,_,HR.out⟩;go_wp2_with fail
    exact bodyPost_ret (v:= .agg #[.bool g0,.slice B0 n0 c0]) (by simp[results,Tryz.results64,go_sem,t1,t2]) rfl ⟨_,_,_,_,rfl,by rw[HFI.out];exact HZ.out.keeps,Step.of _ _⟩
   ·go_wp2_with (go_at_call 124;refine(HNG.out _ Zi).mono ?_;rintro e w6 ⟨g6,B6,n6,c6,rfl,hz6,hs6⟩;have r3:w6.cell? ⟨w.heap.size,0,none⟩=some (.bool false):=(zk wo).trans HT.out.1;have r4:w6.cell? ⟨w.heap.size,1,none⟩=some (.slice none 0 0):=(zk wo).trans HT.out.2.1;have r5:w6.frozen? ⟨w.heap.size,0,none⟩=false:=(ZY wo).trans HT.out.2.2.1;have r6:w6.frozen? ⟨w.heap.size,1,none⟩=false:=(ZY wo).trans HT.out.2.2.2;have tq:Typed w.heap.size 102 w6:=⟨_,_,zg (Zi:Ext wo w6) HR.out⟩)
    exact bodyPost_ret (v:= .agg #[.bool g6,.slice B6 n6 c6]) (by simp[results,Tryz.results64,go_sem,r3,r4]) rfl ⟨_,_,_,_,rfl,by rw[HFI.out];exact hz6.keeps,Step.of _ _⟩
theorem zbk(m:List (List Int))(R C:List Nat):(zS m R C).length=R.length:=by simp[zS]
theorem zhx(m:List (List Int))(R C:List Nat):AllLen (zS m R C) C.length:=fun r hr=>by
 obtain⟨x,_,rfl⟩:=List.mem_map.1 hr;simp
theorem BdM.sel(h:BdM b m)(R C:List Nat):BdM b (zS m R C):=fun i j=>by
 by_cases hi:i<R.length/\j<C.length
 ·have:ent (zS m R C) i j=ent m (R.getD i 0) (C.getD j 0):=by
   unfold ent zS;simp[List.getD,hi.1,hi.2,ent]
  rw[this];exact h _ _
 ·rw[qL (zhx m R C) (by rw[zbk];omega)];exact Bd.zero _
theorem zhy(h:MatV w0 A (zS m (zy k i) (zy k j)))(hk:k<8)(hb:BdM b m)(hb1:1<=b)(hbb:b<=1000000)[hx:Ext w0 w]:
  Cq 64 #[.slice A (k+1) c] w (zz w (detF (zS m (zy k i) (zy k j)))):=
 zef h (by rw[zbk,Qv]) aa aa (by have:=zhx m (zy k i) (zy k j);rwa [Qv]at this) (hb.sel _ _) hb1 hbb
theorem zcp(hk:k<=n)(hi:i<n):∀x∈zy k i,x<n:=fun x hx=>by
 unfold zy at hx;rcases List.mem_append.1 hx with hx|hx
 ·have:=List.mem_range.1 hx;omega
 ·have:x=i:=by simpa using hx
  omega
section
variable {P:Program} (w:World)
theorem zcq{ops:Array Oper}{rest:List Oper}{o:Oper}{a:Act}{Q:Exit->Act->World->Prop}(hgd:o.guard=none)(s x:Operand)(t:TypeId)
  (ho:o.op= .call {callee:= .builtin .append,args:=#[s,x],argTypes:=#[t,t]})
  (ze:Nat) (e:TypeId) (z:Value) (size bytes:Nat) (ht:P.underlying t=some (.slice e)) (hi:(P.info? e).map (fun i=>(i.zero,i.size,i.bytes))=some (some z,size,bytes))
  (hzs:z.cells.size=size) (hsz:0<size) (hb:bytes<=128)
  (A:Option Addr) (n c:Nat) (xs:List Value) (hs:a.eval s= .slice A n c) (zsq:Own w ze e size A n c xs)
  (ad:Addr) (m c':Nat) (news:List Value) (hx:a.eval x= .slice (some ad) m c') (zsA:Arr w (some ad) e news) (hl:news.length=m*size) (h1:∀u∈news,u.oneCell'=true)
  (h63:n+m<=1099511627776) (zsK:ze<=w.heap.size)
  (h:∀A1 c1 w',Own w' ze e size A1 (n+m) c1 (xs++news)->Grow ze e w w'->Grew A A1 w w'->wpList P ops Q rest (a.put o.dst (.slice A1 (n+m) c1)) w'):wpList P ops Q (o::rest) a w:=
 wpList_plain hgd fun _ hK=>by
  obtain⟨A1,c1,w',zsV,h2,h3,h4⟩:=zdJ (P:=P) w ze t o.type e z size bytes ht hi hzs hsz hb A n c xs zsq ad m c' news zsA hl h1 h63 zsK;unfold Oper.wp execOp;simp only[ho,resolve,invoke,builtin,Sem.run_bind,Sem.run_pure,Result.andThen_ok,List.map_toArray,List.map_cons,List.map_nil,hs,hx,zsV];exact hK _ _ (h A1 c1 w' h2 h3 h4)
end
def Sep(A B:Option Addr):Prop:=∀a b,A=some a->B=some b->a.block≠b.block
theorem Own.grew{size:Nat}{e:TypeId}{A':Option Addr}{xs:List Value}(h:Own w ze e size B n c xs)(hg:Grew A A' w w')(hs:Sep A B):Own w' ze e size B n c xs/\Sep A' B:=by
 refine⟨⟨h.1,?_⟩,fun a' b ha' hb=>?_⟩
 ·rcases h.2 with hv|⟨g,cap,cur,hv,h1,h2,h3⟩
  ·exact .inl hv
  ·refine .inr ⟨g,cap,cur,hv,h1,(hg.block g (zi h2) fun a ha=>?_).trans h2,h3⟩;injection hv with hB
   exact hs a _ ha hB
 ·rcases hg.own a' ha' with ⟨a,ha,hab⟩|hle
  ·rw[<-hab];exact hs a b ha hb
  ·have:=h.blockLt b hb;omega
theorem Sep.symm(h:Sep A B):Sep B A:=fun a b ha hb e=>h b a hb ha e.symm
theorem zcr(W:World)(x:Int):Arr (W.alloc (.cells #[.int .i64 x] 3)) (some ⟨W.heap.size,0,none⟩) 3 [.int .i64 x]:=Arr.new W 3 #[.int .i64 x]
theorem zeg(h:MatV w0 A m)(h1:m.length=n)(h4:n<=8)(hn:AllLen m n)(hb:BdM b m)(hb1:1<=b)(hbb:b<=1000000)(hi:i<n)(hj:j<n)[hx:Ext w0 w]:
  Cq 145 #[.slice A n c,.int .i64 i,.int .i64 j] w (zz w (detF (zS m (zy j i) (zy j j)))):=by
 have h0:=h.ext hx;have HSE:Hid (∀(W1 W2 W:World)(A1 A2:Option Addr)(c1 c2:Nat),Ints W1 A1 3 .i64 (zW (zy j i))->Ints W2 A2 3 .i64 (zW (zy j j))->Ext w W->Ext W1 W->Ext W2 W->Cq 122 #[.slice A n c,.slice A1 (j+1) c1,.slice A2 (j+1) c2] W (zaZ W (zS m (zy j i) (zy j j)))):=Zh (fun W1 W2 W A1 A2 c1 c2 e1 e2 x0 x1 x2=>by
  have:=zhw (w:=W) (c:=c) (cR:=c1) (cC:=c2) h0 e1 e2 hn (by rw[Qv];omega) (by rw[Qv];omega) (by rw[h1];exact zcp aa hi) (zcp aa hj);rw[h1,Qv,Qv]at this;exact this)
 have HDT:Hid (∀(W1 W:World)(A1:Option Addr)(c1:Nat),MatV W1 A1 (zS m (zy j i) (zy j j))->Ext W1 W->Cq 64 #[.slice A1 (j+1) c1] W (zz W (detF (zS m (zy j i) (zy j j))))):=Zh (fun W1 W A1 c1 hM e1=>zhy hM aa hb hb1 hbb);have hsl:(zS m (zy j i) (zy j j)).length=j+1:=by rw[zbk,Qv]
 have HSL:=Zh hsl;have hij:i<=1000000:=aa
 clear hn hb hsl h1;generalize detF (zS m (zy j i) (zy j j))=D at*
 go_enter Tryz.func145,Tryz.ntmps145;go_wp2;go_loopw [7,8,9] (fun s7 s8 s9 wr=>∃(q:Nat) (A1 A2:Option Addr) (c1 c2:Nat),q<=j/\s9= .int .i64 q/\s7= .slice A1 q c1/\s8= .slice A2 q c2/\Hid (Own wr (w.heap.size+1) 3 1 A1 q c1 ((zW (List.range q)).map (Value.int .i64)))/\Hid (Own wr (w.heap.size+1) 3 1 A2 q c2 ((zW (List.range q)).map (Value.int .i64)))/\Hid (Sep A1 A2)/\w.heap.size<wr.heap.size/\Hid (wr.heap[w.heap.size]? =some (.cells #[.bool false,.slice none 0 0] 102 (0,0)))/\Ext w wr) (fun _ _ s9 _=>j-(intOf s9).toNat)
 case atStart=>exact⟨0,none,none,0,0,aa,rfl,rfl,rfl,Zh (Own.nil _ _ _ _),Zh (Own.nil _ _ _ _),Zh (fun a b ha=>by cases ha),af,Zh BlkAt.eq,Zi⟩
 case round=>
  obtain⟨q,A1,A2,c1,c2,hq,rfl,rfl,rfl,HO1,HO2,HSP,hsz,HR,hxr⟩:=hrel;by_cases hlt:q<j
  ·go_wp2_with (first
    |(at_builtin;refine zcq _ rfl (.tmp 15) (.tmp 17) 85 rfl (w.heap.size+1) 3 (.int .i64 0) 1 8 Tryz.underlying85 JO rfl aa aa A1 q c1 ((zW (List.range q)).map (Value.int .i64)) rfl (HO1.out.ext Zi) ⟨wr.heap.size,0,none⟩ 1 1 [.int .i64 q] rfl (zcr wr q) rfl (zay _) aa (by simp;omega) ?_;intro A3 c3 w3 zsq hg hgr;have HO3:=Zh (zaz zsq);obtain⟨hoa,hsa⟩:=(HO2.out.ext (Zi:Ext wr (wr.alloc (.cells #[.int .i64 q] 3)))).grew hgr HSP.out;have zrB:=Zh hoa;have HSa:=Zh hsa;have HGa:=Zh hg;have zxh:w.heap.size+1<w3.heap.size:=(by have:=hg.below.size;simp at this;omega);have zsR:Ext w w3:=hg.ext Zi aa;have HRa:=Zh ((hg.below.block w.heap.size aa).trans (zg (Zi:Ext wr (wr.alloc (.cells #[.int .i64 q] 3))) HR.out));clear zsq hg hgr hoa hsa)
    |(at_builtin;refine zcq _ rfl (.tmp 19) (.tmp 21) 85 rfl (w.heap.size+1) 3 (.int .i64 0) 1 8 Tryz.underlying85 JO rfl aa aa A2 q c2 ((zW (List.range q)).map (Value.int .i64)) rfl (zrB.out.ext Zi) ⟨w3.heap.size,0,none⟩ 1 1 [.int .i64 q] rfl (zcr w3 q) rfl (zay _) aa (by simp;omega) ?_;intro A4 c4 w4 zsq hg hgr;have HO4:=Zh (zaz zsq);obtain⟨hoa,hsa⟩:=(HO3.out.ext (Zi:Ext w3 (w3.alloc (.cells #[.int .i64 q] 3)))).grew hgr HSa.out.symm;have zrC:=Zh hoa;have HSb:=Zh hsa;have zvP:w.heap.size<w4.heap.size:=(by have:=hg.below.size;simp at this;omega);have ztY:Ext w w4:=hg.ext Zi aa;have HRb:=Zh ((hg.below.block w.heap.size aa).trans (zg (Zi:Ext w3 (w3.alloc (.cells #[.int .i64 q] 3))) HRa.out));clear zsq hg hgr hoa hsa))
   exact⟨⟨q+1,A3,A4,c3,c4,aa,by go_num,rfl,rfl,Zh (by rw[zee];exact zrC.out),Zh (by rw[zee];exact HO4.out),Zh HSb.out.symm,zvP,HRb,ztY⟩,by simp[intOf]<;>omega⟩
  ·obtain rfl:q=j:=aa
   have ei:zW (zy q i)=zW (List.range q)++[(i:Int)]:=by simp[zW,zy]
   have ej:zW (zy q q)=zW (List.range q)++[(q:Int)]:=by simp[zW,zy]
   have HEI:=Zh ei;have HEJ:=Zh ej;clear ei ej;go_wp2_with (first
    |(at_builtin;refine zcq _ rfl (.tmp 24) (.tmp 26) 85 rfl (w.heap.size+1) 3 (.int .i64 0) 1 8 Tryz.underlying85 JO rfl aa aa A1 q c1 ((zW (List.range q)).map (Value.int .i64)) rfl (HO1.out.ext Zi) ⟨wr.heap.size,0,none⟩ 1 1 [.int .i64 i] rfl (zcr wr i) rfl (zay _) aa (by simp;omega) ?_;intro A3 c3 w3 zsq hg hgr;have HO3:=Zh (zaz zsq);obtain⟨hoa,hsa⟩:=(HO2.out.ext (Zi:Ext wr (wr.alloc (.cells #[.int .i64 i] 3)))).grew hgr HSP.out;have zrB:=Zh hoa;have HSa:=Zh hsa;have zxh:w.heap.size+1<w3.heap.size:=(by have:=hg.below.size;simp at this;omega);have zsR:Ext w w3:=hg.ext Zi aa;have HRa:=Zh ((hg.below.block w.heap.size aa).trans (zg (Zi:Ext wr (wr.alloc (.cells #[.int .i64 i] 3))) HR.out));clear zsq hg hgr hoa hsa)
    |(at_builtin;refine zcq _ rfl (.tmp 28) (.tmp 30) 85 rfl (w.heap.size+1) 3 (.int .i64 0) 1 8 Tryz.underlying85 JO rfl aa aa A2 q c2 ((zW (List.range q)).map (Value.int .i64)) rfl (zrB.out.ext Zi) ⟨w3.heap.size,0,none⟩ 1 1 [.int .i64 q] rfl (zcr w3 q) rfl (zay _) aa (by simp;omega) ?_;intro A4 c4 w4 zsq hg hgr;have HO4:=Zh (zaz zsq);obtain⟨hoa,hsa⟩:=(HO3.out.ext (Zi:Ext w3 (w3.alloc (.cells #[.int .i64 q] 3)))).grew hgr HSa.out.symm;have zrC:=Zh hoa;have zvP:w.heap.size<w4.heap.size:=(by have:=hg.below.size;simp at this;omega);have ztY:Ext w w4:=hg.ext Zi aa;have HRb:=Zh ((hg.below.block w.heap.size aa).trans (zg (Zi:Ext w3 (w3.alloc (.cells #[.int .i64 q] 3))) HRa.out));have hI3:Ints w4 A3 3 .i64 (zW (zy q i)):=(by rw[HEI.out];exact zrC.out.arr);have hI4:Ints w4 A4 3 .i64 (zW (zy q q)):=(by rw[HEJ.out];exact HO4.out.arr);clear zsq hg hgr hoa hsa)
    |(go_at_call 122;refine(HSE.out w4 w4 w4 A3 A4 c3 c4 hI3 hI4 ztY (Ext.refl _) (Ext.refl _)).mono ?_;rintro e w5 ⟨A5,c5,rfl,hM5,-,-,hs5⟩;rw[HSL.out])
    |(go_at_call 64;refine(HDT.out _ _ _ _ hM5 Zi).mono ?_;rintro e w6 ⟨g6,B6,k6,d6,rfl,hz6,hs6⟩;have HRc:Hid (w6.heap[w.heap.size]? =some (.cells #[.bool false,.slice none 0 0] 102 (0,0))):=Zh (zg (Zi:Ext w4 w6) HRb.out);obtain⟨t1,t2,t3,t4,t5⟩:=zN HRc.out;have tq:Typed w.heap.size 102 w6:=⟨_,_,HRc.out⟩))
   exact bodyPost_ret (v:= .agg #[.bool g6,.slice B6 k6 d6]) (by simp[results,Tryz.results145,go_sem,t1,t2]) rfl ⟨_,_,_,_,rfl,hz6.keeps,Step.of _ _⟩
theorem znR(a:List (List Int))(k n f:Nat):∀p,p+f=n->ZO a k f p<=n:=by
 induction f with
 |zero=>intro p h;simp[ZO];omega
 |succ f ih=>
  intro p h;simp only[ZO];split
  ·exact ih (p+1) aa
  ·omega
theorem znS(a:List (List Int))(p k:Nat):(jn a p k).length=a.length:=by simp[jn]
theorem znT(f:Nat):∀(k:Nat)(zd:Int)(neg:Bool)(a:List (List Int)),k+f=n->a.length=n->Bd (ZP b k) zd->BdM (ZP b k) a->Bd (ZP b n) (Qd n f k zd neg a):=by
 induction f with
 |zero=>
  intro k zd neg a hk hl hb _;obtain rfl:k=n:=aa
  simp only[Qd]
  cases neg
  ·exact hb
  ·exact hb.neg
 |succ f ih=>
  intro k zd neg a hk hl hb ha;have hp:=znR a k n (n-k) k aa;simp only[Qd];generalize ZO a k (n-k) k=p at*
  split
  ·exact Bd.zero _
  ·split
   ·have hs:=ha.swap (p:=p) (q:=k) aa aa;refine ih (k+1) _ _ _ aa (zr _ _ _) ((hs k k).mono (zed aa)) ?_;rw[zd7];exact hs.elim n k zd
   ·refine ih (k+1) _ _ _ aa (zr _ _ _) ((ha k k).mono (zed aa)) ?_;rw[zd7];exact ha.elim n k zd
theorem zeh(hl:m.length=n)(h8:n<=8)(hb1:1<=b)(hb:BdM b m):Bd (256*(b+1)) (detF m):=by
 refine Bd.mono ?_ (zhc h8);unfold detF;rw[hl];exact znT n 0 1 false m aa hl (by rw[zci];exact Bd.one hb1) (by rw[zci];exact hb)
theorem zbl(hk:k<8)(hb1:1<=b)(hb:BdM b m):Bd (256*(b+1)) (detF (zS m (zy k i) (zy k j))):=
 zeh (n:=k+1) (by rw[zbk,Qv]) aa hb1 (hb.sel _ _)
def znU(w:World)(zs:List Int)(e:Ending)(w':World):Prop:=∃B d,e= .returned (.tuple #[.slice B zs.length d,.bool true])/\IntsV w' B zs/\zs.length<=d/\d<=9223372036854775807/\Step w w'
theorem j7(m:List (List Int)):(zt m).length=m.length:=by simp[zt]
theorem zhz(hk:k<m.length):(zt m).getD k 0=detF (zS m (zy k k) (zy k k)):=by simp[zt,List.getD,hk]
theorem zbm(h8:m.length<=8)(hb1:1<=b)(hb:BdM b m):BdL (256*(b+1)) (zt m):=fun i=>by
 by_cases hi:i<m.length
 ·rw[zhz hi];exact zbl aa hb1 hb
 ·rw[List.getD_eq_getElem?_getD,List.getElem?_eq_none (by rw[j7];omega)];exact Bd.zero _
theorem zhA(h:MatV w0 A m)(h1:m.length=n)(h3:1<=n)(h4:n<=8)(hn:AllLen m n)(hb:BdM b m)(hb1:1<=b)(hbb:b<=1000000)[hx:Ext w0 w]:
  Cq 141 #[.slice A n c] w (znU w (zt m)):=by
 have h0:=h.ext hx;have HSQ:Hid (∀W,Ext w W->Cq 49 #[.slice A n c] W (zA W (.tuple #[.int .i64 n,.bool true]))):=Zh (fun W e1=>by
  have:=zhk (w:=W) (c:=c) h0 aa aa (by rw[h1];exact hn);rwa [h1]at this)
 have HSE:Hid (∀(W1 W2 W:World)(A1 A2:Option Addr)(c1 c2 k:Nat),k<n->Ints W1 A1 3 .i64 (zW (zy k k))->Ints W2 A2 3 .i64 (zW (zy k k))->Ext w W->Ext W1 W->Ext W2 W->Cq 122 #[.slice A n c,.slice A1 (k+1) c1,.slice A2 (k+1) c2] W (zaZ W (zS m (zy k k) (zy k k)))):=Zh (fun W1 W2 W A1 A2 c1 c2 k hk e1 e2 x0 x1 x2=>by
  have:=zhw (w:=W) (c:=c) (cR:=c1) (cC:=c2) h0 e1 e2 hn (by rw[Qv];omega) (by rw[Qv];omega) (by rw[h1];exact zcp aa hk) (zcp aa hk);rw[h1,Qv]at this;exact this)
 have HDT:Hid (∀(W1 W:World)(A1:Option Addr)(c1 k:Nat),k<n->MatV W1 A1 (zS m (zy k k) (zy k k))->Ext W1 W->Cq 64 #[.slice A1 (k+1) c1] W (zz W ((zt m).getD k 0))):=Zh (fun W1 W A1 c1 k hk hM e1=>by
  rw[zhz aa];exact zhy hM aa hb hb1 hbb)
 have HLL:Hid ((zt m).length=n):=Zh (by rw[j7];exact h1);have HSL:Hid (∀k,(zS m (zy k k) (zy k k)).length=k+1):=Zh (fun k=>by rw[zbk,Qv]);have HFL:Hid (∀k,(zW (zy k k)).length=k+1):=Zh (fun k=>by rw[zht,Qv]);have HFI:Hid (∀(W:World)(k:Nat),k<n->Cq 205 #[.int .i64 k,.int .i64 k] W (zhs W (zW (zy k k)))):=Zh (fun W k hk=>znO k k aa);clear hn hb h1;go_enter Tryz.func141,Tryz.ntmps141
 go_wp2_with (go_at_call 49;refine(HSQ.out _ Zi).mono ?_;rintro e w1 ⟨rfl,hs1⟩)
 go_loopw [6,7] (fun s6 i wr=>∃(q:Nat) (A1:Option Addr) (c1:Nat) (vs:List Value),q<=n/\i= .int .i64 q/\s6= .slice A1 q c1/\Hid (Own wr w.heap.size 102 2 A1 q c1 vs)/\Hid (VsOf wr vs ((zt m).take q))/\Ext w wr) (fun _ i _=>n-(intOf i).toNat)
 case atStart=>exact⟨0,none,0,[],aa,rfl,rfl,Zh (Own.nil _ _ _ _),Zh (fun i z hz=>by simp at hz),Zi⟩
 case round=>
  obtain⟨q,A1,c1,vs,hq,rfl,rfl,HO,HV,hxr⟩:=hrel;by_cases hlt:q<n
  ·have HF:=Zh (fun W=>HFI.out W q hlt);go_wp2_with fail
   refine(HF.out _).mono ?_;rintro e w2 ⟨A2,c2,rfl,hI2,-,-,hs2⟩;rw[HFL.out];go_wp2_with fail
   refine(HF.out _).mono ?_;rintro e w3 ⟨A3,c3,rfl,hI3,-,-,hs3⟩;rw[HFL.out];go_wp2_with fail
   refine(HSE.out w2 w3 w3 A2 A3 c2 c3 q hlt hI2 hI3 Zi Zi Zi).mono ?_;rintro e w4 ⟨A4,c4,rfl,hM4,-,-,hs4⟩;rw[HSL.out];go_wp2_with fail
   refine(HDT.out w4 w4 A4 c4 q hlt hM4 Zi).mono ?_;rintro e w5 ⟨g5,B5,k5,d5,rfl,hz5,hs5⟩;have hx5:Ext wr w5:=Zi;have HZ5:=Zh hz5;clear hz5 hM4 hI2 hI3;go_wp2_with (at_builtin;refine Zp _ rfl _ _ 95 rfl w.heap.size 102 (.agg #[.bool false,.slice none 0 0]) 2 32 Tryz.underlying95 j3 rfl aa aa A1 q c1 vs rfl (HO.out.ext Zi) (some ⟨w5.heap.size,0,none⟩) 1 1 [.bool g5,.slice B5 k5 d5] rfl (Arr.new w5 102 #[.bool g5,.slice B5 k5 d5]) rfl (zhu _ _ _ _) aa (by have:=(hxr.trans hx5).size;simp;omega) ?_;intro A6 c6 w6 zsq hg;have HO6:=Zh zsq;have HG6:=Zh hg;have hx6:Ext w w6:=hg.ext Zi Zr;clear zsq hg)
   refine⟨⟨q+1,A6,c6,vs++[.bool g5,.slice B5 k5 d5],aa,by go_num,rfl,HO6,Zh ?_,hx6⟩,by simp[intOf]<;>omega⟩;have hxa:Ext w5 (w5.alloc (.cells #[.bool g5,.slice B5 k5 d5] 102)):=Zi;have hv5:VsOf (w5.alloc (.cells #[.bool g5,.slice B5 k5 d5] 102)) (vs++[.bool g5,.slice B5 k5 d5]) ((zt m).take q++[(zt m).getD q 0]):=VsOf.snoc (HV.out.map fun hz=>(hz.ext hx5).ext hxa) (by rw[HO.out.len,length_take,HLL.out,Nat.min_eq_left hq]) (HZ5.out.ext hxa)
   rw[zco (by rw[HLL.out];exact hlt)];exact hv5.grow HG6.out ac
  ·obtain rfl:q=n:=aa
   go_wp2;go_ret2
   have h2:=HV.out;rw[List.take_of_length_le (by rw[HLL.out];exact Zr)]at h2;exact⟨A1,c1,by rw[HLL.out];rfl,h2.intsV (by rw[HO.out.len,HLL.out]) HO.out.arr (Ext.refl _),by rw[HLL.out];exact HO.out.cap.1,HO.out.cap.2,hxr.toStep⟩
def zaA(m:List (List Int))(n:Nat):Prop:=∀i,i<n->∀j,j<i->ent m i j=ent m j i
theorem znV(h:x≠y):(zo x y !=0)=true:=by
 unfold zo;by_cases h1:x<y
 ·rw[if_pos h1];rfl
 ·rw[if_neg h1,if_neg h];rfl
theorem zcs :decide (zo x y<=0)=decide (x<=y):=by
 unfold zo;by_cases h1:x<y
 ·rw[if_pos h1];simp;omega
 ·rw[if_neg h1];by_cases h2:x=y
  ·rw[if_pos h2];simp;omega
  ·rw[if_neg h2];simp;omega
theorem znW :decide (0<=zo x y)=decide (y<=x):=by
 unfold zo;by_cases h1:x<y
 ·rw[if_pos h1];simp;omega
 ·rw[if_neg h1];by_cases h2:x=y
  ·rw[if_pos h2];simp;omega
  ·rw[if_neg h2];simp;omega
theorem zei(s:Bool)(hs:s=true↔zaA m n)(h:MatV w0 A m)(h1:m.length=n)(h3:1<=n)(h4:n<=16)(hn:AllLen m n)(hb:BdM b m)(hbb:b<=1000000)[hx:Ext w0 w]:
  Cq 139 #[.slice A n c] w (zA w (.bool s)):=by
 have h0:=h.ext hx;have HA:=Zh hn;have HL:=Zh h1;have HB:=Zh hb;have HS:=Zh hs;clear hn h1 hb hs;go_enter Tryz.func139,Tryz.ntmps139;go_wp2;go_loopw [3,4,7] (fun _ _ i wr=>∃k:Nat,k<=n/\i= .int .i64 k/\Hid (zaA m k)/\Ext w wr) (fun _ _ i _=>n-(intOf i).toNat)
 case atStart=>exact⟨0,aa,rfl,Zh (fun i hi=>aa),Zi⟩
 case round=>
  obtain⟨k,hk,rfl,HSM,hxr⟩:=hrel;by_cases hlt:k<n
  ·go_wp2;go_loopw [4] (fun j wr=>∃q:Nat,q<=k/\j= .int .i64 q/\Hid (∀j,j<q->ent m k j=ent m j k)/\Ext w wr) (fun j _=>k-(intOf j).toNat)
   case atStart=>exact⟨0,aa,rfl,Zh (fun i hi=>aa),Zi⟩
   case round=>
    obtain⟨q,hq,rfl,HE,hxq⟩:=hrel;by_cases zsz:q<k
    ·have hqn:q<n:=aa
     obtain⟨b1,o1,b2,o2,c2,g1,B1,n1,d1,rfl,e1,e2,e3,hz1,hb1,hb2,-,-⟩:=(h0.ext hxq).entry HA.out (i:=k) (j:=q) (by rw[HL.out];exact hlt) aa;obtain⟨b3,o3,b4,o4,c4,g2,B2,n2,d2,hh,f1,f2,f3,hz2,hb3,hb4,-,-⟩:=(h0.ext hxq).entry HA.out (i:=q) (j:=k) (by rw[HL.out];omega) hlt;injection hh with hh
     injection hh with y1 y2
     subst y1 y2;have HC:=Zh (fun W(hh:Ext wr W)=>za6 (w:=W) hz1 hz2 (by have:=hz1.bd (HB.out k q) aa;omega) (by have:=hz2.bd (HB.out q k) aa;omega));have HLL:Hid (∀W,Ext wr W->W.cell? ⟨b1,o1+k,none⟩=some (.slice (some ⟨b2,o2,none⟩) n c2)/\W.cell? ⟨b2,o2+q*2,none⟩=some (.bool g1)/\W.cell? ⟨b2,o2+q*2+1,none⟩=some (.slice B1 n1 d1)/\W.cell? ⟨b1,o1+q,none⟩=some (.slice (some ⟨b4,o4,none⟩) n c4)/\W.cell? ⟨b4,o4+k*2,none⟩=some (.bool g2)/\W.cell? ⟨b4,o4+k*2+1,none⟩=some (.slice B2 n2 d2)):=Zh (fun W hh=>⟨(hh.below.cell (p:=⟨b1,o1+k,none⟩) hb1).trans e1,(hh.below.cell (p:=⟨b2,o2+q*2,none⟩) hb2).trans e2,(hh.below.cell (p:=⟨b2,o2+q*2+1,none⟩) hb2).trans e3,(hh.below.cell (p:=⟨b1,o1+q,none⟩) hb1).trans f1,(hh.below.cell (p:=⟨b4,o4+k*2,none⟩) hb4).trans f2,(hh.below.cell (p:=⟨b4,o4+k*2+1,none⟩) hb4).trans f3⟩)
     clear hz1 hz2 e1 e2 e3 f1 f2 f3;by_cases heq:ent m k q=ent m q k
     ·have hcz:zo (ent m k q) (ent m q k)=0:=Qm heq;rw[hcz]at HC;have HE2:Hid (∀j,j<q+1->ent m k j=ent m j k):=Zh (fun j hj=>by
       by_cases e:j=q
       ·rw[e];exact heq
       ·exact HE.out j aa)
      clear heq hcz;go_wp2_with fail
      go_region_held3 (fun w'=>w'.cell? ⟨b1,o1+k,none⟩=some (.slice (some ⟨b2,o2,none⟩) n c2)/\w'.cell? ⟨b2,o2+q*2,none⟩=some (.bool g1)/\w'.cell? ⟨b2,o2+q*2+1,none⟩=some (.slice B1 n1 d1)/\w'.cell? ⟨b1,o1+q,none⟩=some (.slice (some ⟨b4,o4,none⟩) n c4)/\w'.cell? ⟨b4,o4+k*2,none⟩=some (.bool g2)/\w'.cell? ⟨b4,o4+k*2+1,none⟩=some (.slice B2 n2 d2)) (exact HLL.out _ Zi)
       ((go_at_call 106;refine(HC.out _ Zi).mono ?_;rintro e w5 ⟨rfl,hs5⟩))
      go_wp2_with fail
      exact⟨⟨q+1,aa,by go_num,HE2,Zi⟩,by simp[intOf]<;>omega⟩
     ·have hcz:=znV heq;generalize zo (ent m k q) (ent m q k)=cs at*
      have HF:Hid (s=false):=Zh (by
       cases s with
       |false=>rfl
       |true=>exact absurd (HS.out.1 rfl k hlt q zsz) heq)
      clear heq;go_wp2_with fail
      go_region_held3 (fun w'=>w'.cell? ⟨b1,o1+k,none⟩=some (.slice (some ⟨b2,o2,none⟩) n c2)/\w'.cell? ⟨b2,o2+q*2,none⟩=some (.bool g1)/\w'.cell? ⟨b2,o2+q*2+1,none⟩=some (.slice B1 n1 d1)/\w'.cell? ⟨b1,o1+q,none⟩=some (.slice (some ⟨b4,o4,none⟩) n c4)/\w'.cell? ⟨b4,o4+k*2,none⟩=some (.bool g2)/\w'.cell? ⟨b4,o4+k*2+1,none⟩=some (.slice B2 n2 d2)) (exact HLL.out _ Zi)
       ((go_at_call 106;refine(HC.out _ Zi).mono ?_;rintro e w5 ⟨rfl,hs5⟩))
      go_wp2_with fail
      go_ret;exact⟨by rw[HF.out];rfl,Step.of _ _⟩
    ·obtain rfl:q=k:=aa
     have zr6:Hid (zaA m (q+1)):=Zh (fun i hi j hj=>by
      by_cases e:i=q
      ·subst e;exact HE.out j hj
      ·exact HSM.out i aa j hj)
     go_wp2;exact⟨⟨q+1,aa,by go_num,zr6,hxq⟩,by simp[intOf]<;>omega⟩
  ·obtain rfl:k=n:=aa
   have HF:Hid (s=true):=Zh (HS.out.2 HSM.out);go_wp2;go_ret;exact⟨by rw[HF.out];rfl,hxr.toStep⟩
def j8(m:List (List Int)):Prop:=zaA m m.length/\∀x∈zt m,0<x
theorem znX(s:Bool)(hs:s=true↔∀x∈zt m,0<x)(zsw:zaA m n)(h:MatV w0 A m)(h1:m.length=n)(h3:1<=n)(h4:n<=8)(hn:AllLen m n)(hb:BdM b m)(hb1:1<=b)(hbb:b<=1000000)[hx:Ext w0 w]:
  Cq 140 #[.slice A n c] w (zA w (.bool s)):=by
 have h0:=h.ext hx;have HLE:=Zh (fun W(e1:Ext w W)=>zhA (w:=W) (c:=c) h0 h1 h3 h4 hn hb hb1 hbb);have HSY:=Zh (fun W(e1:Ext w W)=>zei (w:=W) (c:=c) true ⟨fun _=>zsw,fun _=>rfl⟩ h0 h1 h3 aa hn hb hbb);have HLL:Hid ((zt m).length=n):=Zh (by rw[j7];exact h1);have HBL:=Zh (zbm aa hb1 hb);have HS:=Zh hs;clear hn hb zsw hs h1;go_enter Tryz.func140,Tryz.ntmps140;go_wp2_with (first
  |(go_at_call 141;refine(HLE.out _ Zi).mono ?_;rintro e w1 ⟨A1,c1,rfl,hI1,-,-,hs1⟩;rw[HLL.out];have HI:=Zh hI1;clear hI1)
  |(go_at_call 139;refine(HSY.out _ Zi).mono ?_;rintro e w2 ⟨rfl,hs2⟩))
 go_loopw [6,21] (fun _ i wr=>∃q:Nat,q<=n/\i= .int .i64 q/\Hid (∀x∈(zt m).take q,0<x)/\Ext w1 wr) (fun _ i _=>n-(intOf i).toNat)
 case atStart=>exact⟨0,aa,rfl,Zh (fun x hx=>by simp at hx),Zi⟩
 case round=>
  obtain⟨q,hq,rfl,HP,hxr⟩:=hrel;have hxw:Ext w wr:=Ext.trans Zi hxr;by_cases hlt:q<n
  ·obtain⟨b3,o3,g3,B3,n3,c3,rfl,hc3,hc4,hz3,hb3⟩:=(HI.out.ext hxr).atD (i:=q) (by rw[HLL.out];exact hlt);have l3:=hz3.bd (HBL.out q) aa;have HSG:=Zh (fun W(hh:Ext wr W)=>jA (w:=W) hz3 aa);have htk:=zco (l:=zt m) (q:=q) (by rw[HLL.out];exact hlt);have hle:=zcs (x:=(zt m).getD q 0) (y:=0);have zr7:Hid ((zt m).getD q 0∈zt m):=Zh (by
    have:q<(zt m).length:=by rw[HLL.out];exact hlt
    simp[List.getD,this])
   have HTK:=Zh htk;by_cases zsC:0<(zt m).getD q 0
   ·have hd:decide (zo ((zt m).getD q 0) 0<=0)=false:=by rw[hle];simp only[decide_eq_false_iff_not];omega
    have HP2:Hid (∀x∈(zt m).take (q+1),0<x):=Zh (fun x hx=>by
     rw[HTK.out]at hx;rcases List.mem_append.1 hx with hx|hx
     ·exact HP.out x hx
     ·have:x=(zt m).getD q 0:=by simpa using hx
      rw[this];exact zsC)
    generalize zo ((zt m).getD q 0) 0=cs at*
    clear hz3 l3 htk hle zsC;go_wp2_with (go_at_call 126;refine(HSG.out _ Zi).mono ?_;rintro e w6 ⟨rfl,hs6⟩)
    exact⟨⟨q+1,aa,by go_num,HP2,Zi⟩,by simp[intOf]<;>omega⟩
   ·have hd:decide (zo ((zt m).getD q 0) 0<=0)=true:=by rw[hle];simp only[decide_eq_true_eq];omega
    have HF:Hid (s=false):=Zh (by
     cases s with
     |false=>rfl
     |true=>exact absurd (HS.out.1 rfl _ zr7.out) zsC)
    generalize zo ((zt m).getD q 0) 0=cs at*
    clear hz3 l3 htk hle zsC;go_wp2_with (go_at_call 126;refine(HSG.out _ Zi).mono ?_;rintro e w6 ⟨rfl,hs6⟩)
    go_ret;exact⟨by rw[HF.out];rfl,Step.of _ _⟩
  ·obtain rfl:q=n:=aa
   have HF:Hid (s=true):=Zh (by
    have h2:=HP.out;rw[List.take_of_length_le (by rw[HLL.out];exact Zr)]at h2;exact HS.out.2 h2)
   go_wp2_with fail
   go_ret;exact⟨by rw[HF.out];rfl,hxw.toStep⟩
theorem zhB(s:Bool)(hs:s=true↔j8 m)(h:MatV w0 A m)(h1:m.length=n)(h3:1<=n)(h4:n<=8)(hn:AllLen m n)(hb:BdM b m)(hb1:1<=b)(hbb:b<=1000000)[hx:Ext w0 w]:
  Cq 71 #[.slice A n c] w (fun e w'=>∃v:Int,e= .returned (.int .i64 v)/\(v=0↔s=true)/\0<=v/\v<=5/\Step w w'):=by
 have h0:=h.ext hx;have HSQ:Hid (∀W,Ext w W->Cq 49 #[.slice A n c] W (zA W (.tuple #[.int .i64 n,.bool true]))):=Zh (fun W e1=>by
  have:=zhk (w:=W) (c:=c) h0 aa aa (by rw[h1];exact hn);rwa [h1]at this)
 have hd8:decide ((8:Int)<(n:Int))=false:=by simp;omega
 by_cases hsy:zaA m n
 ·have HSY:=Zh (fun W(e1:Ext w W)=>zei (w:=W) (c:=c) true ⟨fun _=>hsy,fun _=>rfl⟩ h0 h1 h3 aa hn hb hbb);have hs2:s=true↔∀x∈zt m,0<x:=by
   rw[hs];unfold j8;rw[h1];exact⟨fun h=>h.2,fun h=>⟨hsy,h⟩⟩
  have HDE:=Zh (fun W(e1:Ext w W)=>znX (w:=W) (c:=c) s hs2 hsy h0 h1 h3 h4 hn hb hb1 hbb);clear hs hs2 hsy hn hb h1
  cases s
  ·go_enter Tryz.func71,Tryz.ntmps71;go_wp2_with (first
    |(go_at_call 49;refine(HSQ.out _ Zi).mono ?_;rintro e w1 ⟨rfl,hs1⟩)
    |(go_at_call 139;refine(HSY.out _ Zi).mono ?_;rintro e w2 ⟨rfl,hs2⟩)
    |(go_at_call 140;refine(HDE.out _ Zi).mono ?_;rintro e w3 ⟨rfl,hs3⟩))
   go_ret;exact⟨5,rfl,af,aa,aa,Step.of _ _⟩
  ·go_enter Tryz.func71,Tryz.ntmps71;go_wp2_with (first
    |(go_at_call 49;refine(HSQ.out _ Zi).mono ?_;rintro e w1 ⟨rfl,hs1⟩)
    |(go_at_call 139;refine(HSY.out _ Zi).mono ?_;rintro e w2 ⟨rfl,hs2⟩)
    |(go_at_call 140;refine(HDE.out _ Zi).mono ?_;rintro e w3 ⟨rfl,hs3⟩))
   go_ret;exact⟨0,rfl,af,aa,aa,Step.of _ _⟩
 ·have HSY:=Zh (fun W(e1:Ext w W)=>zei (w:=W) (c:=c) false ⟨fun h=>(by cases h),fun h=>absurd h hsy⟩ h0 h1 h3 aa hn hb hbb);have HF:Hid (s=false):=Zh (by
   cases s with
   |false=>rfl
   |true=>exact absurd (by have:=(hs.1 rfl).1;rwa [h1]at this) hsy)
  clear hs hsy hn hb h1;go_enter Tryz.func71,Tryz.ntmps71;go_wp2_with (first
   |(go_at_call 49;refine(HSQ.out _ Zi).mono ?_;rintro e w1 ⟨rfl,hs1⟩)
   |(go_at_call 139;refine(HSY.out _ Zi).mono ?_;rintro e w2 ⟨rfl,hs2⟩))
  go_ret;exact⟨4,rfl,by rw[HF.out];simp,aa,aa,Step.of _ _⟩
theorem znY(h:MatV w0 A m)(h1:m.length=n)(h3:1<=n)(h4:n<=8)(hn:AllLen m n)(hb:BdM b m)(hb1:1<=b)(hbb:b<=1000000)[hx:Ext w0 w]:
  Cq 72 #[.slice A n c] w (zA w (.bool (decide (detF m<=10000)))):=by
 have HDT:=Zh (fun W(e1:Ext w0 W)=>zef (w:=W) (c:=c) h h1 h3 h4 hn hb hb1 hbb);have hbd:=zeh h1 h4 hb1 hb;have HC:Hid (∀(W1 W2 W:World)(g1:Bool)B1 n1 c1(g2:Bool)B2 n2 c2,IntV W1 g1 B1 n1 c1 (detF m)->IntV W2 g2 B2 n2 c2 10000->Ext W1 W->Ext W2 W->Cq 106 #[.agg #[.bool g1,.slice B1 n1 c1],.agg #[.bool g2,.slice B2 n2 c2]] W (zA W (.int .i64 (zo (detF m) 10000)))):=Zh (fun W1 W2 W g1 B1 n1 c1 g2 B2 n2 c2 ha hb e1 e2=>za6 ha hb (by have:=ha.bd hbd aa;omega) (by have:=hb.len (k:=1) ac;omega))
 have hle:=zcs (x:=detF m) (y:=10000);rw[<-hle];clear hle hbd hn hb h1;generalize detF m=D at*
 go_enter Tryz.func72,Tryz.ntmps72;go_wp2_with (first
  |(go_at_call 64;refine(HDT.out _ Zi).mono ?_;rintro e w1 ⟨g1,B1,k1,d1,rfl,hz1,hs1⟩)
  |(go_at_call 114;refine(QF 10000 aa aa _).mono ?_;rintro e w2 ⟨g2,B2,k2,d2,rfl,hz2,hs2⟩)
  |(go_at_call 106;refine(HC.out _ _ _ _ _ _ _ _ _ _ _ hz1 hz2 Zi Zi).mono ?_;rintro e w3 ⟨rfl,hs3⟩))
 go_ret;exact⟨rfl,Step.of _ _⟩
def zK(ds:List Int)(k:Nat):Int:=if k=0 then 1 else ds.getD (k-1) 0
theorem zbn{ds:List Int}(h:IntsV w0 A ds)(hl:ds.length=n)(hn:n<=1000)(hk:k<=n)[hx:Ext w0 w]:
  Cq 146 #[.slice A n c,.int .i64 k] w (zz w (zK ds k)):=by
 by_cases h0:k=0
 ·subst h0;go_enter Tryz.func146,Tryz.ntmps146;go_wp2_with (go_at_call 114;refine(QF 1 aa aa _).mono ?_;rintro e w2 ⟨g,B2,k2,d2,rfl,hz,hs2⟩;obtain⟨q0,q1,q2,q3,q4,q5⟩:=qG w w2 (.bool false) (.slice none 0 0) 102;have Q0:=Zh q0;clear q0)
  exact bodyPost_ret (v:= .agg #[.bool g,.slice B2 k2 d2]) (by simp[results,Tryz.results146,go_sem,q1,q2]) rfl ⟨_,_,_,_,rfl,hz.boxed ac Q0.out _ _,Step.of _ _⟩
 ·obtain⟨j,rfl⟩:∃j,k=j+1:=⟨k-1,aa⟩;obtain⟨b3,o3,g3,B3,n3,c3,rfl,hc3,hc4,hz3,hb3⟩:=(h.ext hx).atD (i:=j) aa;have HE:Hid (zK ds (j+1)=ds.getD j 0):=Zh (by unfold zK;rw[if_neg aa];rfl);have HZ:=Zh hz3;have hj1:(((j+1:Nat):Int)==0)=false:=by simp;omega
  have hjn:j<n:=aa
  obtain⟨jz,hjz⟩:∃jz:Int,jz=((j+1:Nat):Int):=⟨_,rfl⟩;have hjs:jz-1=(j:Int):=aa
  rw[<-hjz]at hj1|-
  have hjw:IntKind.i64.wrap (jz-1)=(j:Int):=by rw[hjs];exact Iw
  clear hz3 h0 hjz;go_enter Tryz.func146,Tryz.ntmps146;go_wp2_with fail
  exact bodyPost_ret (v:= .agg #[.bool g3,.slice B3 n3 c3]) (by simp[results,Tryz.results146,go_sem]) rfl ⟨_,_,_,_,rfl,by rw[HE.out];exact HZ.out.keeps,Step.of _ _⟩
end Go.Proofs.YtgoaelchibpffaaGreat
