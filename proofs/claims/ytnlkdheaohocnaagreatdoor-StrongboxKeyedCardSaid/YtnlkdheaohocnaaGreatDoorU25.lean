/- Whoever walks down with the secret signs what whoever walks down without it verifies, and the text of either walks the same way (StrongboxKeyed). No condition. -/
import Derived.Test.YtnlkdheaohocnaaGreatDoorU1
import Derived.Test.YtnlkdheaohocnaaGreatDoorU8
import Derived.Test.YtnlkdheaohocnaaGreatDoorU24
import Derived.Test.YtnlkdheaohocnaaGreatDoorU10
import Derived.Test.YtnlkdheaohocnaaGreatDoorU13
import Derived.Test.YtnlkdheaohocnaaGreatDoorU7
import Derived.Test.YtnlkdheaohocnaaGreatDoorShelf
import Derived.Lib.ConvBytes
set_option maxRecDepth 1000000
set_option maxHeartbeats 16000000
set_option linter.unusedVariables false
set_option linter.unusedSimpArgs false
namespace Go.Proofs.YtnlkdheaohocnaaGreatDoor
open Go.RowKit Go.Shelf
attribute [local go_sem] Oper.semAt_some
theorem uQ (b o c n:Nat) (x:UInt8) (RW:n≤4096) (w:World) (hx:w.cell? ⟨b,o,none⟩=some (.int .u8 (x.toNat:Int))):
 Calls Tryz.prog 108 #[.slice (some ⟨b,o,none⟩) 1 c,.int .i64 n] w fun e W'=>∃v,e=.returned v∧Ow W' w.heap.size 5 v (B8 (List.replicate n x))∧Below w.heap.size w W':=by
 by_cases h:n=0
 · subst h;exact BL _ _ _ _
 exact Eh b o c n x (by omega) RW w hx
theorem IJ (F:Fence) (Iy:F=Fence.wide) (hF:∀k,F.fn k) (nf:F.round=none) (Pp:F.depth=none) (n:Nat) (hn:3≤n) (A:Option Addr) (cap:Nat) (bs:List UInt8) (hl:bs.length≤300) (w:World) (hs:Sl w w.heap.size A (B8 bs)):
 CallsIn F n Tryz.prog 65 #[.slice A bs.length cap] w fun e W'=>e=.returned (.string ⟨(lH bs).toArray⟩)∧Below w.heap.size w W':=by
 have h1:1≤n:=by omega
 refine callsIn_of_wp_marks Tryz.func65 rfl (hF _) ?_ nf;simp only[Tryz.ntmps65,List.size_toArray,adz,List.length_nil,Nat.reduceAdd,Nat.reduceSub,Array.replicate_succ,Array.replicate_zero,List.push_toArray,List.append_toArray,adj,adh]
 gi_wp2
 gi_loop [3,4,5,13] (fun z _ _ i=>∃k:Nat,k≤bs.length∧z=.int .i64 bs.length∧i=.int .i64 k∧∀j (h:j<bs.length),j<k→bs[j]=0) (fun _ _ _ i=>bs.length-(intOf i).toNat)
 case atStart=>exact⟨0,adF _,rfl,rfl,fun j _ h=>by omega⟩
 case round=>
  obtain⟨k,hk,rfl,rfl,hz⟩:=hrel;have Hz:=ab hz;clear hz
  by_cases BN:∃h:k<bs.length,bs[k]=0
  · obtain⟨aV,h0⟩:=BN
    obtain⟨b,o,rfl,_,hc⟩:=hs.at_ aV;have Tx:=hc k aV;rw[h0] at Tx;clear hc;have H0:=ab h0;clear h0
    gi_wp2
    refine⟨⟨k+1,by omega,rfl,by go_num,fun j hj Fl=>?_⟩,by simp[intOf];omega⟩
    by_cases e:j=k
    · subst e;exact H0.out
    exact Hz.out j hj (by omega)
  have Vk:lz bs=k:=QS bs k hk Hz.out (fun h e=>BN ⟨h,e⟩);have Hlz:=ab Vk
  by_cases aV:k<bs.length
  · obtain⟨b,o,rfl,_,hc⟩:=hs.at_ aV
    have Tx:=hc k aV;have bN:((bs[k].toNat:Int)!=0)=true:=by simp;exact fun e=>BN ⟨aV,UInt8.toNat_inj.1 (by simpa using e)⟩
    clear hc Vk BN
    gi_wp2_with fail
    subst Iy;refine⟨trivial,?_⟩;obtain⟨W1,sW⟩:=ae (w.alloc (.cells #[.int .u8 (49:UInt8).toNat] 5))
    have gb:W1.cell? ⟨w.heap.size,0,none⟩=some (.int .u8 ((49:UInt8).toNat:Int)):=by rw[sW];exact World.cell?_alloc_new _ _ _ 0
    have G3:W1.heap.size=w.heap.size+1:=by rw[sW];simp
    have Mc:Below w.heap.size w W1:=by rw[sW];exact(adl _ w).alloc (adi _) _
    change CallsIn _ _ _ _ _ (w.alloc (.cells #[.int .u8 (((49:UInt8).toNat:Nat):Int)] 5)) _
    rw[←sW];refine callsIn_wide.2 ((uQ _ _ _ (k) 49 (by omega) W1 gb).mono ?_);rintro e w1 ⟨v,rfl,ho,bH⟩;obtain⟨Av,cv,rfl⟩:∃Av cv,v=.slice Av (k) cv:=by obtain⟨Av,cv,e,_⟩:=ho;exact⟨Av,cv,by simpa using e⟩
    gi_wp2_with fail
    have hHk:k≤300:=by omega
    have C6:Ow w1 w.heap.size 5 (.slice Av (k) cv) (B8 (List.replicate (k) 49)):=ho.mono (by omega);have Ei:Below w.heap.size w w1:=Mc.trans (bH.mono (by omega));clear ho bH Mc gb sW G3;obtain⟨B,hB⟩:=ae w1.heap.size;obtain⟨W2,j6⟩:=ae (w1.alloc (.cells #[.slice Av (k) cv] 22))
    have J6:Boxed W2 B 22 (.slice Av (k) cv):=by rw[j6,hB];exact Boxed.new _ _ _
    have jt:W2.heap.size=B+1:=by rw[j6,hB];simp
    have AD:w.heap.size≤B:=by rw[hB];exact Ei.size
    have uJ:Below w.heap.size w W2:=by rw[j6];exact Ei.alloc (by omega) _
    have oU:Ow W2 w.heap.size 5 (.slice Av (k) cv) (B8 (List.replicate (k) 49)):=by rw[j6];exact C6.alloc _
    rw[←j6];clear C6 Ei j6;have nh:=(hs.below uJ).mono (show w.heap.size≤W2.heap.size by omega);refine callsIn_wide.2 ((mz _ _ bs W2 nh (by omega)).mono ?_);rintro e w3 ⟨v,rfl,iW,b5⟩;obtain⟨A3,c3,rfl⟩:∃A3 c3,v=.slice A3 bs.reverse.length c3:=by obtain⟨Av,cv,e,_⟩:=iW;exact⟨Av,cv,by simpa using e⟩
    have Md:=iW.sl;have Ty:bs.reverse.length≤4096:=by simp;omega
    rw[←hB];clear hB
    gi_wp2_with fail
    have vY:=uP 256 58 (by omega) (by omega) (by omega) (by omega) A3 c3 bs.reverse Ty w3 Md;rw[List.length_reverse] at vY;refine callsIn_wide.2 (vY.mono ?_);clear vY;rintro e w4 ⟨v,rfl,rK,gg⟩;rw[List.reverse_reverse] at rK;obtain⟨ds,Me⟩:=ae (dk 256 58 bs);rw[←Me] at rK;have Tu:ds.length≤8192:=by rw[Me];have:=rQ 256 58 (by omega) (by omega) bs;omega
    have Tz:∀d∈ds,d.toNat<58:=by rw[Me];exact uO 256 58 (by omega) (by omega) bs
    have Hds:=ab Me;clear Me;obtain⟨A4,c4,rfl⟩:∃A4 c4,v=.slice A4 ds.length c4:=by obtain⟨Av,cv,e,_⟩:=rK;exact⟨Av,cv,by simpa using e⟩
    gi_wp2_with (gi_at_call 109;refine(yh Fence.wide hF nf _ _ _ _ _).mono ?_;rintro e w' ⟨rfl,rfl⟩)
    obtain⟨Bs,rf⟩:=ae w4.heap.size;obtain⟨W0,bD⟩:=ae (w4.alloc (.cells #[.slice A4 ds.length c4] 22))
    rw[←bD,←rf];have k3:=b5.size;have k4:=gg.size;have oK:Below W2.heap.size W2 W0:=by rw[bD];exact(b5.trans (gg.mono k3)).alloc (by omega) _
    have b0:Boxed W0 B 22 (.slice Av (k) cv):=(oK.block B (by omega)).trans J6;have b1:Boxed W0 Bs 22 (.slice A4 ds.length c4):=by rw[bD,rf];exact Boxed.new _ _ _
    have vW:Ow W0 w.heap.size 5 (.slice Av (k) cv) (B8 (List.replicate (k) 49)):=oU.below oK (adi _);have jO:W0.heap.size=Bs+1:=by rw[bD,rf];simp
    have Mf:Sl W0 Bs A4 (B8 ds):=by rw[bD,rf];exact rK.sl.alloc (adi _) _
    obtain⟨gA,TB,TC,GF⟩:=rK.rowAt (by omega);rw[B8_length] at GF;have abk:B<gA:=by omega
    have Mg:gA<W0.heap.size:=by omega
    clear TB TC;have uI:Below w.heap.size w W0:=uJ.trans (oK.mono (by omega));have abl:B<Bs:=by omega
    have Eg:∀g,aY (.slice Av (k) cv)=some g→g≠gA:=fun g hg=>by have:=oU.row g hg;omega
    clear oK J6 oU bD rf uJ rK gg b5 iW Md k3 k4 jt
    refine wpIn_rangeFunc_ownG (a₁:=?fr1) nf h1 (gf:=126) (lb:=#[.pointer (some ⟨Bs,0,none⟩)]) rfl (hF _) (enters_of Tryz.func126 (by kernel_rfl) rfl)
     (nr Fence.wide hF nf (n-1) (by omega) Bs Bs (Keep3 w.heap.size Bs gA) (Keep3.refl _ _ _) Keep3.trans (fun h=>h.1.2) A4 c4 ds (by omega) (α:={x:Nat×UInt8 // x.2.toNat<58}) (·.1) (fun j h=>⟨⟨(j,ds[j]),Tz _ (List.getElem_mem h)⟩,rfl⟩) W0 (fun W h=>⟨⟨h.mono (by omega),h.block Bs (by omega)⟩,h.block gA Mg⟩) b1.cell (fun _ h=>Mf.keep3 (by rw[B8_length];exact GF) h))
     Keep3.trans (Keep3.b (by omega) (by omega) Mg) (adl _ _) (fun _=>rfl)
     (fun pre W=>(∃v,Boxed W B 22 v∧Ow W w.heap.size 5 v (B8 (List.replicate (k) 49++pre.map fun x=>ew x.1.2))∧(∀g,aY v=some g→g≠gA)∧Boxed W Bs 22 (.slice A4 ds.length c4))∧Below w.heap.size W0 W)
     (fun _ _ _=>False)
     (OwnFrom.and (Go.Own.from (fun s A B row hs hg hr=>let ⟨v,hv,ho,bN,hq⟩:=hs;⟨v,eK hv hg hr,ho.others hg hr,bN,eK hq hg hr⟩) _) (ownFrom_below (by omega) (by omega)))
     (fun _ _ _ _ _ hs _ _=>hs)
     ⟨⟨_,b0,by simpa using vW,Eg,b1⟩,adl _ _⟩
     ?assign ?body ?done ?stop
    case assign=>
     intro l x W K hK
     gi_wp2
     exact hK
    case stop=>
     rintro D c pre W _ _ h _;exact h.elim
    case done=>
     rintro D ys W hD pq ⟨⟨v,h2,ho,_,_⟩,hB⟩ hK;have c2:=h2.cell
     have Ej:(ys.map fun x=>ew x.1.2)=ds.reverse.map ew:=by
      rw[←rb ds,←pq];simp[Function.comp_def]
     rw[Ej] at ho;clear pq Ej;obtain⟨r,hr⟩:∃r,r=List.replicate (k) 49++ds.reverse.map ew:=⟨_,rfl⟩;have YV:r=lH bs:=by rw[hr,lH,Hlz.out,←Hds.out]
     rw[←hr] at ho;clear hr;obtain⟨Ar,cr,rfl⟩:∃Ar cr,v=.slice Ar r.length cr:=by obtain⟨A',c',e,_⟩:=ho;exact⟨A',c',by simpa using e⟩
     have Tv:=ke (P:=Tryz.prog) W 22 9 5 (by kernel_rfl) (by kernel_rfl) (by kernel_rfl) W.heap.size Ar cr r ho.sl;have Hrb:=ab YV;clear YV
     gi_wp2
     refine⟨by simp,.inl ⟨_,_,rfl,run_takeDeferred hK,?_⟩⟩;refine⟨_,results_tmp rfl _ _ _,by rw[←Hrb.out];rfl,?_⟩;exact uI.trans (hB.trans (belowK_b (w:=W0) (by omega) W D _ _ hD hK rfl rfl))
    case body=>
     clear Mf b0 b1 vW Eg uI hs;rintro l pre ⟨x,hx⟩ W ⟨⟨v,h2,ho,bN,hq⟩,pr⟩ sM;have c2:=h2.cell;have YW:(x.2.toNat:Int)<58:=by omega
     obtain⟨y,hy⟩:=ae (ew x.2);have TD:∀h,(⟨bA.toArray⟩:ByteArray)[x.2.toNat]'h=y:=fun h=>by rw[hy];exact qz x.2 h
     simp only[bA] at TD;have Hy:=ab hy;clear hy;obtain⟨ys,pq⟩:∃ys,ys=List.replicate (k) 49++pre.map (fun x:{x:Nat×UInt8 // x.2.toNat<58}=>ew x.1.2):=⟨_,rfl⟩;rw[←pq] at ho;have hyl:ys.length≤16384:=by rw[pq];simp;omega
     obtain⟨Ay,cy,rfl⟩:∃Ay cy,v=.slice Ay ys.length cy:=by obtain⟨Ay,cy,e,_⟩:=ho;exact⟨Ay,cy,by simpa using e⟩
     have QW:=ab pq;clear pq;have bx:Tryz.prog.follows .mixedOrders=true:=by kernel_rfl
     have Mh:=ho.row_ne_box h2 (by decide);have bG:=ho.row;have Mi:=ho.row_ne_box hq (by decide)
     gi_wp2
     refine dq [(0,1),(1,0),(2,0),(3,2),(4,2),(5,2)] 4 (fun _=>trivial) bx (by kernel_rfl) (by intro c a d v w h;cases d<;>exact h) ?_
     repeat ((first|(refine ao rfl (fun K hK=>?_))|(refine aD rfl (fun K hK=>?_)));go_simp;(first|(refine hK _ ?_) );clear hK K;(try go_bits))
     refine bW rfl rfl (fun K hK=>?_)
     gi_wp2
     refine⟨.inr (iJ _ _),?_⟩;refine bW rfl rfl (fun K hK=>?_);refine kf (F:=Fence.wide.inRound l) (v:=.slice Ay ys.length cy) (m:=1) (c:=1) (fun _=>trivial) lC (.tmp 32) (.tmp 35) rfl rfl (ho.alloc _).drew rfl (Sl.one W.drew _ _).drew rfl ?_ ?_ ?_ ?_ ?_
     · intro u hu;simp at hu;subst hu;rfl
     · simp[maxLen];omega
     · simp;omega
     · have:=pr.size;simp;omega
     intro v' w1 pf kq kS;have TE:w.heap.size≤B:=AD;have Mj:aY (.slice Ay ys.length cy)≠some Bs:=fun e=>Mi Bs e rfl
     have abm:=pr.size;have xh:=Boxed.kept (ib (h2.alloc _)) kq (by intro e;exact Mh B e.symm rfl);have c2':=xh.cell;have f2':=xh.frozen;have TF:∀g,aY (.slice Ay ys.length cy)=some g→w.heap.size≤g:=fun g hg=>(bG g hg).1
     have k1:KeepsOthers W w1:=(KeepsOthers.alloc W _).trans ((KeepsOthers.drew _).trans ((ho.alloc _).drew.keepsOthers kq rfl));have bl:Below w.heap.size W w1:=((adl _ W).alloc (by omega) _).drew.grown kq (by simp;omega) TF;obtain⟨IH,II,rfl⟩:∃IH II,v'=.slice IH (ys.length+1) II:=by obtain⟨A',c',e,_⟩:=pf;exact⟨A',c',by simpa using e⟩
     refine hK _ _ ⟨.inl (by decide),?_⟩;clear hK K;refine bW rfl rfl (fun K hK=>?_)
     gi_wp2
     refine⟨.inl (by decide),aB ?_⟩
     have hnB:∀g,aY (.slice IH (ys.length+1) II)=some g→B≠g:=fun g hg e=>by
      subst e;rcases kS with e|e
      · exact Mh B (e▸hg) rfl
      rw[e] at hg;simp at hg;have:=h2.lt;omega
     gi_wp2
     have Mk:Below w.heap.size W (w1.setCell ⟨B,0,none⟩ (.slice IH (ys.length+1) II)):=bl.setCell (p:=⟨B,0,none⟩) TE _;refine⟨(k1.trans (KeepsOthers.setCell _ _ _)).from _,⟨⟨Mk,?_⟩,?_⟩,⟨_,xh.set _,?_,?_,?_⟩,pr.trans Mk⟩
     · exact(Below.heap_setCell w1 ⟨B,0,none⟩ _ Bs (by show Bs≠B;omega)).trans ((kq.block Bs (by simp;omega) (fun e=>Mj e.symm)).trans (Below.heap_alloc W _ Bs (by omega)))
     · exact(Below.heap_setCell w1 ⟨B,0,none⟩ _ gA (by show gA≠B;omega)).trans ((kq.block gA (by simp;omega) (fun e=>bN gA e.symm rfl)).trans (Below.heap_alloc W _ gA (by omega)))
     · have e:B8 ys++[Value.int .u8 (y.toNat:Int)]=B8 (List.replicate (k) 49++(pre++[(⟨x,hx⟩:{x:Nat×UInt8 // x.2.toNat<58})]).map (fun x:{x:Nat×UInt8 // x.2.toNat<58}=>ew x.1.2)):=by
        rw[List.map_append,←List.append_assoc,←QW.out,bp,Hy.out];rfl
       rw[←e];exact pf.setCell (fun g hg=>hnB g hg) _
     · intro g hg e
       subst e;rcases kS with e|e
       · exact bN g (e▸hg) rfl
       rw[e] at hg;simp at hg;omega
     exact(Boxed.kept (ib (hq.alloc _)) kq (fun e=>Mj e.symm)).other (by omega) _
  have Dw:k=bs.length:=by omega
  subst Dw;clear BN
  gi_wp2_with fail
  subst Iy;refine⟨trivial,?_⟩;obtain⟨W1,sW⟩:=ae (w.alloc (.cells #[.int .u8 (49:UInt8).toNat] 5))
  have gb:W1.cell? ⟨w.heap.size,0,none⟩=some (.int .u8 ((49:UInt8).toNat:Int)):=by rw[sW];exact World.cell?_alloc_new _ _ _ 0
  have G3:W1.heap.size=w.heap.size+1:=by rw[sW];simp
  have Mc:Below w.heap.size w W1:=by rw[sW];exact(adl _ w).alloc (adi _) _
  change CallsIn _ _ _ _ _ (w.alloc (.cells #[.int .u8 (((49:UInt8).toNat:Nat):Int)] 5)) _
  rw[←sW];refine callsIn_wide.2 ((uQ _ _ _ (bs.length) 49 (by omega) W1 gb).mono ?_);rintro e w1 ⟨v,rfl,ho,bH⟩;obtain⟨Av,cv,rfl⟩:∃Av cv,v=.slice Av (bs.length) cv:=by obtain⟨Av,cv,e,_⟩:=ho;exact⟨Av,cv,by simpa using e⟩
  gi_wp2_with fail
  have C6:Ow w1 w.heap.size 5 (.slice Av (bs.length) cv) (B8 (List.replicate (bs.length) 49)):=ho.mono (by omega);have Ei:Below w.heap.size w w1:=Mc.trans (bH.mono (by omega));clear ho bH Mc gb sW G3;obtain⟨B,hB⟩:=ae w1.heap.size;obtain⟨W2,j6⟩:=ae (w1.alloc (.cells #[.slice Av (bs.length) cv] 22))
  have J6:Boxed W2 B 22 (.slice Av (bs.length) cv):=by rw[j6,hB];exact Boxed.new _ _ _
  have jt:W2.heap.size=B+1:=by rw[j6,hB];simp
  have AD:w.heap.size≤B:=by rw[hB];exact Ei.size
  have uJ:Below w.heap.size w W2:=by rw[j6];exact Ei.alloc (by omega) _
  have oU:Ow W2 w.heap.size 5 (.slice Av (bs.length) cv) (B8 (List.replicate (bs.length) 49)):=by rw[j6];exact C6.alloc _
  rw[←j6];clear C6 Ei j6;have nh:=(hs.below uJ).mono (show w.heap.size≤W2.heap.size by omega);refine callsIn_wide.2 ((mz _ _ bs W2 nh (by omega)).mono ?_);rintro e w3 ⟨v,rfl,iW,b5⟩;obtain⟨A3,c3,rfl⟩:∃A3 c3,v=.slice A3 bs.reverse.length c3:=by obtain⟨Av,cv,e,_⟩:=iW;exact⟨Av,cv,by simpa using e⟩
  have Md:=iW.sl;have Ty:bs.reverse.length≤4096:=by simp;omega
  rw[←hB];clear hB
  gi_wp2_with fail
  have vY:=uP 256 58 (by omega) (by omega) (by omega) (by omega) A3 c3 bs.reverse Ty w3 Md;rw[List.length_reverse] at vY;refine callsIn_wide.2 (vY.mono ?_);clear vY;rintro e w4 ⟨v,rfl,rK,gg⟩;rw[List.reverse_reverse] at rK;obtain⟨ds,Me⟩:=ae (dk 256 58 bs);rw[←Me] at rK;have Tu:ds.length≤8192:=by rw[Me];have:=rQ 256 58 (by omega) (by omega) bs;omega
  have Tz:∀d∈ds,d.toNat<58:=by rw[Me];exact uO 256 58 (by omega) (by omega) bs
  have Hds:=ab Me;clear Me;obtain⟨A4,c4,rfl⟩:∃A4 c4,v=.slice A4 ds.length c4:=by obtain⟨Av,cv,e,_⟩:=rK;exact⟨Av,cv,by simpa using e⟩
  gi_wp2_with (gi_at_call 109;refine(yh Fence.wide hF nf _ _ _ _ _).mono ?_;rintro e w' ⟨rfl,rfl⟩)
  obtain⟨Bs,rf⟩:=ae w4.heap.size;obtain⟨W0,bD⟩:=ae (w4.alloc (.cells #[.slice A4 ds.length c4] 22))
  rw[←bD,←rf];have k3:=b5.size;have k4:=gg.size;have oK:Below W2.heap.size W2 W0:=by rw[bD];exact(b5.trans (gg.mono k3)).alloc (by omega) _
  have b0:Boxed W0 B 22 (.slice Av (bs.length) cv):=(oK.block B (by omega)).trans J6;have b1:Boxed W0 Bs 22 (.slice A4 ds.length c4):=by rw[bD,rf];exact Boxed.new _ _ _
  have vW:Ow W0 w.heap.size 5 (.slice Av (bs.length) cv) (B8 (List.replicate (bs.length) 49)):=oU.below oK (adi _);have jO:W0.heap.size=Bs+1:=by rw[bD,rf];simp
  have Mf:Sl W0 Bs A4 (B8 ds):=by rw[bD,rf];exact rK.sl.alloc (adi _) _
  obtain⟨gA,TB,TC,GF⟩:=rK.rowAt (by omega);rw[B8_length] at GF;have abk:B<gA:=by omega
  have Mg:gA<W0.heap.size:=by omega
  clear TB TC;have uI:Below w.heap.size w W0:=uJ.trans (oK.mono (by omega));have abl:B<Bs:=by omega
  have Eg:∀g,aY (.slice Av (bs.length) cv)=some g→g≠gA:=fun g hg=>by have:=oU.row g hg;omega
  clear oK J6 oU bD rf uJ rK gg b5 iW Md k3 k4 jt
  refine wpIn_rangeFunc_ownG (a₁:=?fr2) nf h1 (gf:=126) (lb:=#[.pointer (some ⟨Bs,0,none⟩)]) rfl (hF _) (enters_of Tryz.func126 (by kernel_rfl) rfl)
   (nr Fence.wide hF nf (n-1) (by omega) Bs Bs (Keep3 w.heap.size Bs gA) (Keep3.refl _ _ _) Keep3.trans (fun h=>h.1.2) A4 c4 ds (by omega) (α:={x:Nat×UInt8 // x.2.toNat<58}) (·.1) (fun j h=>⟨⟨(j,ds[j]),Tz _ (List.getElem_mem h)⟩,rfl⟩) W0 (fun W h=>⟨⟨h.mono (by omega),h.block Bs (by omega)⟩,h.block gA Mg⟩) b1.cell (fun _ h=>Mf.keep3 (by rw[B8_length];exact GF) h))
   Keep3.trans (Keep3.b (by omega) (by omega) Mg) (adl _ _) (fun _=>rfl)
   (fun pre W=>(∃v,Boxed W B 22 v∧Ow W w.heap.size 5 v (B8 (List.replicate (bs.length) 49++pre.map fun x=>ew x.1.2))∧(∀g,aY v=some g→g≠gA)∧Boxed W Bs 22 (.slice A4 ds.length c4))∧Below w.heap.size W0 W)
   (fun _ _ _=>False)
   (OwnFrom.and (Go.Own.from (fun s A B row hs hg hr=>let ⟨v,hv,ho,bN,hq⟩:=hs;⟨v,eK hv hg hr,ho.others hg hr,bN,eK hq hg hr⟩) _) (ownFrom_below (by omega) (by omega)))
   (fun _ _ _ _ _ hs _ _=>hs)
   ⟨⟨_,b0,by simpa using vW,Eg,b1⟩,adl _ _⟩
   ?assign ?body ?done ?stop
  case assign=>
   intro l x W K hK
   gi_wp2
   exact hK
  case stop=>
   rintro D c pre W _ _ h _;exact h.elim
  case done=>
   rintro D ys W hD pq ⟨⟨v,h2,ho,_,_⟩,hB⟩ hK;have c2:=h2.cell
   have Ej:(ys.map fun x=>ew x.1.2)=ds.reverse.map ew:=by
    rw[←rb ds,←pq];simp[Function.comp_def]
   rw[Ej] at ho;clear pq Ej;obtain⟨r,hr⟩:∃r,r=List.replicate (bs.length) 49++ds.reverse.map ew:=⟨_,rfl⟩;have YV:r=lH bs:=by rw[hr,lH,Hlz.out,←Hds.out]
   rw[←hr] at ho;clear hr;obtain⟨Ar,cr,rfl⟩:∃Ar cr,v=.slice Ar r.length cr:=by obtain⟨A',c',e,_⟩:=ho;exact⟨A',c',by simpa using e⟩
   have Tv:=ke (P:=Tryz.prog) W 22 9 5 (by kernel_rfl) (by kernel_rfl) (by kernel_rfl) W.heap.size Ar cr r ho.sl;have Hrb:=ab YV;clear YV
   gi_wp2
   refine⟨by simp,.inl ⟨_,_,rfl,run_takeDeferred hK,?_⟩⟩;refine⟨_,results_tmp rfl _ _ _,by rw[←Hrb.out];rfl,?_⟩;exact uI.trans (hB.trans (belowK_b (w:=W0) (by omega) W D _ _ hD hK rfl rfl))
  case body=>
   clear Mf b0 b1 vW Eg uI hs;rintro l pre ⟨x,hx⟩ W ⟨⟨v,h2,ho,bN,hq⟩,pr⟩ sM;have c2:=h2.cell;have YW:(x.2.toNat:Int)<58:=by omega
   obtain⟨y,hy⟩:=ae (ew x.2);have TD:∀h,(⟨bA.toArray⟩:ByteArray)[x.2.toNat]'h=y:=fun h=>by rw[hy];exact qz x.2 h
   simp only[bA] at TD;have Hy:=ab hy;clear hy;obtain⟨ys,pq⟩:∃ys,ys=List.replicate (bs.length) 49++pre.map (fun x:{x:Nat×UInt8 // x.2.toNat<58}=>ew x.1.2):=⟨_,rfl⟩;rw[←pq] at ho;have hyl:ys.length≤16384:=by rw[pq];simp;omega
   obtain⟨Ay,cy,rfl⟩:∃Ay cy,v=.slice Ay ys.length cy:=by obtain⟨Ay,cy,e,_⟩:=ho;exact⟨Ay,cy,by simpa using e⟩
   have QW:=ab pq;clear pq;have bx:Tryz.prog.follows .mixedOrders=true:=by kernel_rfl
   have Mh:=ho.row_ne_box h2 (by decide);have bG:=ho.row;have Mi:=ho.row_ne_box hq (by decide)
   gi_wp2
   refine dq [(0,1),(1,0),(2,0),(3,2),(4,2),(5,2)] 4 (fun _=>trivial) bx (by kernel_rfl) (by intro c a d v w h;cases d<;>exact h) ?_
   repeat ((first|(refine ao rfl (fun K hK=>?_))|(refine aD rfl (fun K hK=>?_)));go_simp;(first|(refine hK _ ?_) );clear hK K;(try go_bits))
   refine bW rfl rfl (fun K hK=>?_)
   gi_wp2
   refine⟨.inr (iJ _ _),?_⟩;refine bW rfl rfl (fun K hK=>?_);refine kf (F:=Fence.wide.inRound l) (v:=.slice Ay ys.length cy) (m:=1) (c:=1) (fun _=>trivial) lC (.tmp 32) (.tmp 35) rfl rfl (ho.alloc _).drew rfl (Sl.one W.drew _ _).drew rfl ?_ ?_ ?_ ?_ ?_
   · intro u hu;simp at hu;subst hu;rfl
   · simp[maxLen];omega
   · simp;omega
   · have:=pr.size;simp;omega
   intro v' w1 pf kq kS;have TE:w.heap.size≤B:=AD;have Mj:aY (.slice Ay ys.length cy)≠some Bs:=fun e=>Mi Bs e rfl
   have abm:=pr.size;have xh:=Boxed.kept (ib (h2.alloc _)) kq (by intro e;exact Mh B e.symm rfl);have c2':=xh.cell;have f2':=xh.frozen;have TF:∀g,aY (.slice Ay ys.length cy)=some g→w.heap.size≤g:=fun g hg=>(bG g hg).1
   have k1:KeepsOthers W w1:=(KeepsOthers.alloc W _).trans ((KeepsOthers.drew _).trans ((ho.alloc _).drew.keepsOthers kq rfl));have bl:Below w.heap.size W w1:=((adl _ W).alloc (by omega) _).drew.grown kq (by simp;omega) TF;obtain⟨IH,II,rfl⟩:∃IH II,v'=.slice IH (ys.length+1) II:=by obtain⟨A',c',e,_⟩:=pf;exact⟨A',c',by simpa using e⟩
   refine hK _ _ ⟨.inl (by decide),?_⟩;clear hK K;refine bW rfl rfl (fun K hK=>?_)
   gi_wp2
   refine⟨.inl (by decide),aB ?_⟩
   have hnB:∀g,aY (.slice IH (ys.length+1) II)=some g→B≠g:=fun g hg e=>by
    subst e;rcases kS with e|e
    · exact Mh B (e▸hg) rfl
    rw[e] at hg;simp at hg;have:=h2.lt;omega
   gi_wp2
   have Mk:Below w.heap.size W (w1.setCell ⟨B,0,none⟩ (.slice IH (ys.length+1) II)):=bl.setCell (p:=⟨B,0,none⟩) TE _;refine⟨(k1.trans (KeepsOthers.setCell _ _ _)).from _,⟨⟨Mk,?_⟩,?_⟩,⟨_,xh.set _,?_,?_,?_⟩,pr.trans Mk⟩
   · exact(Below.heap_setCell w1 ⟨B,0,none⟩ _ Bs (by show Bs≠B;omega)).trans ((kq.block Bs (by simp;omega) (fun e=>Mj e.symm)).trans (Below.heap_alloc W _ Bs (by omega)))
   · exact(Below.heap_setCell w1 ⟨B,0,none⟩ _ gA (by show gA≠B;omega)).trans ((kq.block gA (by simp;omega) (fun e=>bN gA e.symm rfl)).trans (Below.heap_alloc W _ gA (by omega)))
   · have e:B8 ys++[Value.int .u8 (y.toNat:Int)]=B8 (List.replicate (bs.length) 49++(pre++[(⟨x,hx⟩:{x:Nat×UInt8 // x.2.toNat<58})]).map (fun x:{x:Nat×UInt8 // x.2.toNat<58}=>ew x.1.2)):=by
      rw[List.map_append,←List.append_assoc,←QW.out,bp,Hy.out];rfl
     rw[←e];exact pf.setCell (fun g hg=>hnB g hg) _
   · intro g hg e
     subst e;rcases kS with e|e
     · exact bN g (e▸hg) rfl
     rw[e] at hg;simp at hg;omega
   exact(Boxed.kept (ib (hq.alloc _)) kq (fun e=>Mj e.symm)).other (by omega) _
theorem Ek (A:Option Addr) (cap:Nat) (bs:List UInt8) (hl:bs.length≤300) (w:World) (hs:Sl w w.heap.size A (B8 bs)):
 Calls Tryz.prog 65 #[.slice A bs.length cap] w fun e W'=>e=.returned (.string ⟨(lH bs).toArray⟩)∧Below w.heap.size w W':=
 (callsIn_wide (n:=3)).1 (IJ Fence.wide rfl (fun _=>trivial) rfl rfl 3 (adi _) A cap bs hl w hs)
end Go.Proofs.YtnlkdheaohocnaaGreatDoor
namespace Go.Proofs.YtnlkdheaohocnaaGreatDoor
open Go.RowKit Go.Shelf
def Pq:Value→Nat
 |.slice _ n _=>n
 |_=>0
def uR (m i:Nat):List UInt8:=(List.range i).map fun j=>UInt8.ofNat (m/256^j)
theorem IK (m i:Nat):uR m (i+1)=uR m i++[UInt8.ofNat (m/256^i)]:=by simp[uR,List.range_succ]
theorem nI (m i:Nat):(uR m i).length=i:=by simp[uR]
theorem Ml (m i j:Nat) (h:j<i):(B8 (uR m i))[j]?=some (.int .u8 ((m/256^j%256:Nat):Int)):=by simp[B8,uR,h]
theorem IL (n k q:Nat) (h:q=n*8/256^k):((q:Int)/256)=((n:Int)*8/256^(k+1)):=by
 have h2:q/256=n*8/256^(k+1):=by rw[h,Nat.div_div_eq_div_mul,←Nat.pow_succ]
 have h3:((q/256:Nat):Int)=((n*8/256^(k+1):Nat):Int):=by rw[h2]
 rw[Int.natCast_ediv,Int.natCast_ediv,Int.natCast_mul,Int.natCast_pow] at h3;exact h3
def jF (c:UInt8):UInt8:=UInt8.ofNat (bA.idxOf c)
theorem rT (l:List UInt8) (c:UInt8):Lib.indexByte l c=q7 l c:=by
 induction l with
 |nil=>rfl
 |cons x l ih=>
  unfold q7 at ih⊢;rw[Lib.indexByte,List.idxOf_cons]
  by_cases h:x=c
  · subst h;simp
  have hb:(x==c)=false:=by simpa using h
  have hc:¬c=x:=fun e=>h e.symm
  rw[hb,ih]
  by_cases hm:c∈l
  · simp only[hm,hc,or_true,if_true,List.mem_cons,beq_iff_eq,Bool.false_eq_true,if_false,cond_false]
    rw[if_neg (by omega)];rfl
  simp[hm,hc]
theorem IM (s:ByteArray) (w:World):∃wB cB,(convert 9 22 (.string s)).run Tryz.prog w=.ok (.slice (some ⟨w.heap.size,0,none⟩) s.size cB) wB∧Below w.heap.size w wB∧
 Sl wB wB.heap.size (some ⟨w.heap.size,0,none⟩) (B8 s.data.toList)∧s.size≤cB∧wB.heap.size=w.heap.size+1:=by
 refine⟨_,_,Lib.run_convert_string_bytes (P:=Tryz.prog) w 9 22 5 s (u:=.string) (by kernel_rfl) (by kernel_rfl) (by kernel_rfl),⟨rfl,rfl,rfl,?_,fun k hk=>Lib.bytesWorld_at_old w _ s k hk⟩,?_,?_,Lib.bytesWorld_size w _ s⟩
 · rw[Lib.bytesWorld_size];omega
 · refine fun _=>⟨_,0,rfl,by rw[Lib.bytesWorld_size];omega,fun j hj=>?_⟩
   have zB:j<s.size:=by simpa using hj
   rw[Nat.zero_add,Lib.bytesWorld_cell w _ s j zB,ed];simp[zB]
 exact grownCap_ge _ _ _ _
def eI (s:List UInt8):Nat×List UInt8:=
 if 250<s.length then (2,[])
 else if∀c∈s,c∈bA then (0,List.replicate (s.length-(s.dropWhile (·==49)).length) 0++(dk 58 256 (s.map jF)).reverse)
 else (3,[])
theorem BO (c:UInt8) (h:c∈bA):(jF c).toNat<58:=by
 have:bA.idxOf c<bA.length:=List.idxOf_lt_length_iff.2 h;have h2:bA.length=58:=rfl;rw[jF,UInt8.toNat_ofNat',adu (by omega)];omega
theorem En (s:ByteArray) (w:World) (eD:s.size≤4096):
 Calls Tryz.prog 61 #[.string s] w fun e W'=>∃v,e=.returned (.tuple #[v,.int .i64 ((eI s.data.toList).1:Int)])∧Ow W' w.heap.size 5 v (B8 (eI s.data.toList).2)∧Below w.heap.size w W':=by
 have hS:s.data.toList.length=s.size:=by simp
 by_cases wg:250<s.size
 · have hf:eI s.data.toList=(2,[]):=by rw[eI,if_pos (by omega)]
   rw[hf];go_enter Tryz.func61,Tryz.ntmps61;go_wp2_with fail;go_ret2;exact⟨_,rfl,Ow.nil_ _ _ _ _,adl _ _⟩
 obtain⟨S,TG⟩:=ae s.data.toList;rw[←TG] at hS⊢;obtain⟨F,hF⟩:=ae (eI S);rw[←hF];have HSS:=ab TG;have HS:=ab hS;have HF:=ab hF;clear TG hS hF;go_enter Tryz.func61,Tryz.ntmps61;go_wp2_with fail;go_loopw [4,13] (fun v i wr=>∃k:Nat,k≤s.size∧i=.int .i64 k∧Ow wr w.heap.size 5 v (B8 ((S.take k).map jF))∧Hid (∀c∈S.take k,c∈bA)∧Below w.heap.size w wr) (fun _ i _=>s.size-(intOf i).toNat)
 case atStart=>exact⟨0,adF _,rfl,Ow.nil_ _ _ _ _,ab (by simp),adl _ _⟩
 case round=>
  obtain⟨k,hk,rfl,ho,BG,hb⟩:=hrel;obtain⟨D,hD⟩:∃D,D=(S.take k).map jF:=⟨_,rfl⟩;have yV:D.length=k:=by rw[hD];have:=HS.out;simp;omega
  rw[←hD] at ho;obtain⟨Ad,cd,rfl,hcd,acE⟩:=bw ho;rw[yV] at ho hcd⊢;have HD:=ab hD;have qU:=ab yV;clear hD yV
  by_cases aV:k<s.size
  · obtain⟨y,hy⟩:∃y,y=s[k]:=⟨_,rfl⟩
    have hyS:S[k]?=some y:=by rw[HSS.out,hy];simp[aV];rfl
    have tX:=Tryz.strings_IndexByte ⟨bA.toArray⟩ (s[k].toNat:Int);rw[show (⟨bA.toArray⟩:ByteArray).data.toList=bA from rfl,rT,show ((s[k].toNat:Int)).toNat.toUInt8=y from by rw[hy];simp] at tX;have HyS:=ab hyS;have Hix:=ab tX;clear hyS tX
    by_cases hm:y∈bA
    · obtain⟨d,hd⟩:=ae (bA.idxOf y)
      have acF:d<58:=by rw[hd];exact List.idxOf_lt_length_iff.2 hm
      have Df:q7 bA y=(d:Int):=by rw[q7,if_pos hm,hd]
      have Hd:=ab hd;have YI:=ab Df;have Hm:=ab hm;clear hd Df hm;go_wp2_with (first|(go_at_call 104;refine(Hix.out _).mono ?_;rintro e w' ⟨rfl,LN⟩;rw[LN];clear LN;rw[YI.out])|(at_builtin;go_loud (refine aX (m:=1) (c:=1) (base:=w.heap.size) (xs:=B8 D) (v:=.slice Ad k cd) (A:=some ⟨wr.heap.size,0,none⟩) (B:=wr.heap.size+1) (news:=[.int .u8 (d:Int)]) lC rfl (.tmp 22) (.tmp 25) rfl rfl (ho.alloc _) rfl (Sl.one wr _ _) rfl (by simp;rfl) (by rw[B8_length,qU.out];simp[maxLen];omega) (by rw[B8_length,qU.out];omega) (by have:=hb.size;simp;omega) ?_);intro v3 w3 iW lV vC));have hdy:jF y=UInt8.ofNat d:=by rw[jF,←Hd.out]
      rw[jU D _ (UInt8.ofNat d) (by simp;omega),←hdy,HD.out,←List.map_singleton,←List.map_append] at iW;have vV:S.take k++[y]=S.take (k+1):=by rw[List.take_add_one,HyS.out];rfl
      rw[vV] at iW;refine⟨⟨k+1,by omega,rfl,iW,ab ?_,ig hb (adi _) ho lV⟩,by simp[intOf];omega⟩;rw[←vV];intro c hc;simp only[List.mem_append,List.mem_singleton] at hc;rcases hc with hc|rfl
      · exact BG.out c hc
      exact Hm.out
    have Df:q7 bA y=-1:=by rw[q7,if_neg hm]
    have YI:=ab Df;have Hm:=ab hm;clear Df hm;go_wp2_with (go_at_call 104;refine(Hix.out _).mono ?_;rintro e w' ⟨rfl,LN⟩;rw[LN];clear LN;rw[YI.out]);go_ret2
    have hF:F=(3,[]):=by
     rw[HF.out,eI,if_neg (by have:=HS.out;omega),if_neg];exact fun h=>Hm.out (h y (List.mem_of_getElem? HyS.out))
    rw[hF];exact⟨_,rfl,Ow.nil_ _ _ _ _,hb⟩
  obtain rfl:k=s.size:=by omega
  have bx:Tryz.prog.follows .mixedOrders=true:=by kernel_rfl
  obtain⟨wB,cB,YX,hBB,If,hcB,hzB⟩:=IM s wr;have hDS:D=S.map jF:=by rw[HD.out,ady (by have:=HS.out;omega)]
  obtain⟨z,hz⟩:∃z,z=s.size-(S.dropWhile (·==49)).length:=⟨_,rfl⟩;have CU:=BH (some ⟨wr.heap.size,0,none⟩) cB S wB (by rw[HSS.out];exact If) (by have:=HS.out;omega) (by have:=HS.out;omega);rw[HS.out,←hz] at CU;have hzl:z≤250:=by omega
  have Eo:F=(0,List.replicate z 0++(dk 58 256 D).reverse):=by
   have dc:∀c∈S,c∈bA:=by have:=BG.out;rwa [ady (by have:=HS.out;omega)] at this
   rw[HF.out,eI,if_neg (by have:=HS.out;omega),if_pos dc,HS.out,←hz,hDS]
  have Hno:=ab CU;have J7:=ab Eo;have hoB:=ho.below hBB (adi _);have KK:=hb.trans (hBB.mono hb.size);clear CU Eo hz hDS If ho;go_wp2_with fail;refine Hno.out.mono ?_;rintro e w5 ⟨rfl,QX⟩;obtain⟨i0,hi,jh,kV,mo⟩:=info_parts tf;have hmk:=qV (P:=Tryz.prog) 22 5 i0 _ 1 Tryz.underlying22 hi jh kV mo rfl .i64 .i64 (z:Int) (z:Int) z z (by omega) (by omega) (adi _) (by omega) (by unfold maxLen;omega);have vW:=hoB.below QX (adi _);have qk:=KK.trans (QX.mono KK.size);clear YX hoB KK hBB QX hcB hzB;obtain⟨G,hG⟩:=ae (dk 58 256 D);obtain⟨m,hm⟩:=ae G.length
  have Po:m≤250:=by
   rw[hm,hG];refine Nat.le_trans (uS 58 256 (by omega) (by omega) (by omega) (by omega) D ?_) (by have:=qU.out;omega);rw[HD.out];intro d hd;obtain⟨c,hc,rfl⟩:=List.mem_map.1 hd;exact BO c (BG.out c hc)
  have Eo:=J7.out;rw[←hG] at Eo;have J7:=ab Eo
  have O6:Hid (∀X,Sl X X.heap.size Ad (B8 D)→Calls Tryz.prog 106 #[.slice Ad s.size cd] X fun e W'=>∃A c,e=.returned (.slice A s.size c)∧Ow W' X.heap.size 5 (.slice A s.size c) (B8 D.reverse)∧Below X.heap.size X W'):=ab fun X hX=>by
   have h:=mz Ad cd D X hX (by have:=qU.out;omega);rw[qU.out] at h;refine h.mono ?_;rintro e W' ⟨v,rfl,ho,hb⟩;obtain⟨A,c,rfl,_⟩:=bw ho;rw[List.length_reverse,qU.out] at ho;rw[List.length_reverse,qU.out];exact⟨A,c,rfl,ho,hb⟩
  have HBs:Hid (∀X A c,Sl X X.heap.size A (B8 D.reverse)→Calls Tryz.prog 107 #[.slice A s.size c,.int .i64 58,.int .i64 256] X fun e W'=>∃A' c',e=.returned (.slice A' m c')∧Ow W' X.heap.size 5 (.slice A' m c') (B8 G)∧Below X.heap.size X W'):=ab fun X A c hX=>by
   have h:=uP 58 256 (by omega) (by omega) (by omega) (by omega) A c D.reverse (by rw[List.length_reverse,qU.out];omega) X hX;rw[List.length_reverse,qU.out,List.reverse_reverse,←hG] at h;refine h.mono ?_;rintro e W' ⟨v,rfl,ho,hb⟩;obtain⟨A,c,rfl,_⟩:=bw ho;rw[←hm] at ho⊢;exact⟨A,c,rfl,ho,hb⟩
  have HT2:Hid (∀X A c,Sl X X.heap.size A (B8 G)→Calls Tryz.prog 106 #[.slice A m c] X fun e W'=>∃A c,e=.returned (.slice A m c)∧Ow W' X.heap.size 5 (.slice A m c) (B8 G.reverse)∧Below X.heap.size X W'):=ab fun X A c hX=>by
   have h:=mz A c G X hX (by omega);rw[←hm] at h;refine h.mono ?_;rintro e W' ⟨v,rfl,ho,hb⟩;obtain⟨A,c,rfl,_⟩:=bw ho;rw[List.length_reverse,←hm] at ho⊢;exact⟨A,c,rfl,ho,hb⟩
  have HmG:Hid (G.length=m):=ab hm.symm;have YY:=vW;have hz5:=qk.size;clear Eo hm hG vW;go_wp2_with fail;refine eo _ 6 _ bx (by kernel_rfl) (by intro c a d v w h;cases d<;>exact h) (ek (aJ _ (by intro c a d v w h;cases d<;>exact h)) (by kernel_rfl) 7 [(0,0),(2,0)] _ (by kernel_rfl) (ei (aJ _ (by intro c a d v w h;cases d<;>exact h)) 1 3 6 _ (by kernel_rfl) (cq (aJ _ (by intro c a d v w h;cases d<;>exact h)) (by kernel_rfl) [(3,2),(4,2),(5,2),(6,2),(7,2),(8,2)] _ (by kernel_rfl)) (ek (aJ _ (by intro c a d v w h;cases d<;>exact h)) (by kernel_rfl) 6 [] _ (by kernel_rfl) (ei (aJ _ (by intro c a d v w h;cases d<;>exact h)) 1 4 5 _ (by kernel_rfl) (cq (aJ _ (by intro c a d v w h;cases d<;>exact h)) (by kernel_rfl) [(4,2),(5,2),(6,2),(7,2),(8,2)] _ (by kernel_rfl)) (ek (aJ _ (by intro c a d v w h;cases d<;>exact h)) (by kernel_rfl) 5 [] _ (by kernel_rfl) (ei (aJ _ (by intro c a d v w h;cases d<;>exact h)) 1 5 4 _ (by kernel_rfl) (cq (aJ _ (by intro c a d v w h;cases d<;>exact h)) (by kernel_rfl) [(5,2),(6,2),(7,2),(8,2)] _ (by kernel_rfl)) (cq (aJ _ (by intro c a d v w h;cases d<;>exact h)) (by kernel_rfl) [(1,2),(6,2),(7,2),(8,2)] _ (by kernel_rfl)))))))) ?_
  repeat ((first|(refine ao rfl (fun K hK=>?_)) );go_simp;(first|(refine hK _ ?_) );clear hK K;(try go_bits))
  refine ep rfl rfl rfl rfl (fun K hK=>?_) (fun K hK=>?_)
  · go_wp2_with fail
    refine⟨iJ _ _,?_⟩;obtain⟨W1,sW⟩:∃W,W=(w5.alloc (.cells (Array.replicate z (Value.int IntKind.u8 0)) 5)).drew:=⟨_,rfl⟩;rw[←sW]
    have TH:Ow W1 w.heap.size 5 (.slice (some ⟨w5.heap.size,0,none⟩) z z) (B8 (List.replicate z 0)):=by
     rw[sW];have h:=Ow.of_row (w:=w5) (Array.replicate z (Value.int IntKind.u8 0)) 5 w.heap.size (by omega) (cap:=z) (by simp) (by unfold maxLen;omega) z (adi _);rw[show (Array.replicate z (Value.int IntKind.u8 0)).toList.take z=B8 (List.replicate z 0) from by simp[B8]] at h;exact h
    have TI:Below w5.heap.size w5 W1:=by rw[sW];exact((adl _ _).alloc (adi _) _).drew
    have acG:=TI.size;clear sW;refine ah rfl rfl (fun K hK=>?_);go_wp2_with fail;refine(O6.out W1 (YY.below (TI) (adi _)).sl).mono ?_;rintro e w6 ⟨A6,c6,rfl,zL,Ep⟩;have acH:=Ep.size;go_wp2_with fail;refine⟨.inr (av Ep),?_⟩;refine ah rfl rfl (fun K hK=>?_);go_wp2_with fail;refine(HBs.out w6 A6 c6 zL.sl).mono ?_;rintro e w7 ⟨A7,c7,rfl,VU,BP⟩;have abn:=BP.size;go_wp2_with fail;refine⟨.inr (av BP),?_⟩;refine ah rfl rfl (fun K hK=>?_);go_wp2_with fail;refine(HT2.out w7 A7 c7 VU.sl).mono ?_;rintro e w8 ⟨A8,c8,rfl,TJ,sY⟩;go_wp2_with fail;refine⟨.inr (av sY),?_⟩;refine ah rfl rfl (fun K hK=>?_);have py:=(((TH.below Ep (adi _)).below BP (adi _)).below sY (adi _));have pn:Below w.heap.size w w8:=(((qk.trans (TI.mono (by omega))).trans (Ep.mono (by omega))).trans (BP.mono (by omega))).trans (sY.mono (by omega));have Mn:Sl w8 w8.heap.size A8 (B8 G.reverse):=TJ.sl;refine b6 (m:=m) (c:=c8) (base:=w.heap.size) (xs:=B8 (List.replicate z 0)) (v:=.slice (some ⟨w5.heap.size,0,none⟩) z z) (A:=A8) (B:=w8.heap.size) (news:=B8 G.reverse) lC (.tmp 33) (.tmp 37) rfl rfl py rfl Mn (by rw[B8_length,List.length_reverse];exact HmG.out) (aR _) (by rw[B8_length,List.length_replicate];simp[maxLen];omega) (by rw[B8_length,List.length_replicate];omega) pn.size ?_;intro vZ wZ Mo TK hrZ;rw[←bp] at Mo;have H9:Below w.heap.size w wZ:=pn.grown TK pn.size (fun r hr=>(py.row r hr).1);refine hK _ _ ⟨.inl (by decide),?_⟩;clear hK K py pn Mn;go_simp;refine ah rfl rfl (fun K hK=>?_);go_wp2_with fail;refine⟨.inl (by decide),?_⟩;refine ah rfl rfl (fun K hK=>?_);go_wp2_with fail;refine⟨.inl (by decide),?_⟩;refine aB ?_;go_wp2_with fail;go_ret2;rw[J7.out];exact⟨_,rfl,Mo,H9⟩
  go_wp2_with fail;refine(O6.out (w5.drew) (YY.below ((adl _ _).drew) (adi _)).sl).mono ?_;rintro e w6 ⟨A6,c6,rfl,zL,Ep⟩;go_wp2_with fail;refine⟨av Ep,?_⟩;have qR:=qk.drew.trans (Ep.mono (by show w.heap.size≤w5.heap.size;omega));have Vs:=qR.size;refine ep rfl rfl rfl rfl (fun K hK=>?_) (fun K hK=>?_)
  · go_wp2_with fail
    refine⟨bq _ _,?_⟩;obtain⟨W7,hW7⟩:∃W,W=w6.alloc (.cells (Array.replicate z (Value.int IntKind.u8 0)) 5):=⟨_,rfl⟩;rw[←hW7]
    have TH:Ow W7 w.heap.size 5 (.slice (some ⟨w6.heap.size,0,none⟩) z z) (B8 (List.replicate z 0)):=by
     rw[hW7];have h:=Ow.of_row (w:=w6) (Array.replicate z (Value.int IntKind.u8 0)) 5 w.heap.size (by omega) (cap:=z) (by simp) (by unfold maxLen;omega) z (adi _);rw[show (Array.replicate z (Value.int IntKind.u8 0)).toList.take z=B8 (List.replicate z 0) from by simp[B8]] at h;exact h
    have TL:Below w6.heap.size w6 W7:=by rw[hW7];exact(adl _ _).alloc (adi _) _
    have acI:=TL.size;clear hW7;refine ah rfl rfl (fun K hK=>?_);go_wp2_with fail;refine(HBs.out W7 A6 c6 (zL.below TL (adi _)).sl).mono ?_;rintro e w8 ⟨A7,c7,rfl,VU,sY⟩;have abo:=sY.size;go_wp2_with fail;refine⟨.inr (av sY),?_⟩;refine ah rfl rfl (fun K hK=>?_);go_wp2_with fail;refine(HT2.out w8 A7 c7 VU.sl).mono ?_;rintro e w9 ⟨A8,c8,rfl,TJ,Er⟩;go_wp2_with fail;refine⟨.inr (av Er),?_⟩;refine ah rfl rfl (fun K hK=>?_);have py:=((TH.below sY (adi _)).below Er (adi _));have pn:Below w.heap.size w w9:=((qR.trans (TL.mono (by omega))).trans (sY.mono (by omega))).trans (Er.mono (by omega));have Mn:Sl w9 w9.heap.size A8 (B8 G.reverse):=TJ.sl;refine b6 (m:=m) (c:=c8) (base:=w.heap.size) (xs:=B8 (List.replicate z 0)) (v:=.slice (some ⟨w6.heap.size,0,none⟩) z z) (A:=A8) (B:=w9.heap.size) (news:=B8 G.reverse) lC (.tmp 33) (.tmp 37) rfl rfl py rfl Mn (by rw[B8_length,List.length_reverse];exact HmG.out) (aR _) (by rw[B8_length,List.length_replicate];simp[maxLen];omega) (by rw[B8_length,List.length_replicate];omega) pn.size ?_;intro vZ wZ Mo TK hrZ;rw[←bp] at Mo;have H9:Below w.heap.size w wZ:=pn.grown TK pn.size (fun r hr=>(py.row r hr).1);refine hK _ _ ⟨.inl (by decide),?_⟩;clear hK K py pn Mn;go_simp;refine ah rfl rfl (fun K hK=>?_);go_wp2_with fail;refine⟨.inl (by decide),?_⟩;refine ah rfl rfl (fun K hK=>?_);go_wp2_with fail;refine⟨.inl (by decide),?_⟩;refine aB ?_;go_wp2_with fail;go_ret2;rw[J7.out];exact⟨_,rfl,Mo,H9⟩
  go_wp2_with fail;refine(HBs.out w6 A6 c6 zL.sl).mono ?_;rintro e w7 ⟨A7,c7,rfl,VU,BP⟩;have abn:=BP.size;go_wp2_with fail;refine⟨av BP,?_⟩;have FI:=qR.trans (BP.mono (by omega));refine ep rfl rfl rfl rfl (fun K hK=>?_) (fun K hK=>?_)
  · go_wp2_with fail
    refine⟨bq _ _,?_⟩;obtain⟨W8,hW8⟩:∃W,W=w7.alloc (.cells (Array.replicate z (Value.int IntKind.u8 0)) 5):=⟨_,rfl⟩;rw[←hW8]
    have TH:Ow W8 w.heap.size 5 (.slice (some ⟨w7.heap.size,0,none⟩) z z) (B8 (List.replicate z 0)):=by
     rw[hW8];have h:=Ow.of_row (w:=w7) (Array.replicate z (Value.int IntKind.u8 0)) 5 w.heap.size (by omega) (cap:=z) (by simp) (by unfold maxLen;omega) z (adi _);rw[show (Array.replicate z (Value.int IntKind.u8 0)).toList.take z=B8 (List.replicate z 0) from by simp[B8]] at h;exact h
    have TM:Below w7.heap.size w7 W8:=by rw[hW8];exact(adl _ _).alloc (adi _) _
    have acJ:=TM.size;clear hW8;refine ah rfl rfl (fun K hK=>?_);go_wp2_with fail;refine(HT2.out W8 A7 c7 (VU.below TM (adi _)).sl).mono ?_;rintro e w9 ⟨A8,c8,rfl,TJ,Er⟩;go_wp2_with fail;refine⟨.inr (av Er),?_⟩;refine ah rfl rfl (fun K hK=>?_);have py:=(TH.below Er (adi _));have pn:Below w.heap.size w w9:=(FI.trans (TM.mono (by omega))).trans (Er.mono (by omega));have Mn:Sl w9 w9.heap.size A8 (B8 G.reverse):=TJ.sl;refine b6 (m:=m) (c:=c8) (base:=w.heap.size) (xs:=B8 (List.replicate z 0)) (v:=.slice (some ⟨w7.heap.size,0,none⟩) z z) (A:=A8) (B:=w9.heap.size) (news:=B8 G.reverse) lC (.tmp 33) (.tmp 37) rfl rfl py rfl Mn (by rw[B8_length,List.length_reverse];exact HmG.out) (aR _) (by rw[B8_length,List.length_replicate];simp[maxLen];omega) (by rw[B8_length,List.length_replicate];omega) pn.size ?_;intro vZ wZ Mo TK hrZ;rw[←bp] at Mo;have H9:Below w.heap.size w wZ:=pn.grown TK pn.size (fun r hr=>(py.row r hr).1);refine hK _ _ ⟨.inl (by decide),?_⟩;clear hK K py pn Mn;go_simp;refine ah rfl rfl (fun K hK=>?_);go_wp2_with fail;refine⟨.inl (by decide),?_⟩;refine ah rfl rfl (fun K hK=>?_);go_wp2_with fail;refine⟨.inl (by decide),?_⟩;refine aB ?_;go_wp2_with fail;go_ret2;rw[J7.out];exact⟨_,rfl,Mo,H9⟩
  go_wp2_with fail;refine(HT2.out w7 A7 c7 VU.sl).mono ?_;rintro e w8 ⟨A8,c8,rfl,TJ,sY⟩;have abo:=sY.size;go_wp2_with fail;refine⟨av sY,?_⟩;refine ah rfl rfl (fun K hK=>?_);go_wp2_with fail;refine⟨.inr (bq _ _),?_⟩;obtain⟨W9,hW9⟩:∃W,W=w8.alloc (.cells (Array.replicate z (Value.int IntKind.u8 0)) 5):=⟨_,rfl⟩;rw[←hW9]
  have TH:Ow W9 w.heap.size 5 (.slice (some ⟨w8.heap.size,0,none⟩) z z) (B8 (List.replicate z 0)):=by
   rw[hW9];have h:=Ow.of_row (w:=w8) (Array.replicate z (Value.int IntKind.u8 0)) 5 w.heap.size (by omega) (cap:=z) (by simp) (by unfold maxLen;omega) z (adi _);rw[show (Array.replicate z (Value.int IntKind.u8 0)).toList.take z=B8 (List.replicate z 0) from by simp[B8]] at h;exact h
  have YZ:Below w8.heap.size w8 W9:=by rw[hW9];exact(adl _ _).alloc (adi _) _
  clear hW9;refine ah rfl rfl (fun K hK=>?_);have py:=TH;have pn:Below w.heap.size w W9:=(FI.trans (sY.mono (by omega))).trans (YZ.mono (by omega));have Mn:Sl W9 W9.heap.size A8 (B8 G.reverse):=(TJ.below YZ (adi _)).sl;refine b6 (m:=m) (c:=c8) (base:=w.heap.size) (xs:=B8 (List.replicate z 0)) (v:=.slice (some ⟨w8.heap.size,0,none⟩) z z) (A:=A8) (B:=W9.heap.size) (news:=B8 G.reverse) lC (.tmp 33) (.tmp 37) rfl rfl py rfl Mn (by rw[B8_length,List.length_reverse];exact HmG.out) (aR _) (by rw[B8_length,List.length_replicate];simp[maxLen];omega) (by rw[B8_length,List.length_replicate];omega) pn.size ?_;intro vZ wZ Mo TK hrZ;rw[←bp] at Mo;have H9:Below w.heap.size w wZ:=pn.grown TK pn.size (fun r hr=>(py.row r hr).1);refine hK _ _ ⟨.inl (by decide),?_⟩;clear hK K py pn Mn;go_simp;refine ah rfl rfl (fun K hK=>?_);go_wp2_with fail;refine⟨.inl (by decide),?_⟩;refine ah rfl rfl (fun K hK=>?_);go_wp2_with fail;refine⟨.inl (by decide),?_⟩;refine aB ?_;go_wp2_with fail;go_ret2;rw[J7.out];exact⟨_,rfl,Mo,H9⟩
def checked (b:List UInt8):List UInt8:=b++(oI (oI b)).take 4
theorem fI (b:List UInt8):(checked b).length=b.length+4:=by simp[checked,eM]
theorem BQ (A:Option Addr) (c:Nat) (b:List UInt8) (w:World) (hs:Sl w w.heap.size A (B8 b)) (hl:b.length≤280) (jT:b.length≤c) (hc:c≤maxLen):
 Calls Tryz.prog 24 #[.slice A b.length c] w fun e W'=>e=.returned (.string ⟨(lH (checked b)).toArray⟩)∧Below w.heap.size w W':=by
 have bx:Tryz.prog.follows .mixedOrders=true:=by kernel_rfl
 go_enter Tryz.func24,Tryz.ntmps24;go_wp2_with fail;refine(uc A c b w hs (by omega) jT hc).mono ?_;rintro e w1 ⟨rfl,mY⟩;obtain⟨h1,qQ⟩:=ae (oI (oI b));have lE:h1.length=32:=by rw[qQ];exact eM _
 rw[←qQ];obtain⟨oc,fU⟩:∃oc,oc=(B8 h1).toArray:=⟨_,rfl⟩;have dv:oc.size=32:=by rw[fU];simp[lE]
 have cG:Hid ((Tryz.prog.info? 25).map (·.size)=some oc.size):=ab (by rw[dv];kernel_rfl);have jy:Hid ((Array.replicate 32 (Value.int .u8 0)).size=oc.size):=ab (by rw[dv];simp);have gn:Hid (oc.all (·.oneCell')=true):=ab (by rw[fU];exact all_oneCell_toArray (aR _));rw[←fU];have pH:=ab fU;have FC:=ab qQ;have kV:=mY.size;have iH:=(hs.below mY);clear fU qQ dv hs;go_wp2_with (refine ado rfl 25 (.tmp 3) (.tmp 5) rfl w1.heap.size oc rfl rfl 25 _ (adk w1 _) cG.out jy.out gn.out ?_;rw[adJ]);obtain⟨w2,kT⟩:=ae (w1.alloc (.cells oc 25));obtain⟨gh,xo⟩:=ae w1.heap.size;rw[←xo,←kT];have oV:Below w1.heap.size w1 w2:=by rw[kT];exact(adl _ _).alloc (adi _) _
 have mo:w2.heap.size=w1.heap.size+1:=by rw[kT];exact adD _ _
 have mw:w2.heap[gh]?=some (.cells (B8 h1).toArray 25 (0,0)):=by rw[kT,←pH.out,xo];exact adk w1 _
 have jt:Sl w2 w2.heap.size A (B8 b):=(iH.below (oV.mono kV)).mono (by omega);have VV:gh<w2.heap.size:=by omega
 have Mp:=mY.trans (oV.mono kV);have Hg2:=ab mw;have QY:=ab jt;clear mw kT iH jt xo cG jy gn pH;refine aE [(0,0),(2,0),(1,2),(3,2),(4,2),(5,2)] 3 bx (by kernel_rfl) (by intro c a d v w h;cases d<;>exact h) ?_
 repeat ((first|(refine ao rfl (fun K hK=>?_)) );go_simp;(first|(refine hK _ ?_) );clear hK K;(try go_bits))
 refine ah rfl rfl (fun K hK=>?_);go_wp2_with fail;refine(j4 A c b w2.drew QY.out (by omega)).mono ?_;rintro e w3 ⟨v,rfl,ho,b5⟩;obtain⟨Av,cv,rfl,JR,IN⟩:=bw ho;go_wp2_with fail;refine⟨.inr (av b5),?_⟩;refine ah rfl rfl (fun K hK=>?_);have TN:Below w2.heap.size w2 w3:=⟨b5.os,b5.tape,b5.output,b5.size,b5.block⟩;have KW:=TN.size;have lV:=(TN.block gh VV).trans Hg2.out
 have Y0:Sl w3 w3.heap.size (some ⟨gh,0,none⟩) (B8 (h1.take 4)):=fun _=>⟨_,0,rfl,by omega,fun j hj=>by
  have hj4:j<4:=by simp at hj;omega
  rw[adn w3 _ _ _ _ (0,0) lV,Nat.zero_add,ed];simp[B8,lE,show j<32 by omega]⟩
 refine b6 (m:=4) (c:=32) (base:=w2.heap.size) (xs:=B8 b) (v:=.slice Av b.length cv) (A:=some ⟨gh,0,none⟩) (B:=w3.heap.size) (news:=B8 (h1.take 4)) lC (.tmp 7) (.tmp 8) rfl rfl ho rfl Y0 (by simp[lE]) (aR _) (by rw[B8_length];simp[maxLen];omega) (by rw[B8_length];omega) KW ?_;intro v4 w4 rK zO zI;rw[←bp,FC.out] at rK;have gg:=TN.grown zO KW (fun r hr=>(ho.row r hr).1);refine hK _ _ ⟨.inl (by decide),?_⟩;clear hK K;obtain⟨A4,c4,rfl,C8,Xk⟩:=bw rK;have hlen:(b++(oI (oI b)).take 4).length=b.length+4:=fI b;go_simp;refine ah rfl rfl (fun K hK=>?_);go_wp2_with fail;have Ie:=Ek A4 c4 (checked b) (by rw[fI];omega) w4 rK.sl;rw[fI] at Ie;refine Ie.mono ?_;rintro e w5 ⟨rfl,QX⟩;go_wp2_with fail;refine⟨.inl (by decide),?_⟩;refine ah rfl rfl (fun K hK=>?_);go_wp2_with fail;refine⟨.inl (by decide),?_⟩;refine aB ?_;go_wp2_with fail;go_ret;exact⟨rfl,(Mp.trans (gg.mono (by omega))).trans (QX.mono (by have:=gg.size;omega))⟩
theorem nW7 (xs:List (BitVec 32)):(cg xs).toArray.all (·.oneCell')=true:=all_oneCell_toArray fun v hv=>by
 obtain⟨x,_,rfl⟩:=List.mem_map.1 hv;rfl
end Go.Proofs.YtnlkdheaohocnaaGreatDoor
namespace Go.Proofs.YtnlkdheaohocnaaGreatDoor
open Go.RowKit Go.Shelf
end Go.Proofs.YtnlkdheaohocnaaGreatDoor
