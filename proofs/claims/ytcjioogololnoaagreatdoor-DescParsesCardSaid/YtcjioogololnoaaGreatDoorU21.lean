/- Of any text: the program's descriptors and the reference's are read and written alike (DescParses). No condition. -/
import Derived.Test.YtcjioogololnoaaGreatDoorU1
import Derived.Test.YtcjioogololnoaaGreatDoorU20
import Derived.Test.YtcjioogololnoaaGreatDoorU19
import Derived.Test.YtcjioogololnoaaGreatDoorU18
import Derived.Test.YtcjioogololnoaaGreatDoorU13
import Derived.ChangeKeysEq
set_option maxRecDepth 1000000
set_option maxHeartbeats 16000000
set_option linter.unusedVariables false
set_option linter.unusedSimpArgs false
namespace Go.Proofs.YtcjioogololnoaaGreatDoor
open Go Go.RowKit Go.Shelf
def DL (s w:List UInt8):List UInt8:=w++40::(s++[41])
theorem tr:∀(ws:List (List UInt8)) (s:List UInt8),mg ws s=ws.reverse.foldl DL s
 |[],_=>rfl
 |w::ws,s=>by
  rw[List.reverse_cons,List.foldl_append,←tr ws s];rfl
def xi (F:Fence) (n:Nat) (P:Program) (fn:Func) (R:Ending→World→Prop):Exit→Act→World→Prop
 |.panic chain,a,w=>a.defers=[]∧R (.panicked chain) w
 |e,a,w=>bodyPostM F n P fn R e a w
theorem Y1 {F:Fence} {n:Nat} {P:Program} {fn:Func} {R:Ending→World→Prop}:∀e a w,xi F n P fn R e a w→bodyPostM F n P fn R e a w
 |.normal,_,_,h=>h
 |.ret,_,_,h=>h
 |.outgrown,_,_,h=>h
 |.exit _,_,_,h=>h
 |.goto _,_,_,h=>h
 |.panic c,a,w,h=>by
  obtain⟨hd,hR⟩:=h;show LeavesInM F n P fn a.tmps R a.defers (.panicking c) w;rw[hd];exact hR
attribute [local go_sem] Oper.semAt_some
theorem TL (n0:Nat) (zL:3≤n0) (d:DDesc) (hd:d.Fit) (base g:Nat) (w:World) (hD:DA w base g d) (hE:Env w):
 CallsIn Fence.wide n0 Tryz.prog 9 #[.pointer (some ⟨g,0,none⟩)] w fun e W'=>e=.returned (.string ⟨(iJ d).toArray⟩)∧Below w.heap.size w W':=by
 have h1:1≤n0:=by omega
 have hF:∀k,Fence.wide.fn k:=fun _=>trivial
 have oS:Fence.wide.round=none:=rfl;have bW:Tryz.prog.follows .mixedOrders=true:=by kernel_rfl
 obtain⟨v,kv,hR,hO,hK⟩:=hD;obtain⟨Ak,ck,rfl,nq,Ri⟩:=hK.form;obtain⟨Av,cv,rfl,oV,hv2⟩:=hO.form;rw[ST_length] at hR oV hO;have pT:g<w.heap.size:=(af3.1 hR).1;obtain⟨n,hn⟩:=ab d.keys.length;have adF:n≤16:=by rw[hn];exact hd.num
 rw[←hn] at nq hR hK;obtain⟨m,hm⟩:=ab d.wraps.length;have hm3:m≤3:=by rw[hm];exact hd.wraps
 rw[←hm] at oV hR hO;have c0:=Ds hR;have c1:=Pc hR;have c2:=Ts hR;have c3:=OZ hR;have Hn:=aa hn;have Hm:=aa hm;have HR:=aa hR;have HO:=aa hO;have HK:=aa hK;have HE:=aa hE;have Hd:=aa hd;have FM:=aa pT;have IK:=aa (show (Tryz.prog.info? 62).map (·.size)=some 75 by kernel_rfl);clear hn hm hR hO hK hE hd pT;refine callsIn_of_wp_marks Tryz.func9 rfl (hF _) ?_ oS;simp only[Tryz.ntmps9,List.size_toArray,agm,List.length_nil,Nat.reduceAdd,Nat.reduceSub,Array.replicate_succ,Array.replicate_zero,List.push_toArray,List.append_toArray,agJ,agw];refine wpIn_mono (Q:=xi _ _ _ _ _) ?_ Y1;refine wpIn_wide.2 ?_;go_wp2_with fail;go_loopw [3,16] (fun s i wr=>∃k:Nat,k≤n∧i=.int .i64 k∧Ow wr w.heap.size 9 s (ST ((d.keys.take k).map di))∧Below w.heap.size w wr) (fun _ i _=>n-(intOf i).toNat)
 case atStart=>exact⟨0,agu _,rfl,Ow.nil_ _ _ _ _,af5 _ _⟩
 case round=>
  obtain⟨k,hk,rfl,ho,hb⟩:=hrel;obtain⟨As,cs0,rfl,jY,px⟩:=ho.form;have EE:(ST ((d.keys.take k).map di)).length=k:=by rw[ST_length,List.length_map,agj,←Hn.out];omega
  rw[EE] at ho jY⊢
  by_cases aL:k<n
  · have zf:k<d.keys.length:=by have:=Hn.out;omega
    obtain⟨ky,TM⟩:∃ky,ky=d.keys[k]:=⟨_,rfl⟩;obtain⟨gk,ck',pv,sv,he,jR,gF,rO⟩:=HK.out.at_ k zf;rw[←TM] at gF rO;injection he with he1 he2 he3;subst he1;have gH:ky.Fit:=by rw[TM];exact Hd.out.keys _ (agl _)
    have FU:wr.rangeAt gk (k*75) (eS ky pv sv):=fun j u hu=>et (rO j u hu) hb
    have abA:=gF.below hb
    have jO:ST ((d.keys.take k).map di)++[.string ⟨(di ky).toArray⟩]=ST ((d.keys.take (k+1)).map di):=by
     rw[u9,agh zf,List.map_append,TM];rfl
    obtain⟨L,hL⟩:=ab (eS ky pv sv);have dX:L.length=75:=by rw[hL];exact aT gH.top _ _
    obtain⟨w1,gu⟩:=ab (wr.alloc (.cells L.toArray 62));obtain⟨G,hG⟩:=ab wr.heap.size;have aZ:Below wr.heap.size wr w1:=by rw[gu];exact(af5 _ _).alloc (af2 _) _
    have dy:Below w.heap.size w w1:=hb.trans (aZ.mono hb.size);have hN1:w1.heap[G]?=some (.cells L.toArray 62 (0,0)):=by rw[gu,hG];exact af4 wr _
    have HT:=aa (DI ky gH pv sv _ w1 (abA.below aZ) (HE.out.below dy));rw[←hL] at HT FU;have Y2:=aa (ho.below aZ (af2 _));have HN1:=aa hN1;have Kz:=aa gu;have HG:=aa hG;have jN:=aa dy;have abB:Hid (Tryz.zeroCells62.size=L.toArray.size):=aa (by simp only[List.size_toArray,dX];kernel_rfl);have HIc:Hid ((Tryz.prog.info? 62).map (·.size)=some L.toArray.size):=aa (by simp only[List.size_toArray,dX];exact IK.out);have ML:Hid ((Tryz.prog.info? 62).map (·.size)=some L.length):=aa (by rw[dX];exact IK.out);have H1c:Hid (L.toArray.all (·.oneCell')=true):=aa (by rw[hL];exact ir _ _ _ gF.one.1 gF.one.2);have Ld:=aa FU;have oh:=aa jO;have TN:=aa EE;clear TM he2 he3 gF rO gH FU abA jO hL dX gu hG aZ dy hN1 ho hb EE jR;go_wp2_with (first|((with_reducible refine wpList_load_mid ?_ 62 (.tmp 18) ?_ gk (k*75) ?_ L _ Ld.out Tryz.underlying62 ?_ ML.out ?_);rfl;rfl;rfl;rfl)|((with_reducible refine af6 ?s1 62 (.tmp 5) (.tmp 19) ?s2 wr.heap.size L.toArray ?s3 ?s4 62 _ (af4 wr _) HIc.out ?s6 H1c.out ?_);(case s1=>rfl);(case s2=>rfl);(case s3=>rfl);(case s4=>rfl);(case s6=>exact abB.out);rw[agi];(refine(show w1=_ from Kz.out)▸?_);rw[←HG.out])|((with_reducible refine aga ?_ 62 (.tmp 5) ?_ G ?_ 62 L.toArray (0,0) _ HN1.out Tryz.underlying62 ?_ HIc.out ?_);rfl;rfl;rfl;rfl));refine HT.out.mono ?_;rintro e w2 ⟨rfl,bt⟩;obtain⟨X0,X4⟩:=ab (ST ((d.keys.take k).map di));rw[←X4] at Y2 TN oh;have Ho2:=aa (Y2.out.below bt (af2 _));have mH:=aa (jN.out.trans (bt.mono jN.out.size));have Vy:Hid (∀o,w.heap.size≤(w2.alloc o).heap.size):=aa fun o=>by have:=mH.out.size;rw[agn];omega
    obtain⟨kt,hkt⟩:=ab (di ky);rw[←hkt] at oh⊢;clear bt X4 hkt Y2 HT Ld HN1 Kz HG jN;go_wp2_with (at_builtin;go_loud (refine aq (m:=1) (c:=1) (base:=w.heap.size) (xs:=X0) (v:=.slice As k cs0) (A:=some ⟨w2.heap.size,0,none⟩) (B:=w2.heap.size+1) (news:=[.string ⟨kt.toArray⟩]) elT rfl (.tmp 20) (.tmp 23) rfl rfl (Ho2.out.alloc _) rfl (Sl.one w2 _ _) rfl (by simp;rfl) (by rw[TN.out];simp[maxLen];omega) (by rw[TN.out];omega) (Vy.out _) ?_);intro v3 w3 cZ fl j0;rw[oh.out] at cZ;have qC:=aa (bE mH.out (af2 _) Ho2.out fl);have VV:=aa cZ;clear fl cZ j0);exact⟨⟨k+1,by omega,rfl,VV.out,qC.out⟩,by simp[intOf];omega⟩
  obtain rfl:k=n:=by omega
  have jO:d.keys.take k=d.keys:=af7 (by have:=Hn.out;omega);rw[jO] at ho;obtain⟨jB,hjB⟩:∃jB:ByteArray,jB=⟨(Lib.join (d.keys.map di) [44]).toArray⟩:=⟨_,rfl⟩;have hjz:jB.size≤6416:=by rw[hjB,aA];exact(pf Hd.out).1
  have hj:=mc As cs0 (d.keys.map di) 44 wr ho.sl (by rw[List.length_map,←Hn.out];exact jY) (by have:=(pf Hd.out).1;omega) (by rw[List.length_map,←Hn.out];omega);rw[←hjB,List.length_map,←Hn.out] at hj;have Hj:=aa hj;have HjB:=aa hjB;have Hb:=aa hb;clear jO hjB hj hb ho EE c0 c1 c2 c3;go_wp2_with fail;refine Hj.out.mono ?_;rintro e w2 ⟨rfl,bt⟩;have dZ:Below w.heap.size w w2:=Hb.out.trans (bt.mono Hb.out.size);have hR2:=(dZ.block g FM.out).trans HR.out;have Fh:g<w2.heap.size:=(af3.1 hR2).1;have c0:=Ds hR2;have c1:=Pc hR2;obtain⟨w3,mf⟩:=ab (w2.alloc (.cells #[.string jB] 9))
  obtain⟨G6,hG6⟩:=ab w2.heap.size;have bd:Below w.heap.size w w3:=by rw[mf];exact dZ.alloc dZ.size _
  have hgx:w3.heap[G6]?=some (.cells #[.string jB] 9 (0,0)):=by rw[mf,hG6];exact af4 w2 _
  have Y3:Hid (w.heap.size≤G6):=aa (by rw[hG6];exact dZ.size);have Hw3:=aa mf;have HG6:=aa hG6;have qC:=aa bd;have GX3:=aa hgx;obtain⟨mm,Y4⟩:=ab d.m;rw[←Y4] at c1;have VW:=aa Y4;clear bt dZ hR2 mf hG6 bd hgx Y4 Hj Hb
  by_cases h0:0<mm
  · have Kp:decide ((0:Int)<(mm:Int))=true:=af9 (by omega)
    go_wp2_with fail;refine(show w3=_ from Hw3.out)▸?_;rw[←HG6.out];have hR3:=(qC.out.block g FM.out).trans HR.out;have q1:=Pc hR3;rw[←VW.out] at q1;have q2:=Ts hR3;have q6:w3.cell? ⟨G6,0,none⟩=some (.string jB):=by rw[agb _ _ _ _ _ _ GX3.out];rfl
    have Y5:=aa (fun (W:World) (h:W.cell? ⟨g,2,none⟩=some (.bool d.sorted))=>DK g d.sorted W h);obtain⟨mB,hmB⟩:∃mB:ByteArray,mB=⟨(jn d.sorted).toArray⟩:=⟨_,rfl⟩;have hmz:mB.size≤11:=by rw[hmB,aA];exact(pg _).1
    obtain⟨iB,hiB⟩:∃iB:ByteArray,iB=⟨(Lib.itoa (mm:Int)).toArray⟩:=⟨_,rfl⟩;have abC:mm≤16:=by rw[VW.out];exact Hd.out.m
    have hiz:iB.size≤2:=by rw[hiB,aA];exact xg mm (by omega)
    rw[←hmB] at Y5;have HIt:=aa (fun (W:World) (h:Env W)=>Dd (mm:Int) (by omega) (by omega) W h);rw[←hiB] at HIt;have Hq2:=aa q2;have HmB:=aa hmB;have HiB:=aa hiB;clear hR3 q2 hmB hiB c0 c1;refine an [(0,0),(3,0),(4,0),(5,0),(6,1),(10,1),(1,2),(2,0),(7,2),(8,0),(9,0),(11,0),(12,0),(13,2)] 13 bW (by kernel_rfl) (by intro c a d v w h;cases d<;>exact h) ?_
    repeat ((first|refine ag rfl fun K hK=>?_|refine af rfl fun K hK=>?_);go_simp;(first|refine hK _ ?_|(simp only[IntWalk.iteOmega];go_simp;refine hK _ ?_)|(go_bits;go_simp;refine hK _ ?_));clear hK K;try go_bits)
    refine ae rfl rfl (fun K hK=>?_);go_wp2_with fail;refine(Y5.out w3.drew Hq2.out).mono ?_;rintro e w4 ⟨rfl,bD⟩;rw[bD];clear bD Y5;go_wp2_with fail;refine⟨.inr (Ext.refl _),?_⟩
    repeat ((first|refine ag rfl fun K hK=>?_|refine af rfl fun K hK=>?_);go_simp;(first|refine hK _ ?_|(simp only[IntWalk.iteOmega];go_simp;refine hK _ ?_)|(go_bits;go_simp;refine hK _ ?_));clear hK K;try go_bits)
    refine ae rfl rfl (fun K hK=>?_);go_wp2_with fail;refine(HIt.out w3.drew (HE.out.below qC.out.drew)).mono ?_;rintro e w5 ⟨rfl,eh⟩;have EF:=aa (qC.out.drew.trans (eh.mono qC.out.size));have HX5:=aa (aj eh);have XX:=aa ((eh.block G6 (af3.1 GX3.out).1).trans GX3.out);have f6:w5.frozen? ⟨G6,0,none⟩=false:=agF _ _ _ _ _ XX.out;have p6:w5.cell? ⟨G6,0,none⟩=some (.string jB):=by rw[agb _ _ _ _ _ _ XX.out];rfl
    clear eh HIt;go_wp2_with fail;refine⟨.inr HX5.out,?_⟩
    repeat ((first|refine ag rfl fun K hK=>?_|refine af rfl fun K hK=>?_);go_simp;(first|refine hK _ ?_|(simp only[IntWalk.iteOmega];go_simp;refine hK _ ?_)|(go_bits;go_simp;refine hK _ ?_));clear hK K;try go_bits)
    refine ae rfl rfl (fun K hK=>?_);go_wp2_with fail;refine⟨.inl (by decide),ak ?_⟩;obtain⟨iT,vc⟩:∃iT:ByteArray,iT=mB++⟨#[40]⟩++iB++⟨#[44]⟩++jB++⟨#[41]⟩:=⟨_,rfl⟩
    rw[←vc]
    have abD:iT.size≤6500:=by
     rw[vc];simp only[ByteArray.size_append];show mB.size+1+iB.size+1+jB.size+1≤6500;omega
    have abE:iT=⟨(dQ d).toArray⟩:=by
     rw[vc,HmB.out,HiB.out,HjB.out,dQ,if_pos (by rw[←VW.out];exact h0),←VW.out];rw[show (⟨#[40]⟩:ByteArray)=⟨([40]:List UInt8).toArray⟩ from rfl,show (⟨#[44]⟩:ByteArray)=⟨([44]:List UInt8).toArray⟩ from rfl,show (⟨#[41]⟩:ByteArray)=⟨([41]:List UInt8).toArray⟩ from rfl]
     simp only[cU,agL,agw,agJ]
    obtain⟨w6,uc⟩:∃w6,w6=w5.setCell ⟨G6,0,none⟩ (.string iT):=⟨_,rfl⟩;rw[←uc];have HSX:=aa abE;have Y6:=aa abD;have VX:Hid (Below w.heap.size w w6):=aa (by rw[uc];exact EF.out.setCell (p:=⟨G6,0,none⟩) Y3.out _);have GX:Hid (w6.heap[G6]?=some (.cells #[.string iT] 9 (0,0))):=aa (by rw[uc];exact heap_setCell_same _ G6 0 _ _ _ XX.out)
    have hR6:=(VX.out.block g FM.out).trans HR.out;have q0:=Ds hR6;clear vc abD abE uc p6 f6 q1 q6 hR6 hmz hiz hjz;go_wp2_with fail;obtain⟨Bs,pn⟩:∃Bs,Bs=(w6).heap.size:=⟨_,rfl⟩;refine((callsIn_wide (n:=n0)).1 (Jd Fence.wide hF oS n0 Av m cv (w6))).mono ?_;rintro e w8 ⟨rfl,TO⟩;have b8:Boxed w8 Bs 45 (.slice Av m cv):=by rw[TO,pn];exact Boxed.new _ _ _
    have eR:Below (w6).heap.size (w6) w8:=by rw[TO];exact(af5 _ _).alloc (af2 _) _
    have b6:Boxed w8 G6 9 (.string iT):=(eR.block G6 (af3.1 GX.out).1).trans GX.out;have FV:Below w.heap.size w w8:=VX.out.trans (eR.mono VX.out.size);have KX:w8.heap.size=Bs+1:=by rw[TO,pn];simp
    have Y7:w.heap.size≤Bs:=by rw[pn];exact VX.out.size
    obtain⟨BW,kO⟩:=ab w.heap.size;have Rw:Sl w8 BW Av (ST d.wraps):=by rw[kO];exact(HO.out.sl).below FV
    rw[←pn];rw[←kO] at FV Y7;have hGB:G6<Bs:=by rw[pn];exact(af3.1 GX.out).1
    have h6W:BW≤G6:=by rw[kO];exact Y3.out
    have Y8:w8.cell? ⟨Bs,0,none⟩=some (.slice Av d.wraps.length cv):=by rw[←Hm.out];exact b8.cell
    have PB:∀j (h:j<d.wraps.length),d.wraps[j].length≤4:=fun j h=>(rZ _ (Hd.out.words _ (agl h))).1
    have HBW:=aa kO;clear pn TO eR kO;go_wp2_with fail;refine(wpIn_wide (n:=n0)).1 ?_
    refine wpIn_rangeFunc_ownG (a₁:=?frA1) oS h1 (gf:=55) (lb:=#[.pointer (some ⟨Bs,0,none⟩)]) rfl (hF _) (enters_of Tryz.func55 (by kernel_rfl) rfl)
     (uf Fence.wide hF oS (n0-1) (by omega) Bs BW (Keep BW Bs) (Keep.refl _ _) j2 (fun h=>h.2) Av cv d.wraps (by have:=Hm.out;omega) (α:={x:Nat×List UInt8 // x.2.length≤4}) (·.1) (fun j h=>⟨⟨(j,d.wraps[j]),PB j h⟩,rfl⟩) w8 (fun W hW=>⟨hW.mono (by omega),hW.block Bs (by omega)⟩) Y8 (fun W' h=>Rw.below h.1))
     j2 (uR (by omega) (by omega)) (af5 _ _) (fun _=>rfl)
     (fun pre W=>(∃sB:ByteArray,Boxed W G6 9 (.string sB)∧sB=⟨((pre.map (·.1.2)).foldl DL (dQ d)).toArray⟩∧sB.size≤6500+6*pre.length)∧Below BW w8 W)
     (fun _ _ _=>False)
     (OwnFrom.and (Go.Own.from (fun s A B row hs hg hr=>let ⟨sB,h0,h1,h2⟩:=hs;⟨sB,dU h0 hg hr,h1,h2⟩) _) (ownFrom_below (by omega) (by omega)))
     (fun _ _ _ _ _ hs _ _=>hs)
     ⟨⟨iT,b6,HSX.out,by simp;have:=Y6.out;omega⟩,af5 _ _⟩
     ?assign ?body ?done ?stop
    case assign=>
     intro l x W K hK
     gi_wp2
     exact hK
    case stop=>
     rintro D c pre W _ _ h _;exact h.elim
    case done=>
     rintro D ys W hD tI ⟨⟨sB,h6,FW,hsz⟩,kO⟩ hK
     have nP:ys.map (·.1.2)=d.wraps.reverse:=by
      rw[←zw d.wraps,←tI];simp[Function.comp_def]
     have hyl:ys.length≤3:=by
      have:=congrArg List.length nP;simp at this;have:=Hm.out;omega
     rw[nP,←tr] at FW;have hsd:sB.data.toList=fh d:=by rw[FW];rfl
     have eX:=lI sB W (by omega);rw[hsd] at eX;have adG:sB.size≤6518:=by omega
     have HK:=aa hK;have HD:=aa hD;have xl:=aa kO;have Y9:=aa FW;have BY:=aa eX;have c6:=h6.cell;have H6:=aa h6;clear hsz eX hsd FW nP hyl tI hK hD kO h6 b6 b8;go_wp2_with fail;refine BY.out.mono ?_;rintro e w9 ⟨h9,kC⟩;rcases h9 with ⟨_,rfl⟩|⟨⟨c,hc,hn⟩,_⟩
     · have h69:=(kC.block G6 (af3.1 H6.out).1).trans H6.out
       have c69:w9.cell? ⟨G6,0,none⟩=some (.string sB):=by rw[agb _ _ _ _ _ _ h69];rfl
       obtain⟨kB,vd⟩:∃kB:ByteArray,kB=⟨(aE (fh d)).toArray⟩:=⟨_,rfl⟩;have hkz:kB.size≤8:=by rw[vd,aA,aE];simp[bG]
       rw[←vd];have FD:=aa kC;have Le:=aa vd;clear vd kC c6;go_wp2_with fail;have hK9:w9.heap[D]?=some (.deferred (some [])):=(FD.out.block D (af3.1 HK.out).1).trans HK.out;refine⟨by simp,.inl ⟨_,_,rfl,run_takeDeferred hK9,?_⟩⟩;refine⟨_,results_tmp rfl _ _ _,?_,?_⟩
       · have hdT:sB++⟨#[35]⟩++kB=⟨(iJ d).toArray⟩:=by
          rw[Y9.out,Le.out,iJ,fh,show (⟨#[35]⟩:ByteArray)=⟨([35]:List UInt8).toArray⟩ from rfl]
          simp only[cU,agL,agw,agJ]
         rw[←hdT];rfl
       rw[←HBW.out];exact((FV.trans xl.out).trans (FD.out.mono (by have:=xl.out.size;omega))).trans (belowK_b (w:=w8) (by omega) _ D _ _ HD.out hK9 rfl rfl)
     exact absurd (oE ((mr Hd.out).2 c hc)).1 hn
    case body=>
     rintro l pre ⟨x,hx⟩ W ⟨⟨sB,h6,FW,hsz⟩,kO⟩ po;have tH:pre.length<3:=by have:=Hm.out;omega
     have hxz:(⟨x.2.toArray⟩:ByteArray).size≤4:=by rw[aA];exact hx
     have c6:=h6.cell;have f6:=h6.frozen;have Y9:=aa FW;have H6:=aa h6;have xl:=aa kO;clear FW h6 kO b6 b8 Rw po
     gi_wp2
     have bk:∀v,Below BW W (W.setCell ⟨G6,0,none⟩ v):=fun v=>(af5 _ _).mono (by have:=xl.out.size;omega) |>.setCell (p:=⟨G6,0,none⟩) h6W v
     refine⟨(KeepsOthers.setCell _ _ _).from _,⟨bk _,ago _ _ _ _ (show Bs≠G6 by omega)⟩,⟨_,H6.out.set _,?_,?_⟩,xl.out.trans (bk _)⟩
     · rw[List.map_append,List.foldl_append,Y9.out,show (⟨#[40]⟩:ByteArray)=⟨([40]:List UInt8).toArray⟩ from rfl,show (⟨#[41]⟩:ByteArray)=⟨([41]:List UInt8).toArray⟩ from rfl]
       simp only[cU,agL,agw,agJ,List.map_cons,List.map_nil,List.foldl_cons,List.foldl_nil,DL]
     simp only[ByteArray.size_append,agc,agm,List.length_nil];show (⟨x.2.toArray⟩:ByteArray).size+1+sB.size+1≤_;omega
  obtain rfl:mm=0:=by omega
  have HSX:Hid (jB=⟨(dQ d).toArray⟩):=aa (by rw[HjB.out,dQ,if_neg (by rw[←VW.out];omega)]);have Y6:Hid (jB.size≤6500):=aa (by omega);have VX:=qC;have GX:=GX3;clear h0;go_wp2_with fail;refine(show w3=_ from Hw3.out)▸?_;rw[←HG6.out];obtain⟨Bs,pn⟩:∃Bs,Bs=(w3).heap.size:=⟨_,rfl⟩;refine((callsIn_wide (n:=n0)).1 (Jd Fence.wide hF oS n0 Av m cv (w3))).mono ?_;rintro e w8 ⟨rfl,TO⟩;have b8:Boxed w8 Bs 45 (.slice Av m cv):=by rw[TO,pn];exact Boxed.new _ _ _
  have eR:Below (w3).heap.size (w3) w8:=by rw[TO];exact(af5 _ _).alloc (af2 _) _
  have b6:Boxed w8 G6 9 (.string jB):=(eR.block G6 (af3.1 GX.out).1).trans GX.out;have FV:Below w.heap.size w w8:=VX.out.trans (eR.mono VX.out.size);have KX:w8.heap.size=Bs+1:=by rw[TO,pn];simp
  have Y7:w.heap.size≤Bs:=by rw[pn];exact VX.out.size
  obtain⟨BW,kO⟩:=ab w.heap.size;have Rw:Sl w8 BW Av (ST d.wraps):=by rw[kO];exact(HO.out.sl).below FV
  rw[←pn];rw[←kO] at FV Y7;have hGB:G6<Bs:=by rw[pn];exact(af3.1 GX.out).1
  have h6W:BW≤G6:=by rw[kO];exact Y3.out
  have Y8:w8.cell? ⟨Bs,0,none⟩=some (.slice Av d.wraps.length cv):=by rw[←Hm.out];exact b8.cell
  have PB:∀j (h:j<d.wraps.length),d.wraps[j].length≤4:=fun j h=>(rZ _ (Hd.out.words _ (agl h))).1
  have HBW:=aa kO;clear pn TO eR kO;go_wp2_with fail;refine(wpIn_wide (n:=n0)).1 ?_
  refine wpIn_rangeFunc_ownG (a₁:=?frA2) oS h1 (gf:=55) (lb:=#[.pointer (some ⟨Bs,0,none⟩)]) rfl (hF _) (enters_of Tryz.func55 (by kernel_rfl) rfl)
   (uf Fence.wide hF oS (n0-1) (by omega) Bs BW (Keep BW Bs) (Keep.refl _ _) j2 (fun h=>h.2) Av cv d.wraps (by have:=Hm.out;omega) (α:={x:Nat×List UInt8 // x.2.length≤4}) (·.1) (fun j h=>⟨⟨(j,d.wraps[j]),PB j h⟩,rfl⟩) w8 (fun W hW=>⟨hW.mono (by omega),hW.block Bs (by omega)⟩) Y8 (fun W' h=>Rw.below h.1))
   j2 (uR (by omega) (by omega)) (af5 _ _) (fun _=>rfl)
   (fun pre W=>(∃sB:ByteArray,Boxed W G6 9 (.string sB)∧sB=⟨((pre.map (·.1.2)).foldl DL (dQ d)).toArray⟩∧sB.size≤6500+6*pre.length)∧Below BW w8 W)
   (fun _ _ _=>False)
   (OwnFrom.and (Go.Own.from (fun s A B row hs hg hr=>let ⟨sB,h0,h1,h2⟩:=hs;⟨sB,dU h0 hg hr,h1,h2⟩) _) (ownFrom_below (by omega) (by omega)))
   (fun _ _ _ _ _ hs _ _=>hs)
   ⟨⟨jB,b6,HSX.out,by simp;have:=Y6.out;omega⟩,af5 _ _⟩
   ?assign ?body ?done ?stop
  case assign=>
   intro l x W K hK
   gi_wp2
   exact hK
  case stop=>
   rintro D c pre W _ _ h _;exact h.elim
  case done=>
   rintro D ys W hD tI ⟨⟨sB,h6,FW,hsz⟩,kO⟩ hK
   have nP:ys.map (·.1.2)=d.wraps.reverse:=by
    rw[←zw d.wraps,←tI];simp[Function.comp_def]
   have hyl:ys.length≤3:=by
    have:=congrArg List.length nP;simp at this;have:=Hm.out;omega
   rw[nP,←tr] at FW;have hsd:sB.data.toList=fh d:=by rw[FW];rfl
   have eX:=lI sB W (by omega);rw[hsd] at eX;have adG:sB.size≤6518:=by omega
   have HK:=aa hK;have HD:=aa hD;have xl:=aa kO;have Y9:=aa FW;have BY:=aa eX;have c6:=h6.cell;have H6:=aa h6;clear hsz eX hsd FW nP hyl tI hK hD kO h6 b6 b8;go_wp2_with fail;refine BY.out.mono ?_;rintro e w9 ⟨h9,kC⟩;rcases h9 with ⟨_,rfl⟩|⟨⟨c,hc,hn⟩,_⟩
   · have h69:=(kC.block G6 (af3.1 H6.out).1).trans H6.out
     have c69:w9.cell? ⟨G6,0,none⟩=some (.string sB):=by rw[agb _ _ _ _ _ _ h69];rfl
     obtain⟨kB,vd⟩:∃kB:ByteArray,kB=⟨(aE (fh d)).toArray⟩:=⟨_,rfl⟩;have hkz:kB.size≤8:=by rw[vd,aA,aE];simp[bG]
     rw[←vd];have FD:=aa kC;have Le:=aa vd;clear vd kC c6;go_wp2_with fail;have hK9:w9.heap[D]?=some (.deferred (some [])):=(FD.out.block D (af3.1 HK.out).1).trans HK.out;refine⟨by simp,.inl ⟨_,_,rfl,run_takeDeferred hK9,?_⟩⟩;refine⟨_,results_tmp rfl _ _ _,?_,?_⟩
     · have hdT:sB++⟨#[35]⟩++kB=⟨(iJ d).toArray⟩:=by
        rw[Y9.out,Le.out,iJ,fh,show (⟨#[35]⟩:ByteArray)=⟨([35]:List UInt8).toArray⟩ from rfl]
        simp only[cU,agL,agw,agJ]
       rw[←hdT];rfl
     rw[←HBW.out];exact((FV.trans xl.out).trans (FD.out.mono (by have:=xl.out.size;omega))).trans (belowK_b (w:=w8) (by omega) _ D _ _ HD.out hK9 rfl rfl)
   exact absurd (oE ((mr Hd.out).2 c hc)).1 hn
  case body=>
   rintro l pre ⟨x,hx⟩ W ⟨⟨sB,h6,FW,hsz⟩,kO⟩ po;have tH:pre.length<3:=by have:=Hm.out;omega
   have hxz:(⟨x.2.toArray⟩:ByteArray).size≤4:=by rw[aA];exact hx
   have c6:=h6.cell;have f6:=h6.frozen;have Y9:=aa FW;have H6:=aa h6;have xl:=aa kO;clear FW h6 kO b6 b8 Rw po
   gi_wp2
   have bk:∀v,Below BW W (W.setCell ⟨G6,0,none⟩ v):=fun v=>(af5 _ _).mono (by have:=xl.out.size;omega) |>.setCell (p:=⟨G6,0,none⟩) h6W v
   refine⟨(KeepsOthers.setCell _ _ _).from _,⟨bk _,ago _ _ _ _ (show Bs≠G6 by omega)⟩,⟨_,H6.out.set _,?_,?_⟩,xl.out.trans (bk _)⟩
   · rw[List.map_append,List.foldl_append,Y9.out,show (⟨#[40]⟩:ByteArray)=⟨([40]:List UInt8).toArray⟩ from rfl,show (⟨#[41]⟩:ByteArray)=⟨([41]:List UInt8).toArray⟩ from rfl]
     simp only[cU,agL,agw,agJ,List.map_cons,List.map_nil,List.foldl_cons,List.foldl_nil,DL]
   simp only[ByteArray.size_append,agc,agm,List.length_nil];show (⟨x.2.toArray⟩:ByteArray).size+1+sB.size+1≤_;omega
end Go.Proofs.YtcjioogololnoaaGreatDoor
namespace Go.Proofs.YtcjioogololnoaaGreatDoor
open Go Go.RowKit Go.Shelf
theorem ts (d:DDesc) (hd:d.Fit) (base g:Nat) (w:World) (hD:DA w base g d) (hE:Env w):
 Calls Tryz.prog 9 #[.pointer (some ⟨g,0,none⟩)] w fun e W'=>e=.returned (.string ⟨(iJ d).toArray⟩)∧Below w.heap.size w W':=
 (callsIn_wide (n:=3)).1 (TL 3 (by omega) d hd base g w hD hE)
theorem yu (s:ByteArray) (w:World):
 Calls Tryz.prog 6 #[.string s] w fun e w'=>(∃s',e=.returned (.string s')∧s'.size≤4100)∧w=w':=by
 by_cases h:4100<s.size
 · go_enter Tryz.func6,Tryz.ntmps6
   go_wp2;go_ret;exact⟨⟨_,rfl,by simp[ByteArray.size_extract];omega⟩,rfl⟩
 go_enter Tryz.func6,Tryz.ntmps6;go_wp2;go_ret;exact⟨⟨_,rfl,by omega⟩,rfl⟩
theorem xp (MI:rV) (w:World) (hE:Env w):
 Calls Tryz.prog 5 #[] w fun e W'=>e=.returned (.bool true)∧Below w.heap.size w W':=by
 have HP:Hid (∀s:ByteArray,s.data.toList=s0→Calls Tryz.prog 7 #[.string s] w (PD w s0)):=aa (fun s hs=>by
  have h:=wX MI s (by have:=congrArg List.length hs;simp at this;rw[show s.size=s0.length from this];decide) w hE;rw[hs] at h;exact h)
 have HE:=aa hE;clear hE MI;go_enter Tryz.func5,Tryz.ntmps5;go_wp2_with fail;refine(HP.out _ (by rfl)).mono ?_;rintro e w1 ⟨h1,aZ⟩
 have h1':∃g,e=.returned (.tuple #[.pointer (some ⟨g,0,none⟩),.int .i64 0])∧DA w1 w.heap.size g d0:=by
  rcases h1 with ⟨n,hn,_,hp,_⟩|⟨d,g,hp,he,hD⟩
  · rw[oF] at hp
    injection hp with h1 h2
    cases h2
  rw[oF] at hp;injection hp with h1 h2;injection h2 with h2;subst h2;exact⟨g,he,hD⟩
 obtain⟨g,rfl,hD⟩:=h1';have gH:d0.Fit:=xh oF;have hE1:=HE.out.below aZ;have HT:=aa (ts d0 gH _ g w1 hD hE1);rw[F4] at HT;obtain⟨tB,MM⟩:∃tB:ByteArray,tB=⟨t0.toArray⟩:=⟨_,rfl⟩;rw[←MM] at HT;have HtB:=aa MM;have HD:=aa hD;have jN:=aa aZ;have Bo:=aa gH;clear h1 aZ hD gH hE1 MM HP;go_wp2_with fail;refine HT.out.mono ?_;rintro e w2 ⟨rfl,bt⟩;have Je:=aa (HD.out.below bt);have mH:=aa (jN.out.trans (bt.mono jN.out.size));clear bt HT;have hx:(tB.toList==[112,107,104,40,48,50,99,54,48,52,55,102,57,52,52,49,101,100,55,100,54,100,51,48,52,53,52,48,54,101,57,53,99,48,55,99,100,56,53,99,55,55,56,101,52,98,56,99,101,102,51,99,97,55,97,98,97,99,48,57,98,57,53,99,55,48,57,101,101,53,41,35,56,102,104,100,57,112,119,117])=true:=by rw[agt,HtB.out];exact beq_iff_eq.2 rfl
 have HF:=aa (DM d0 Bo.out _ g w2 Je.out);rw[Ga] at HF;go_wp2_with fail;refine HF.out.mono ?_;rintro e w3 ⟨rfl,bd⟩;have Gb:=aa (Je.out.below bd);have ei:=aa (mH.out.trans (bd.mono mH.out.size));clear bd HF hx;have HR:=aa (xo d0 Bo.out _ g w3 Gb.out);rw[Bn] at HR;go_wp2_with fail;refine HR.out.mono ?_;rintro e w4 ⟨rfl,dn⟩;have sz:=aa (ei.out.trans (dn.mono ei.out.size));clear dn HR;go_wp2_with fail;go_ret;exact⟨rfl,sz.out⟩
theorem r7 (b:List UInt8):(aE b).length=8:=by rw[aE];simp[bG]
section
variable {P:Program} {ops:Array Oper} {N:Nat} {Q:Act→World→Prop} {st:Nat→(Act→World→Prop)→Act→World→Prop}
theorem xq {i:Nat} {rest:List (Nat×Nat)} {o:Oper} {a:Act} {w:World} (ho:ops[i]?=some o) (hg:o.guard=none) (src dst E:TypeId) (x:Operand) (xX:o.op=.convert src dst x) (hs:P.underlying src=some (.slice E)) (he:P.underlying E=some (.int .u8)) (hd:P.underlying dst=some .string)
 (A:Option Addr) (n c:Nat) (bs:List UInt8) (hn:n=bs.length) (hx:a.eval x=.slice A n c) (pP:Sl w w.heap.size A (B8 bs)) (h:ay P ops Q st N rest (a.put o.dst (.string ⟨bs.toArray⟩)) w):ay P ops Q st N ((i,1)::rest) a w:=by
 subst hn;simp only[ay,if_true,ho,Nat.one_ne_zero,if_false];refine⟨.string ⟨bs.toArray⟩,.inl ⟨by simp[Region.wanted,hg],fun w' x6=>?_⟩,h⟩;have hr:=du (P:=P) w' src dst E hs he hd w'.heap.size A c bs ((pP.below x6.below).mono x6.below.size);unfold execOp;simp only[xX,hx];go_simp
 done
end
end Go.Proofs.YtcjioogololnoaaGreatDoor
namespace Go.Proofs.YtcjioogololnoaaGreatDoor
open Go
theorem mA {P:Program} (w:World) (d:Nat) {e:TypeId} {q:IntKind} (hu:P.underlying e=some (.int q)) (he:P.plainKey e=true) (X Y:List Int) (xs ys:Array Value) (hx:xs=(X.map (Value.int q)).toArray) (hy:ys=(Y.map (Value.int q)).toArray) (hl:X.length=Y.length):
 ∀is:List Nat,(∀i∈is,i<X.length)→(Op.eqItems (d+1) e 1 xs ys is).run P w=.ok (is.all fun i=>X[i]! ==Y[i]!) w
 |[],_=>by simp[Op.eqItems]
 |i::is,h=>by
  have hi:=h i (by simp);have hi':i<Y.length:=by omega
  have h1:xs[i*1]?=some (.int q X[i]!):=by subst hx;simp[hi]
  have h2:ys[i*1]?=some (.int q Y[i]!):=by subst hy;simp[hi']
  simp only[Op.eqItems,Sem.run_bind,run_part_plain w he h1,run_part_plain w he h2,run_equalIn_int w d e q q _ _ hu,Result.andThen_ok];have ih:=mA w d hu he X Y xs ys hx hy hl is (fun j hj=>h j (List.mem_cons_of_mem _ hj));rw[List.all_cons];generalize (X[i]! ==Y[i]!)=bb
  cases bb
  · rfl
  rw[Bool.true_and];exact ih
theorem BB (X Y:List Int) (hl:X.length=Y.length):((List.range X.length).all fun i=>X[i]! ==Y[i]!)=decide (X=Y):=by
 rw[Bool.eq_iff_iff,List.all_eq_true,decide_eq_true_iff];constructor
 · intro h
   apply List.ext_getElem hl;intro i h1 h2;have:=h i (List.mem_range.2 h1);simpa [h1,h2] using this
 rintro rfl i _;simp
theorem xF {P:Program} (w:World) {t e:TypeId} {q:IntKind} {n:Nat} (ht:P.underlying t=some (.array n e)) (hu:P.underlying e=some (.int q)) (he:P.plainKey e=true) (hc:P.cellsOf e=1) (X Y:List Int) (hX:X.length=n) (hY:Y.length=n):
 (Op.equal t (.agg (X.map (Value.int q)).toArray) (.agg (Y.map (Value.int q)).toArray)).run P w=.ok (decide (X=Y)) w:=by
 obtain⟨i,hi⟩:=info_of_underlying hu;rw[Op.equal,show Op.maxDepth=9998+1+1 from rfl,run_equalIn_array w _ _ _ ht hi,hc,mA w _ hu he X Y _ _ rfl rfl (by omega) _ (fun j hj=>by rw[List.mem_range] at hj;omega),←hX,BB X Y (by omega)]
theorem xG {P:Program} {ops:Array Oper} {N:Nat} {Q:Act→World→Prop} {st:Nat→(Act→World→Prop)→Act→World→Prop} {i:Nat} {rest:List (Nat×Nat)} {o:Oper} {a:Act} {w:World} (op:BinOp) (x y:Operand) (t t2 e:TypeId) (q:IntKind) (n:Nat) (X Y:List Int) (b:Bool)
 (ho:ops[i]?=some o) (hw:Region.wanted o (yielded ops a.tmps)=true) (xX:o.op=.binOp op t x y t2) (hx:a.eval x=.agg (X.map (Value.int q)).toArray) (hy:a.eval y=.agg (Y.map (Value.int q)).toArray)
 (ht:P.underlying t=some (.array n e)) (hu:P.underlying e=some (.int q)) (he:P.plainKey e=true) (hc:P.cellsOf e=1) (nt:P.eqGuardType P.depth t=false) (hX:X.length=n) (hY:Y.length=n) (hb:(op=.eql∧decide (X=Y)=b)∨(op=.neq∧(!decide (X=Y))=b))
 (h:ay P ops Q st N rest (a.put o.dst (.bool b)) w):ay P ops Q st N ((i,0)::rest) a w:=by
 simp only[ay,if_true,ho];refine⟨.bool b,.inl ⟨hw,fun W _=>?_⟩,h⟩;unfold execOp;have hr:=xF W ht hu he hc X Y hX hY;have qV:(Op.equalIn 10000 t (.agg (X.map (Value.int q)).toArray) (.agg (Y.map (Value.int q)).toArray)).run P W=.ok (decide (X=Y)) W:=hr;rcases hb with ⟨rfl,rfl⟩|⟨rfl,rfl⟩
 · simp only[xX,hx,hy]
   go_simp
 simp only[xX,hx,hy];go_simp
theorem jx {P:Program} {ops:Array Oper} {N:Nat} {Q:Act→World→Prop} {st:Nat→(Act→World→Prop)→Act→World→Prop} {i:Nat} {rest:List (Nat×Nat)} {o:Oper} {a:Act} {w:World} (ho:ops[i]?=some o) (hw:Region.wanted o (yielded ops a.tmps)=true) (ty:TypeId) (x:Operand) (xX:o.op=.load ty x) (g:Nat) (hx:a.eval x=.pointer (some ⟨g,0,none⟩)) (t:TypeId) (cs:Array Value) (fr:Nat×Nat) (d:TypeDesc) (hg:w.heap[g]?=some (.cells cs t fr))
 (hu:P.underlying ty=some d) (hd:(match d with|.struct _|.array _ _=>true|_=>false)=true) (hi:(P.info? ty).map (·.size)=some cs.size) (h:ay P ops Q st N rest (a.put o.dst (.agg cs)) w):
 ay P ops Q st N ((i,1)::rest) a w:=by
 simp only[ay,if_true,ho,Nat.one_ne_zero,if_false];exact⟨.agg cs,.inl ⟨hw,fun w' x6=>bI ty x xX g hx t cs fr d ((x6.below.block g (af3.1 hg).1).trans hg) hu hd hi⟩,h⟩
end Go.Proofs.YtcjioogololnoaaGreatDoor
