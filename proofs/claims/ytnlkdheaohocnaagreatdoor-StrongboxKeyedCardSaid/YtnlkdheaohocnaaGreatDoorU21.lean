/- Whoever walks down with the secret signs what whoever walks down without it verifies, and the text of either walks the same way (StrongboxKeyed). No condition. -/
import Derived.Test.YtnlkdheaohocnaaGreatDoorU1
import Derived.Test.YtnlkdheaohocnaaGreatDoorU19
import Derived.Test.YtnlkdheaohocnaaGreatDoorU20
import Derived.Test.YtnlkdheaohocnaaGreatDoorU13
import Derived.Deep.DeepCutAuto
set_option maxRecDepth 1000000
set_option maxHeartbeats 16000000
set_option linter.unusedVariables false
set_option linter.unusedSimpArgs false
namespace Go.Proofs.YtnlkdheaohocnaaGreatDoor
open Go.RowKit Go.Shelf
section
variable {P:Program} {ops:Array Oper} {N:Nat}
theorem gv {i:Nat} {rest:List (Nat×Nat)} {o:Oper} {a:Act} {w:World} {Q:Exit→Act→World→Prop} (ho:ops[i]?=some o) (hg:Region.wanted o (yielded ops a.tmps)=true)
 (h:∀K:Act→World→Prop,(∀a' w',((N≤i∨Ext w w')∧aI P ops (Q .normal) (fun i K a w=>wpOp P ops Q i K a w) N rest a' w')→K a' w')→o.wp P a w K Q):
 aI P ops (Q .normal) (fun i K a w=>wpOp P ops Q i K a w) N ((i,2)::rest) a w:=by
 simp only[aI,show¬(2=0) by decide,show¬(2=1) by decide,if_false,wpOp,ho,hg,if_true];exact .inl (h _ (fun _ _ h=>h))
theorem ln {i:Nat} {rest:List (Nat×Nat)} {o:Oper} {a:Act} {w:World} {Q:Exit→Act→World→Prop} (ho:ops[i]?=some o) (hg:Region.wanted o (yielded ops a.tmps)=false)
 (h:aI P ops (Q .normal) (fun i K a w=>wpOp P ops Q i K a w) N rest (a.put o.dst undef) w):
 aI P ops (Q .normal) (fun i K a w=>wpOp P ops Q i K a w) N ((i,2)::rest) a w:=by
 simp only[aI,show¬(2=0) by decide,show¬(2=1) by decide,if_false,wpOp,ho,hg,Bool.false_eq_true];exact⟨.inr (Ext.refl _),h⟩
end
theorem FZ:∀x:Fin 256,bits .andNot .u8 ((x.val:Nat):Int) 1=((x.val-x.val%2:Nat):Int):=by decide+kernel
theorem F0:∀x:Fin 256,bits .and .u8 ((x.val:Nat):Int) 1=((x.val%2:Nat):Int):=by decide+kernel
theorem yO (h:UInt8):((h.toNat-h.toNat%2:Nat)=2)↔(h=2∨h=3):=by
 have hl:=h.toNat_lt;constructor
 · intro e
   rcases (show h.toNat=2∨h.toNat=3 by omega) with e|e
   · left;exact UInt8.toNat_inj.1 (by rw[e];rfl)
   right;exact UInt8.toNat_inj.1 (by rw[e];rfl)
 rintro(rfl|rfl)<;>rfl
theorem im (h:UInt8) (t:List UInt8):eu (h::t)=(decide (t.length=32)&&(decide (h=2)||decide (h=3))&&decide (bB t<ak)&&cb (bB t)):=rfl
set_option exponentiation.threshold 1000 in
theorem Eb (g:Nat) (A:Option Addr) (c:Nat) (bs:List UInt8) (hc:bs.length≤c) (w:World) (hF:FieldAt w g 0 ak dP) (hs:Sl w w.heap.size A (B8 bs)):
 Calls Tryz.prog 34 #[.pointer (some ⟨g,0,none⟩),.slice A bs.length c] w fun e W'=>∃pt:Array Value,e=.returned (.tuple #[.agg pt,.bool (eu bs)])∧pt.size=12∧pt.all (·.oneCell')=true∧Below w.heap.size w W':=by
 have bx:Tryz.prog.follows .mixedOrders=true:=by kernel_rfl
 have pG:=hF.1;obtain⟨P,hP⟩:=ae (eu bs);rw[←hP];have HP:=ab hP;obtain⟨n,hn⟩:=ae bs.length;rw[←hn] at hc⊢;have Hn:=ab hn;have Hs:=ab hs;clear hP hn hs
 by_cases h33:n=33
 · subst h33
   have uH:bs.length=33:=Hn.out.symm
   obtain⟨h,t,vY⟩:∃h t,bs=h::t:=by
    cases bs with
    |nil=>simp at uH
    |cons h t=>exact⟨h,t,rfl⟩
   subst vY;have ht:t.length=32:=by simpa using uH
   obtain⟨b0,o0,rfl,de,aS⟩:=Hs.out.at_ (k:=0) (by simp);have c0:w.cell? ⟨b0,o0,none⟩=some (.int .u8 (h.toNat:Int)):=aS 0 (by simp)
   have fT:Sl w w.heap.size (some ⟨b0,o0+1,none⟩) (B8 t):=by
    have h1:=Hs.out.cut (k:=1) (m:=32) (cap:=c) (by rw[B8_length,uH];omega) (by rw[B8_length,uH];exact hc);rw[if_neg (by omega)] at h1
    have e1:((B8 (h::t)).drop 1).take 32=B8 t:=by
     rw[show (B8 (h::t)).drop 1=B8 t from rfl,ady (by rw[B8_length,ht];exact adi _)]
    rw[e1] at h1;exact h1
   have oW:=ab fT;obtain⟨q,hq⟩:∃q:Nat,q=h.toNat-h.toNat%2:=⟨_,rfl⟩;have han:bits .andNot .u8 (h.toNat:Int) 1=(q:Int):=by rw[hq];exact FZ ⟨h.toNat,h.toNat_lt⟩
   obtain⟨r,hr⟩:∃r:Nat,r=h.toNat%2:=⟨_,rfl⟩;have VN:bits .and .u8 (h.toNat:Int) 1=(r:Int):=by rw[hr];exact F0 ⟨h.toNat,h.toNat_lt⟩
   have hwr:IntKind.u64.wrap (r:Int)=(r:Int):=by rw[IntKind.wrap_u64];omega
   have Hq:=ab hq;have Ht:=ab ht;clear aS uH fT hq hr ht;go_enter Tryz.func34,Tryz.ntmps34;have bG:=adk w (.cells qT 82);obtain⟨W0,bD⟩:=ae (w.alloc (.cells qT 82));rw[←bD] at bG;have yP:Below w.heap.size w W0:=by rw[bD];exact(adl _ w).alloc (adi _) _
   have jh:W0.heap.size=w.heap.size+1:=by rw[bD];simp
   by_cases hh:q=2
   · go_wp2_with fail
     refine(show W0=_ from bD)▸?_;clear bD;obtain⟨B,hB⟩:=ae w.heap.size;rw[←hB] at bG jh⊢;have HB:=ab hB;have YG:Sl W0 W0.heap.size (some ⟨b0,o0+1,none⟩) (B8 t):=(oW.out.below yP).mono (by omega);have zW:=ab (hF.below yP pG);have QP:g<W0.heap.size:=by omega
     have lP:=(yP.cell (p:=⟨b0,o0,none⟩) de).trans c0;have uI:b0<W0.heap.size:=by omega
     have lM:=ab jh;have ju:=ab bG;clear hB jh bG c0;obtain⟨X,hX⟩:=ae (bB t);have su:X<2^256:=by rw[hX];exact ads (fV t) (by rw[Ht.out];decide)
     have HX:=ab hX;have L1:=ab (mG _ (c-1) t Ht.out W0 YG);rw[←hX] at L1;have xC:=ab su;clear hX YG su;refine L1.out.mono ?_;rintro e w1 ⟨rfl,bH⟩;go_wp2_with (refine ado rfl 67 (.tmp 6) (.tmp 20) rfl w1.heap.size (ax X) rfl rfl 67 _ (adk w1 _) (by kernel_rfl) rfl (aK _) ?_;rw[adJ];obtain⟨W2,j6⟩:=ae (w1.alloc (.cells (ax X) 67));rw[←j6];obtain⟨gX,L2⟩:=ae w1.heap.size;rw[←L2];have De:W2.heap[gX]?=some (.cells (ax X) 67 (0,0)):=(by rw[j6,L2];exact adk w1 _);have bS:Below W0.heap.size W0 W2:=(by rw[j6];exact bH.alloc bH.size _);clear j6 L2 bH);have Dc:=ab (zW.out.below bS QP);have lL:=(bS.cell (p:=⟨b0,o0,none⟩) uI).trans lP;have mw:g<W2.heap.size:=ads QP bS.size;have uJ:b0<W2.heap.size:=ads uI bS.size;obtain⟨x0,x1,x2,x3⟩:=fY De;have vX:=ab (adg.1 De).1
     have Tj:Hid (∀Y,Below W2.heap.size W2 Y→Calls Tryz.prog 71 #[.pointer (some ⟨g,0,none⟩),.agg (ax X)] Y fun e W'=>e=.returned (.bool (decide (X<ak)))∧Below Y.heap.size Y W'):=
      ab fun Y hY=>ky g 0 ak dP X xC.out aU Y (Dc.out.below hY mw)
     clear De lP zW L1;refine aE [(0,0),(1,0),(2,0),(3,1),(4,2),(5,0)] 6 bx (by kernel_rfl) (by intro c a d v w h;cases d<;>exact h) ?_
     repeat ((first|(refine ao rfl (fun K hK=>?_))|(refine aD rfl (fun K hK=>?_)));go_simp;(first|(refine hK _ ?_) );clear hK K;(try go_bits))
     refine ah rfl rfl (fun K hK=>?_);go_wp2_with fail;refine(Tj.out _ (adl _ _).drew).mono ?_;rintro e w3 ⟨rfl,xD⟩;have b5:Below W2.heap.size W2 w3:=(adl _ _).drew.trans (xD.mono (adi _));go_wp2_with fail;refine⟨.inr (av xD),?_⟩
     repeat ((first|(refine ao rfl (fun K hK=>?_)) );go_simp;(first|(refine hK _ ?_) );clear hK K;(try go_bits))
     refine aB ?_;have Ec:=bS.trans (b5.mono bS.size);have kD:=yP.trans (Ec.mono (by have:=lM.out;have:=HB.out;omega));have GR:=ab ((Ec.block B (by have:=lM.out;omega)).trans ju.out)
     by_cases Iz:X<ak
     · rw[adA Iz]
       have tx:P=cb X:=by
        rw[HP.out,im];rw[adA Ht.out,adA (show bB t<ak by rw[←HX.out];exact Iz),←HX.out];rcases (yO h).1 (by rw[←Hq.out];exact hh) with e|e<;>simp[e]
       have HPv:=ab tx;clear tx;have x30:=(b5.cell (p:=⟨gX,0,none⟩) vX.out).trans x0;have x31:=(b5.cell (p:=⟨gX,1,none⟩) vX.out).trans x1;have x32:=(b5.cell (p:=⟨gX,2,none⟩) vX.out).trans x2;have x33:=(b5.cell (p:=⟨gX,3,none⟩) vX.out).trans x3;have abh:=(b5.cell (p:=⟨b0,o0,none⟩) uJ).trans lL;have Tf:=ab (Dc.out.below b5 mw);have lV:g<w3.heap.size:=ads mw b5.size
       have YH:Hid (∀Y,Below w3.heap.size w3 Y→Calls Tryz.prog 79 #[.pointer (some ⟨g,0,none⟩),.agg (ax X),.int .u64 r] Y fun e W'=>∃pt:Array Value,e=.returned (.tuple #[.agg pt,.bool (cb X)])∧pt.size=12∧pt.all (·.oneCell')=true∧Below Y.heap.size Y W'):=
        ab fun Y hY=>LU g X r Iz Y (Tf.out.below hY lV)
       have Da:=ab (adg.1 GR.out).1;clear x0 x1 x2 x3 lL Tj xD bS b5 Ec;go_wp2_with fail;refine aE [(0,0),(1,1),(2,0),(3,0),(4,1),(5,0),(6,0),(7,2),(8,0),(9,0),(10,2),(11,2)] 10 bx (by kernel_rfl) (by intro c a d v w h;cases d<;>exact h) ?_
       repeat ((first|(refine ao rfl (fun K hK=>?_))|(refine aD rfl (fun K hK=>?_)));go_simp;(first|(refine hK _ ?_) );clear hK K;(try go_bits))
       refine ah rfl rfl (fun K hK=>?_);go_wp2_with fail;refine(YH.out _ (adl _ _).drew).mono ?_;rintro e w4 ⟨pt,rfl,Df,Tk,C8⟩;have gg:Below w3.heap.size w3 w4:=(adl _ _).drew.trans (C8.mono (adi _));go_wp2_with fail;refine⟨.inr (av C8),?_⟩
       repeat ((first|(refine ao rfl (fun K hK=>?_)) );go_simp;(first|(refine hK _ ?_) );clear hK K;(try go_bits))
       have FE:=(gg.block B Da.out).trans GR.out;have Tm:(Tryz.prog.info? 82).map (·.size)=some pt.size:=by rw[Df];kernel_rfl
       refine ah rfl rfl (fun K hK=>?_);refine wp_store_row 82 (.tmp 4) (.tmp 36) rfl B pt rfl rfl 82 _ FE Tm (by rw[Df];rfl) Tk ?_;refine hK _ _ ⟨.inl (by decide),?_⟩;clear hK K;refine ah rfl rfl (fun K hK=>?_);go_wp2_with fail;refine⟨.inl (by decide),?_⟩;refine aB ?_;have we:=kD.trans (gg.mono kD.size);go_wp2_with fail;refine adm (v:=.tuple #[.agg pt,.bool (cb X)]) ?_ rfl ⟨_,by rw[HPv.out],Df,Tk,au we (by have:=HB.out;omega) _⟩
       exact aA rfl _ _ B 82 pt (0,0) _ rfl (adt _ _ _ _ _ _ FE) _ rfl Tryz.underlying82 rfl Tm
     rw[adI Iz]
     have tx:P=false:=by
      rw[HP.out,im,←HX.out,adI Iz];simp
     go_wp2_with (refine ado rfl 82 (.tmp 4) (.tmp 27) rfl B qT rfl rfl 82 _ GR.out (by kernel_rfl) rfl mH ?_);refine adm (v:=.tuple #[.agg qT,.bool false]) ?_ rfl ⟨_,by rw[tx],rfl,mH,au kD (by have:=HB.out;omega) _⟩
     exact aA rfl _ _ B 82 qT (0,0) _ rfl (adt _ _ _ _ _ _ GR.out) _ rfl Tryz.underlying82 rfl (by kernel_rfl)
   have hI:¬((q:Int)=2):=by omega
   have tx:P=false:=by
    rw[HP.out,im];have Bg:¬(h=2∨h=3):=fun e=>hh (by rw[Hq.out];exact(yO h).2 e)
    simp only[not_or] at Bg;simp[Bg.1,Bg.2]
   go_wp2_with fail;refine adm (v:=.tuple #[.agg qT,.bool false]) ?_ rfl ⟨_,by rw[tx],rfl,mH,(adl _ w).alloc (adi _) _⟩
   exact aA rfl _ _ w.heap.size 82 qT (0,0) _ rfl (adk w _) _ rfl Tryz.underlying82 rfl (by kernel_rfl)
 have hI:¬((n:Int)=33):=by omega
 have tx:P=false:=by
  rw[HP.out];unfold eu;split
  · rfl
  next h t=>
  have:¬t.length=32:=by have:=Hn.out;simp at this;omega
  simp[this]
 go_enter Tryz.func34,Tryz.ntmps34;go_wp2_with fail;refine adm (v:=.tuple #[.agg qT,.bool false]) ?_ rfl ⟨_,by rw[tx],rfl,mH,(adl _ w).alloc (adi _) _⟩
 exact aA rfl _ _ w.heap.size 82 qT (0,0) _ rfl (adk w _) _ rfl Tryz.underlying82 rfl (by kernel_rfl)
theorem yQ (A:Option Addr) (c:Nat) (bs:List UInt8) (hc:bs.length≤c) (w:World) (hs:Sl w w.heap.size A (B8 bs)):
 Calls Tryz.prog 55 #[.slice A bs.length c] w fun e W'=>e=.returned (.bool (eu bs))∧Below w.heap.size w W':=by
 obtain⟨P,hP⟩:=ae (eu bs);rw[←hP]
 have HU:Hid (∀(g:Nat) (X:World),FieldAt X g 0 ak dP→Below w.heap.size w X→Calls Tryz.prog 34 #[.pointer (some ⟨g,0,none⟩),.slice A bs.length c] X fun e W'=>∃pt:Array Value,e=.returned (.tuple #[.agg pt,.bool P])∧pt.size=12∧pt.all (·.oneCell')=true∧Below X.heap.size X W'):=
  ab fun g X hF hX=>by rw[hP];exact Eb g A c bs hc X hF ((hs.below hX).mono hX.size)
 obtain⟨n,hn⟩:=ae bs.length;rw[←hn] at HU⊢;clear hP hn hc hs;go_enter Tryz.func55,Tryz.ntmps55;go_wp2_with fail;refine(rM w).mono ?_;rintro e w1 ⟨g,rfl,hg,NX,Tn,bH⟩;go_wp2_with fail;refine(HU.out g w1 NX bH).mono ?_;rintro e w2 ⟨pt,rfl,Df,Tk,bS⟩;have hb:=bH.trans (bS.mono bH.size);clear NX Tn bH bS hg;have Tm:Hid ((Tryz.prog.info? 82).map (·.size)=some pt.size):=ab (by rw[Df];kernel_rfl);have YI:Hid (qT.size=pt.size):=ab (by rw[Df];rfl);have Hp1:=ab Tk;clear Df Tk;go_wp2_with (refine ado rfl 82 (.tmp 3) (.tmp 9) rfl w2.heap.size pt rfl rfl 82 _ (adk w2 _) Tm.out YI.out Hp1.out ?_;rw[adJ];obtain⟨W3,qS⟩:=ae (w2.alloc (.cells pt 82));rw[←qS];have b5:Below w.heap.size w W3:=(by rw[qS];exact hb.alloc hb.size _);clear qS);go_ret;exact⟨rfl,b5⟩
theorem ov (g:Nat) (b:List UInt8) (hl:b.length=32) (w:World) (hF:FieldAt w g 7 ar dN):
 Calls Tryz.prog 28 #[.pointer (some ⟨g,0,none⟩),.agg (B8 b).toArray] w fun e W'=>e=.returned (.tuple #[.agg (ax (bB b)),.bool (dE b)])∧Below w.heap.size w W':=by
 have bx:Tryz.prog.follows .mixedOrders=true:=by kernel_rfl
 have pG:=hF.1;obtain⟨P,hP⟩:=ae (dE b);obtain⟨X,hX⟩:=ae (bB b);rw[←hP,←hX];have su:X<2^256:=by rw[hX];exact ads (fV b) (by rw[hl];decide)
 have HP:Hid (P=(decide (X≠0)&&decide (X<ar))):=ab (by rw[hP,hX];rfl);obtain⟨cs,eA⟩:∃cs,cs=(B8 b).toArray:=⟨_,rfl⟩;rw[←eA];have DF:=ab eA;have HX:=ab hX;have Hl:=ab hl;have xC:=ab su;clear hP hX eA hl su;go_enter Tryz.func28,Tryz.ntmps28;go_wp2_with (refine wpList_boxTo rfl 24 (.tmp 1) rfl _ rfl w.heap.size rfl cs rfl ?_);have h2:=jm w (.cells cs 24) (.cells (ax 0) 67);obtain⟨W0,bD⟩:∃W0,W0=(w.alloc (.cells cs 24)).alloc (.cells (ax 0) 67):=⟨_,rfl⟩;have de:Below w.heap.size w W0:=by rw[bD];exact((adl _ w).alloc (adi _) _).alloc (by simp) _
 have jh:W0.heap.size=w.heap.size+2:=by rw[bD];simp
 refine(show W0=_ from bD)▸?_;rw[←bD] at h2;obtain⟨gB,gR⟩:=h2;obtain⟨B,hB⟩:=ae w.heap.size;rw[←hB] at gB gR jh⊢
 have jO:Sl W0 W0.heap.size (some ⟨B,0,none⟩) (B8 b):=fun _=>⟨B,0,rfl,by omega,fun j hj=>by
  rw[adn _ _ _ _ _ _ gB,DF.out];simp⟩
 have L1:=ab (mG _ 32 b Hl.out W0 jO);rw[←HX.out] at L1;have zW:=ab (hF.below de pG);have QP:g<W0.heap.size:=by omega
 have HB:=ab hB;have lM:=ab jh;have ju:=ab gR;clear bD hB jh gB gR jO;refine L1.out.mono ?_;rintro e w1 ⟨rfl,bH⟩;go_wp2_with (refine ado rfl 67 (.tmp 6) (.tmp 8) rfl w1.heap.size (ax X) rfl rfl 67 _ (adk w1 _) (by kernel_rfl) rfl (aK _) ?_;rw[adJ];obtain⟨W2,j6⟩:=ae (w1.alloc (.cells (ax X) 67));rw[←j6];obtain⟨gX,L2⟩:=ae w1.heap.size;rw[←L2];have De:W2.heap[gX]?=some (.cells (ax X) 67 (0,0)):=(by rw[j6,L2];exact adk w1 _);have bS:Below W0.heap.size W0 W2:=(by rw[j6];exact bH.alloc bH.size _);clear j6 L2 bH);have Dc:=ab (zW.out.below bS QP);have mw:g<W2.heap.size:=ads QP bS.size;obtain⟨x0,x1,x2,x3⟩:=fY De;have vX:=ab (adg.1 De).1;have Lc:=(bS.block (B+1) (by have:=lM.out;omega)).trans ju.out;have Da:=ab (adg.1 Lc).1;have GR:=ab Lc;have fZ:=de.trans (bS.mono (by have:=lM.out;have:=HB.out;omega));have HZe:Hid (∀Y,Calls Tryz.prog 70 #[.agg (ax X)] Y fun e W'=>e=.returned (.bool (decide (X=0)))∧Below Y.heap.size Y W'):=ab fun Y=>iy X xC.out Y
 have Tj:Hid (∀Y,Below W2.heap.size W2 Y→Calls Tryz.prog 71 #[.pointer (some ⟨g,7,none⟩),.agg (ax X)] Y fun e W'=>e=.returned (.bool (decide (X<ar)))∧Below Y.heap.size Y W'):=
  ab fun Y hY=>ky g 7 ar dN X xC.out bU Y (Dc.out.below hY mw)
 clear De Lc L1 zW bS;refine aE [(0,1),(1,1),(2,2),(3,0),(4,0),(5,0),(6,0),(7,0),(8,1),(9,2),(10,0),(11,2),(12,2)] 11 bx (by kernel_rfl) (by intro c a d v w h;cases d<;>exact h) ?_
 repeat ((first|(refine aD rfl (fun K hK=>?_)));go_simp;(first|(refine hK _ ?_) );clear hK K;(try go_bits))
 refine ah rfl rfl (fun K hK=>?_);go_wp2_with fail;refine(HZe.out _).mono ?_;rintro e w3 ⟨rfl,xD⟩;have b5:Below W2.heap.size W2 w3:=(adl _ _).drew.trans (xD.mono (adi _));go_wp2_with fail;refine⟨.inr (av xD),?_⟩
 by_cases hX0:X=0
 · rw[adA hX0]
   subst hX0
   repeat ((first|(refine ao rfl (fun K hK=>?_))|(refine aD rfl (fun K hK=>?_)));go_simp;(first|(refine hK _ ?_) );clear hK K;(try go_bits))
   refine ln rfl ?_ ?_
   · rfl
   repeat ((first|(refine ao rfl (fun K hK=>?_)) );go_simp;(first|(refine hK _ ?_) );clear hK K;(try go_bits))
   have NW:=(b5.block (B+1) Da.out).trans GR.out;have kD:=fZ.trans (b5.mono fZ.size);have tx:P=false:=by rw[HP.out];simp
   refine ah rfl rfl (fun K hK=>?_);refine wp_store_row 67 (.tmp 4) (.tmp 9) rfl (B+1) (ax 0) rfl rfl 67 _ NW (by kernel_rfl) rfl (aK _) ?_;refine hK _ _ ⟨.inl (by decide),?_⟩;clear hK K;refine ah rfl rfl (fun K hK=>?_);go_wp2_with fail;refine aB ?_;go_wp2_with fail;refine adm (v:=.tuple #[.agg (ax 0),.bool false]) ?_ rfl ⟨by rw[tx],au kD (by have:=HB.out;omega) _⟩
   exact aA rfl _ _ (B+1) 67 (ax 0) (0,0) _ rfl (adt _ _ _ _ _ _ NW) _ rfl Tryz.underlying67 rfl (by kernel_rfl)
 rw[adI hX0];have x30:=(b5.cell (p:=⟨gX,0,none⟩) vX.out).trans x0;have x31:=(b5.cell (p:=⟨gX,1,none⟩) vX.out).trans x1;have x32:=(b5.cell (p:=⟨gX,2,none⟩) vX.out).trans x2;have x33:=(b5.cell (p:=⟨gX,3,none⟩) vX.out).trans x3
 repeat ((first|(refine ao rfl (fun K hK=>?_))|(refine aD rfl (fun K hK=>?_)));go_simp;(first|(refine hK _ ?_) );clear hK K;(try go_bits))
 refine gv rfl ?_ (fun K hK=>?_)
 · rfl
 go_wp2_with fail;refine(Tj.out _ b5).mono ?_;rintro e w4 ⟨rfl,C8⟩;have gg:Below W2.heap.size W2 w4:=b5.trans (C8.mono b5.size);go_wp2_with fail;refine⟨.inr (av C8),?_⟩
 repeat ((first|(refine ao rfl (fun K hK=>?_)) );go_simp;(first|(refine hK _ ?_) );clear hK K;(try go_bits))
 have FE:=(gg.block (B+1) Da.out).trans GR.out;have we:=fZ.trans (gg.mono fZ.size);have tx:P=decide (X<ar):=by rw[HP.out,adA hX0,Bool.true_and]
 refine ah rfl rfl (fun K hK=>?_);refine wp_store_row 67 (.tmp 4) (.tmp 9) rfl (B+1) (ax X) rfl rfl 67 _ FE (by kernel_rfl) rfl (aK _) ?_;refine hK _ _ ⟨.inl (by decide),?_⟩;clear hK K;refine ah rfl rfl (fun K hK=>?_);go_wp2_with fail;refine⟨.inl (by decide),?_⟩;refine aB ?_;go_wp2_with fail;refine adm (v:=.tuple #[.agg (ax X),.bool (decide (X<ar))]) ?_ rfl ⟨by rw[tx],au we (by have:=HB.out;omega) _⟩
 exact aA rfl _ _ (B+1) 67 (ax X) (0,0) _ rfl (adt _ _ _ _ _ _ FE) _ rfl Tryz.underlying67 rfl (by kernel_rfl)
end Go.Proofs.YtnlkdheaohocnaaGreatDoor
namespace Go.Proofs.YtnlkdheaohocnaaGreatDoor
open Go Go.RowKit Go.Shelf
section
variable {P:Program} {ops:Array Oper} {Q:Exit→Act→World→Prop} {w0 w:World} {L:List (Nat×TypeId×Array Value)} {o:Oper} {a:Act} {R:Act→World→Prop} {st:Nat→(Act→World→Prop)→Act→World→Prop} {i d:Nat} {rest:List (Nat×Nat)} {l:List (Nat×Value)}
theorem fD (ho:ops[i]?=some o) (hg:o.guard=none) (hd:o.dst=some d) (aV:Nat.blt d a.tmps.size=true) (t:TypeId) (x:Operand) (cK:o.op=.unOp .not t x) {b:Bool} (hx:ev a l x=.bool b) (h:ai P ops R st a w rest ((d,.bool (!b))::l)):ai P ops R st a w ((i,0)::rest) l:=
 cW ho hg hd aV _ (fun ρ hρ W=>by unfold execOp;simp[cK,hρ,hx,Op.unary]) h
theorem ca (ho:ops[i]?=some o) (hg:o.guard=none) (hd:o.dst=some d) (aV:Nat.blt d a.tmps.size=true) (t:TypeId) (x:Operand) (cK:o.op=.slice t x none none none) {g n:Nat} (hx:ev a l x=.pointer (some ⟨g,0,none⟩)) (hr:∀g W,(Instr.sliceAt t (.pointer (some ⟨g,0,none⟩)) none none none).run P W=.ok (.slice (some ⟨g,0,none⟩) n n) W)
 (h:ai P ops R st a w rest ((d,.slice (some ⟨g,0,none⟩) n n)::l)):ai P ops R st a w ((i,0)::rest) l:=
 cW ho hg hd aV _ (fun ρ hρ W=>by unfold execOp;simp only[cK,hρ,hx,Option.map_none,Sem.run_bind,hr,Result.andThen_ok];rfl) h
theorem uK (ho:ops[i]?=some o) (hg:o.guard.isNone=true) (hd:o.dst=some d) (aV:Nat.blt d a.tmps.size=true) (x:Operand) (cK:o.op=.move x∨o.op=.assign x) {v:Value} (hx:ev a l x=v) (h:ai P ops (Q .normal) (fun i K a w=>wpOp P ops Q i K a w) a w rest ((d,v)::l)):ai P ops (Q .normal) (fun i K a w=>wpOp P ops Q i K a w) a w ((i,7)::rest) l:=by
 refine dt (by decide) ho hg fun hl=>?_
 have hr:(execOp (aG a l).eval o).run P w=.ok (.value v) w:=by
  unfold execOp;rcases cK with e|e<;>rw[e]<;>simp[bI hl,hx]
 unfold Oper.wp;rw[hr];show aI P ops _ _ 0 rest ((aG a l).put o.dst v) w;rw[hd];exact h.run (iK aV hl)
end
theorem Mem.setC {w0 w:World} {L:List (Nat×TypeId×Array Value)} (h:Mem w0 w L) (k:Nat) {g:Nat} {t:TypeId} {cs:Array Value} (e:L[k]?=some (g,t,cs)) (j:Nat) (v:Value):Mem w0 (w.setCell ⟨g,j,none⟩ v) (L.set k (g,t,cs.setIfInBounds j v)):=by
 rw[setCell_eq_setRow w g j cs t (0,0) v (h.at_ k e)];exact h.set k e _
theorem YJ {w:World} {g t:Nat} {bs:List UInt8} (h:w.heap[g]?=some (.cells (B8 bs).toArray t (0,0))) (j:Nat) (hj:j<bs.length):w.cell? ⟨g,j,none⟩=some (.int .u8 (bs[j].toNat:Int)):=by
 rw[adn w g j _ t (0,0) h];simp[B8,hj]
theorem fE {w:World} {g t:Nat} {xs:List Value} (h:w.heap[g]?=some (.cells xs.toArray t (0,0))):Sl w w.heap.size (some ⟨g,0,none⟩) xs:=fun _=>⟨g,0,rfl,(adg.1 h).1,fun j hj=>by
 rw[adn w g _ _ t (0,0) h,Nat.zero_add];simp[hj]⟩
theorem qp {w:World} {g t:Nat} {b:List UInt8} (hl:b.length=32) (h:w.heap[g]?=some (.cells (B8 b).toArray t (0,0))):Calls Tryz.prog 30 #[.slice (some ⟨g,0,none⟩) 32 32] w fun e W'=>e=.returned (.agg (ax (bB b)))∧Below w.heap.size w W':=
 mG _ 32 b hl w (fE h)
theorem dX {b:List UInt8} (h:b.length=32):(Tryz.prog.info? 24).map (·.size)=some (B8 b).toArray.size:=by
 rw[List.size_toArray,B8_length,h];kernel_rfl
theorem fF {b:List UInt8} (h:b.length=33):(Tryz.prog.info? 28).map (·.size)=some (B8 b).toArray.size:=by
 rw[List.size_toArray,B8_length,h];kernel_rfl
theorem cS {a b:List UInt8} (h:a.length=b.length):(B8 a).toArray.size=(B8 b).toArray.size:=by simp[h]
theorem bK (b:List UInt8):(B8 b).toArray.all (·.oneCell')=true:=all_oneCell_toArray (aR b)
def z8 (n:Nat):List UInt8:=List.replicate n 0
theorem fG {o:Oper} (ho:o.op=.alloc 24) (ρ:Operand→Value) (W:World):(execOp ρ o).run Tryz.prog W=.ok (.value (.pointer (some ⟨W.heap.size,0,none⟩))) (W.alloc (.cells (B8 (z8 32)).toArray 24)):=by
 unfold execOp;rw[ho];go_simp;rfl
theorem gw {o:Oper} (ho:o.op=.alloc 28) (ρ:Operand→Value) (W:World):(execOp ρ o).run Tryz.prog W=.ok (.value (.pointer (some ⟨W.heap.size,0,none⟩))) (W.alloc (.cells (B8 (z8 33)).toArray 28)):=by
 unfold execOp;rw[ho];go_simp;rfl
theorem mb (g:Nat) (W:World):(Instr.sliceAt 24 (.pointer (some ⟨g,0,none⟩)) none none none).run Tryz.prog W=.ok (.slice (some ⟨g,0,none⟩) 32 32) W:=by go_simp
theorem L3 (g:Nat) (W:World):(Instr.sliceAt 28 (.pointer (some ⟨g,0,none⟩)) none none none).run Tryz.prog W=.ok (.slice (some ⟨g,0,none⟩) 33 33) W:=by go_simp
theorem uL:Tryz.prog.built 28 []=some (B8 (z8 33)).toArray:=by kernel_rfl
theorem BA:Tryz.prog.built 24 []=some (B8 (z8 32)).toArray:=by kernel_rfl
abbrev YK:Array Value:=(B8 (z8 32)).toArray
end Go.Proofs.YtnlkdheaohocnaaGreatDoor
namespace Go.Proofs.YtnlkdheaohocnaaGreatDoor
def iI (n:Nat):Nat→List UInt8
 |0=>[]
 |k+1=>iI (n/256) k++[UInt8.ofNat n]
theorem aN (n:Nat):∀k,(iI n k).length=k:=by
 intro k
 induction k generalizing n with
 |zero=>rfl
 |succ k ih=>simp[iI,ih]
theorem jn (n:Nat):∀k,n<256^k→bB (iI n k)=n:=by
 intro k
 induction k generalizing n with
 |zero=>intro h;simp at h;subst h;rfl
 |succ k ih=>
  intro h;have h1:n/256<256^k:=Nat.div_lt_of_lt_mul (by rw[Nat.mul_comm,←Nat.pow_succ];exact h);rw[iI,qa,ih _ h1,UInt8.toNat_ofNat'];omega
theorem F1 (b:List UInt8):iI (bB b) b.length=b:=by
 obtain⟨r,hr⟩:=ae b.reverse;have hb:b=r.reverse:=by rw[hr,List.reverse_reverse]
 subst hb;clear hr
 induction r with
 |nil=>rfl
 |cons c r ih=>
  rw[List.length_reverse] at ih⊢;rw[List.reverse_cons,adz,iI,qa];have hc:=c.toNat_lt;have h1:(bB r.reverse*256+c.toNat)/256=bB r.reverse:=by omega
  rw[h1,ih];congr 2;apply UInt8.toNat_inj.1;rw[UInt8.toNat_ofNat'];omega
def fj:Pt ak→List UInt8
 |none=>2::iI 0 32
 |some (x,y)=>UInt8.ofNat (2+y.val%2)::iI x.val 32
theorem jY (P:Pt ak):(fj P).length=33:=by
 rcases P with _|⟨x,y⟩<;>simp[fj,aN]
theorem Ed:ak<256^32:=by decide+kernel
def fH (b:List UInt8):Pt ak:=
 match b with
 |[]=>none
 |h::t=>some (Fin.ofNat ak (bB t),Fin.ofNat ak (eR (bB t) (h.toNat%2)))
theorem iz (x:Fin ak):Fin.ofNat ak x.val=x:=Fin.ext (adu x.isLt)
theorem mK {P:Pt ak} (h:P.On) (hn:P≠none):eu (fj P)=true∧fH (fj P)=P:=by
 rcases P with _|⟨x,y⟩
 · exact absurd rfl hn
 have hx:=x.isLt;have hb:bB (iI x.val 32)=x.val:=jn _ 32 (Nat.lt_trans hx Ed);have h2:(UInt8.ofNat (2+y.val%2)).toNat=2+y.val%2:=by rw[UInt8.toNat_ofNat'];omega
 have hh:UInt8.ofNat (2+y.val%2)=2∨UInt8.ofNat (2+y.val%2)=3:=by
  rcases (show y.val%2=0∨y.val%2=1 by omega) with h3|h3<;>rw[h3]
  · exact .inl rfl
  exact .inr rfl
 constructor
 · show (decide ((iI x.val 32).length=32)&&(decide (UInt8.ofNat (2+y.val%2)=2)||decide (UInt8.ofNat (2+y.val%2)=3))&&decide (bB (iI x.val 32)<ak)&&cb (bB (iI x.val 32)))=true
   rw[hb,aN,adA rfl,adA hx,pv h];rcases hh with h3|h3<;>rw[h3]<;>rfl
 show some (Fin.ofNat ak (bB (iI x.val 32)),Fin.ofNat ak (eR (bB (iI x.val 32)) ((UInt8.ofNat (2+y.val%2)).toNat%2)))=some (x,y);rw[hb,h2,show (2+y.val%2)%2=y.val%2 by omega,ur h,iz,iz]
theorem jD {b:List UInt8} (h:eu b=true):(fH b).On∧fH b≠none∧fj (fH b)=b:=by
 match b,h with
 |c::t,h=>
  have h0:(decide (t.length=32)&&(decide (c=2)||decide (c=3))&&decide (bB t<ak)&&cb (bB t))=true:=h;simp only[adx,Bool.or_eq_true,adB] at h0;obtain⟨⟨⟨hl,hc⟩,aV⟩,ho⟩:=h0;obtain⟨X,Y,hX,hY,vT,IA⟩:=yI aV ho (c.toNat%2) (by omega)
  have e:fH (c::t)=some (X,Y):=by
   show some (Fin.ofNat ak (bB t),Fin.ofNat ak (eR (bB t) (c.toNat%2)))=_;rw[←hY,←hX,iz,iz]
  rw[e];refine⟨vT,(fun h=>by cases h),?_⟩;have e1:UInt8.ofNat (2+c.toNat%2)=c:=by rcases hc with rfl|rfl<;>rfl
  have e2:iI (bB t) 32=t:=by have:=F1 t;rwa [hl] at this
  show UInt8.ofNat (2+Y.val%2)::iI X.val 32=c::t;rw[IA,hX,e1,e2]
end Go.Proofs.YtnlkdheaohocnaaGreatDoor
namespace Go.Proofs.YtnlkdheaohocnaaGreatDoor
open Go Go.RowKit Go.Shelf
theorem Pd {o:Oper} {ρ:Operand→Value} {x y:Operand} (cK:o.op=.binOp .neq 67 x y 67) {c d:Fin ak} (hx:ρ x=.agg (ax c.val)) (hy:ρ y=.agg (ax d.val)) {b:Bool} (hb:(!decide (c=d))=b) (W:World):(execOp ρ o).run Tryz.prog W=.ok (.value (.bool b)) W:=by
 have h:=D4 c.val d.val (Nat.lt_trans c.isLt aU) (Nat.lt_trans d.isLt aU) W;rw[show decide (c.val=d.val)=!b by rw[←hb,Bool.not_not];congr 1;exact propext Fin.ext_iff.symm] at h;have H:=ab h;unfold execOp;rw[cK];simp only[hx,hy];clear hx hy h;obtain⟨A,hA⟩:=ae (ax c.val);obtain⟨B,hB⟩:=ae (ax d.val);rw[←hA,←hB] at H⊢;have h:=H.out;clear hA hB H;go_simp
theorem BB {ops:Array Oper} {w:World} {o:Oper} {a:Act} {R:Act→World→Prop} {st:Nat→(Act→World→Prop)→Act→World→Prop} {i d:Nat} {rest:List (Nat×Nat)} {l:List (Nat×Value)} (ho:ops[i]?=some o) (hg:o.guard=none) (hd:o.dst=some d) (aV:Nat.blt d a.tmps.size=true) (x y:Operand) (cK:o.op=.binOp .neq 67 x y 67)
 {c e:Fin ak} (hx:ev a l x=.agg (ax c.val)) (hy:ev a l y=.agg (ax e.val)) {b:Bool} (hb:(!decide (c=e))=b) (h:ai Tryz.prog ops R st a w rest ((d,.bool b)::l)):ai Tryz.prog ops R st a w ((i,0)::rest) l:=
 cW ho hg hd aV _ (fun _ hρ W=>Pd cK ((hρ _).trans hx) ((hρ _).trans hy) hb W) h
def cH (X:Fin ak):Fin ak:=Fin.ofNat ak (eQ X.val)
theorem mc (X:Fin ak):(cH X).val=eQ X.val:=by
 have h:eQ X.val<ak:=by
  rw[eQ,mZ eN (by decide+kernel)];exact Nat.mod_lt _ (Nat.lt_trans (by decide) eN)
 exact adu h
theorem nG (X:Fin ak):p9 X.val=(X*X*X+7).val:=by
 rw[Fin.val_add,dZ,dZ,show (7:Fin ak).val=7 by decide+kernel];rfl
theorem sv (X:Fin ak):cb X.val=decide (cH X*cH X=X*X*X+7):=by
 rw[cb];congr 1;rw[nG,←mc,←dZ];exact propext Fin.ext_iff.symm
theorem xE (v:Nat):bits .and .u64 ((dw v 0:Nat):Int) 1=((v%2:Nat):Int):=by
 have h:=bits_and_u64_nat (dw v 0) 1 (jP _ _) (by decide);rw[Nat.and_one_is_mod] at h;rw[show v%2=dw v 0%2 by unfold dw;omega];exact h
theorem QQ {w:World} {g:Nat} (hF:FieldAt w g 0 ak dP) (X:Fin ak) (odd:Nat) (ho:odd<2):Calls Tryz.prog 79 #[.pointer (some ⟨g,0,none⟩),.agg (ax X.val),.int .u64 odd] w fun e W'=>e=.returned (.tuple #[.agg (if cb X.val then l9 X.val (eR X.val odd) 1 else l9 0 0 0),.bool (cb X.val)])∧Below w.heap.size w W':=by
 have bx:Tryz.prog.follows .mixedOrders=true:=by kernel_rfl
 have HF:=ab hF;have HM:=ab (Mem.start w);obtain⟨q1,J1⟩:∃q,q=ak+1:=⟨_,rfl⟩;have pe:=fun W=>rH ak 1 aU (by decide) W
 rw[show (ak+1)%2^256=q1 by rw[J1];decide+kernel] at pe;obtain⟨c1,oT⟩:∃c,c=(ak+1)/2^256:=⟨_,rfl⟩;rw[←oT] at pe;have HQ:Hid (q1<2^256):=ab (by rw[J1];decide+kernel);have GG:=fun W (h:FieldAt W g 0 ak dP)=>uy g 0 ak dP kB aU eN (X*X*X+7).val (q1/2/2) (Nat.lt_trans (X*X*X+7).isLt aU) W h
 have hy:pw ak (X*X*X+7).val (q1/2/2)=(cH X).val:=by
  rw[mc,eQ,nG,J1,Nat.div_div_eq_div_mul]
 rw[hy] at GG;obtain⟨b,hb⟩:∃b,(!decide (cH X*cH X=X*X*X+7))=b:=⟨_,rfl⟩;have vT:=sv X;rw[show decide (cH X*cH X=X*X*X+7)=!b by rw[←hb,Bool.not_not]] at vT;rw[vT];have GH:eR X.val odd=if (cH X).val%2=odd then (cH X).val else ak-(cH X).val:=by rw[eR,mc]
 have bN:b=false→(-(cH X)).val=ak-(cH X).val:=fun YL=>by
  rw[Fin.val_neg'];refine adu ?_
  have h0:(cH X).val≠0:=fun h0=>by
   rw[YL] at hb;have h3:cH X*cH X=X*X*X+7:=by simpa using hb
   rw[show cH X=0 from Fin.ext (by rw[h0];rfl)] at h3;exact fz.no2 X (by rw[←h3];grind)
  have:=(cH X).isLt;omega
 obtain⟨Y,hY⟩:=ae (cH X);rw[←hY] at GG hb GH bN;obtain⟨L,hL⟩:=ae (eR X.val odd);rw[←hL] at GH⊢;have HPl:=ab pe;have YM:=ab GG;have HB:=ab hb;have HL:=ab GH;have HN:=ab bN;clear hF J1 pe GG hy hb vT GH hY hL oT bN;have IB:Hid (bits .and .u64 ((dw Y.val 0:Nat):Int) 1=((Y.val%2:Nat):Int)):=ab (xE Y.val);go_enter Tryz.func79,Tryz.ntmps79
 cases b
 · go_upto_region 7 with (first|(show wpList _ _ _ (⟨some 4,_,_,_,_,_⟩::_) _ _;refine ag 0 [(0,5),(1,6),(2,0)] rfl (by kernel_rfl) ?_)|(show Code.wp _ (Code.region 2 _ _) _ _ _;refine aQ [(0,0),(1,0),(2,0),(3,1),(4,1),(5,2),(6,1),(7,2),(8,0),(9,2)] [(10,67,kG)] [(11,3)] bx (by kernel_rfl) (by intro c a d v w h;cases d<;>exact h) ⟨⟨_,rfl,be rfl⟩,trivial⟩ (aH ?_);replace HM:=ab HM.out.drew)|(show wpList _ _ _ (⟨some 28,_,_,_,_,_⟩::_) _ _;refine ag 1 [(1,0),(2,0),(3,1),(4,0),(5,4),(6,0),(7,0),(8,0),(9,6),(10,3),(11,0)] rfl (by kernel_rfl) ?_)|(show Code.wp _ (Code.region 4 _ _) _ _ _;refine aQ [(0,0),(1,1),(2,1),(3,2),(4,2),(5,2)] [(6,67,kG)] [(7,3)] bx (by kernel_rfl) (by intro c a d v w h;cases d<;>exact h) ⟨⟨_,rfl,be rfl⟩,trivial⟩ (aH ?_);replace HM:=ab HM.out.drew)|(show Code.wp _ (Code.region 5 _ _) _ _ _;refine aQ [(0,0),(1,1),(2,1),(3,2),(4,1),(5,0)] [] [] bx (by kernel_rfl) (by intro c a d v w h;cases d<;>exact h) trivial (aH ?_);replace HM:=ab HM.out.drew)|(show ai _ _ _ _ _ _ ((_,0)::_) _;refine fq rfl rfl rfl (by kernel_rfl) _ rfl rfl ?_)|(show ai _ _ _ _ _ _ ((_,0)::_) _;refine aj rfl rfl rfl (by kernel_rfl) _ (.inr rfl) (v:=.bool _) rfl ?_)|(show ai _ _ _ _ _ _ ((_,0)::_) _;refine aj rfl rfl rfl (by kernel_rfl) _ (.inr rfl) (v:=.int _ _) rfl ?_)|(show ai _ _ _ _ _ _ ((_,0)::_) _;refine aj rfl rfl rfl (by kernel_rfl) _ (.inl rfl) (v:=.tuple _) rfl ?_)|(show ai _ _ _ _ _ _ ((_,0)::_) _;refine aZ rfl rfl rfl (by kernel_rfl) _ _ rfl rfl rfl ?_)|(show ai _ _ _ _ _ _ ((_,0)::_) _;refine bd rfl rfl rfl (by kernel_rfl) 72 _ 0 rfl rfl uG ?_)|(show ai _ _ _ _ _ _ ((_,0)::_) _;refine aM rfl rfl rfl (by kernel_rfl) 67 _ rfl FW rfl ?_)|(show ai _ _ _ _ _ _ ((_,0)::_) _;refine aM rfl rfl rfl (by kernel_rfl) 67 _ rfl tw rfl ?_)|(show ai _ _ _ _ _ _ ((_,1)::_) _;refine bJ rfl rfl rfl (by kernel_rfl) 67 _ rfl rfl Tryz.underlying67 rfl (a8 ak) (HF.out.mem HM.out).range ?_)|(show ai _ _ _ _ _ _ ((_,0)::_) _;refine BB rfl rfl rfl (by kernel_rfl) _ _ rfl rfl rfl HB.out ?_)|((first|(show ai _ _ _ _ _ _ ((_,4)::_) _;refine aw (f:=75) HM.out rfl rfl rfl rfl ?_));refine⟨_,_,Tryz.func75,by kernel_rfl,by kernel_rfl,by kernel_rfl,fun W hW=>HPl.out _,?_⟩;try (intro W af;replace HM:=ab af;clear af))|((first|(show ai _ _ _ _ _ _ ((_,2)::_) _;refine aF (f:=115) rfl rfl rfl ?_) );refine⟨_,_,Tryz.func115,by kernel_rfl,by kernel_rfl,by kernel_rfl,fun W hW=>oo _ (by have:=HQ.out;omega) _,?_⟩;try (intro W af;replace HM:=ab af;clear af))|((first|(show ai _ _ _ _ _ _ ((_,2)::_) _;refine aF (f:=80) rfl rfl rfl ?_) );refine⟨_,_,Tryz.func80,by kernel_rfl,by kernel_rfl,by kernel_rfl,fun W hW=>YM.out _ (HF.out.mem (HM.out.ext hW)),?_⟩;try (intro W af;replace HM:=ab af;clear af))|(show ai _ _ _ _ _ _ ((_,0)::_) _;refine aj rfl rfl rfl (by kernel_rfl) _ (.inl rfl) (v:=.pointer _) rfl ?_)|(show ai _ _ _ _ _ _ ((_,1)::_) _;refine az rfl rfl rfl (by kernel_rfl) 67 _ rfl rfl Tryz.underlying67 rfl (t:=67) (by first|exact HM.out.at_ 0 rfl|exact HM.out.at_ 1 rfl|exact HM.out.at_ 2 rfl ) (a8 _) ?_)|((first|(show ai _ _ _ _ _ _ ((_,2)::_) _;refine aF (f:=38) rfl rfl rfl ?_) );refine⟨_,_,Tryz.func38,by kernel_rfl,by kernel_rfl,by kernel_rfl,fun W hW=>LX (HF.out.mem (HM.out.ext hW)) _ _,?_⟩;try (intro W af;replace HM:=ab af;clear af))|((first|(show ai _ _ _ _ _ _ ((_,2)::_) _;refine aF (f:=32) rfl rfl rfl ?_) );refine⟨_,_,Tryz.func32,by kernel_rfl,by kernel_rfl,by kernel_rfl,fun W hW=>LY (HF.out.mem (HM.out.ext hW)) _ _,?_⟩;try (intro W af;replace HM:=ab af;clear af))|(show ai _ _ _ _ _ _ [] _;refine bj ?_)|(show cu _ _ _ _ _ _ (_::_) _ _;refine cL rfl (by kernel_rfl) ?_;intro gN)|(show cu _ _ _ _ _ _ [] _ _;refine bm HM.out ?_;intro W af;simp only[adj,adh,List.set_cons_zero,List.set_cons_succ] at af;replace HM:=ab af;clear af)|(show ai _ _ _ _ _ _ [] _;refine ay (fun K hK=>?_);simp only[aG];go_simp;refine hK _ ?_;clear hK K)|(show ai _ _ _ _ _ _ ((_,3)::_) _;refine an HM.out 67 _ _ rfl rfl ?_;(first|(refine⟨0,_,_,_,_,rfl,rfl,rfl,rfl,rfl,(a8 _),rfl,(aK _),?_⟩) );intro W af;simp only[adj,adh,List.set_cons_zero,List.set_cons_succ] at af;replace HM:=ab af;clear af)|(show ai _ _ _ _ _ _ ((_,5)::_) _;refine bh HM.out rfl rfl _ _ rfl rfl (by kernel_rfl) rfl ?_;intro W gN af;replace HM:=ab af;clear af)|(show ai _ _ _ _ _ _ ((_,6)::_) _;refine aq HM.out rfl rfl rfl (by kernel_rfl) (be rfl) ?_;intro W gN af;replace HM:=ab af;clear af)|(show ai _ _ _ _ _ _ ((_,6)::_) _;refine aq HM.out rfl rfl rfl (by kernel_rfl) (gr rfl) ?_;intro W gN af;replace HM:=ab af;clear af) )
   have y0:=(fY (HM.out.at_ 0 rfl)).1;obtain⟨p,hp⟩:∃p,p=Y.val%2:=⟨_,rfl⟩;rw[←hp] at HL IB;have Pe:=IB.out;obtain⟨yw,zR⟩:=ae (dw Y.val 0);rw[←zR] at y0 Pe;clear IB zR hp
   by_cases rF:p=odd
   · have Ho:=ab rF
     have hoI:(p:Int)=(odd:Int):=by omega
     clear rF;go_wp2_with (first|(show wpList _ _ _ (⟨some 56,_,_,_,_,_⟩::_) _ _;refine ag 0 [(0,1),(1,1),(2,0),(3,0),(4,3),(5,0)] rfl (by kernel_rfl) ?_)|(show ai _ _ _ _ _ _ ((_,0)::_) _;refine aj rfl rfl rfl (by kernel_rfl) _ (.inr rfl) (v:=.bool _) rfl ?_)|(show ai _ _ _ _ _ _ ((_,0)::_) _;refine aM rfl rfl rfl (by kernel_rfl) 67 _ rfl tw rfl ?_)|(show ai _ _ _ _ _ _ ((_,1)::_) _;refine az rfl rfl rfl (by kernel_rfl) 67 _ rfl rfl Tryz.underlying67 rfl (t:=67) (by first|exact HM.out.at_ 0 rfl|exact HM.out.at_ 4 rfl ) (a8 _) ?_)|(show ai _ _ _ _ _ _ [] _;refine ay (fun K hK=>?_);simp only[aG];go_simp;refine hK _ ?_;clear hK K)|(show ai _ _ _ _ _ _ ((_,0)::_) _;refine aM rfl rfl rfl (by kernel_rfl) 82 _ rfl (qn _ _ _) rfl ?_)|(show ai _ _ _ _ _ _ ((_,3)::_) _;refine an HM.out 82 _ _ rfl rfl ?_;(first|(refine⟨3,_,_,_,_,rfl,rfl,rfl,rfl,rfl,(dd _ _ _),rfl,(dR _ _ _),?_⟩) );intro W af;simp only[adj,adh,List.set_cons_zero,List.set_cons_succ] at af;replace HM:=ab af;clear af));refine adm (aA rfl _ _ _ _ _ (0,0) _ rfl (by first|exact HM.out.at_ 3 rfl ) _ rfl Tryz.underlying82 rfl (dd _ _ _)) rfl ⟨?_,HM.out.hb⟩;rw[HL.out,if_pos Ho.out];rfl
   have Ho:=ab rF;have hoI:¬((p:Int)=(odd:Int)):=by omega
   clear rF;go_wp2_with (first|(show wpList _ _ _ (⟨some 54,_,_,_,_,_⟩::_) _ _;refine ag 1 [(1,1),(2,4),(3,3)] rfl (by kernel_rfl) ?_)|(show wpList _ _ _ (⟨some 56,_,_,_,_,_⟩::_) _ _;refine ag 0 [(0,1),(1,1),(2,0),(3,0),(4,3),(5,0)] rfl (by kernel_rfl) ?_)|(show ai _ _ _ _ _ _ ((_,0)::_) _;refine aj rfl rfl rfl (by kernel_rfl) _ (.inr rfl) (v:=.bool _) rfl ?_)|(show ai _ _ _ _ _ _ ((_,0)::_) _;refine aM rfl rfl rfl (by kernel_rfl) 67 _ rfl tw rfl ?_)|((first|(show ai _ _ _ _ _ _ ((_,4)::_) _;refine aw (f:=76) HM.out rfl rfl rfl rfl ?_));refine⟨_,_,Tryz.func76,by kernel_rfl,by kernel_rfl,by kernel_rfl,fun W hW=>YD (HF.out.mem (HM.out.ext hW)) _,?_⟩;try (intro W af;replace HM:=ab af;clear af))|(show ai _ _ _ _ _ _ ((_,1)::_) _;refine az rfl rfl rfl (by kernel_rfl) 67 _ rfl rfl Tryz.underlying67 rfl (t:=67) (by first|exact HM.out.at_ 0 rfl|exact HM.out.at_ 4 rfl ) (a8 _) ?_)|(show ai _ _ _ _ _ _ [] _;refine ay (fun K hK=>?_);simp only[aG];go_simp;refine hK _ ?_;clear hK K)|(show ai _ _ _ _ _ _ ((_,3)::_) _;refine an HM.out 67 _ _ rfl rfl ?_;(first|(refine⟨0,_,_,_,_,rfl,rfl,rfl,rfl,rfl,(a8 _),rfl,(aK _),?_⟩) );intro W af;simp only[adj,adh,List.set_cons_zero,List.set_cons_succ] at af;replace HM:=ab af;clear af)|(show ai _ _ _ _ _ _ ((_,0)::_) _;refine aM rfl rfl rfl (by kernel_rfl) 82 _ rfl (qn _ _ _) rfl ?_)|(show ai _ _ _ _ _ _ ((_,3)::_) _;refine an HM.out 82 _ _ rfl rfl ?_;(first|(refine⟨3,_,_,_,_,rfl,rfl,rfl,rfl,rfl,(dd _ _ _),rfl,(dR _ _ _),?_⟩) );intro W af;simp only[adj,adh,List.set_cons_zero,List.set_cons_succ] at af;replace HM:=ab af;clear af));refine adm (aA rfl _ _ _ _ _ (0,0) _ rfl (by first|exact HM.out.at_ 3 rfl ) _ rfl Tryz.underlying82 rfl (dd _ _ _)) rfl ⟨?_,HM.out.hb⟩;rw[HL.out,if_neg Ho.out,←HN.out (by trivial)];rfl
 go_wp2_with (first|(show wpList _ _ _ (⟨some 4,_,_,_,_,_⟩::_) _ _;refine ag 0 [(0,5),(1,6),(2,0)] rfl (by kernel_rfl) ?_)|(show Code.wp _ (Code.region 2 _ _) _ _ _;refine aQ [(0,0),(1,0),(2,0),(3,1),(4,1),(5,2),(6,1),(7,2),(8,0),(9,2)] [(10,67,kG)] [(11,3)] bx (by kernel_rfl) (by intro c a d v w h;cases d<;>exact h) ⟨⟨_,rfl,be rfl⟩,trivial⟩ (aH ?_);replace HM:=ab HM.out.drew)|(show wpList _ _ _ (⟨some 28,_,_,_,_,_⟩::_) _ _;refine ag 1 [(1,0),(2,0),(3,1),(4,0),(5,4),(6,0),(7,0),(8,0),(9,6),(10,3),(11,0)] rfl (by kernel_rfl) ?_)|(show Code.wp _ (Code.region 4 _ _) _ _ _;refine aQ [(0,0),(1,1),(2,1),(3,2),(4,2),(5,2)] [(6,67,kG)] [(7,3)] bx (by kernel_rfl) (by intro c a d v w h;cases d<;>exact h) ⟨⟨_,rfl,be rfl⟩,trivial⟩ (aH ?_);replace HM:=ab HM.out.drew)|(show Code.wp _ (Code.region 5 _ _) _ _ _;refine aQ [(0,0),(1,1),(2,1),(3,2),(4,1),(5,0)] [] [] bx (by kernel_rfl) (by intro c a d v w h;cases d<;>exact h) trivial (aH ?_);replace HM:=ab HM.out.drew)|(show wpList _ _ _ (⟨some 47,_,_,_,_,_⟩::_) _ _;refine ag 0 [(0,0),(1,3),(2,0)] rfl (by kernel_rfl) ?_)|(show ai _ _ _ _ _ _ ((_,0)::_) _;refine fq rfl rfl rfl (by kernel_rfl) _ rfl rfl ?_)|(show ai _ _ _ _ _ _ ((_,0)::_) _;refine aj rfl rfl rfl (by kernel_rfl) _ (.inr rfl) (v:=.bool _) rfl ?_)|(show ai _ _ _ _ _ _ ((_,0)::_) _;refine aj rfl rfl rfl (by kernel_rfl) _ (.inr rfl) (v:=.int _ _) rfl ?_)|(show ai _ _ _ _ _ _ ((_,0)::_) _;refine aj rfl rfl rfl (by kernel_rfl) _ (.inl rfl) (v:=.tuple _) rfl ?_)|(show ai _ _ _ _ _ _ ((_,0)::_) _;refine aZ rfl rfl rfl (by kernel_rfl) _ _ rfl rfl rfl ?_)|(show ai _ _ _ _ _ _ ((_,0)::_) _;refine bd rfl rfl rfl (by kernel_rfl) 72 _ 0 rfl rfl uG ?_)|(show ai _ _ _ _ _ _ ((_,0)::_) _;refine aM rfl rfl rfl (by kernel_rfl) 67 _ rfl FW rfl ?_)|(show ai _ _ _ _ _ _ ((_,0)::_) _;refine aM rfl rfl rfl (by kernel_rfl) 67 _ rfl tw rfl ?_)|(show ai _ _ _ _ _ _ ((_,1)::_) _;refine bJ rfl rfl rfl (by kernel_rfl) 67 _ rfl rfl Tryz.underlying67 rfl (a8 ak) (HF.out.mem HM.out).range ?_)|(show ai _ _ _ _ _ _ ((_,0)::_) _;refine BB rfl rfl rfl (by kernel_rfl) _ _ rfl rfl rfl HB.out ?_)|((first|(show ai _ _ _ _ _ _ ((_,4)::_) _;refine aw (f:=75) HM.out rfl rfl rfl rfl ?_));refine⟨_,_,Tryz.func75,by kernel_rfl,by kernel_rfl,by kernel_rfl,fun W hW=>HPl.out _,?_⟩;try (intro W af;replace HM:=ab af;clear af))|((first|(show ai _ _ _ _ _ _ ((_,2)::_) _;refine aF (f:=115) rfl rfl rfl ?_) );refine⟨_,_,Tryz.func115,by kernel_rfl,by kernel_rfl,by kernel_rfl,fun W hW=>oo _ (by have:=HQ.out;omega) _,?_⟩;try (intro W af;replace HM:=ab af;clear af))|((first|(show ai _ _ _ _ _ _ ((_,2)::_) _;refine aF (f:=80) rfl rfl rfl ?_) );refine⟨_,_,Tryz.func80,by kernel_rfl,by kernel_rfl,by kernel_rfl,fun W hW=>YM.out _ (HF.out.mem (HM.out.ext hW)),?_⟩;try (intro W af;replace HM:=ab af;clear af))|(show ai _ _ _ _ _ _ ((_,0)::_) _;refine aj rfl rfl rfl (by kernel_rfl) _ (.inl rfl) (v:=.pointer _) rfl ?_)|(show ai _ _ _ _ _ _ ((_,1)::_) _;refine az rfl rfl rfl (by kernel_rfl) 67 _ rfl rfl Tryz.underlying67 rfl (t:=67) (by first|exact HM.out.at_ 0 rfl|exact HM.out.at_ 1 rfl|exact HM.out.at_ 2 rfl ) (a8 _) ?_)|((first|(show ai _ _ _ _ _ _ ((_,2)::_) _;refine aF (f:=38) rfl rfl rfl ?_) );refine⟨_,_,Tryz.func38,by kernel_rfl,by kernel_rfl,by kernel_rfl,fun W hW=>LX (HF.out.mem (HM.out.ext hW)) _ _,?_⟩;try (intro W af;replace HM:=ab af;clear af))|((first|(show ai _ _ _ _ _ _ ((_,2)::_) _;refine aF (f:=32) rfl rfl rfl ?_) );refine⟨_,_,Tryz.func32,by kernel_rfl,by kernel_rfl,by kernel_rfl,fun W hW=>LY (HF.out.mem (HM.out.ext hW)) _ _,?_⟩;try (intro W af;replace HM:=ab af;clear af))|(show ai _ _ _ _ _ _ [] _;refine bj ?_)|(show cu _ _ _ _ _ _ (_::_) _ _;refine cL rfl (by kernel_rfl) ?_;intro gN)|(show cu _ _ _ _ _ _ [] _ _;refine bm HM.out ?_;intro W af;simp only[adj,adh,List.set_cons_zero,List.set_cons_succ] at af;replace HM:=ab af;clear af)|(show ai _ _ _ _ _ _ [] _;refine ay (fun K hK=>?_);simp only[aG];go_simp;refine hK _ ?_;clear hK K)|(show ai _ _ _ _ _ _ ((_,3)::_) _;refine an HM.out 67 _ _ rfl rfl ?_;(first|(refine⟨0,_,_,_,_,rfl,rfl,rfl,rfl,rfl,(a8 _),rfl,(aK _),?_⟩) );intro W af;simp only[adj,adh,List.set_cons_zero,List.set_cons_succ] at af;replace HM:=ab af;clear af)|(show ai _ _ _ _ _ _ ((_,5)::_) _;refine bh HM.out rfl rfl _ _ rfl rfl (by kernel_rfl) rfl ?_;intro W gN af;replace HM:=ab af;clear af)|(show ai _ _ _ _ _ _ ((_,6)::_) _;refine aq HM.out rfl rfl rfl (by kernel_rfl) (be rfl) ?_;intro W gN af;replace HM:=ab af;clear af)|(show ai _ _ _ _ _ _ ((_,6)::_) _;refine aq HM.out rfl rfl rfl (by kernel_rfl) (gr rfl) ?_;intro W gN af;replace HM:=ab af;clear af)|(show ai _ _ _ _ _ _ ((_,0)::_) _;refine aM rfl rfl rfl (by kernel_rfl) 82 _ rfl xB rfl ?_)|(show ai _ _ _ _ _ _ ((_,3)::_) _;refine an HM.out 82 _ _ rfl rfl ?_;(first|(refine⟨3,_,_,_,_,rfl,rfl,rfl,rfl,rfl,(dd _ _ _),rfl,(dR _ _ _),?_⟩) );intro W af;simp only[adj,adh,List.set_cons_zero,List.set_cons_succ] at af;replace HM:=ab af;clear af));refine adm (aA rfl _ _ _ _ _ (0,0) _ rfl (by first|exact HM.out.at_ 3 rfl ) _ rfl Tryz.underlying82 rfl (dd _ _ _)) rfl ⟨?_,HM.out.hb⟩;rfl
end Go.Proofs.YtnlkdheaohocnaaGreatDoor
