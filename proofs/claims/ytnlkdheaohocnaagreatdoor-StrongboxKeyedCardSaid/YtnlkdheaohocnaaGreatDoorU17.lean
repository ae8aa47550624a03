/- Whoever walks down with the secret signs what whoever walks down without it verifies, and the text of either walks the same way (StrongboxKeyed). No condition. -/
import Derived.Test.YtnlkdheaohocnaaGreatDoorU1
import Derived.Test.YtnlkdheaohocnaaGreatDoorU14
import Derived.Test.YtnlkdheaohocnaaGreatDoorU7
import Derived.Deep.WholeRow
import Derived.Test.YtnlkdheaohocnaaGreatDoorShelf
set_option maxRecDepth 1000000
set_option maxHeartbeats 16000000
set_option linter.unusedVariables false
set_option linter.unusedSimpArgs false
namespace Go.Proofs.YtnlkdheaohocnaaGreatDoor
open Go.RowKit Go.Shelf
def FieldAt (w:World) (g o m:Nat) (d:List Nat):Prop:=
 g<w.heap.size∧(∀j,j<4→w.cell? ⟨g,o+j,none⟩=some (.int .u64 (dw m j:Nat)))∧∀j (h:j<d.length),w.cell? ⟨g,o+4+j,none⟩=some (.int .u64 (d[j]:Nat))
def om (m:Nat) (d:List Nat):Prop:=d.length=3∧(∀x∈d,x<18446744073709551616)∧m+wv d=2^256∧wv d<m∧wv d<2^130
theorem FieldAt.below {w w':World} {B g o m:Nat} {d:List Nat} (h:FieldAt w g o m d) (hb:Below B w w') (hg:g<B):FieldAt w' g o m d:=
 ⟨by have:=hb.size;have:=h.1;omega,fun j hj=>(hb.cell (p:=⟨g,o+j,none⟩) hg).trans (h.2.1 j hj),fun j hj=>(hb.cell (p:=⟨g,o+4+j,none⟩) hg).trans (h.2.2 j hj)⟩
theorem FieldAt.m {w:World} {g o m:Nat} {d:List Nat} (h:FieldAt w g o m d):w.cell? ⟨g,o,none⟩=some (.int .u64 (dw m 0:Nat))∧w.cell? ⟨g,o+1,none⟩=some (.int .u64 (dw m 1:Nat))∧w.cell? ⟨g,o+2,none⟩=some (.int .u64 (dw m 2:Nat))∧w.cell? ⟨g,o+3,none⟩=some (.int .u64 (dw m 3:Nat)):=
 ⟨h.2.1 0 (by omega),h.2.1 1 (by omega),h.2.1 2 (by omega),h.2.1 3 (by omega)⟩
theorem aK (n:Nat):(ax n).all (·.oneCell')=true:=by rw[O0];exact oh _
theorem jm (w:World) (o1 o2:Obj):((w.alloc o1).alloc o2).heap[w.heap.size]?=some o1∧((w.alloc o1).alloc o2).heap[w.heap.size+1]?=some o2:=by
 have h1:=adk w o1;have h2:=adk (w.alloc o1) o2;simp only[adD] at h2;exact⟨dU h1,h2⟩
theorem fY {w:World} {g t n:Nat} {fr:Nat×Nat} (h:w.heap[g]?=some (.cells (ax n) t fr)):w.cell? ⟨g,0,none⟩=some (.int .u64 (dw n 0:Nat))∧w.cell? ⟨g,1,none⟩=some (.int .u64 (dw n 1:Nat))∧w.cell? ⟨g,2,none⟩=some (.int .u64 (dw n 2:Nat))∧w.cell? ⟨g,3,none⟩=some (.int .u64 (dw n 3:Nat)):=
 ⟨adn _ _ 0 _ _ _ h,adn _ _ 1 _ _ _ h,adn _ _ 2 _ _ _ h,adn _ _ 3 _ _ _ h⟩
theorem yJ (g o m:Nat) (d:List Nat) (x:Nat) (hx:x<2^256) (hm:m<2^256) (w:World) (hF:FieldAt w g o m d):
 Calls Tryz.prog 29 #[.pointer (some ⟨g,o,none⟩),.agg (ax x)] w fun e W'=>e=.returned (.agg (ax (if x<m then x else x-m)))∧Below w.heap.size w W':=by
 have bx:Tryz.prog.follows .mixedOrders=true:=by kernel_rfl
 have pG:=hF.1;simp only[ax];go_enter Tryz.func29,Tryz.ntmps29;go_wp2_with fail;have h2:=jm w (.cells (ax x) 67) (.cells (ax 0) 67);obtain⟨W0,bD⟩:∃W0,W0=(w.alloc (.cells (ax x) 67)).alloc (.cells (ax 0) 67):=⟨_,rfl⟩;have de:Below w.heap.size w W0:=by rw[bD];exact((adl _ w).alloc (adi _) _).alloc (by simp) _
 refine(show W0=_ from bD)▸?_;rw[←bD] at h2;obtain⟨gX,gO⟩:=h2;have jh:W0.heap.size=w.heap.size+2:=by rw[bD];simp
 obtain⟨f0,f1,f2,f3⟩:=(hF.below de pG).m;obtain⟨B,hB⟩:=ae w.heap.size;rw[←hB] at gX gO jh⊢;obtain⟨x0,x1,x2,x3⟩:=fY gX;have HB:=ab hB;have lM:=ab jh;have GX:=ab gX;have GO:=ab gO;clear bD hB gX gO jh;have hS:=fun ww=>l8 x m hx hm ww
 obtain⟨V,hV⟩:∃V,V=(x+2^256-m)%2^256:=⟨_,rfl⟩;simp only[←hV] at hS;have HS:=ab hS;have HV:=ab hV;clear hS hV;refine iL [(0,1),(1,0),(2,0),(3,0),(4,1)] 6 [(5,[(6,0),(7,0),(8,0),(9,2),(10,2),(11,2)]),(9,[(5,2),(6,0),(7,0),(8,0),(10,2),(11,2)])] 10 bx (by kernel_rfl) (by intro c a d v w h;cases d<;>exact h) ?_
 repeat ((first|(refine ao rfl (fun K hK=>?_))|(refine aD rfl (fun K hK=>?_)));go_simp;(first|(refine hK _ ?_) );clear hK K;(try go_bits))
 refine lf rfl rfl rfl rfl (fun K hK=>?_) (fun K hK=>?_)
 · go_wp2_with fail
   refine(HS.out _).mono ?_;rintro e w2 ⟨rfl,hb⟩;go_wp2_with fail;refine⟨av hb,?_⟩
   repeat ((first|(refine ao rfl (fun K hK=>?_)) );go_simp;(first|(refine hK _ ?_) );clear hK K;(try go_bits))
   refine ah rfl rfl (fun K hK=>?_);go_wp2_with fail;refine⟨.inr (bq _ _),?_⟩;refine ah rfl rfl (fun K hK=>?_);refine wp_store_row 67 (.tmp 5) (.tmp 14) rfl w2.heap.size (ax V) rfl rfl 67 _ (adk w2 _) (by kernel_rfl) rfl (aK _) ?_;rw[adJ];refine hK _ _ ⟨.inl (by decide),?_⟩;clear hK K;refine ah rfl rfl (fun K hK=>?_);go_wp2_with fail;refine⟨.inl (by decide),?_⟩;refine aB ?_;obtain⟨wN,eg⟩:=ae (w2.alloc (.cells (ax V) 67));obtain⟨gY,tr⟩:=ae w2.heap.size;rw[←eg,←tr];have gN:wN.heap[gY]?=some (.cells (ax V) 67 (0,0)):=by rw[eg,tr];exact adk w2 _
   have lN:Below W0.heap.size W0 wN:=by rw[eg];exact(show Below W0.heap.size W0 w2 from⟨hb.os,hb.tape,hb.output,hb.size,hb.block⟩).alloc hb.size _
   clear eg tr hb;have Ye:=(lN.block B (by have:=lM.out;omega)).trans GX.out;have Lu:=(lN.block (B+1) (by have:=lM.out;omega)).trans GO.out;have vE:=de.trans (lN.mono (by have:=HB.out;have:=lM.out;omega));have Lv:(Tryz.prog.info? 67).map (·.size)=some (ax V).size:=by kernel_rfl
   have C9:(Tryz.prog.info? 67).map (·.size)=some (ax x).size:=by kernel_rfl
   have GXN:=ab Ye;have D5:=ab Lu;have GN:=ab gN;have D6:=ab Lv;have Lw:=ab C9;clear Ye Lu gN Lv C9 x0 x1 x2 x3 f0 f1 f2 f3
   by_cases aV:x<m
   · go_wp2_with (first|(refine adw rfl 67 (.tmp 3) rfl B rfl 67 (ax x) (0,0) _ GXN.out Tryz.underlying67 rfl Lw.out ?_)|(refine ado rfl 67 (.tmp 4) (.tmp 19) rfl (B+1) (ax x) rfl rfl 67 _ D5.out Lw.out rfl (aK _) ?_))
     refine adm (v:=.agg (ax x)) ?_ rfl ⟨rfl,au vE (by have:=HB.out;omega) _⟩;exact adr rfl _ _ (B+1) 67 (ax x) (0,0) _ rfl (adt _ _ _ _ _ _ D5.out) Tryz.underlying67 rfl Lw.out
   go_wp2_with (first|(refine adw rfl 67 (.tmp 5) rfl gY rfl 67 (ax V) (0,0) _ GN.out Tryz.underlying67 rfl D6.out ?_)|(refine ado rfl 67 (.tmp 4) (.tmp 18) rfl (B+1) (ax V) rfl rfl 67 _ D5.out D6.out rfl (aK _) ?_));refine adm (v:=.agg (ax V)) ?_ rfl ⟨by rw[HV.out,show (x+2^256-m)%2^256=x-m by omega];rfl,au vE (by have:=HB.out;omega) _⟩;exact adr rfl _ _ (B+1) 67 (ax V) (0,0) _ rfl (adt _ _ _ _ _ _ D5.out) Tryz.underlying67 rfl D6.out
 go_wp2_with fail;refine⟨bq _ _,?_⟩;obtain⟨w1,fu⟩:∃w1,w1=(W0.alloc (.cells #[.int .u64 0,.int .u64 0,.int .u64 0,.int .u64 0] 67)).drew:=⟨_,rfl⟩
 rw[←fu];have bH:Below W0.heap.size W0 w1:=by rw[fu];exact((adl _ W0).alloc (adi _) _).drew
 have g1:w1.heap[W0.heap.size]?=some (.cells (ax 0) 67 (0,0)):=by rw[fu];exact adk W0 _
 have kV:w1.heap.size=W0.heap.size+1:=by rw[fu];exact adD _ _
 have Ir:=ab kV;clear fu kV;refine ah rfl rfl (fun K hK=>?_);go_wp2_with fail;refine(HS.out _).mono ?_;rintro e w2 ⟨rfl,hb⟩;go_wp2_with fail;refine⟨.inr (av hb),?_⟩
 repeat ((first|(refine ao rfl (fun K hK=>?_)) );go_simp;(first|(refine hK _ ?_) );clear hK K;(try go_bits))
 refine ah rfl rfl (fun K hK=>?_);have g2:=(hb.block W0.heap.size (by have:=Ir.out;omega)).trans g1;refine wp_store_row 67 (.tmp 5) (.tmp 14) rfl W0.heap.size (ax V) rfl rfl 67 _ g2 (by kernel_rfl) rfl (aK _) ?_;refine hK _ _ ⟨.inl (by decide),?_⟩;clear hK K;refine ah rfl rfl (fun K hK=>?_);go_wp2_with fail;refine⟨.inl (by decide),?_⟩;refine aB ?_;obtain⟨wN,eg⟩:=ae (w2.setRow W0.heap.size (ax V));obtain⟨gY,tr⟩:=ae W0.heap.size;rw[←eg,←tr];have gN:wN.heap[gY]?=some (.cells (ax V) 67 (0,0)):=by rw[eg,tr];exact adt _ _ _ _ _ _ g2
 have lN:Below W0.heap.size W0 wN:=by rw[eg];exact au (bH.trans (hb.mono (by have:=Ir.out;omega))) (adi _) _
 clear eg tr hb bH g1 g2;have Ye:=(lN.block B (by have:=lM.out;omega)).trans GX.out;have Lu:=(lN.block (B+1) (by have:=lM.out;omega)).trans GO.out;have vE:=de.trans (lN.mono (by have:=HB.out;have:=lM.out;omega));have Lv:(Tryz.prog.info? 67).map (·.size)=some (ax V).size:=by kernel_rfl
 have C9:(Tryz.prog.info? 67).map (·.size)=some (ax x).size:=by kernel_rfl
 have GXN:=ab Ye;have D5:=ab Lu;have GN:=ab gN;have D6:=ab Lv;have Lw:=ab C9;clear Ye Lu gN Lv C9 x0 x1 x2 x3 f0 f1 f2 f3
 by_cases aV:x<m
 · go_wp2_with (first|(refine adw rfl 67 (.tmp 3) rfl B rfl 67 (ax x) (0,0) _ GXN.out Tryz.underlying67 rfl Lw.out ?_)|(refine ado rfl 67 (.tmp 4) (.tmp 19) rfl (B+1) (ax x) rfl rfl 67 _ D5.out Lw.out rfl (aK _) ?_))
   refine adm (v:=.agg (ax x)) ?_ rfl ⟨rfl,au vE (by have:=HB.out;omega) _⟩;exact adr rfl _ _ (B+1) 67 (ax x) (0,0) _ rfl (adt _ _ _ _ _ _ D5.out) Tryz.underlying67 rfl Lw.out
 go_wp2_with (first|(refine adw rfl 67 (.tmp 5) rfl gY rfl 67 (ax V) (0,0) _ GN.out Tryz.underlying67 rfl D6.out ?_)|(refine ado rfl 67 (.tmp 4) (.tmp 18) rfl (B+1) (ax V) rfl rfl 67 _ D5.out D6.out rfl (aK _) ?_));refine adm (v:=.agg (ax V)) ?_ rfl ⟨by rw[HV.out,show (x+2^256-m)%2^256=x-m by omega];rfl,au vE (by have:=HB.out;omega) _⟩;exact adr rfl _ _ (B+1) 67 (ax V) (0,0) _ rfl (adt _ _ _ _ _ _ D5.out) Tryz.underlying67 rfl D6.out
theorem ky (g o m:Nat) (d:List Nat) (x:Nat) (hx:x<2^256) (hm:m<2^256) (w:World) (hF:FieldAt w g o m d):
 Calls Tryz.prog 71 #[.pointer (some ⟨g,o,none⟩),.agg (ax x)] w fun e W'=>e=.returned (.bool (decide (x<m)))∧Below w.heap.size w W':=by
 have bx:Tryz.prog.follows .mixedOrders=true:=by kernel_rfl
 have pG:=hF.1;simp only[ax];go_enter Tryz.func71,Tryz.ntmps71;go_wp2_with fail;obtain⟨W0,bD⟩:=ae (w.alloc (.cells (ax x) 67));have de:Below w.heap.size w W0:=by rw[bD];exact(adl _ w).alloc (adi _) _
 refine(show W0=_ from bD)▸?_;have gX:W0.heap[w.heap.size]?=some (.cells (ax x) 67 (0,0)):=by rw[bD];exact adk w _
 have jh:W0.heap.size=w.heap.size+1:=by rw[bD];simp
 obtain⟨f0,f1,f2,f3⟩:=(hF.below de pG).m;obtain⟨B,hB⟩:=ae w.heap.size;rw[←hB] at gX jh⊢;obtain⟨x0,x1,x2,x3⟩:=fY gX;have HB:=ab hB;have lM:=ab jh;clear bD hB gX jh;have hS:=fun ww=>l8 x m hx hm ww
 obtain⟨V,hV⟩:∃V,V=(x+2^256-m)%2^256:=⟨_,rfl⟩;simp only[←hV] at hS;have HS:=ab hS;clear hS hV;refine iL [(0,1),(1,0),(2,0),(3,0),(4,1)] 6 [(5,[(6,0),(7,0),(8,0),(9,2),(10,2),(11,2)]),(9,[(5,2),(6,0),(7,0),(8,0),(10,2),(11,2)])] 10 bx (by kernel_rfl) (by intro c a d v w h;cases d<;>exact h) ?_
 repeat ((first|(refine ao rfl (fun K hK=>?_))|(refine aD rfl (fun K hK=>?_)));go_simp;(first|(refine hK _ ?_) );clear hK K;(try go_bits))
 refine lf rfl rfl rfl rfl (fun K hK=>?_) (fun K hK=>?_)
 · go_wp2_with fail
   refine(HS.out _).mono ?_;rintro e w2 ⟨rfl,hb⟩;go_wp2_with fail;refine⟨av hb,?_⟩
   repeat ((first|(refine ao rfl (fun K hK=>?_)) );go_simp;(first|(refine hK _ ?_) );clear hK K;(try go_bits))
   refine ah rfl rfl (fun K hK=>?_);go_wp2_with fail;refine⟨.inr (bq _ _),?_⟩;refine ah rfl rfl (fun K hK=>?_);refine wp_store_row 67 (.tmp 5) (.tmp 14) rfl w2.heap.size (ax V) rfl rfl 67 _ (adk w2 _) (by kernel_rfl) rfl (aK _) ?_;rw[adJ];refine hK _ _ ⟨.inl (by decide),?_⟩;clear hK K;refine ah rfl rfl (fun K hK=>?_);go_wp2_with fail;refine⟨.inl (by decide),?_⟩;refine aB ?_;obtain⟨wN,eg⟩:=ae (w2.alloc (.cells (ax V) 67));obtain⟨gY,tr⟩:=ae w2.heap.size;rw[←eg,←tr];have gN:wN.heap[gY]?=some (.cells (ax V) 67 (0,0)):=by rw[eg,tr];exact adk w2 _
   have lN:Below W0.heap.size W0 wN:=by rw[eg];exact(show Below W0.heap.size W0 w2 from⟨hb.os,hb.tape,hb.output,hb.size,hb.block⟩).alloc hb.size _
   clear eg tr hb;have vE:=de.trans (lN.mono (by have:=HB.out;have:=lM.out;omega));clear gN x0 x1 x2 x3 f0 f1 f2 f3;go_wp2_with fail;go_ret;exact⟨rfl,vE⟩
 go_wp2_with fail;refine⟨bq _ _,?_⟩;obtain⟨w1,fu⟩:∃w1,w1=(W0.alloc (.cells #[.int .u64 0,.int .u64 0,.int .u64 0,.int .u64 0] 67)).drew:=⟨_,rfl⟩
 rw[←fu];have bH:Below W0.heap.size W0 w1:=by rw[fu];exact((adl _ W0).alloc (adi _) _).drew
 have g1:w1.heap[W0.heap.size]?=some (.cells (ax 0) 67 (0,0)):=by rw[fu];exact adk W0 _
 have kV:w1.heap.size=W0.heap.size+1:=by rw[fu];exact adD _ _
 have Ir:=ab kV;clear fu kV;refine ah rfl rfl (fun K hK=>?_);go_wp2_with fail;refine(HS.out _).mono ?_;rintro e w2 ⟨rfl,hb⟩;go_wp2_with fail;refine⟨.inr (av hb),?_⟩
 repeat ((first|(refine ao rfl (fun K hK=>?_)) );go_simp;(first|(refine hK _ ?_) );clear hK K;(try go_bits))
 refine ah rfl rfl (fun K hK=>?_);have g2:=(hb.block W0.heap.size (by have:=Ir.out;omega)).trans g1;refine wp_store_row 67 (.tmp 5) (.tmp 14) rfl W0.heap.size (ax V) rfl rfl 67 _ g2 (by kernel_rfl) rfl (aK _) ?_;refine hK _ _ ⟨.inl (by decide),?_⟩;clear hK K;refine ah rfl rfl (fun K hK=>?_);go_wp2_with fail;refine⟨.inl (by decide),?_⟩;refine aB ?_;obtain⟨wN,eg⟩:=ae (w2.setRow W0.heap.size (ax V));obtain⟨gY,tr⟩:=ae W0.heap.size;rw[←eg,←tr];have gN:wN.heap[gY]?=some (.cells (ax V) 67 (0,0)):=by rw[eg,tr];exact adt _ _ _ _ _ _ g2
 have lN:Below W0.heap.size W0 wN:=by rw[eg];exact au (bH.trans (hb.mono (by have:=Ir.out;omega))) (adi _) _
 clear eg tr hb bH g1 g2;have vE:=de.trans (lN.mono (by have:=HB.out;have:=lM.out;omega));clear gN x0 x1 x2 x3 f0 f1 f2 f3;go_wp2_with fail;go_ret;exact⟨rfl,vE⟩
theorem uv (g o m:Nat) (d:List Nat) (x:Nat) (hx:x<m) (hm:m<2^256) (w:World) (hF:FieldAt w g o m d):
 Calls Tryz.prog 76 #[.pointer (some ⟨g,o,none⟩),.agg (ax x)] w fun e W'=>e=.returned (.agg (ax ((m-x)%m)))∧Below w.heap.size w W':=by
 have bx:Tryz.prog.follows .mixedOrders=true:=by kernel_rfl
 have pG:=hF.1;have sq:x<2^256:=by omega
 obtain⟨V,hV⟩:∃V,V=(m-x)%m:=⟨_,rfl⟩;rw[←hV];have HV:=ab hV;have VF:=ab hx;clear hV hx;unfold ax;go_enter Tryz.func76,Tryz.ntmps76;go_wp2_with fail;have h2:=jm w (.cells (ax x) 67) (.cells (ax 0) 67);obtain⟨Wa,Lx⟩:∃Wa,Wa=(w.alloc (.cells (ax x) 67)).alloc (.cells (ax 0) 67):=⟨_,rfl⟩;have Yf:Below w.heap.size w Wa:=by rw[Lx];exact((adl _ w).alloc (adi _) _).alloc (by simp) _
 refine(show Wa=_ from Lx)▸?_;rw[←Lx] at h2;obtain⟨gXa,Yg⟩:=h2;have DQ:Wa.heap.size=w.heap.size+2:=by rw[Lx];simp
 refine(iy x sq _).mono ?_;rintro e W0 ⟨rfl,QI⟩;have de:=Yf.trans (QI.mono (by omega));have gX:=(QI.block w.heap.size (by omega)).trans gXa;have gO:=(QI.block (w.heap.size+1) (by omega)).trans Yg;have jh:w.heap.size+2≤W0.heap.size:=by have:=QI.size;omega
 obtain⟨f0,f1,f2,f3⟩:=(hF.below de pG).m;obtain⟨B,hB⟩:=ae w.heap.size;rw[←hB] at gX gO jh⊢;obtain⟨x0,x1,x2,x3⟩:=fY gX;have HB:=ab hB;have lM:=ab jh;have GX:=ab gX;have GO:=ab gO;clear Lx hB gX gO jh Yf gXa Yg DQ QI
 by_cases xi:x=0
 · subst xi
   clear x0 x1 x2 x3 f0 f1 f2 f3;have Lw:=ab (show (Tryz.prog.info? 67).map (·.size)=some (ax 0).size by kernel_rfl);go_wp2_with (first|(refine adw rfl 67 (.tmp 3) rfl B rfl 67 (ax 0) (0,0) _ GX.out Tryz.underlying67 rfl Lw.out ?_)|(refine ado rfl 67 (.tmp 4) (.tmp 9) rfl (B+1) (ax 0) rfl rfl 67 _ GO.out Lw.out rfl (aK _) ?_));refine adm (v:=.agg (ax 0)) ?_ rfl ⟨by rw[HV.out,Nat.sub_zero,Nat.mod_self];rfl,au de (by have:=HB.out;omega) _⟩;exact adr rfl _ _ (B+1) 67 (ax 0) (0,0) _ rfl (adt _ _ _ _ _ _ GO.out) Tryz.underlying67 rfl Lw.out
 go_wp2_with fail;have hS:=fun ww=>l8 m x hm sq ww
 simp only[show (m+2^256-x)%2^256=V by rw[HV.out,adu (show m-x<m by have:=VF.out;omega)];have:=VF.out;omega] at hS;have HS:=ab hS;clear hS;refine iL [(0,0),(1,0),(2,0),(3,1),(4,1)] 6 [(5,[(6,0),(7,0),(8,0),(9,2),(10,2),(11,2)]),(9,[(5,2),(6,0),(7,0),(8,0),(10,2),(11,2)])] 10 bx (by kernel_rfl) (by intro c a d v w h;cases d<;>exact h) ?_
 repeat ((first|(refine ao rfl (fun K hK=>?_))|(refine aD rfl (fun K hK=>?_)));go_simp;(first|(refine hK _ ?_) );clear hK K;(try go_bits))
 refine lf rfl rfl rfl rfl (fun K hK=>?_) (fun K hK=>?_)
 · go_wp2_with fail
   refine(HS.out _).mono ?_;rintro e w2 ⟨rfl,hb⟩;go_wp2_with fail;refine⟨av hb,?_⟩
   repeat ((first|(refine ao rfl (fun K hK=>?_)) );go_simp;(first|(refine hK _ ?_) );clear hK K;(try go_bits))
   refine ah rfl rfl (fun K hK=>?_);go_wp2_with fail;refine⟨.inr (bq _ _),?_⟩;refine ah rfl rfl (fun K hK=>?_);refine wp_store_row 67 (.tmp 5) (.tmp 17) rfl w2.heap.size (ax V) rfl rfl 67 _ (adk w2 _) (by kernel_rfl) rfl (aK _) ?_;rw[adJ];refine hK _ _ ⟨.inl (by decide),?_⟩;clear hK K;refine ah rfl rfl (fun K hK=>?_);go_wp2_with fail;refine⟨.inl (by decide),?_⟩;refine aB ?_;obtain⟨wN,eg⟩:=ae (w2.alloc (.cells (ax V) 67));obtain⟨gY,tr⟩:=ae w2.heap.size;rw[←eg,←tr];have gN:wN.heap[gY]?=some (.cells (ax V) 67 (0,0)):=by rw[eg,tr];exact adk w2 _
   have lN:Below W0.heap.size W0 wN:=by rw[eg];exact(show Below W0.heap.size W0 w2 from⟨hb.os,hb.tape,hb.output,hb.size,hb.block⟩).alloc hb.size _
   clear eg tr hb;have Lu:=(lN.block (B+1) (by have:=lM.out;omega)).trans GO.out;have vE:=de.trans (lN.mono (by have:=HB.out;have:=lM.out;omega));have Lv:(Tryz.prog.info? 67).map (·.size)=some (ax V).size:=by kernel_rfl
   have D5:=ab Lu;have GN:=ab gN;have D6:=ab Lv;clear Lu gN Lv x0 x1 x2 x3 f0 f1 f2 f3;go_wp2_with (first|(refine adw rfl 67 (.tmp 5) rfl gY rfl 67 (ax V) (0,0) _ GN.out Tryz.underlying67 rfl D6.out ?_)|(refine ado rfl 67 (.tmp 4) (.tmp 19) rfl (B+1) (ax V) rfl rfl 67 _ D5.out D6.out rfl (aK _) ?_));refine adm (v:=.agg (ax V)) ?_ rfl ⟨rfl,au vE (by have:=HB.out;omega) _⟩;exact adr rfl _ _ (B+1) 67 (ax V) (0,0) _ rfl (adt _ _ _ _ _ _ D5.out) Tryz.underlying67 rfl D6.out
 go_wp2_with fail;refine⟨bq _ _,?_⟩;obtain⟨w1,fu⟩:∃w1,w1=(W0.alloc (.cells #[.int .u64 0,.int .u64 0,.int .u64 0,.int .u64 0] 67)).drew:=⟨_,rfl⟩
 rw[←fu];have bH:Below W0.heap.size W0 w1:=by rw[fu];exact((adl _ W0).alloc (adi _) _).drew
 have g1:w1.heap[W0.heap.size]?=some (.cells (ax 0) 67 (0,0)):=by rw[fu];exact adk W0 _
 have kV:w1.heap.size=W0.heap.size+1:=by rw[fu];exact adD _ _
 have Ir:=ab kV;clear fu kV;refine ah rfl rfl (fun K hK=>?_);go_wp2_with fail;refine(HS.out _).mono ?_;rintro e w2 ⟨rfl,hb⟩;go_wp2_with fail;refine⟨.inr (av hb),?_⟩
 repeat ((first|(refine ao rfl (fun K hK=>?_)) );go_simp;(first|(refine hK _ ?_) );clear hK K;(try go_bits))
 refine ah rfl rfl (fun K hK=>?_);have g2:=(hb.block W0.heap.size (by have:=Ir.out;omega)).trans g1;refine wp_store_row 67 (.tmp 5) (.tmp 17) rfl W0.heap.size (ax V) rfl rfl 67 _ g2 (by kernel_rfl) rfl (aK _) ?_;refine hK _ _ ⟨.inl (by decide),?_⟩;clear hK K;refine ah rfl rfl (fun K hK=>?_);go_wp2_with fail;refine⟨.inl (by decide),?_⟩;refine aB ?_;obtain⟨wN,eg⟩:=ae (w2.setRow W0.heap.size (ax V));obtain⟨gY,tr⟩:=ae W0.heap.size;rw[←eg,←tr];have gN:wN.heap[gY]?=some (.cells (ax V) 67 (0,0)):=by rw[eg,tr];exact adt _ _ _ _ _ _ g2
 have lN:Below W0.heap.size W0 wN:=by rw[eg];exact au (bH.trans (hb.mono (by have:=Ir.out;omega))) (adi _) _
 clear eg tr hb bH g1 g2;have Lu:=(lN.block (B+1) (by have:=lM.out;omega)).trans GO.out;have vE:=de.trans (lN.mono (by have:=HB.out;have:=lM.out;omega));have Lv:(Tryz.prog.info? 67).map (·.size)=some (ax V).size:=by kernel_rfl
 have D5:=ab Lu;have GN:=ab gN;have D6:=ab Lv;clear Lu gN Lv x0 x1 x2 x3 f0 f1 f2 f3;go_wp2_with (first|(refine adw rfl 67 (.tmp 5) rfl gY rfl 67 (ax V) (0,0) _ GN.out Tryz.underlying67 rfl D6.out ?_)|(refine ado rfl 67 (.tmp 4) (.tmp 19) rfl (B+1) (ax V) rfl rfl 67 _ D5.out D6.out rfl (aK _) ?_));refine adm (v:=.agg (ax V)) ?_ rfl ⟨rfl,au vE (by have:=HB.out;omega) _⟩;exact adr rfl _ _ (B+1) 67 (ax V) (0,0) _ rfl (adt _ _ _ _ _ _ D5.out) Tryz.underlying67 rfl D6.out
theorem xv (w:World) (o1 o2 o3:Obj):(((w.alloc o1).alloc o2).alloc o3).heap[w.heap.size]?=some o1∧(((w.alloc o1).alloc o2).alloc o3).heap[w.heap.size+1]?=some o2∧(((w.alloc o1).alloc o2).alloc o3).heap[w.heap.size+2]?=some o3:=by
 have h1:=adk w o1;have h2:=adk (w.alloc o1) o2;have h3:=adk ((w.alloc o1).alloc o2) o3;simp only[adD] at h2 h3;exact⟨dU (dU h1),dU h2,h3⟩
theorem qe (g o m:Nat) (d:List Nat) (x y:Nat) (hx:x<m) (hy:y<m) (hm:m<2^256) (hm2:2^255<m) (w:World) (hF:FieldAt w g o m d):
 Calls Tryz.prog 32 #[.pointer (some ⟨g,o,none⟩),.agg (ax x),.agg (ax y)] w fun e W'=>e=.returned (.agg (ax ((x+y)%m)))∧Below w.heap.size w W':=by
 have bx:Tryz.prog.follows .mixedOrders=true:=by kernel_rfl
 have pG:=hF.1;have sq:x<2^256:=by omega
 have FN:y<2^256:=by omega
 obtain⟨R,hR⟩:∃R,R=(x+y)%m:=⟨_,rfl⟩;rw[←hR];have HR:=ab hR;clear hR;unfold ax;go_enter Tryz.func32,Tryz.ntmps32;go_wp2_with fail;have h2:=xv w (.cells (ax x) 67) (.cells (ax y) 67) (.cells (ax 0) 67);obtain⟨Wa,Lx⟩:∃Wa,Wa=((w.alloc (.cells (ax x) 67)).alloc (.cells (ax y) 67)).alloc (.cells (ax 0) 67):=⟨_,rfl⟩;have Yf:Below w.heap.size w Wa:=by rw[Lx];exact(((adl _ w).alloc (adi _) _).alloc (by simp) _).alloc (by simp;omega) _
 refine(show Wa=_ from Lx)▸?_;rw[←Lx] at h2;obtain⟨_,_,Yg⟩:=h2;have DQ:Wa.heap.size=w.heap.size+3:=by rw[Lx];simp
 have pe:=rH x y sq FN Wa;obtain⟨Z,hZ⟩:∃Z,Z=(x+y)%2^256:=⟨_,rfl⟩;obtain⟨C,hC⟩:∃C,C=(x+y)/2^256:=⟨_,rfl⟩;rw[←hZ,←hC] at pe;have HZ:=ab hZ;have HC:=ab hC;clear hZ hC;refine pe.mono ?_;clear pe;rintro e W1 ⟨rfl,bH⟩;have de:=Yf.trans (bH.mono (by omega));have gO:=(bH.block (w.heap.size+2) (by omega)).trans Yg;have kV:w.heap.size+3≤W1.heap.size:=by have:=bH.size;omega
 obtain⟨B,hB⟩:=ae w.heap.size;rw[←hB] at gO kV⊢;have HB:=ab hB;have Ir:=ab kV;have GO:=ab gO;clear Lx hB gO kV Yf Yg DQ bH;have QJ:Z<2^256:=by rw[HZ.out];omega
 have hC2:C=0∨C=1:=by have:=HC.out;omega
 have na:∀n,(Tryz.prog.info? 67).map (·.size)=some (ax n).size:=fun n=>by kernel_rfl
 have qf:=ab na;clear na;rcases hC2 with rfl|rfl
 · go_wp2_with (first|(refine ado rfl 67 (.tmp 7) (.tmp 13) rfl W1.heap.size (ax Z) rfl rfl 67 _ (adk W1 _) (by kernel_rfl) rfl (aK _) ?_;rw[adJ];obtain⟨W2,j6⟩:=ae (W1.alloc (.cells (ax Z) 67));obtain⟨gz,FO⟩:=ae W1.heap.size;rw[←j6,←FO];have gZ:W2.heap[gz]?=some (.cells (ax Z) 67 (0,0)):=(by rw[j6,FO];exact adk W1 _);have bS:Below w.heap.size w W2:=(by rw[j6];exact de.alloc de.size _);have LB:Below W1.heap.size W1 W2:=(by rw[j6];exact(adl _ _).alloc (adi _) _);have zU:=ab ((LB.block (B+2) (by have:=Ir.out;omega)).trans GO.out);have VG:Hid (B+3≤gz∧gz<W2.heap.size):=ab ⟨(by rw[FO];exact Ir.out),(adg.1 gZ).1⟩;obtain⟨z0,z1,z2,z3⟩:=fY gZ;obtain⟨f0,f1,f2,f3⟩:=(hF.below bS pG).m;have Dc:=ab (hF.below bS pG);have GZ:=ab gZ;clear j6 FO gZ LB GO de))
   have xy:=yJ g o m d Z QJ hm W2 Dc.out
   have Yh:(if Z<m then Z else Z-m)=R:=by
    have h1:=HZ.out;have h2:=HC.out;rw[HR.out]
    by_cases h:Z<m
    · rw[if_pos h,adu (by omega)];omega
    rw[if_neg h,Nat.mod_eq_sub_mod (by omega),adu (by omega)];omega
   rw[Yh] at xy;have Hin:=ab xy;clear xy Yh f0 f1 f2 f3;go_wp2_with fail;refine Hin.out.mono ?_;rintro e W3 ⟨rfl,b5⟩;have Dd:=(b5.block (B+2) (by have:=VG.out;omega)).trans zU.out;have lN:=bS.trans (b5.mono bS.size);have VH:=ab Dd;clear Dd b5 z0 z1 z2 z3;go_wp2_with (first|(refine ado rfl 67 (.tmp 6) (.tmp 29) rfl (B+2) (ax R) rfl rfl 67 _ VH.out (qf.out _) rfl (aK _) ?_));refine adm (v:=.agg (ax R)) ?_ rfl ⟨rfl,au lN (by have:=HB.out;omega) _⟩;exact adr rfl _ _ (B+2) 67 (ax R) (0,0) _ rfl (adt _ _ _ _ _ _ VH.out) Tryz.underlying67 rfl (qf.out _)
 go_wp2_with (first|(refine ado rfl 67 (.tmp 7) (.tmp 13) rfl W1.heap.size (ax Z) rfl rfl 67 _ (adk W1 _) (by kernel_rfl) rfl (aK _) ?_;rw[adJ];obtain⟨W2,j6⟩:=ae (W1.alloc (.cells (ax Z) 67));obtain⟨gz,FO⟩:=ae W1.heap.size;rw[←j6,←FO];have gZ:W2.heap[gz]?=some (.cells (ax Z) 67 (0,0)):=(by rw[j6,FO];exact adk W1 _);have bS:Below w.heap.size w W2:=(by rw[j6];exact de.alloc de.size _);have LB:Below W1.heap.size W1 W2:=(by rw[j6];exact(adl _ _).alloc (adi _) _);have zU:=ab ((LB.block (B+2) (by have:=Ir.out;omega)).trans GO.out);have VG:Hid (B+3≤gz∧gz<W2.heap.size):=ab ⟨(by rw[FO];exact Ir.out),(adg.1 gZ).1⟩;obtain⟨z0,z1,z2,z3⟩:=fY gZ;obtain⟨f0,f1,f2,f3⟩:=(hF.below bS pG).m;have Dc:=ab (hF.below bS pG);have GZ:=ab gZ;clear j6 FO gZ LB GO de));have hS:=fun ww=>l8 Z m QJ hm ww
 have Yh:(Z+2^256-m)%2^256=R:=by
  have h1:=HZ.out;have h2:=HC.out;have h3:(x+y)%m=x+y-m:=by rw[Nat.mod_eq_sub_mod (by omega),adu (by omega)]
  rw[HR.out,h3];omega
 simp only[Yh] at hS;clear Yh;have HS:=ab hS;clear hS;refine aE [(0,1),(1,0),(2,0),(3,0),(4,1),(5,2),(6,0),(7,0),(8,0),(9,2)] 9 bx (by kernel_rfl) (by intro c a d v w h;cases d<;>exact h) ?_
 repeat ((first|(refine ao rfl (fun K hK=>?_))|(refine aD rfl (fun K hK=>?_)));go_simp;(first|(refine hK _ ?_) );clear hK K;(try go_bits))
 refine ah rfl rfl (fun K hK=>?_);go_wp2_with fail;refine(HS.out _).mono ?_;rintro e W3 ⟨rfl,b5⟩;go_wp2_with fail;refine⟨.inr (av b5),?_⟩
 repeat ((first|(refine ao rfl (fun K hK=>?_)) );go_simp;(first|(refine hK _ ?_) );clear hK K;(try go_bits))
 refine ah rfl rfl (fun K hK=>?_);have O4:Below W2.heap.size W2 W3:=⟨b5.os,b5.tape,b5.output,b5.size,b5.block⟩;have gZ3:=(O4.block gz VG.out.2).trans GZ.out;refine wp_store_row 67 (.tmp 7) (.tmp 24) rfl gz (ax R) rfl rfl 67 _ gZ3 (by kernel_rfl) rfl (aK _) ?_;refine hK _ _ ⟨.inl (by decide),?_⟩;clear hK K;refine aB ?_;have gR:=adt W3 gz _ (ax R) _ _ gZ3;have Dd:=(setRow_other W3 gz (B+2) (ax R) (by have:=VG.out;omega)).trans ((O4.block (B+2) (by have:=VG.out;omega)).trans zU.out);have lN:=au (bS.trans (O4.mono bS.size)) (show w.heap.size≤gz by have:=VG.out;have:=HB.out;omega) (ax R);have GR:=ab gR;have VH:=ab Dd;clear gR Dd gZ3 O4 b5 z0 z1 z2 z3 f0 f1 f2 f3;obtain⟨W4,hW4⟩:=ae (W3.setRow gz (ax R));rw[←hW4] at GR VH lN⊢;clear hW4;go_wp2_with (first|(refine adw rfl 67 (.tmp 7) rfl gz rfl 67 (ax R) (0,0) _ GR.out Tryz.underlying67 rfl (qf.out _) ?_)|(refine ado rfl 67 (.tmp 6) (.tmp 26) rfl (B+2) (ax R) rfl rfl 67 _ VH.out (qf.out _) rfl (aK _) ?_));refine adm (v:=.agg (ax R)) ?_ rfl ⟨rfl,au lN (by have:=HB.out;omega) _⟩;exact adr rfl _ _ (B+2) 67 (ax R) (0,0) _ rfl (adt _ _ _ _ _ _ VH.out) Tryz.underlying67 rfl (qf.out _)
theorem Is (x k:Nat) (hx:x<2^256) (hk:k<4):dw (x/2) k=dw x k/2+(if k<3 then dw x (k+1) else 0)%2*9223372036854775808:=by
 rcases (show k=0∨k=1∨k=2∨k=3 by omega) with rfl|rfl|rfl|rfl<;>simp only[dw]<;>simp<;>omega
def qg (x k:Nat):List Nat:=(bC (x/2)).take k++(bC x).drop k
theorem qh (x k:Nat) (hk:k≤4):(qg x k).length=4:=by simp[qg,jz];omega
theorem xz (x k:Nat) (hk:k<4):(qg x k).set k (dw (x/2) k)=qg x (k+1):=by
 rcases (show k=0∨k=1∨k=2∨k=3 by omega) with rfl|rfl|rfl|rfl<;>rfl
theorem Bj (x k j:Nat) (hk:k≤j) (hj:j<4) (h:j<(qg x k).length):(qg x k)[j]=dw x j:=by
 rcases (show j=0∨j=1∨j=2∨j=3 by omega) with rfl|rfl|rfl|rfl<;>(rcases (show k=0∨k=1∨k=2∨k=3 by omega) with rfl|rfl|rfl|rfl<;>first|rfl|omega)
theorem FP (a n:Nat) (ha:a<18446744073709551616):bits .or .u64 ((a:Int)/2) (IntKind.u64.wrap ((n:Int)*9223372036854775808))=((a/2+n%2*9223372036854775808:Nat):Int):=by
 have h1:IntKind.u64.wrap ((n:Int)*9223372036854775808)=((n%2*9223372036854775808:Nat):Int):=by rw[IntKind.wrap_u64];omega
 have h2:(a:Int)/2=((a/2:Nat):Int):=by omega
 rw[h1,h2];have h3:=bits_or_u64_nat (a/2) (n%2*9223372036854775808) (by omega) (by omega)
 have h4:a/2 ||| n%2*9223372036854775808=a/2+n%2*9223372036854775808:=by
  have:=Nat.shiftLeft_add_eq_or_of_lt (show a/2<2^63 by omega) (n%2);rw[Nat.shiftLeft_eq] at this;rw[Nat.or_comm,←this];omega
 rw[h4] at h3;exact h3
theorem oo (x:Nat) (hx:x<2^256) (w:World):
 Calls Tryz.prog 115 #[.agg (ax x),.int .u64 0] w fun e W'=>e=.returned (.agg (ax (x/2)))∧Below w.heap.size w W':=by
 obtain⟨R,hR⟩:∃R,R=x/2:=⟨_,rfl⟩;rw[←hR];have HR:=ab hR;clear hR;unfold ax;go_enter Tryz.func115,Tryz.ntmps115;go_wp2_with fail;have h2:=jm w (.cells (gq (qg x 0)).toArray 67) (.cells (ax 0) 67);obtain⟨W0,bD⟩:∃W0,W0=(w.alloc (.cells (gq (qg x 0)).toArray 67)).alloc (.cells (ax 0) 67):=⟨_,rfl⟩;have de:Below w.heap.size w W0:=by rw[bD];exact((adl _ w).alloc (adi _) _).alloc (by simp) _
 refine(show W0=_ from bD)▸?_;rw[←bD] at h2;obtain⟨gX,gO⟩:=h2;obtain⟨B,hB⟩:=ae w.heap.size;rw[←hB] at gX gO⊢;have HB:=ab hB;clear bD hB;go_loopw [7] (fun i wr=>∃k:Nat,k≤4∧i=.int .i64 k∧wr.heap[B]?=some (.cells (gq (qg x k)).toArray 67 (0,0))∧wr.heap[B+1]?=some (.cells (ax 0) 67 (0,0))∧Below w.heap.size w wr) (fun i _=>4-(intOf i).toNat)
 case atStart=>exact⟨0,by omega,rfl,gX,gO,de⟩
 case round=>
  clear gX gO de;obtain⟨k,hk,rfl,gX,gO,hb⟩:=hrel
  by_cases aV:k<4
  · have c0:=eG gX (k:=k) (by rw[qh _ _ hk];exact aV)
    rw[Bj x k k (adi _) aV] at c0;have zX:=dQ gX k;obtain⟨xk,oG⟩:=ae (dw x k);have Lr:xk<18446744073709551616:=by rw[oG];exact jP _ _
    rw[←oG] at c0;have GX:=ab gX;have GO:=ab gO;have NN:=ab oG;have LF:=Is x k hx aV;rw[←oG] at LF;clear gO oG
    by_cases h3:k<3
    · have c1:=eG gX (k:=k+1) (by rw[qh _ _ hk];omega)
      rw[Bj x k (k+1) (by omega) (by omega)] at c1;obtain⟨xn,hxn⟩:=ae (dw x (k+1));have acA:xn<18446744073709551616:=by rw[hxn];exact jP _ _
      rw[if_pos h3,←hxn] at LF;rw[←hxn] at c1;have Hhw:=ab LF;clear gX LF hxn;go_wp2_with fail;rw[FP xk xn Lr,←Hhw.out];refine⟨⟨k+1,by omega,by go_num,?_,fW GO.out (by omega),hb.setCell (p:=⟨B,k,none⟩) (by show w.heap.size≤B;have:=HB.out;omega) _⟩,by simp[intOf];omega⟩;rw[vU GX.out,xz x k aV]
    obtain rfl:k=3:=by omega
    rw[if_neg h3] at LF;have Hhw:=ab LF;clear gX LF;go_wp2_with fail;rw[show bits .or .u64 ((xk:Int)/2) 0=((xk/2+0%2*9223372036854775808:Nat):Int) from by simpa [IntKind.wrap_u64] using FP xk 0 Lr,←Hhw.out];refine⟨⟨4,by omega,rfl,?_,fW GO.out (by omega),hb.setCell (p:=⟨B,3,none⟩) (by show w.heap.size≤B;have:=HB.out;omega) _⟩,by simp[intOf]⟩;rw[vU GX.out,xz x 3 aV]
  obtain rfl:k=4:=by omega
  have GX:Hid (wr.heap[B]?=some (.cells (ax R) 67 (0,0))):=ab (by rw[gX,HR.out];rfl);have GO:=ab gO;have qf:=ab (show (Tryz.prog.info? 67).map (·.size)=some (ax R).size by kernel_rfl);clear gX gO;go_wp2_with (first|(refine adw rfl 67 (.tmp 2) rfl B rfl 67 (ax R) (0,0) _ GX.out Tryz.underlying67 rfl qf.out ?_)|(refine ado rfl 67 (.tmp 4) (.tmp 27) rfl (B+1) (ax R) rfl rfl 67 _ GO.out qf.out rfl (aK _) ?_));refine adm (v:=.agg (ax R)) ?_ rfl ⟨rfl,au hb (by have:=HB.out;omega) _⟩;exact adr rfl _ _ (B+1) 67 (ax R) (0,0) _ rfl (adt _ _ _ _ _ _ GO.out) Tryz.underlying67 rfl qf.out
def eH (b:List UInt8) (k j:Nat):Nat:=bB (((b.take k).drop (8*(3-j))).take 8)
def iO (b:List UInt8) (k:Nat):List Nat:=[eH b k 0,eH b k 1,eH b k 2,eH b k 3]
theorem It (b:List UInt8) (k:Nat) (hk:k<32) (hb:k<b.length):eH b (k+1) (3-k/8)=eH b k (3-k/8)*256+b[k].toNat:=by
 have e:8*(3-(3-k/8))=8*(k/8):=by omega
 have hd:((b.take k).drop (8*(k/8))).length=k-8*(k/8):=by rw[adH,adq];omega
 have h1:((b.take (k+1)).drop (8*(k/8))).take 8=(b.take k).drop (8*(k/8))++[b[k]]:=by
  rw[adK hb,List.drop_append_of_le_length (by rw[adq];omega)];exact ady (by rw[adv,hd,List.length_singleton];omega)
 have h2:((b.take k).drop (8*(k/8))).take 8=(b.take k).drop (8*(k/8)):=ady (by rw[hd];omega);unfold eH;rw[e,h1,h2,qa]
theorem Iu (b:List UInt8) (k j:Nat) (hk:k<32) (hj:j<4) (hb:k<b.length) (bN:j≠3-k/8):eH b (k+1) j=eH b k j:=by
 unfold eH;congr 1;rw[adK hb];rcases (show 8*(3-j)≤k∨k+1≤8*(3-j) by omega) with h|h
 · rw[List.drop_append_of_le_length (by rw[adq];omega),List.take_append_of_le_length (by rw[adH,adq];omega)]
 rw[List.drop_of_length_le (by rw[adv,adq];simp;omega),List.drop_of_length_le (by rw[adq];omega)]
theorem LG (b:List UInt8) (k:Nat) (hk:k<32) (hb:k<b.length):eH b k (3-k/8)<72057594037927936:=by
 unfold eH;refine ads (fV _) ?_;rw[show (72057594037927936:Nat)=256^7 by decide];exact Nat.pow_le_pow_right (by decide) (by rw[adq,adH,adq];omega)
theorem rI (b:List UInt8) (k j:Nat) (hj:j<4) (h:j<(iO b k).length):(iO b k)[j]=eH b k j:=by
 rcases (show j=0∨j=1∨j=2∨j=3 by omega) with rfl|rfl|rfl|rfl<;>rfl
theorem D7 (b:List UInt8) (k:Nat) (hk:k<32) (hb:k<b.length):(iO b k).set (3-k/8) (eH b (k+1) (3-k/8))=iO b (k+1):=by
 apply List.ext_getElem (by simp[iO]);intro j h1 h2;have hj:j<4:=by simpa [iO] using h2
 rw[List.getElem_set,rI b (k+1) j hj];split
 · next h=>rw[h]
 next h=>rw[rI b k j hj,Iu b k j hk hj hb (fun e=>h e.symm)]
theorem LH (b:List UInt8) (hl:b.length=32):iO b 32=bC (bB b):=by
 have e:b=b.take 8++((b.drop 8).take 8++((b.drop 16).take 8++b.drop 24)):=by
  rw[show b.drop 24=(b.drop 16).drop 8 by rw[List.drop_drop],List.take_append_drop,show b.drop 16=(b.drop 8).drop 8 by rw[List.drop_drop],List.take_append_drop,List.take_append_drop]
 have hv:wv (iO b 32)=bB b:=by
  have ht:b.take 32=b:=ady (by omega)
  have h0:eH b 32 0=bB (b.drop 24):=by
   unfold eH;rw[ht,show 8*(3-0)=24 from rfl,ady (by rw[adH];omega)]
  have h1:eH b 32 1=bB ((b.drop 16).take 8):=by unfold eH;rw[ht]
  have h2:eH b 32 2=bB ((b.drop 8).take 8):=by unfold eH;rw[ht]
  have h3:eH b 32 3=bB (b.take 8):=by unfold eH;rw[ht];rfl
  rw[iO,h0,h1,h2,h3]
  conv=>rhs;rw[e]
  rw[kt,kt,kt];simp only[wv,adv,adq,adH,hl];simp only[show min 8 (32-8)=8 by decide,show min 8 (32-16)=8 by decide,show min 8 32=8 by decide];omega
 rw[←hv];refine(p8 _ rfl ?_).symm
 have aV:∀j,eH b 32 j<18446744073709551616:=fun j=>by
  unfold eH;refine ads (fV _) ?_;rw[show (18446744073709551616:Nat)=256^8 by decide];exact Nat.pow_le_pow_right (by decide) (by rw[adq];omega)
 simp only[iO,List.mem_cons,List.not_mem_nil,or_false];rintro x (rfl|rfl|rfl|rfl)<;>exact aV _
theorem O5 (a c:Nat) (ha:a<72057594037927936) (hc:c<256):bits .or .u64 ((a:Int)*256) (c:Int)=((a*256+c:Nat):Int):=by
 have h1:(a:Int)*256=((a*256:Nat):Int):=by omega
 rw[h1];have h3:=bits_or_u64_nat (a*256) c (by omega) (by omega)
 have h4:a*256 ||| c=a*256+c:=by
  have:=Nat.shiftLeft_add_eq_or_of_lt (show c<2^8 by omega) a;rw[Nat.shiftLeft_eq] at this;exact this.symm
 rw[h4] at h3;exact h3
theorem mG (A:Option Addr) (c:Nat) (b:List UInt8) (hl:b.length=32) (w:World) (hs:Sl w w.heap.size A (B8 b)):
 Calls Tryz.prog 30 #[.slice A 32 c] w fun e W'=>e=.returned (.agg (ax (bB b)))∧Below w.heap.size w W':=by
 obtain⟨b0,o0,rfl,de,aS⟩:=hs (by rw[B8_length,hl];omega);obtain⟨R,hR⟩:=ae (bB b);rw[←hR];have HR:=ab hR;clear hR;have Hl:=ab hl;have nB:=ab aS;clear hl aS hs;go_enter Tryz.func30,Tryz.ntmps30;go_wp2_with fail;have h2:=jm w (.cells (ax 0) 67) (.cells (gq (iO b 0)).toArray 67);obtain⟨W0,bD⟩:∃W0,W0=(w.alloc (.cells (ax 0) 67)).alloc (.cells (gq (iO b 0)).toArray 67):=⟨_,rfl⟩;have OR:Below w.heap.size w W0:=by rw[bD];exact((adl _ w).alloc (adi _) _).alloc (by simp) _
 refine(show W0=_ from bD)▸?_;rw[←bD] at h2;obtain⟨gO,gX⟩:=h2;obtain⟨B,hB⟩:=ae w.heap.size;rw[←hB] at gX gO⊢;have HB:=ab hB;clear bD hB;go_loopw [9] (fun i wr=>∃k:Nat,k≤32∧i=.int .i64 k∧wr.heap[B+1]?=some (.cells (gq (iO b k)).toArray 67 (0,0))∧wr.heap[B]?=some (.cells (ax 0) 67 (0,0))∧Below w.heap.size w wr) (fun i _=>32-(intOf i).toNat)
 case atStart=>exact⟨0,by omega,rfl,gX,gO,OR⟩
 case round=>
  clear gX gO OR;obtain⟨k,hk,rfl,gX,gO,hb⟩:=hrel
  by_cases aV:k<32
  · have uw:k<b.length:=by rw[Hl.out];exact aV
    obtain⟨y,hy⟩:∃y,y=b[k]:=⟨_,rfl⟩;have cB:wr.cell? ⟨b0,o0+k,none⟩=some (.int .u8 (y.toNat:Int)):=by rw[hb.cell (p:=⟨b0,o0+k,none⟩) de,nB.out k (by simpa using uw),hy];simp[B8]
    obtain⟨j,hj⟩:∃j,j=3-k/8:=⟨_,rfl⟩;have hj4:j<4:=by omega
    have VI:(3:Int)-(k:Int)/8=(j:Int):=by omega
    have cX:=eG gX (k:=j) (by simp[iO];exact hj4);rw[rI b k j hj4] at cX;obtain⟨v,hv⟩:=ae (eH b k j);rw[←hv] at cX;have aba:v<72057594037927936:=by rw[hv,hj];exact LG b k aV uw
    have LI:eH b (k+1) j=v*256+y.toNat:=by rw[hv,hy,hj];exact It b k aV uw
    have dg:=D7 b k aV uw;rw[←hj,LI] at dg;have zX:=dQ gX j;have hy8:=y.toNat_lt;have GX:=ab gX;have GO:=ab gO;have rJ:=ab dg;clear gX gO dg LI hv hy hj;go_wp2_with fail;rw[O5 v y.toNat aba hy8];refine⟨⟨k+1,by omega,by go_num,?_,fW GO.out (by omega),hb.setCell (p:=⟨B+1,j,none⟩) (by show w.heap.size≤B+1;have:=HB.out;omega) _⟩,by simp[intOf];omega⟩;rw[vU GX.out,rJ.out]
  obtain rfl:k=32:=by omega
  have GX:Hid (wr.heap[B+1]?=some (.cells (ax R) 67 (0,0))):=ab (by rw[gX,LH b Hl.out,HR.out];rfl);have GO:=ab gO;have qf:=ab (show (Tryz.prog.info? 67).map (·.size)=some (ax R).size by kernel_rfl);clear gX gO;go_wp2_with (first|(refine adw rfl 67 (.tmp 3) rfl (B+1) rfl 67 (ax R) (0,0) _ GX.out Tryz.underlying67 rfl qf.out ?_)|(refine ado rfl 67 (.tmp 2) (.tmp 27) rfl B (ax R) rfl rfl 67 _ GO.out qf.out rfl (aK _) ?_));refine adm (v:=.agg (ax R)) ?_ rfl ⟨rfl,au hb (by have:=HB.out;omega) _⟩;exact adr rfl _ _ B 67 (ax R) (0,0) _ rfl (adt _ _ _ _ _ _ GO.out) Tryz.underlying67 rfl qf.out
theorem lF (n k:Nat) (hk:k<4) (w:World):(Instr.index 67 (.agg #[.int .u64 (dw n 0:Nat),.int .u64 (dw n 1:Nat),.int .u64 (dw n 2:Nat),.int .u64 (dw n 3:Nat)]) (.int .i64 (k:Int))).run Tryz.prog w=.ok (.int .u64 (dw n k:Nat)) w:=by
 have eD:(sizeOf 65).run Tryz.prog w=.ok 1 w:=by
  have hi:(Tryz.prog.info? 65).map (·.size)=some 1:=by kernel_rfl
  cases hq:Tryz.prog.info? 65 with
  |none=>simp[hq] at hi
  |some i=>simp[hq] at hi;simp[sizeOf,typeInfo,hq,hi]
 have RE:(isAgg 65).run Tryz.prog w=.ok false w:=by
  unfold isAgg;rw[Sem.run_bind,run_underlying Tryz.underlying65 w];rfl
 have hn:=Tryz.underlying67;rcases (show k=0∨k=1∨k=2∨k=3 by omega) with rfl|rfl|rfl|rfl<;>simp[Instr.index,asIntOf,run_underlying hn,eD,part,RE,go_sem]
theorem kA (x y:Nat) (w:World):(callFunc 84 #[.int .u64 x,.int .u64 y,.int .u64 0]).run Tryz.prog w=
 .ok (.value (.tuple #[.int .u64 (((x+y)%18446744073709551616:Nat):Int),.int .u64 (((x+y)/18446744073709551616:Nat):Int)])) w:=xu x y 0 (by omega) w
theorem Iv (i k:Nat):2^(64*(i+k))=2^(64*k)*2^(64*i):=by rw[←Nat.pow_add];congr 1;omega
theorem ux (T Y:List Nat) (i k a c c' t' S:Nat) (hT:i+k<T.length) (hY:k<Y.length) (he:t'+18446744073709551616*c'=T[i+k]+a*Y[k]+c)
 (h:wv T+c*2^(64*(i+k))=S+a*wv (Y.take k)*2^(64*i)):wv (T.set (i+k) t')+c'*2^(64*(i+(k+1)))=S+a*wv (Y.take (k+1))*2^(64*i):=by
 have h1:=FJ T (i+k) hT (a*Y[k]) c c' t' he;rw[show i+(k+1)=i+k+1 by omega,h1,jX Y k hY]
 have e1:a*(wv (Y.take k)+Y[k]*2^(64*k))*2^(64*i)=a*wv (Y.take k)*2^(64*i)+a*Y[k]*2^(64*(i+k)):=by
  rw[Iv i k,Nat.mul_add,Nat.add_mul,←Nat.mul_assoc a Y[k],Nat.mul_assoc (a*Y[k])]
 rw[e1];omega
end Go.Proofs.YtnlkdheaohocnaaGreatDoor
