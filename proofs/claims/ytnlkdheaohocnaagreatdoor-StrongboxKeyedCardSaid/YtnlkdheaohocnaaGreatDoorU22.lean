/- Whoever walks down with the secret signs what whoever walks down without it verifies, and the text of either walks the same way (StrongboxKeyed). No condition. -/
import Derived.Test.YtnlkdheaohocnaaGreatDoorU1
import Derived.Test.YtnlkdheaohocnaaGreatDoorU21
import Derived.Test.YtnlkdheaohocnaaGreatDoorU4
set_option maxRecDepth 1000000
set_option maxHeartbeats 16000000
set_option linter.unusedVariables false
set_option linter.unusedSimpArgs false
namespace Go.Proofs.YtnlkdheaohocnaaGreatDoor
open Go Go.RowKit Go.Shelf
theorem Pf (n:Nat):∀m k,k<m→(iI n m)[k]?=some (UInt8.ofNat (n/256^(m-1-k))):=by
 intro m
 induction m generalizing n with
 |zero=>intro k h;omega
 |succ m ih=>
  intro k h;rw[iI]
  by_cases hk:k<m
  · rw[adG (by rw[aN];exact hk),ih (n/256) k hk,Nat.div_div_eq_div_mul,←Nat.pow_succ']
    congr 4;omega
  rw[adC (by rw[aN];omega),aN,show k=m by omega];simp
theorem IC (n k:Nat) (hk:k<32):dw n (3-k/8)/2^(56-8*(k%8))%256=n/256^(31-k)%256:=by
 have h3:∀a b c:Nat,n/2^a%2^(b+8+c)/2^b%256=n/2^(a+b)%256:=fun a b c=>by
  rw[show (2:Nat)^(b+8+c)=2^b*2^(8+c) by rw[←Nat.pow_add];congr 1;omega,Nat.mod_mul_right_div_self,Nat.div_div_eq_div_mul,←Nat.pow_add,show (2:Nat)^(8+c)=256*2^c by rw[Nat.pow_add],Nat.mod_mul_right_mod]
 unfold dw;have h4:=h3 (64*(3-k/8)) (56-8*(k%8)) (8*(k%8));rw[show 56-8*(k%8)+8+8*(k%8)=64 by omega] at h4;rw[show (18446744073709551616:Nat)=2^64 by decide,h4,show (256:Nat)^(31-k)=2^(8*(31-k)) by rw[Nat.pow_mul],show 64*(3-k/8)+(56-8*(k%8))=8*(31-k) by omega]
theorem Ee (n:Nat) (w:World):Calls Tryz.prog 78 #[.agg (ax n)] w fun e W'=>e=.returned (.agg (B8 (iI n 32)).toArray)∧Below w.heap.size w W':=by
 have HM:=ab (Mem.start w);obtain⟨bs,vY⟩:=ae (iI n 32);rw[←vY];have hl:bs.length=32:=by rw[vY];exact aN n 32
 have HL:=ab hl;have L5:=ab vY;clear hl vY;go_enter Tryz.func78,Tryz.ntmps78;go_wp2_with (first|(show wpList _ _ _ (⟨some 1,_,_,_,_,_⟩::_) _ _;refine ag 0 [(0,5),(1,6)] rfl (by kernel_rfl) ?_)|(show ai _ _ _ _ _ _ ((_,5)::_) _;refine bh HM.out rfl rfl _ _ rfl rfl (by kernel_rfl) rfl ?_;intro W gN af;replace HM:=ab af;clear af)|(show ai _ _ _ _ _ _ ((_,6)::_) _;refine aq HM.out rfl rfl rfl (by kernel_rfl) (fG rfl) ?_;intro W gN af;replace HM:=ab af;clear af)|(show ai _ _ _ _ _ _ [] _;refine ay (fun K hK=>?_);simp only[aG];go_simp;refine hK _ ?_;clear hK K));obtain⟨W1,sW⟩:=ae W;subst sW;obtain⟨gB,zK⟩:=ae W1.heap.size;rw[←zK];obtain⟨W5,hW5⟩:∃W5,W5=W1.alloc (.cells (Array.replicate 32 (.int .u8 0)) 24):=⟨_,rfl⟩;refine(show W5=_ from hW5)▸?_;have YN:Fill W5 gB 24 32 (B8 bs) 0:=by rw[hW5,zK];exact Fill.new' W1 _ 32 (.int .u8 0) _
 have qk:Below W1.heap.size W1 W5:=by rw[hW5];exact(adl _ _).alloc (adi _) _
 have HgB:=ab zK;clear hW5 zK;go_loopw [5] (fun i wr=>∃k:Nat,k≤32∧i=.int .i64 k∧Fill wr gB 24 32 (B8 bs) k∧Below W1.heap.size W1 wr) (fun i _=>32-(intOf i).toNat)
 case atStart=>exact⟨0,by omega,rfl,YN,qk⟩
 case round=>
  clear YN qk;obtain⟨k,hk,rfl,bn,hb⟩:=hrel
  by_cases aV:k<32
  · obtain⟨q,hq⟩:∃q,q=3-k/8:=⟨_,rfl⟩
    obtain⟨r,hr⟩:∃r,r=56-8*(k%8):=⟨_,rfl⟩;have e1:(3:Int)-(k:Int)/8=(q:Int):=by omega
    have e2:(56:Int)-8*((k:Int)%8)=(r:Int):=by omega
    have hq4:q<4:=by omega
    have acD:r≤56:=by omega
    obtain⟨x,hx⟩:=ae (dw n q);have cX:=eG (k:=q) (T:=bC n) ((HM.out.below hb).at_ 1 rfl) (by rw[jz];omega);rw[tu,←hx] at cX;have pn:=IC n k aV;rw[←hq,←hr,←hx] at pn;obtain⟨v0,WZ⟩:=bn.cell aV;have wV:=bn.frozen k;have To:=Pf n 32 k aV;rw[←L5.out] at To
    have hv:(B8 bs)[k]?=some (Value.int IntKind.u8 ((x:Int)/2^r%256)):=by
     rw[B8,List.getElem?_map,To];show some (Value.int IntKind.u8 ((UInt8.ofNat (n/256^(32-1-k))).toNat:Int))=_;rw[UInt8.toNat_ofNat',show 32-1-k=31-k by omega,show (2:Nat)^8=256 by rfl,←pn,Int.natCast_emod,Int.natCast_ediv,Int.natCast_pow];rfl
    have Hv:=ab hv;clear hq hr hx pn To hv;go_wp2_with fail;exact⟨⟨k+1,by omega,rfl,bn.set aV Hv.out,hb.setCell (p:=⟨gB,k,none⟩) (by have:=HgB.out;show W1.heap.size≤gB;omega) _⟩,by simp[intOf];omega⟩
  obtain rfl:k=32:=by omega
  have hd:=bn.done (by rw[B8_length];exact HL.out);have hM:=HM.out.below hb;have HD:=ab hd;replace HM:=ab hM;clear hd hM bn;go_wp2_with (first|(show wpList _ _ _ (⟨some 22,_,_,_,_,_⟩::_) _ _;refine ag 0 [(0,1),(1,3)] rfl (by kernel_rfl) ?_)|(show ai _ _ _ _ _ _ ((_,1)::_) _;refine az rfl rfl rfl (by kernel_rfl) 24 _ rfl rfl Tryz.underlying24 rfl (t:=24) HD.out (dX HL.out) ?_)|(show ai _ _ _ _ _ _ ((_,3)::_) _;refine an HM.out 24 _ _ rfl rfl ?_;(first|(refine⟨0,_,_,_,_,rfl,rfl,rfl,rfl,rfl,(dX HL.out),(cS HL.out.symm),(bK _),?_⟩));intro W af;simp only[adj,adh,List.set_cons_zero,List.set_cons_succ] at af;replace HM:=ab af;clear af)|(show ai _ _ _ _ _ _ [] _;refine ay (fun K hK=>?_);simp only[aG];go_simp;refine hK _ ?_;clear hK K));exact adm (adr rfl _ _ _ _ _ (0,0) _ rfl (HM.out.at_ 0 rfl) Tryz.underlying24 rfl (dX HL.out)) rfl ⟨rfl,HM.out.hb⟩
theorem Pg:Tryz.prog.built 67 [(0,.int .u64 6481385041966929816),(1,.int .u64 188021827762530521),(2,.int .u64 6170039885052185351),(3,.int .u64 8772561819708210092)]=some (ax gX.val):=by kernel_rfl
theorem F2 {w:World} {g:Nat} (hF:FieldAt w g 0 ak dP):Calls Tryz.prog 39 #[.pointer (some ⟨g,0,none⟩)] w fun e W'=>e=.returned (.agg (l9 gX.val gY.val (1:Fin ak).val))∧Below w.heap.size w W':=by
 have HM:=ab (Mem.start w);have me:=fun W (h:FieldAt W g 0 ak dP)=>QQ h gX 0 (by decide)
 rw[pv qd,show eR gX.val 0=gY.val from by have:=ur qd;rwa [show gY.val%2=0 by decide+kernel] at this] at me;have HF:=ab hF;obtain⟨X,hX⟩:=ae gX.val;obtain⟨Y,hY⟩:=ae gY.val;have hG:=Pg;rw[←hX] at hG me;rw[←hY] at me;rw[if_pos rfl] at me;rw[←hX,←hY];have HL:=ab me;have HG:=ab hG;clear hF me hX hY hG;go_enter Tryz.func39,Tryz.ntmps39;go_wp2_with (first|(show wpList _ _ _ (⟨some 2,_,_,_,_,_⟩::_) _ _;refine ag 0 [(0,6)] rfl (by kernel_rfl) ?_)|(show wpList _ _ _ (⟨some 7,_,_,_,_,_⟩::_) _ _;refine ag 1 [(1,0),(2,4),(3,0),(4,0),(5,0),(6,6),(7,3),(8,0)] rfl (by kernel_rfl) ?_)|(show wpList _ _ _ (⟨some 11,_,_,_,_,_⟩::_) _ _;refine ag 0 [(0,1),(1,3)] rfl (by kernel_rfl) ?_)|((first|(show ai _ _ _ _ _ _ ((_,4)::_) _;refine aw (f:=79) HM.out rfl rfl rfl rfl ?_));refine⟨_,_,Tryz.func79,by kernel_rfl,by kernel_rfl,by kernel_rfl,fun W hW=>HL.out _ (HF.out.mem (HM.out.ext hW)),?_⟩;try (intro W af;replace HM:=ab af;clear af))|(show ai _ _ _ _ _ _ ((_,0)::_) _;refine aj rfl rfl rfl (by kernel_rfl) _ (.inr rfl) (v:=.bool _) rfl ?_)|(show ai _ _ _ _ _ _ ((_,0)::_) _;refine aj rfl rfl rfl (by kernel_rfl) _ (.inl rfl) (v:=.tuple _) rfl ?_)|(show ai _ _ _ _ _ _ ((_,0)::_) _;refine aZ rfl rfl rfl (by kernel_rfl) _ _ rfl rfl rfl ?_)|(show ai _ _ _ _ _ _ ((_,0)::_) _;refine aM rfl rfl rfl (by kernel_rfl) 67 _ rfl HG.out rfl ?_)|(show ai _ _ _ _ _ _ [] _;refine ay (fun K hK=>?_);simp only[aG];go_simp;refine hK _ ?_;clear hK K)|(show ai _ _ _ _ _ _ ((_,6)::_) _;refine aq HM.out rfl rfl rfl (by kernel_rfl) (gr rfl) ?_;intro W gN af;replace HM:=ab af;clear af)|(show ai _ _ _ _ _ _ ((_,1)::_) _;refine az rfl rfl rfl (by kernel_rfl) 82 _ rfl rfl Tryz.underlying82 rfl (t:=82) (by first|exact HM.out.at_ 0 rfl ) (dd _ _ _) ?_)|(show ai _ _ _ _ _ _ ((_,3)::_) _;refine an HM.out 82 _ _ rfl rfl ?_;(first|(refine⟨0,_,_,_,_,rfl,rfl,rfl,rfl,rfl,(dd _ _ _),rfl,(dR _ _ _),?_⟩)|(refine⟨1,_,_,_,_,rfl,rfl,rfl,rfl,rfl,(dd _ _ _),rfl,(dR _ _ _),?_⟩) );intro W af;simp only[adj,adh,List.set_cons_zero,List.set_cons_succ] at af;replace HM:=ab af;clear af));exact adm (adr rfl _ _ _ _ _ (0,0) _ rfl (by first|exact HM.out.at_ 1 rfl ) Tryz.underlying82 rfl (dd _ _ _)) rfl ⟨rfl,HM.out.hb⟩
def pk (x y:Nat):List UInt8:=UInt8.ofNat (2+y%2)::iI x 32
theorem fc (x y:Nat):(pk x y).length=33:=by simp[pk,aN]
theorem QR {w:World} {g:Nat} (hF:FieldAt w g 0 ak dP) (x y z:Fin ak):Calls Tryz.prog 67 #[.pointer (some ⟨g,0,none⟩),.agg (l9 x.val y.val z.val)] w fun e W'=>e=.returned (.agg (B8 (pk (x*(bM z*bM z)).val (y*(bM z*(bM z*bM z))).val)).toArray)∧Below w.heap.size w W':=by
 have bx:Tryz.prog.follows .mixedOrders=true:=by kernel_rfl
 have HF:=ab hF;have HM:=ab (Mem.start w);have HFl:=ab (fun W (h:FieldAt W g 0 ak dP)=>L0 h x y z);generalize x*(bM z*bM z)=X at HFl⊢;generalize y*(bM z*(bM z*bM z))=Y at HFl⊢;have IB:Hid (bits .and .u64 ((dw Y.val 0:Nat):Int) 1=((Y.val%2:Nat):Int)):=ab (xE Y.val);clear hF;go_enter Tryz.func67,Tryz.ntmps67;go_upto_region 4 with (first|(show wpList _ _ _ (⟨some 3,_,_,_,_,_⟩::_) _ _;refine ag 0 [(0,5),(1,6)] rfl (by kernel_rfl) ?_)|(show wpList _ _ _ (⟨some 5,_,_,_,_,_⟩::_) _ _;refine ag 0 [(0,6)] rfl (by kernel_rfl) ?_)|(show wpList _ _ _ (⟨some 11,_,_,_,_,_⟩::_) _ _;refine ag 1 [(1,1),(2,4),(3,0),(4,0),(5,0),(6,6),(7,6),(8,3),(9,3)] rfl (by kernel_rfl) ?_)|(show wpList _ _ _ (⟨some 15,_,_,_,_,_⟩::_) _ _;refine ag 0 [(0,1),(1,4),(2,6),(3,3)] rfl (by kernel_rfl) ?_)|((first|(show ai _ _ _ _ _ _ ((_,4)::_) _;refine aw (f:=41) HM.out rfl rfl rfl rfl ?_));refine⟨_,_,Tryz.func41,by kernel_rfl,by kernel_rfl,by kernel_rfl,fun W hW=>HFl.out _ (HF.out.mem (HM.out.ext hW)),?_⟩;try (intro W af;replace HM:=ab af;clear af))|((first|(show ai _ _ _ _ _ _ ((_,4)::_) _;refine aw (f:=78) HM.out rfl rfl rfl rfl ?_));refine⟨_,_,Tryz.func78,by kernel_rfl,by kernel_rfl,by kernel_rfl,fun W hW=>Ee _ _,?_⟩;try (intro W af;replace HM:=ab af;clear af))|(show ai _ _ _ _ _ _ ((_,0)::_) _;refine aj rfl rfl rfl (by kernel_rfl) _ (.inl rfl) (v:=.tuple _) rfl ?_)|(show ai _ _ _ _ _ _ ((_,0)::_) _;refine aZ rfl rfl rfl (by kernel_rfl) _ _ rfl rfl rfl ?_)|(show ai _ _ _ _ _ _ ((_,6)::_) _;refine aq HM.out rfl rfl rfl (by kernel_rfl) (gw rfl) ?_;intro W gN af;replace HM:=ab af;clear af)|(show ai _ _ _ _ _ _ ((_,6)::_) _;refine aq HM.out rfl rfl rfl (by kernel_rfl) (fG rfl) ?_;intro W gN af;replace HM:=ab af;clear af)|(show ai _ _ _ _ _ _ ((_,3)::_) _;refine an HM.out 24 _ _ rfl rfl ?_;(first|(refine⟨0,_,_,_,_,rfl,rfl,rfl,rfl,rfl,(dX (aN _ _)),(cS (aN _ _).symm),(bK _),?_⟩));intro W af;simp only[adj,adh,List.set_cons_zero,List.set_cons_succ] at af;replace HM:=ab af;clear af)|(show ai _ _ _ _ _ _ ((_,1)::_) _;refine az rfl rfl rfl (by kernel_rfl) 67 _ rfl rfl Tryz.underlying67 rfl (t:=67) (by first|exact HM.out.at_ 1 rfl ) (a8 _) ?_)|(show ai _ _ _ _ _ _ [] _;refine ay (fun K hK=>?_);simp only[aG];go_simp;refine hK _ ?_;clear hK K)|(show ai _ _ _ _ _ _ ((_,3)::_) _;refine an HM.out 67 _ _ rfl rfl ?_;(first|(refine⟨0,_,_,_,_,rfl,rfl,rfl,rfl,rfl,(a8 _),rfl,(aK _),?_⟩)|(refine⟨1,_,_,_,_,rfl,rfl,rfl,rfl,rfl,(a8 _),rfl,(aK _),?_⟩) );intro W af;simp only[adj,adh,List.set_cons_zero,List.set_cons_succ] at af;replace HM:=ab af;clear af)|(show ai _ _ _ _ _ _ ((_,5)::_) _;refine bh HM.out rfl rfl _ _ rfl rfl (by kernel_rfl) rfl ?_;intro W gN af;replace HM:=ab af;clear af)|(show ai _ _ _ _ _ _ ((_,6)::_) _;refine aq HM.out rfl rfl rfl (by kernel_rfl) (be rfl) ?_;intro W gN af;replace HM:=ab af;clear af)|(show ai _ _ _ _ _ _ ((_,1)::_) _;refine az rfl rfl rfl (by kernel_rfl) 82 _ rfl rfl Tryz.underlying82 rfl (t:=82) (by first|exact HM.out.at_ 2 rfl ) (dd _ _ _) ?_) );rename_i gO _ _ _ _ _ _ _ _ _ _ _;have y0:=(fY (HM.out.at_ 1 rfl)).1;obtain⟨p,hp⟩:∃p,p=Y.val%2:=⟨_,rfl⟩;rw[←hp] at IB;have hp2:p<2:=by omega
 have Pe:=IB.out;obtain⟨yw,zR⟩:=ae (dw Y.val 0);rw[←zR] at y0 Pe;have c0:=YJ (HM.out.at_ 3 rfl) 0 (by decide);have f0:=dQ (HM.out.at_ 3 rfl) 0;have Hp:=ab hp;clear IB zR hp;go_upto_region 5 with fail;have hM2:=HM.out.setC 3 rfl 0 (.int .u8 (2+(p:Int)));obtain⟨W2,j6⟩:∃W2,W2=W.setCell ⟨gO,0,none⟩ (.int .u8 (2+(p:Int))):=⟨_,rfl⟩;rw[←j6] at hM2;refine(show W2=_ from j6)▸?_;obtain⟨c1,oT⟩:∃c,c=(B8 (z8 33)).toArray.setIfInBounds 0 (.int .u8 (2+(p:Int))):=⟨_,rfl⟩;simp only[List.set_cons_zero,List.set_cons_succ,←oT] at hM2;replace HM:=ab hM2;have lZ:c1.size=33:=by rw[oT];simp[z8]
 have Tp:=ab oT;clear hM2 j6 oT y0 c0 f0 Pe;refine aE [(0,0),(1,0),(2,2)] 2 bx (by kernel_rfl) (by intro c a d v w h;cases d<;>exact h) ?_
 repeat ((first|(refine ao rfl (fun K hK=>?_)) );go_simp;(first|(refine hK _ ?_) );clear hK K;(try go_bits))
 refine ah rfl rfl (fun K hK=>?_);have VR:=HM.out.drew.at_ 3 rfl;have hgb:=HM.out.drew.at_ 0 rfl;refine iY (dLen:=32) (dCap:=32) (sLen:=32) (sCap:=32) lC (.tmp 23) (.tmp 24) rfl rfl rfl VR (by rw[B8_length,aN];rfl) (fE hgb) (by rw[B8_length,aN,lZ];omega) (aR _) ?_;refine hK _ _ ⟨.inl (by decide),?_⟩;clear hK K;refine aB ?_;have Dg:=HM.out.drew.set 3 rfl (c1.toList.take 1++B8 (iI X.val 32)++c1.toList.drop (1+(B8 (iI X.val 32)).length)).toArray;simp only[List.set_cons_zero,List.set_cons_succ] at Dg
 rw[show (c1.toList.take 1++B8 (iI X.val 32)++c1.toList.drop (1+(B8 (iI X.val 32)).length)).toArray=(B8 (pk X.val Y.val)).toArray from by
  rw[Tp.out,List.drop_of_length_le (by rw[Array.length_toList,←Tp.out,lZ,B8_length,aN];omega),List.append_nil];congr 1;rw[pk,←Hp.out];simp[B8,z8,List.replicate_succ];omega] at Dg⊢
 obtain⟨W3,qS⟩:∃W3,W3=W2.drew.setRow gO (B8 (pk X.val Y.val)).toArray:=⟨_,rfl⟩;rw[←qS] at Dg⊢;replace HM:=ab Dg;clear Dg qS VR hgb Tp lZ;go_wp2_with (first|(show wpList _ _ _ (⟨some 26,_,_,_,_,_⟩::_) _ _;refine ag 0 [(0,1),(1,3)] rfl (by kernel_rfl) ?_)|(show ai _ _ _ _ _ _ ((_,1)::_) _;refine az rfl rfl rfl (by kernel_rfl) 28 _ rfl rfl Tryz.underlying28 rfl (t:=28) (by first|exact HM.out.at_ 3 rfl) (fF (fc _ _)) ?_)|(show ai _ _ _ _ _ _ ((_,3)::_) _;refine an HM.out 28 _ _ rfl rfl ?_;(first|(refine⟨4,_,_,_,_,rfl,rfl,rfl,rfl,rfl,(fF (fc _ _)),(cS (fc _ _).symm),(bK _),?_⟩));intro W af;simp only[adj,adh,List.set_cons_zero,List.set_cons_succ] at af;replace HM:=ab af;clear af)|(show ai _ _ _ _ _ _ [] _;refine ay (fun K hK=>?_);simp only[aG];go_simp;refine hK _ ?_;clear hK K));exact adm (adr rfl _ _ _ _ _ (0,0) _ rfl (by first|exact HM.out.at_ 4 rfl) Tryz.underlying28 rfl (fF (fc _ _))) rfl ⟨rfl,HM.out.hb⟩
theorem L6 {x y z:Fin ak} {P:Pt ak} (h:JRep x y z P):pk (x*(bM z*bM z)).val (y*(bM z*(bM z*bM z))).val=fj P:=by
 have h0:bM 0=0:=by decide+kernel
 rcases P with _|⟨a,b⟩
 · have hz:z=0:=h
   rw[hz,h0];have e:∀v:Fin ak,v*(0*(0*0))=0:=fun v=>by grind
   have e2:∀v:Fin ak,v*(0*0)=0:=fun v=>by grind
   rw[e,e2];rfl
 obtain⟨hz,rfl,rfl⟩:=h;have h1:=fz.inv z hz;have e1:a*(z*z)*(bM z*bM z)=a:=by grind
 have e2:b*(z*z*z)*(bM z*(bM z*bM z))=b:=by grind
 rw[e1,e2];rfl
def BC (bs:List UInt8):Array Value:=if eu bs then (match bs with|[]=>l9 0 0 0|h::t=>l9 (bB t) (eR (bB t) (h.toNat%2)) 1) else l9 0 0 0
set_option exponentiation.threshold 1000 in
theorem Ph (g:Nat) (A:Option Addr) (c:Nat) (bs:List UInt8) (hc:bs.length≤c) (w:World) (hF:FieldAt w g 0 ak dP) (hs:Sl w w.heap.size A (B8 bs)):
 Calls Tryz.prog 34 #[.pointer (some ⟨g,0,none⟩),.slice A bs.length c] w fun e W'=>e=.returned (.tuple #[.agg (BC bs),.bool (eu bs)])∧Below w.heap.size w W':=by
 have bx:Tryz.prog.follows .mixedOrders=true:=by kernel_rfl
 have pG:=hF.1;obtain⟨P,hP⟩:=ae (eu bs);obtain⟨U,hU⟩:=ae (BC bs);rw[←hP,←hU];have HP:=ab hP;have HU:=ab hU;obtain⟨n,hn⟩:=ae bs.length;rw[←hn] at hc⊢;have Hn:=ab hn;have Hs:=ab hs;clear hP hn hs hU
 by_cases h33:n=33
 · subst h33
   have uH:bs.length=33:=Hn.out.symm
   obtain⟨h,t,vY⟩:∃h t,bs=h::t:=by
    cases bs with
    |nil=>simp at uH
    |cons h t=>exact⟨h,t,rfl⟩
   subst vY;have ht:t.length=32:=by simpa using uH
   obtain⟨b0,o0,rfl,de,aS⟩:=Hs.out.at_ (k:=0) (by simp);have c0:w.cell? ⟨b0,o0,none⟩=some (.int .u8 (h.toNat:Int)):=aS 0 (by simp)
   have fT:Sl w w.heap.size (some ⟨b0,o0+1,none⟩) (B8 t):=by
    have h1:=Hs.out.cut (k:=1) (m:=32) (cap:=c) (by rw[B8_length,uH];omega) (by rw[B8_length,uH];exact hc);rw[if_neg (by omega)] at h1
    have e1:((B8 (h::t)).drop 1).take 32=B8 t:=by
     rw[show (B8 (h::t)).drop 1=B8 t from rfl,ady (by rw[B8_length,ht];exact adi _)]
    rw[e1] at h1;exact h1
   have oW:=ab fT;obtain⟨q,hq⟩:∃q:Nat,q=h.toNat-h.toNat%2:=⟨_,rfl⟩;have han:bits .andNot .u8 (h.toNat:Int) 1=(q:Int):=by rw[hq];exact FZ ⟨h.toNat,h.toNat_lt⟩
   obtain⟨r,hr⟩:∃r:Nat,r=h.toNat%2:=⟨_,rfl⟩;have VN:bits .and .u8 (h.toNat:Int) 1=(r:Int):=by rw[hr];exact F0 ⟨h.toNat,h.toNat_lt⟩
   have hwr:IntKind.u64.wrap (r:Int)=(r:Int):=by rw[IntKind.wrap_u64];omega
   have Hq:=ab hq;have Hr:=ab hr;have Ht:=ab ht;clear aS uH fT hq hr ht;go_enter Tryz.func34,Tryz.ntmps34;have bG:=adk w (.cells qT 82);obtain⟨W0,bD⟩:=ae (w.alloc (.cells qT 82));rw[←bD] at bG;have yP:Below w.heap.size w W0:=by rw[bD];exact(adl _ w).alloc (adi _) _
   have jh:W0.heap.size=w.heap.size+1:=by rw[bD];simp
   by_cases hh:q=2
   · go_wp2_with fail
     refine(show W0=_ from bD)▸?_;clear bD;obtain⟨B,hB⟩:=ae w.heap.size;rw[←hB] at bG jh⊢;have HB:=ab hB;have YG:Sl W0 W0.heap.size (some ⟨b0,o0+1,none⟩) (B8 t):=(oW.out.below yP).mono (by omega);have zW:=ab (hF.below yP pG);have QP:g<W0.heap.size:=by omega
     have lP:=(yP.cell (p:=⟨b0,o0,none⟩) de).trans c0;have uI:b0<W0.heap.size:=by omega
     have lM:=ab jh;have ju:=ab bG;clear hB jh bG c0;obtain⟨X,hX⟩:=ae (bB t);have su:X<2^256:=by rw[hX];exact ads (fV t) (by rw[Ht.out];decide)
     have HX:=ab hX;have L1:=ab (mG _ (c-1) t Ht.out W0 YG);rw[←hX] at L1;have xC:=ab su;clear hX YG su;refine L1.out.mono ?_;rintro e w1 ⟨rfl,bH⟩;go_wp2_with (refine ado rfl 67 (.tmp 6) (.tmp 20) rfl w1.heap.size (ax X) rfl rfl 67 _ (adk w1 _) (by kernel_rfl) rfl (aK _) ?_;rw[adJ];obtain⟨W2,j6⟩:=ae (w1.alloc (.cells (ax X) 67));rw[←j6];obtain⟨gX,L2⟩:=ae w1.heap.size;rw[←L2];have De:W2.heap[gX]?=some (.cells (ax X) 67 (0,0)):=(by rw[j6,L2];exact adk w1 _);have bS:Below W0.heap.size W0 W2:=(by rw[j6];exact bH.alloc bH.size _);clear j6 L2 bH);have Dc:=ab (zW.out.below bS QP);have lL:=(bS.cell (p:=⟨b0,o0,none⟩) uI).trans lP;have mw:g<W2.heap.size:=ads QP bS.size;have uJ:b0<W2.heap.size:=ads uI bS.size;obtain⟨x0,x1,x2,x3⟩:=fY De;have vX:=ab (adg.1 De).1
     have Tj:Hid (∀Y,Below W2.heap.size W2 Y→Calls Tryz.prog 71 #[.pointer (some ⟨g,0,none⟩),.agg (ax X)] Y fun e W'=>e=.returned (.bool (decide (X<ak)))∧Below Y.heap.size Y W'):=
      ab fun Y hY=>ky g 0 ak dP X xC.out aU Y (Dc.out.below hY mw)
     clear De lP zW L1;refine aE [(0,0),(1,0),(2,0),(3,1),(4,2),(5,0)] 6 bx (by kernel_rfl) (by intro c a d v w h;cases d<;>exact h) ?_
     repeat ((first|(refine ao rfl (fun K hK=>?_))|(refine aD rfl (fun K hK=>?_)));go_simp;(first|(refine hK _ ?_) );clear hK K;(try go_bits))
     refine ah rfl rfl (fun K hK=>?_);go_wp2_with fail;refine(Tj.out _ (adl _ _).drew).mono ?_;rintro e w3 ⟨rfl,xD⟩;have b5:Below W2.heap.size W2 w3:=(adl _ _).drew.trans (xD.mono (adi _));go_wp2_with fail;refine⟨.inr (av xD),?_⟩
     repeat ((first|(refine ao rfl (fun K hK=>?_)) );go_simp;(first|(refine hK _ ?_) );clear hK K;(try go_bits))
     refine aB ?_;have Ec:=bS.trans (b5.mono bS.size);have kD:=yP.trans (Ec.mono (by have:=lM.out;have:=HB.out;omega));have GR:=ab ((Ec.block B (by have:=lM.out;omega)).trans ju.out)
     by_cases Iz:X<ak
     · rw[adA Iz]
       have tx:P=cb X:=by
        rw[HP.out,im];rw[adA Ht.out,adA (show bB t<ak by rw[←HX.out];exact Iz),←HX.out];rcases (yO h).1 (by rw[←Hq.out];exact hh) with e|e<;>simp[e]
       have HPv:=ab tx;clear tx;have x30:=(b5.cell (p:=⟨gX,0,none⟩) vX.out).trans x0;have x31:=(b5.cell (p:=⟨gX,1,none⟩) vX.out).trans x1;have x32:=(b5.cell (p:=⟨gX,2,none⟩) vX.out).trans x2;have x33:=(b5.cell (p:=⟨gX,3,none⟩) vX.out).trans x3;have abh:=(b5.cell (p:=⟨b0,o0,none⟩) uJ).trans lL;have Tf:=ab (Dc.out.below b5 mw);have lV:g<w3.heap.size:=ads mw b5.size
       have hUv:U=if cb X then l9 X (eR X r) 1 else l9 0 0 0:=by
        rw[HU.out,BC,←HP.out,HPv.out,HX.out,Hr.out]
       obtain⟨X',hX'⟩:∃X':Fin ak,X'.val=X:=⟨⟨X,Iz⟩,rfl⟩
       have YH:Hid (∀Y,Below w3.heap.size w3 Y→Calls Tryz.prog 79 #[.pointer (some ⟨g,0,none⟩),.agg (ax X),.int .u64 r] Y fun e W'=>∃pt:Array Value,(e=.returned (.tuple #[.agg pt,.bool (cb X)])∧pt.size=12∧pt.all (·.oneCell')=true∧pt=U)∧Below Y.heap.size Y W'):=
        ab fun Y hY=>(by
         have h:=QQ (Tf.out.below hY lV) X' r (by rw[Hr.out];omega);rw[hX'] at h;refine h.mono ?_;rintro e W' ⟨rfl,hb⟩;rw[←hUv];have yG:∀b:Bool,(if b=true then l9 X (eR X r) 1 else l9 0 0 0).size=12:=fun b=>by cases b<;>rfl
         have h1:∀b:Bool,(if b=true then l9 X (eR X r) 1 else l9 0 0 0).all (·.oneCell')=true:=fun b=>by cases b<;>exact dR _ _ _
         exact⟨U,⟨rfl,by rw[hUv];exact yG _,by rw[hUv];exact h1 _,rfl⟩,hb⟩)
       clear hUv hX';have Da:=ab (adg.1 GR.out).1;clear x0 x1 x2 x3 lL Tj xD bS b5 Ec;go_wp2_with fail;refine aE [(0,0),(1,1),(2,0),(3,0),(4,1),(5,0),(6,0),(7,2),(8,0),(9,0),(10,2),(11,2)] 10 bx (by kernel_rfl) (by intro c a d v w h;cases d<;>exact h) ?_
       repeat ((first|(refine ao rfl (fun K hK=>?_))|(refine aD rfl (fun K hK=>?_)));go_simp;(first|(refine hK _ ?_) );clear hK K;(try go_bits))
       refine ah rfl rfl (fun K hK=>?_);go_wp2_with fail;refine(YH.out _ (adl _ _).drew).mono ?_;rintro e w4 ⟨pt,⟨rfl,Df,Tk,rfl⟩,C8⟩;have gg:Below w3.heap.size w3 w4:=(adl _ _).drew.trans (C8.mono (adi _));go_wp2_with fail;refine⟨.inr (av C8),?_⟩
       repeat ((first|(refine ao rfl (fun K hK=>?_)) );go_simp;(first|(refine hK _ ?_) );clear hK K;(try go_bits))
       have FE:=(gg.block B Da.out).trans GR.out;have Tm:(Tryz.prog.info? 82).map (·.size)=some pt.size:=by rw[Df];kernel_rfl
       refine ah rfl rfl (fun K hK=>?_);refine wp_store_row 82 (.tmp 4) (.tmp 36) rfl B pt rfl rfl 82 _ FE Tm (by rw[Df];rfl) Tk ?_;refine hK _ _ ⟨.inl (by decide),?_⟩;clear hK K;refine ah rfl rfl (fun K hK=>?_);go_wp2_with fail;refine⟨.inl (by decide),?_⟩;refine aB ?_;have we:=kD.trans (gg.mono kD.size);go_wp2_with fail;refine adm (v:=.tuple #[.agg pt,.bool (cb X)]) ?_ rfl ⟨by rw[HPv.out],au we (by have:=HB.out;omega) _⟩
       exact aA rfl _ _ B 82 pt (0,0) _ rfl (adt _ _ _ _ _ _ FE) _ rfl Tryz.underlying82 rfl Tm
     rw[adI Iz]
     have tx:P=false:=by
      rw[HP.out,im,←HX.out,adI Iz];simp
     go_wp2_with (refine ado rfl 82 (.tmp 4) (.tmp 27) rfl B qT rfl rfl 82 _ GR.out (by kernel_rfl) rfl mH ?_);refine adm (v:=.tuple #[.agg qT,.bool false]) ?_ rfl ⟨by rw[tx,show U=qT from by rw[HU.out];unfold BC;rw[←HP.out,tx,LW];rfl],au kD (by have:=HB.out;omega) _⟩
     exact aA rfl _ _ B 82 qT (0,0) _ rfl (adt _ _ _ _ _ _ GR.out) _ rfl Tryz.underlying82 rfl (by kernel_rfl)
   have hI:¬((q:Int)=2):=by omega
   have tx:P=false:=by
    rw[HP.out,im];have Bg:¬(h=2∨h=3):=fun e=>hh (by rw[Hq.out];exact(yO h).2 e)
    simp only[not_or] at Bg;simp[Bg.1,Bg.2]
   go_wp2_with fail;refine adm (v:=.tuple #[.agg qT,.bool false]) ?_ rfl ⟨by rw[tx,show U=qT from by rw[HU.out];unfold BC;rw[←HP.out,tx,LW];rfl],(adl _ w).alloc (adi _) _⟩
   exact aA rfl _ _ w.heap.size 82 qT (0,0) _ rfl (adk w _) _ rfl Tryz.underlying82 rfl (by kernel_rfl)
 have hI:¬((n:Int)=33):=by omega
 have tx:P=false:=by
  rw[HP.out];unfold eu;split
  · rfl
  next h t=>
  have:¬t.length=32:=by have:=Hn.out;simp at this;omega
  simp[this]
 go_enter Tryz.func34,Tryz.ntmps34;go_wp2_with fail;refine adm (v:=.tuple #[.agg qT,.bool false]) ?_ rfl ⟨by rw[tx,show U=qT from by rw[HU.out];unfold BC;rw[←HP.out,tx,LW];rfl],(adl _ w).alloc (adi _) _⟩
 exact aA rfl _ _ w.heap.size 82 qT (0,0) _ rfl (adk w _) _ rfl Tryz.underlying82 rfl (by kernel_rfl)
def oX (bs:List UInt8):Fin ak×Fin ak×Fin ak:=match (if eu bs then fH bs else none) with
 |none=>(0,0,0)
 |some (x,y)=>(x,y,1)
theorem Tq (bs:List UInt8):BC bs=l9 (oX bs).1.val (oX bs).2.1.val (oX bs).2.2.val:=by
 unfold BC oX
 cases hp:eu bs
 · rfl
 match bs,hp with
 |h::t,hp=>
  have h0:(decide (t.length=32)&&(decide (h=2)||decide (h=3))&&decide (bB t<ak)&&cb (bB t))=true:=hp;simp only[adx,Bool.or_eq_true,adB] at h0;obtain⟨⟨⟨hl,hc⟩,aV⟩,ho⟩:=h0;obtain⟨X,Y,hX,hY,vT,IA⟩:=yI aV ho (h.toNat%2) (by omega);simp only[if_true,fH];show l9 (bB t) (eR (bB t) (h.toNat%2)) 1=l9 (Fin.ofNat ak (bB t)).val (Fin.ofNat ak (eR (bB t) (h.toNat%2))).val (1:Fin ak).val;rw[←hY,←hX,iz,iz];rfl
theorem F3 {bs:List UInt8} (h:eu bs=true):JRep (oX bs).1 (oX bs).2.1 (oX bs).2.2 (fH bs):=by
 unfold oX;rw[h,if_pos rfl]
 cases hp:fH bs with
 |none=>exact absurd hp (jD h).2.1
 |some q=>
  obtain⟨x,y⟩:=q;exact⟨show (1:Fin ak)≠0 by decide+kernel,show x=x*(1*1) by grind,show y=y*(1*1*1) by grind⟩
end Go.Proofs.YtnlkdheaohocnaaGreatDoor
