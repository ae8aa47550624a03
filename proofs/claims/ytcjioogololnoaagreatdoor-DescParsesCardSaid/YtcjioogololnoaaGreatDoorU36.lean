/- Of any text: the program's descriptors and the reference's are read and written alike (DescParses). No condition. -/
import Derived.Test.YtcjioogololnoaaGreatDoorU1
import Derived.Test.YtcjioogololnoaaGreatDoorU25
import Derived.Test.YtcjioogololnoaaGreatDoorU35
import Derived.Test.YtcjioogololnoaaGreatDoorU30
import Derived.Test.YtcjioogololnoaaGreatDoorU9
import Derived.Deep.DeepCutAuto
set_option maxRecDepth 1000000
set_option maxHeartbeats 16000000
set_option linter.unusedVariables false
set_option linter.unusedSimpArgs false
namespace Go.Proofs.YtcjioogololnoaaGreatDoor
open Go Go.RowKit Go.Shelf
theorem ph (T Wd:List UInt8) (hT:T.length≤4096) (hW:Wd.length≤100) (W:World):Calls Tryz.prog 44 #[.string ⟨T.toArray⟩,.string ⟨Wd.toArray⟩] W fun e w'=>e=.returned (.tuple #[.string ⟨(bO T Wd).1.toArray⟩,.bool (bO T Wd).2])∧W=w':=
 Lo ⟨T.toArray⟩ ⟨Wd.toArray⟩ (by rw[aA];exact hT) (by rw[aA];exact hW) W
theorem Wz {W:World} {g:Nat} {b1 b2:Bool} {k m:Nat} {kv:Value} (h:W.heap[g]?=some (.cells (ln b1 b2 k m kv) 30 (0,0))):W.cell? ⟨g,0,none⟩=some (.bool b1):=by rw[agb _ _ _ _ _ _ h];rfl
theorem Q5 {W:World} {g:Nat} {b1 b2:Bool} {k m:Nat} {kv:Value} (h:W.heap[g]?=some (.cells (ln b1 b2 k m kv) 30 (0,0))) (b:Bool):(W.setCell ⟨g,0,none⟩ (.bool b)).heap[g]?=some (.cells (ln b b2 k m kv) 30 (0,0)):=by rw[heap_setCell_same _ _ _ _ _ _ h];rfl
theorem WA {W:World} {g:Nat} {b1 b2:Bool} {k m:Nat} {kv:Value} (h:W.heap[g]?=some (.cells (ln b1 b2 k m kv) 30 (0,0))):W.cell? ⟨g,1,none⟩=some (.bool b2):=by rw[agb _ _ _ _ _ _ h];rfl
theorem Q6 {W:World} {g:Nat} {b1 b2:Bool} {k m:Nat} {kv:Value} (h:W.heap[g]?=some (.cells (ln b1 b2 k m kv) 30 (0,0))) (b:Bool):(W.setCell ⟨g,1,none⟩ (.bool b)).heap[g]?=some (.cells (ln b1 b k m kv) 30 (0,0)):=by rw[heap_setCell_same _ _ _ _ _ _ h];rfl
theorem Jy {W:World} {g:Nat} {b1 b2:Bool} {k m:Nat} {kv:Value} (h:W.heap[g]?=some (.cells (ln b1 b2 k m kv) 30 (0,0))):W.cell? ⟨g,2,none⟩=some (.int .i64 (k:Int)):=by rw[agb _ _ _ _ _ _ h];rfl
theorem sy {W:World} {g:Nat} {b1 b2:Bool} {k m:Nat} {kv:Value} (h:W.heap[g]?=some (.cells (ln b1 b2 k m kv) 30 (0,0))) (x:Nat):(W.setCell ⟨g,2,none⟩ (.int .i64 (x:Int))).heap[g]?=some (.cells (ln b1 b2 x m kv) 30 (0,0)):=by rw[heap_setCell_same _ _ _ _ _ _ h];rfl
theorem WC {W:World} {g:Nat} {b1 b2:Bool} {k m:Nat} {kv:Value} (h:W.heap[g]?=some (.cells (ln b1 b2 k m kv) 30 (0,0))):W.cell? ⟨g,3,none⟩=some (.int .i64 (m:Int)):=by rw[agb _ _ _ _ _ _ h];rfl
theorem Q7 {W:World} {g:Nat} {b1 b2:Bool} {k m:Nat} {kv:Value} (h:W.heap[g]?=some (.cells (ln b1 b2 k m kv) 30 (0,0))) (x:Nat):(W.setCell ⟨g,3,none⟩ (.int .i64 (x:Int))).heap[g]?=some (.cells (ln b1 b2 k x kv) 30 (0,0)):=by rw[heap_setCell_same _ _ _ _ _ _ h];rfl
theorem Jz {W:World} {g:Nat} {b1 b2:Bool} {k m:Nat} {kv:Value} (h:W.heap[g]?=some (.cells (ln b1 b2 k m kv) 30 (0,0))):W.cell? ⟨g,4,none⟩=some (kv):=by rw[agb _ _ _ _ _ _ h];rfl
theorem xV {W:World} {g:Nat} {b1 b2:Bool} {k m:Nat} {kv:Value} (h:W.heap[g]?=some (.cells (ln b1 b2 k m kv) 30 (0,0))) (v:Value):(W.setCell ⟨g,4,none⟩ (v)).heap[g]?=some (.cells (ln b1 b2 k m v) 30 (0,0)):=by rw[heap_setCell_same _ _ _ _ _ _ h];rfl
theorem UL (b1 b2:Bool) (k m:Nat) (kv:Value) (h:kv.oneCell'=true):(ln b1 b2 k m kv).all (·.oneCell')=true:=by
 simp[ln,h,show∀b,(Value.bool b).oneCell'=true from fun _=>rfl,show∀k i,(Value.int k i).oneCell'=true from fun _ _=>rfl]
theorem aey (b1 b2:Bool) (k m:Nat) (kv:Value):(Tryz.prog.info? 30).map (·.size)=some (ln b1 b2 k m kv).size:=by kernel_rfl
section
variable {o:Oper} {a:Act} {w:World} {ops:Array Oper} {rest:List Oper} {Q:Exit→Act→World→Prop}
theorem yC (hg:o.guard=none) (s x:Operand) (ho:o.op=.call { callee:=.builtin .append,args:=#[s,x],argTypes:=#[28,28] })
 {base lo:Nat} {kv:Value} {ks:List DKey} {k:DKey} {pv sv:Value} (h:KR w base lo kv ks) (hk:k.top.Ok) (gF:KV w lo k pv sv) (jc:qA kv.ownBlock pv) (nB:qA kv.ownBlock sv)
 (g:Nat) (aF:w.heap[g]?=some (.cells (eS k pv sv).toArray 71 (0,0))) (hn:ks.length≤1000) (eJ:base≤w.heap.size) (hs:a.eval s=kv) (hx:a.eval x=.slice (some ⟨g,0,none⟩) 1 1)
 (hK:∀A n c w',KR w' base lo (.slice A n c) (ks++[k])→w.grownBy w' kv.ownBlock→wpList Tryz.prog ops Q rest (a.put o.dst (.slice A n c)) w'):wpList Tryz.prog ops Q (o::rest) a w:=
 wpList_plain hg fun _ hK'=>Ll s x ho h hk gF jc nB g aF hn eJ hs hx (fun A n c w' h1 h2=>hK' _ _ (hK A n c w' h1 h2))
end
theorem MY {W:World} {g:Nat} {b1 b2:Bool} {k m:Nat} {kv:Value} (R:W.heap[g]?=some (.cells (ln b1 b2 k m kv) 30 (0,0))) (ZI:kv.oneCell'=true):∃fs:Array Value,Hid (fs=ln b1 b2 k m kv)∧Hid (W.heap[g]?=some (.cells fs 30 (0,0)))∧Hid ((Tryz.prog.info? 30).map (·.size)=some fs.size)∧Hid (fs.size=5)∧Hid (zD.size=fs.size)∧Hid (fs.all (·.oneCell')=true):=
 ⟨_,aa rfl,aa R,aa (aey _ _ _ _ _),aa rfl,aa rfl,aa (UL _ _ _ _ _ ZI)⟩
theorem aez {g:Nat} {b1 b2:Bool} {k m:Nat} {kv:Value} {fs:Array Value} (h:Hid (fs=ln b1 b2 k m kv)):Hid (∀W:World,W.heap[g]?=some (.cells fs 30 (0,0))→W.cell? ⟨g,0,none⟩=some (.bool b1)):=aa (fun W hW=>by rw[h.out] at hW;exact Wz hW)
theorem acs {g:Nat} {b1 b2:Bool} {k m:Nat} {kv:Value} {fs:Array Value} (h:Hid (fs=ln b1 b2 k m kv)):Hid (∀W:World,W.heap[g]?=some (.cells fs 30 (0,0))→W.cell? ⟨g,1,none⟩=some (.bool b2)):=aa (fun W hW=>by rw[h.out] at hW;exact WA hW)
theorem aeA {g:Nat} {b1 b2:Bool} {k m:Nat} {kv:Value} {fs:Array Value} (h:Hid (fs=ln b1 b2 k m kv)):Hid (∀W:World,W.heap[g]?=some (.cells fs 30 (0,0))→W.cell? ⟨g,3,none⟩=some (.int .i64 (m:Int))):=aa (fun W hW=>by rw[h.out] at hW;exact WC hW)
theorem rN {w W:World} {B:Nat} {S:List UInt8} {fs:Array Value} (hN:aQ S=none) (h5:fs.size=5) (h1:fs.all (·.oneCell')=true) (hL:Below w.heap.size w W) (hB:B=w.heap.size):Jt w S (.returned (.tuple #[.agg fs,.bool false])) (W.setRow B fs):=
 ⟨⟨fs,false,rfl,h5,h1,fun _=>rfl,fun d h=>by rw[hN] at h;cases h⟩,ah hL (Nat.le_of_eq hB.symm) _⟩
theorem rY {w W:World} {B:Nat} {S:List UInt8} {fs:Array Value} {d:DDesc} {kv:Value} (hY:aQ S=some d) (h5:fs.size=5) (h1:fs.all (·.oneCell')=true) (hL:Below w.heap.size w W) (hB:B=w.heap.size) (hF:fs=BZ d kv) (hK:KR (W.setRow B fs) w.heap.size w.heap.size kv d.keys):Jt w S (.returned (.tuple #[.agg fs,.bool true])) (W.setRow B fs):=
 ⟨⟨fs,true,rfl,h5,h1,(fun h=>by rw[hY] at h;cases h),(fun d' h=>by rw[hY] at h;cases h;exact⟨rfl,_,hF,hK⟩)⟩,ah hL (Nat.le_of_eq hB.symm) _⟩
theorem acu (q j:Nat) (h:j<q):q+1-(intOf (.int .i64 ((j:Int)+1+1))).toNat<q+1-(intOf (.int .i64 ((j:Int)+1))).toNat:=by
 simp only[intOf];omega
theorem acv {W1 wr W7 wm:World} {gD gP:Nat} {ps:List (List UInt8)} {row:Option Nat} (v:Value) (L7:Below gD W1 W7) (HG:W7.grownBy wm row) (hr:∀r,row=some r→gP+1≤r) (aL:gD<W7.heap.size∧gP<W7.heap.size∧gD<gP) (HB:Below wr.heap.size wr W7) (GT:gP<wr.heap.size)
 (PT:∀j (h:j<ps.length),wr.cell? ⟨gP,j,none⟩=some (.string ⟨ps[j].toArray⟩)):
 Below gD W1 (wm.setCell ⟨gD,4,none⟩ v)∧(∀j (h:j<ps.length),(wm.setCell ⟨gD,4,none⟩ v).cell? ⟨gP,j,none⟩=some (.string ⟨ps[j].toArray⟩))∧gP<(wm.setCell ⟨gD,4,none⟩ v).heap.size:=by
 obtain⟨h1,h2,h3⟩:=aL;refine⟨(L7.grown HG (Nat.le_of_lt h1) (fun k hk=>by have:=hr k hk;omega)).setCell (p:=⟨gD,4,none⟩) (af2 _) v,fun j h=>?_,?_⟩
 · rw[World.cell?_setCell_other _ _ _ _ (by intro e;injection e with e _ _;omega)]
   refine HG.cell ?_ (fun e=>by have:=hr gP e.symm;omega);exact(HB.cell (p:=⟨gP,j,none⟩) GT).trans (PT j h)
 have:=HG.size;simp;omega
theorem Mi (s:ByteArray) (hsz:s.size≤4096) (w:World):Calls Tryz.prog 20 #[.string s] w (Jt w s.data.toList):=by
 have bW:Tryz.prog.follows .mixedOrders=true:=by kernel_rfl
 obtain⟨S,rfl⟩:∃S:List UInt8,s=⟨S.toArray⟩:=⟨s.data.toList,rfl⟩;rw[show (⟨S.toArray⟩:ByteArray).data.toList=S from rfl];rw[aA] at hsz;obtain⟨T1,b1,h1⟩:∃T1 b1,bO S ik=(T1,b1):=⟨_,_,rfl⟩;obtain⟨T,b2,h2⟩:∃T b2,bO T1 cf=(T,b2):=⟨_,_,rfl⟩;have hD:aQ S=b5 (dC b1 b2) b2 T:=by rw[Ee,h1];dsimp only;rw[h2]
 have gq:T1.length≤4096:=by have:=jy S ik;rw[h1] at this;exact agx this hsz
 have Sb:T.length≤4096:=by have:=jy T1 cf;rw[h2] at this;exact agx this gq
 have H1:=aa (ph S ik hsz (by decide));rw[h1] at H1;have H2:=aa (ph T1 cf gq (by decide));rw[h2] at H2;obtain⟨t3,aad,h3⟩:∃t3 aad,bO T eD=(t3,aad):=⟨_,_,rfl⟩;have H3:=aa (ph T eD Sb (by decide));rw[h3] at H3;obtain⟨t4,aae,h4⟩:∃t4 aae,bO T ca=(t4,aae):=⟨_,_,rfl⟩;have H4:=aa (ph T ca Sb (by decide));rw[h4] at H4;obtain⟨t5,aaf,h5⟩:∃t5 aaf,bO T ec=(t5,aaf):=⟨_,_,rfl⟩;have H5:=aa (ph T ec Sb (by decide));rw[h5] at H5;obtain⟨t6,UN,h6⟩:∃t6 UN,bO T fW=(t6,UN):=⟨_,_,rfl⟩;have H6:=aa (ph T fW Sb (by decide));rw[h6] at H6;have aF:=af4 w (.cells zD 30);obtain⟨W0,aM⟩:=ab (w.alloc (.cells zD 30));rw[←aM] at aF;have bL:Below w.heap.size w W0:=by rw[aM];exact(af5 _ w).alloc (af2 _) _
 obtain⟨B,hB⟩:=ab w.heap.size;rw[←hB] at aF;obtain⟨W1,kK⟩:=ab (W0.alloc (.cells zD 30));obtain⟨gD,LO⟩:=ab W0.heap.size;have r1:W1.heap[gD]?=some (.cells (ln false false 0 0 aV) 30 (0,0)):=by rw[kK,LO];exact af4 W0 _
 have zY:Below W0.heap.size W0 W1:=by rw[kK];exact(af5 _ _).alloc (af2 _) _
 have hBD:B<gD:=by rw[LO];exact aJ aF
 have R1:=aa r1;have B1:=aa ((zY.block B (aJ aF)).trans aF);have L1:Hid (Below gD W0 W1):=aa (by rw[LO];exact zY);have L01:Hid (Below w.heap.size w W0):=aa bL;have JA:=aa hBD;have HB:=aa hB;have ZO:Hid (B+1=gD):=aa (by rw[LO,aM,hB];simp);unfold zD at aM kK;have gJ:=aa aM;have Kz:=aa kK;have HzT:=aa Sb;have LW:Hid (∀W,Below gD W1 W→Below w.heap.size w W):=aa (fun W h=>L01.out.trans ((L1.out.trans h).mono (by have:=HB.out;have:=JA.out;omega)));have BW:Hid (∀W,Below gD W1 W→W.heap[B]?=some (.cells zD 30 (0,0))):=aa (fun W h=>(h.block B JA.out).trans B1.out);have HDD:=aa hD;have Hh3:=aa h3;have Hh4:=aa h4;have Hh5:=aa h5;have Hh6:=aa h6;have KI:=aa (show (Tryz.prog.info? 71).map (·.size)=some 75 by kernel_rfl);have KZ:=aa (show ((Tryz.prog.info? 71).bind (·.zero)).isSome=true by kernel_rfl);have yP:t3.length≤4096:=by have:=jy T eD;rw[h3] at this;exact agx this Sb
 have VK:t4.length≤4096:=by have:=jy T ca;rw[h4] at this;exact agx this Sb
 have Fa:t5.length≤4096:=by have:=jy T ec;rw[h5] at this;exact agx this Sb
 have hz6:t6.length≤4096:=by have:=jy T fW;rw[h6] at this;exact agx this Sb
 have Hz3:=aa yP;have Hz4:=aa VK;have Hz5:=aa Fa;have Hz6:=aa hz6;clear hsz h1 h2 hD gq Sb h3 h4 h5 h6 yP VK Fa hz6 aF aM bL hB kK LO r1 zY hBD;go_enter Tryz.func20,Tryz.ntmps20;go_wp2_with fail;refine(show W0=_ from gJ.out)▸?_;rw[←HB.out];refine(show W1=_ from Kz.out)▸?_;rw[ZO.out];refine(H1.out W1).mono ?_;rintro e w' ⟨rfl,bD⟩;rw[←bD];clear bD;have k0:=Wz R1.out;have z0:=bV R1.out 0;go_wp2_with fail;obtain⟨W2,il⟩:∃W2,W2=W1.setCell ⟨gD,0,none⟩ (.bool b1):=⟨_,rfl⟩;rw[←il];have R2:Hid (W2.heap[gD]?=some (.cells (ln b1 false 0 0 aV) 30 (0,0))):=aa (by rw[il];exact Q5 R1.out b1);have L2:Hid (Below gD W1 W2):=aa (by rw[il];exact(af5 gD W1).setCell (p:=⟨gD,0,none⟩) (af2 _) _);clear il k0 z0;refine(H2.out W2).mono ?_;rintro e w' ⟨rfl,bD⟩;rw[←bD];clear bD;have k1:=WA R2.out;have z1:=bV R2.out 1;go_wp2_with fail;obtain⟨W3,iF⟩:∃W3,W3=W2.setCell ⟨gD,1,none⟩ (.bool b2):=⟨_,rfl⟩;rw[←iF];have R3:Hid (W3.heap[gD]?=some (.cells (ln b1 b2 0 0 aV) 30 (0,0))):=aa (by rw[iF];exact Q6 R2.out b2);have L3:Hid (Below gD W1 W3):=aa (by rw[iF];exact L2.out.setCell (p:=⟨gD,1,none⟩) (af2 _) _);clear iF k1 z1 H1 H2;refine(H3.out W3).mono ?_;rintro e w' ⟨rfl,bD⟩;rw[←bD];clear bD H3
 cases aad with
 |true=>
  have WD:Hid (aQ S=if !b1&&!b2 then (aR t3).map fun k=>⟨dC b1 b2++[eD],0,false,[k]⟩ else none):=aa (by rw[HDD.out];exact LP (ll Hh3.out));have k2:=Jy R3.out;have z2:=bV R3.out 2;have Q8:=aa (ng ⟨t3.toArray⟩ (by rw[aA];exact Hz3.out));rw[show (⟨t3.toArray⟩:ByteArray).data.toList=t3 from rfl] at Q8;go_wp2_with fail;obtain⟨W4,sP⟩:∃W4,W4=W3.setCell ⟨gD,2,none⟩ (.int .i64 1):=⟨_,rfl⟩;rw[←sP];have R4:Hid (W4.heap[gD]?=some (.cells (ln b1 b2 1 0 aV) 30 (0,0))):=aa (by rw[sP];exact sy R3.out 1);have L4:Hid (Below gD W1 W4):=aa (by rw[sP];exact L3.out.setCell (p:=⟨gD,2,none⟩) (af2 _) _);clear sP k2 z2;refine(Q8.out W4).mono ?_;rintro e W5 ⟨⟨cs,ok,rfl,dX,dW,nh,oN⟩,eh⟩;have UO:gD<W4.heap.size:=aJ R4.out;have Q9:W4.heap.size≤W5.heap.size:=eh.size;obtain⟨W6,JB⟩:=ab (W5.alloc (.cells cs 71));obtain⟨gk,jR⟩:=ab W5.heap.size;have g6:W6.heap[gk]?=some (.cells cs 71 (0,0)):=by rw[JB,jR];exact af4 W5 _
  have JC:Below W5.heap.size W5 W6:=by rw[JB];exact(af5 _ _).alloc (af2 _) _
  obtain⟨W7,AA⟩:=ab (W6.alloc (.cells cs 71));obtain⟨gs,oU⟩:=ab W6.heap.size;have g7:W7.heap[gs]?=some (.cells cs 71 (0,0)):=by rw[AA,oU];exact af4 W6 _
  have Se:Below W6.heap.size W6 W7:=by rw[AA];exact(af5 _ _).alloc (af2 _) _
  have h56:W5.heap.size≤W6.heap.size:=JC.size;have b57:Below W5.heap.size W5 W7:=JC.trans (Se.mono h56);have Mj:Below W4.heap.size W4 W7:=eh.trans (b57.mono Q9);have R7:Hid (W7.heap[gD]?=some (.cells (ln b1 b2 1 0 aV) 30 (0,0))):=aa ((Mj.block gD UO).trans R4.out);have L7:Hid (Below gD W1 W7):=aa (L4.out.trans (Mj.mono (Nat.le_of_lt UO)));have H57:=aa b57;have H56:=aa JC;have G6:=aa g6;have G7:=aa g7;have WE:=aa JB;have HW7:=aa AA;have No:=aa jR;have Ip:=aa oU;have je:=aa nh;have lJ:=aa oN;have kL:=aa dX;have mR:=aa dW;have aag:Hid (gD<W4.heap.size∧W4.heap.size≤W5.heap.size∧W5.heap.size≤W6.heap.size):=aa ⟨UO,Q9,h56⟩;have fJ:Hid ((Tryz.prog.info? 71).map (·.size)=some cs.size):=aa (by rw[dX];exact KI.out);have HcZ:Hid (dz.size=cs.size):=aa (by rw[dX];exact eB);have k4:=Jz R7.out;have z4:=bV R7.out 4;clear eh UO Q9 JB jR g6 JC AA oU g7 Se h56 b57 Mj nh oN dX dW Q8;go_wp2_with (first|((with_reducible refine af6 ?s1 71 (.tmp 7) (.tmp 41) ?s2 W5.heap.size cs ?s3 ?s4 71 _ (af4 W5 _) fJ.out ?s6 mR.out ?_);(case s1=>rfl);(case s2=>rfl);(case s3=>rfl);(case s4=>rfl);(case s6=>exact HcZ.out);rw[agi];refine(show W6=_ from WE.out)▸?_;rw[←No.out])|((with_reducible refine aga ?_ 71 (.tmp 7) ?_ gk ?_ 71 cs (0,0) _ G6.out Tryz.underlying71 ?_ fJ.out ?_);rfl;rfl;rfl;rfl)|(((with_reducible refine jD ?u1 28 71 (.tmp 43) 75 cs ?u2 (some 44) ?u3 Tryz.underlying28 KI.out KZ.out (by decide) (by decide) ?u4 kL.out ?_);(case u1=>rfl);(case u2=>rfl);(case u3=>rfl);(case u4=>rfl);(refine(show W7=_ from HW7.out)▸?_);rw[←Ip.out])));obtain⟨sl,pP⟩:∃sl:Value,sl=.slice (some ⟨gs,0,none⟩) 1 1:=⟨_,rfl⟩;obtain⟨W8,uX⟩:∃W8,W8=W7.setCell ⟨gD,4,none⟩ (.slice (some ⟨gs,0,none⟩) 1 1):=⟨_,rfl⟩;rw[←uX];have R8:Hid (W8.heap[gD]?=some (.cells (ln b1 b2 1 0 sl) 30 (0,0))):=aa (by rw[uX,pP];exact xV R7.out _);have L8:Hid (Below gD W1 W8):=aa (by rw[uX];exact L7.out.setCell (p:=⟨gD,4,none⟩) (af2 _) _);have UA:=aa uX;have Hsl:=aa pP;have KY:sl.oneCell'=true:=by rw[pP];rfl
  clear uX pP k4 z4;obtain⟨fs,rT,RF,FI,F5s,FZ,kJ⟩:=MY R8.out KY;have RB:Hid (W8.drew.heap[B]?=some (.cells zD 30 (0,0))):=aa (BW.out W8 L8.out);have LF:=aa (LW.out W8 L8.out).drew;have F0:=aez (g:=gD) rT;have F1:=acs (g:=gD) rT;clear KY
  cases hk:aR t3 with
  |none=>
   obtain rfl:=je.out hk;have HN:Hid (aQ S=none):=aa (by rw[WD.out,hk];split<;>rfl);clear hk;refine bw (fun W=>W.heap[gD]?=some (.cells fs 30 (0,0))) [(0,1),(1,0),(2,0),(3,0),(4,1),(5,0),(6,0),(7,0),(8,0),(9,1),(10,0),(11,0),(12,2),(13,0)] bW (by kernel_rfl) (by intro c a d v w h;cases d<;>exact h) RF.out ?_;refine aO (.agg fs) (by decide) rfl rfl (fun W hW=>bI 30 (.tmp 4) rfl gD rfl 30 fs (0,0) _ hW Tryz.underlying30 rfl FI.out) ?_;refine(show aY _ _ _ _ _ _ (Act.put _ (some 46) _) _ from ?_)
   conv in (Act.put _ (some 46) _)=>simp[Act.put]
   repeat (refine ax (by decide) rfl fun K hK=>?_;go_simp;(first|refine hK _ ?_|(simp only[IntWalk.iteOmega];go_simp;refine hK _ ?_)|(go_bits;go_simp;refine hK _ ?_));clear hK K;try go_bits)
   refine bz rfl rfl (fun K hK=>?_);refine agC 30 (.tmp 2) (.tmp 46) rfl B fs rfl rfl 30 _ RB.out FI.out FZ.out kJ.out ?_;refine hK _ _ ⟨(setRow_other _ B gD _ (Nat.ne_of_gt JA.out)).trans RF.out,?_⟩;clear hK K
   repeat (refine ax (by decide) rfl fun K hK=>?_;go_simp;(first|refine hK _ ?_|(simp only[IntWalk.iteOmega];go_simp;refine hK _ ?_)|(go_bits;go_simp;refine hK _ ?_));clear hK K;try go_bits)
   refine cH ?_;go_wp2_with fail;exact agf (v:=.tuple #[.agg fs,.bool false]) (ai rfl _ _ B 30 fs (0,0) _ rfl (agd _ _ _ _ _ _ RB.out) _ rfl Tryz.underlying30 rfl FI.out) rfl (rN HN.out F5s.out kJ.out LF.out HB.out)
  |some kk=>
   obtain⟨rfl,jX,pv,sv,bB,gF⟩:=lJ.out kk hk
   cases b1 with
   |true=>
    have HN:Hid (aQ S=none):=aa (by rw[WD.out];rfl);refine bw (fun W=>W.heap[gD]?=some (.cells fs 30 (0,0))) [(0,1),(1,0),(2,0),(3,0),(4,1),(5,0),(6,0),(7,0),(8,0),(9,1),(10,0),(11,0),(12,2),(13,0)] bW (by kernel_rfl) (by intro c a d v w h;cases d<;>exact h) RF.out ?_;refine aO (.agg fs) (by decide) rfl rfl (fun W hW=>bI 30 (.tmp 4) rfl gD rfl 30 fs (0,0) _ hW Tryz.underlying30 rfl FI.out) ?_;refine(show aY _ _ _ _ _ _ (Act.put _ (some 46) _) _ from ?_)
    conv in (Act.put _ (some 46) _)=>simp[Act.put]
    repeat (refine ax (by decide) rfl fun K hK=>?_;go_simp;(first|refine hK _ ?_|(simp only[IntWalk.iteOmega];go_simp;refine hK _ ?_)|(go_bits;go_simp;refine hK _ ?_));clear hK K;try go_bits)
    refine aO (.bool true) (by decide) rfl rfl (fun W hW=>by have il:=F0.out W hW;clear hW;go_simp) ?_;refine(show aY _ _ _ _ _ _ (Act.put _ (some 50) _) _ from ?_)
    conv in (Act.put _ (some 50) _)=>simp[Act.put]
    repeat (refine ax (by decide) rfl fun K hK=>?_;go_simp;(first|refine hK _ ?_|(simp only[IntWalk.iteOmega];go_simp;refine hK _ ?_)|(go_bits;go_simp;refine hK _ ?_));clear hK K;try go_bits)
    refine bz rfl rfl (fun K hK=>?_);refine agC 30 (.tmp 2) (.tmp 46) rfl B fs rfl rfl 30 _ RB.out FI.out FZ.out kJ.out ?_;refine hK _ _ ⟨(setRow_other _ B gD _ (Nat.ne_of_gt JA.out)).trans RF.out,?_⟩;clear hK K
    repeat (refine ax (by decide) rfl fun K hK=>?_;go_simp;(first|refine hK _ ?_|(simp only[IntWalk.iteOmega];go_simp;refine hK _ ?_)|(go_bits;go_simp;refine hK _ ?_));clear hK K;try go_bits)
    refine cH ?_;go_wp2_with fail;exact agf (v:=.tuple #[.agg fs,.bool false]) (ai rfl _ _ B 30 fs (0,0) _ rfl (agd _ _ _ _ _ _ RB.out) _ rfl Tryz.underlying30 rfl FI.out) rfl (rN HN.out F5s.out kJ.out LF.out HB.out)
   |false=>
    cases b2 with
    |true=>
     have HN:Hid (aQ S=none):=aa (by rw[WD.out];rfl);refine bw (fun W=>W.heap[gD]?=some (.cells fs 30 (0,0))) [(0,1),(1,0),(2,0),(3,0),(4,1),(5,0),(6,0),(7,0),(8,0),(9,1),(10,0),(11,0),(12,2),(13,0)] bW (by kernel_rfl) (by intro c a d v w h;cases d<;>exact h) RF.out ?_;refine aO (.agg fs) (by decide) rfl rfl (fun W hW=>bI 30 (.tmp 4) rfl gD rfl 30 fs (0,0) _ hW Tryz.underlying30 rfl FI.out) ?_;refine(show aY _ _ _ _ _ _ (Act.put _ (some 46) _) _ from ?_)
     conv in (Act.put _ (some 46) _)=>simp[Act.put]
     repeat (refine ax (by decide) rfl fun K hK=>?_;go_simp;(first|refine hK _ ?_|(simp only[IntWalk.iteOmega];go_simp;refine hK _ ?_)|(go_bits;go_simp;refine hK _ ?_));clear hK K;try go_bits)
     refine aO (.bool false) (by decide) rfl rfl (fun W hW=>by have il:=F0.out W hW;clear hW;go_simp) ?_;refine(show aY _ _ _ _ _ _ (Act.put _ (some 50) _) _ from ?_)
     conv in (Act.put _ (some 50) _)=>simp[Act.put]
     repeat (refine ax (by decide) rfl fun K hK=>?_;go_simp;(first|refine hK _ ?_|(simp only[IntWalk.iteOmega];go_simp;refine hK _ ?_)|(go_bits;go_simp;refine hK _ ?_));clear hK K;try go_bits)
     refine aO (.bool true) (by decide) rfl rfl (fun W hW=>by have il:=F1.out W hW;clear hW;go_simp) ?_;refine(show aY _ _ _ _ _ _ (Act.put _ (some 55) _) _ from ?_)
     conv in (Act.put _ (some 55) _)=>simp[Act.put]
     repeat (refine ax (by decide) rfl fun K hK=>?_;go_simp;(first|refine hK _ ?_|(simp only[IntWalk.iteOmega];go_simp;refine hK _ ?_)|(go_bits;go_simp;refine hK _ ?_));clear hK K;try go_bits)
     refine bz rfl rfl (fun K hK=>?_);refine agC 30 (.tmp 2) (.tmp 46) rfl B fs rfl rfl 30 _ RB.out FI.out FZ.out kJ.out ?_;refine hK _ _ ⟨(setRow_other _ B gD _ (Nat.ne_of_gt JA.out)).trans RF.out,?_⟩;clear hK K
     repeat (refine ax (by decide) rfl fun K hK=>?_;go_simp;(first|refine hK _ ?_|(simp only[IntWalk.iteOmega];go_simp;refine hK _ ?_)|(go_bits;go_simp;refine hK _ ?_));clear hK K;try go_bits)
     refine cH ?_;go_wp2_with fail;exact agf (v:=.tuple #[.agg fs,.bool false]) (ai rfl _ _ B 30 fs (0,0) _ rfl (agd _ _ _ _ _ _ RB.out) _ rfl Tryz.underlying30 rfl FI.out) rfl (rN HN.out F5s.out kJ.out LF.out HB.out)
    |false=>
     have HY:Hid (aQ S=some ⟨dC false false++[eD],0,false,[kk]⟩):=aa (by rw[WD.out,hk];rfl);have HF:Hid (fs=BZ ⟨dC false false++[eD],0,false,[kk]⟩ sl):=aa (by rw[Uu];exact rT.out)
     have hKR:KR (W8.drew.setRow B fs) w.heap.size w.heap.size sl [kk]:=by
      obtain⟨q1,q2,q3⟩:=aag.out;have hBw:=HB.out;have hBD:=JA.out;have v6:KV W6 (gD+1) kk pv sv:=(gF.mono q1).below H56.out;have v7:KV W7 (gD+1) kk pv sv:=(gF.mono q1).below H57.out;have v8:KV W8 (gD+1) kk pv sv:=by rw[UA.out];exact v7.kept (by simp) (fun j hj _=>ago _ _ _ _ (show j≠gD by omega))
      have v9:KV (W8.drew.setRow B fs) (gD+1) kk pv sv:=KV.kept (W:=W8) v8 (by simp) (fun j hj _=>setRow_other W8.drew B j fs (by omega))
      have hr:(W8.drew.setRow B fs).heap[gs]?=some (.cells cs 71 (0,0)):=by
       have oU:=Ip.out;refine(setRow_other W8.drew B gs fs (by omega)).trans ?_;show W8.heap[gs]?=_;rw[UA.out];exact(ago _ _ _ _ (show gs≠gD by omega)).trans G7.out
      have sM:=hr;rw[Ip.out] at sM;have h9:=P3 (base:=gD+1) jX v9 v6 (by omega) cs bB sM;rw[Hsl.out,Ip.out];exact h9.mono2 (by omega) (by omega)
     have HKR:=aa hKR;clear hKR hk jX bB gF;refine bw (fun W=>W.heap[gD]?=some (.cells fs 30 (0,0))) [(0,1),(1,0),(2,0),(3,0),(4,1),(5,0),(6,0),(7,0),(8,0),(9,1),(10,0),(11,0),(12,2),(13,0)] bW (by kernel_rfl) (by intro c a d v w h;cases d<;>exact h) RF.out ?_;refine aO (.agg fs) (by decide) rfl rfl (fun W hW=>bI 30 (.tmp 4) rfl gD rfl 30 fs (0,0) _ hW Tryz.underlying30 rfl FI.out) ?_;refine(show aY _ _ _ _ _ _ (Act.put _ (some 46) _) _ from ?_)
     conv in (Act.put _ (some 46) _)=>simp[Act.put]
     repeat (refine ax (by decide) rfl fun K hK=>?_;go_simp;(first|refine hK _ ?_|(simp only[IntWalk.iteOmega];go_simp;refine hK _ ?_)|(go_bits;go_simp;refine hK _ ?_));clear hK K;try go_bits)
     refine aO (.bool false) (by decide) rfl rfl (fun W hW=>by have il:=F0.out W hW;clear hW;go_simp) ?_;refine(show aY _ _ _ _ _ _ (Act.put _ (some 50) _) _ from ?_)
     conv in (Act.put _ (some 50) _)=>simp[Act.put]
     repeat (refine ax (by decide) rfl fun K hK=>?_;go_simp;(first|refine hK _ ?_|(simp only[IntWalk.iteOmega];go_simp;refine hK _ ?_)|(go_bits;go_simp;refine hK _ ?_));clear hK K;try go_bits)
     refine aO (.bool false) (by decide) rfl rfl (fun W hW=>by have il:=F1.out W hW;clear hW;go_simp) ?_;refine(show aY _ _ _ _ _ _ (Act.put _ (some 55) _) _ from ?_)
     conv in (Act.put _ (some 55) _)=>simp[Act.put]
     repeat (refine ax (by decide) rfl fun K hK=>?_;go_simp;(first|refine hK _ ?_|(simp only[IntWalk.iteOmega];go_simp;refine hK _ ?_)|(go_bits;go_simp;refine hK _ ?_));clear hK K;try go_bits)
     refine bz rfl rfl (fun K hK=>?_);refine agC 30 (.tmp 2) (.tmp 46) rfl B fs rfl rfl 30 _ RB.out FI.out FZ.out kJ.out ?_;refine hK _ _ ⟨(setRow_other _ B gD _ (Nat.ne_of_gt JA.out)).trans RF.out,?_⟩;clear hK K
     repeat (refine ax (by decide) rfl fun K hK=>?_;go_simp;(first|refine hK _ ?_|(simp only[IntWalk.iteOmega];go_simp;refine hK _ ?_)|(go_bits;go_simp;refine hK _ ?_));clear hK K;try go_bits)
     refine cH ?_;go_wp2_with fail;exact agf (v:=.tuple #[.agg fs,.bool true]) (ai rfl _ _ B 30 fs (0,0) _ rfl (agd _ _ _ _ _ _ RB.out) _ rfl Tryz.underlying30 rfl FI.out) rfl (rY HY.out F5s.out kJ.out LF.out HB.out HF.out HKR.out)
 |false=>
  go_wp2_with fail;refine(H4.out W3).mono ?_;rintro e w' ⟨rfl,bD⟩;rw[←bD];clear bD H4
  cases aae with
  |true=>
   have WD:Hid (aQ S=if !b2 then (aR t4).map fun k=>⟨dC b1 b2++[ca],0,false,[k]⟩ else none):=aa (by rw[HDD.out];exact GQ (ee Hh3.out).1 (ll Hh4.out));have k2:=Jy R3.out;have z2:=bV R3.out 2;have Q8:=aa (ng ⟨t4.toArray⟩ (by rw[aA];exact Hz4.out));rw[show (⟨t4.toArray⟩:ByteArray).data.toList=t4 from rfl] at Q8;go_wp2_with fail;obtain⟨W4,sP⟩:∃W4,W4=W3.setCell ⟨gD,2,none⟩ (.int .i64 2):=⟨_,rfl⟩;rw[←sP];have R4:Hid (W4.heap[gD]?=some (.cells (ln b1 b2 2 0 aV) 30 (0,0))):=aa (by rw[sP];exact sy R3.out 2);have L4:Hid (Below gD W1 W4):=aa (by rw[sP];exact L3.out.setCell (p:=⟨gD,2,none⟩) (af2 _) _);clear sP k2 z2;refine(Q8.out W4).mono ?_;rintro e W5 ⟨⟨cs,ok,rfl,dX,dW,nh,oN⟩,eh⟩;have UO:gD<W4.heap.size:=aJ R4.out;have Q9:W4.heap.size≤W5.heap.size:=eh.size;obtain⟨W6,JB⟩:=ab (W5.alloc (.cells cs 71));obtain⟨gk,jR⟩:=ab W5.heap.size;have g6:W6.heap[gk]?=some (.cells cs 71 (0,0)):=by rw[JB,jR];exact af4 W5 _
   have JC:Below W5.heap.size W5 W6:=by rw[JB];exact(af5 _ _).alloc (af2 _) _
   obtain⟨W7,AA⟩:=ab (W6.alloc (.cells cs 71));obtain⟨gs,oU⟩:=ab W6.heap.size;have g7:W7.heap[gs]?=some (.cells cs 71 (0,0)):=by rw[AA,oU];exact af4 W6 _
   have Se:Below W6.heap.size W6 W7:=by rw[AA];exact(af5 _ _).alloc (af2 _) _
   have h56:W5.heap.size≤W6.heap.size:=JC.size;have b57:Below W5.heap.size W5 W7:=JC.trans (Se.mono h56);have Mj:Below W4.heap.size W4 W7:=eh.trans (b57.mono Q9);have R7:Hid (W7.heap[gD]?=some (.cells (ln b1 b2 2 0 aV) 30 (0,0))):=aa ((Mj.block gD UO).trans R4.out);have L7:Hid (Below gD W1 W7):=aa (L4.out.trans (Mj.mono (Nat.le_of_lt UO)));have H57:=aa b57;have H56:=aa JC;have G6:=aa g6;have G7:=aa g7;have WE:=aa JB;have HW7:=aa AA;have No:=aa jR;have Ip:=aa oU;have je:=aa nh;have lJ:=aa oN;have kL:=aa dX;have mR:=aa dW;have aag:Hid (gD<W4.heap.size∧W4.heap.size≤W5.heap.size∧W5.heap.size≤W6.heap.size):=aa ⟨UO,Q9,h56⟩;have fJ:Hid ((Tryz.prog.info? 71).map (·.size)=some cs.size):=aa (by rw[dX];exact KI.out);have HcZ:Hid (dz.size=cs.size):=aa (by rw[dX];exact eB);have k4:=Jz R7.out;have z4:=bV R7.out 4;clear eh UO Q9 JB jR g6 JC AA oU g7 Se h56 b57 Mj nh oN dX dW Q8;go_wp2_with (first|((with_reducible refine af6 ?s1 71 (.tmp 9) (.tmp 68) ?s2 W5.heap.size cs ?s3 ?s4 71 _ (af4 W5 _) fJ.out ?s6 mR.out ?_);(case s1=>rfl);(case s2=>rfl);(case s3=>rfl);(case s4=>rfl);(case s6=>exact HcZ.out);rw[agi];refine(show W6=_ from WE.out)▸?_;rw[←No.out])|((with_reducible refine aga ?_ 71 (.tmp 9) ?_ gk ?_ 71 cs (0,0) _ G6.out Tryz.underlying71 ?_ fJ.out ?_);rfl;rfl;rfl;rfl)|(((with_reducible refine jD ?u1 28 71 (.tmp 70) 75 cs ?u2 (some 71) ?u3 Tryz.underlying28 KI.out KZ.out (by decide) (by decide) ?u4 kL.out ?_);(case u1=>rfl);(case u2=>rfl);(case u3=>rfl);(case u4=>rfl);(refine(show W7=_ from HW7.out)▸?_);rw[←Ip.out])));obtain⟨sl,pP⟩:∃sl:Value,sl=.slice (some ⟨gs,0,none⟩) 1 1:=⟨_,rfl⟩;obtain⟨W8,uX⟩:∃W8,W8=W7.setCell ⟨gD,4,none⟩ (.slice (some ⟨gs,0,none⟩) 1 1):=⟨_,rfl⟩;rw[←uX];have R8:Hid (W8.heap[gD]?=some (.cells (ln b1 b2 2 0 sl) 30 (0,0))):=aa (by rw[uX,pP];exact xV R7.out _);have L8:Hid (Below gD W1 W8):=aa (by rw[uX];exact L7.out.setCell (p:=⟨gD,4,none⟩) (af2 _) _);have UA:=aa uX;have Hsl:=aa pP;have KY:sl.oneCell'=true:=by rw[pP];rfl
   clear uX pP k4 z4;obtain⟨fs,rT,RF,FI,F5s,FZ,kJ⟩:=MY R8.out KY;have RB:Hid (W8.drew.heap[B]?=some (.cells zD 30 (0,0))):=aa (BW.out W8 L8.out);have LF:=aa (LW.out W8 L8.out).drew;have F1:=acs (g:=gD) rT;clear KY
   cases hk:aR t4 with
   |none=>
    obtain rfl:=je.out hk;have HN:Hid (aQ S=none):=aa (by rw[WD.out,hk];split<;>rfl);clear hk;refine bw (fun W=>W.heap[gD]?=some (.cells fs 30 (0,0))) [(0,1),(1,0),(2,0),(3,0),(4,1),(5,0),(6,0),(7,2),(8,0)] bW (by kernel_rfl) (by intro c a d v w h;cases d<;>exact h) RF.out ?_;refine aO (.agg fs) (by decide) rfl rfl (fun W hW=>bI 30 (.tmp 4) rfl gD rfl 30 fs (0,0) _ hW Tryz.underlying30 rfl FI.out) ?_;refine(show aY _ _ _ _ _ _ (Act.put _ (some 73) _) _ from ?_)
    conv in (Act.put _ (some 73) _)=>simp[Act.put]
    repeat (refine ax (by decide) rfl fun K hK=>?_;go_simp;(first|refine hK _ ?_|(simp only[IntWalk.iteOmega];go_simp;refine hK _ ?_)|(go_bits;go_simp;refine hK _ ?_));clear hK K;try go_bits)
    refine bz rfl rfl (fun K hK=>?_);refine agC 30 (.tmp 2) (.tmp 73) rfl B fs rfl rfl 30 _ RB.out FI.out FZ.out kJ.out ?_;refine hK _ _ ⟨(setRow_other _ B gD _ (Nat.ne_of_gt JA.out)).trans RF.out,?_⟩;clear hK K
    repeat (refine ax (by decide) rfl fun K hK=>?_;go_simp;(first|refine hK _ ?_|(simp only[IntWalk.iteOmega];go_simp;refine hK _ ?_)|(go_bits;go_simp;refine hK _ ?_));clear hK K;try go_bits)
    refine cH ?_;go_wp2_with fail;exact agf (v:=.tuple #[.agg fs,.bool false]) (ai rfl _ _ B 30 fs (0,0) _ rfl (agd _ _ _ _ _ _ RB.out) _ rfl Tryz.underlying30 rfl FI.out) rfl (rN HN.out F5s.out kJ.out LF.out HB.out)
   |some kk=>
    obtain⟨rfl,jX,pv,sv,bB,gF⟩:=lJ.out kk hk
    cases b2 with
    |true=>
     have HN:Hid (aQ S=none):=aa (by rw[WD.out];rfl);refine bw (fun W=>W.heap[gD]?=some (.cells fs 30 (0,0))) [(0,1),(1,0),(2,0),(3,0),(4,1),(5,0),(6,0),(7,2),(8,0)] bW (by kernel_rfl) (by intro c a d v w h;cases d<;>exact h) RF.out ?_;refine aO (.agg fs) (by decide) rfl rfl (fun W hW=>bI 30 (.tmp 4) rfl gD rfl 30 fs (0,0) _ hW Tryz.underlying30 rfl FI.out) ?_;refine(show aY _ _ _ _ _ _ (Act.put _ (some 73) _) _ from ?_)
     conv in (Act.put _ (some 73) _)=>simp[Act.put]
     repeat (refine ax (by decide) rfl fun K hK=>?_;go_simp;(first|refine hK _ ?_|(simp only[IntWalk.iteOmega];go_simp;refine hK _ ?_)|(go_bits;go_simp;refine hK _ ?_));clear hK K;try go_bits)
     refine aO (.bool true) (by decide) rfl rfl (fun W hW=>by have il:=F1.out W hW;clear hW;go_simp) ?_;refine(show aY _ _ _ _ _ _ (Act.put _ (some 77) _) _ from ?_)
     conv in (Act.put _ (some 77) _)=>simp[Act.put]
     repeat (refine ax (by decide) rfl fun K hK=>?_;go_simp;(first|refine hK _ ?_|(simp only[IntWalk.iteOmega];go_simp;refine hK _ ?_)|(go_bits;go_simp;refine hK _ ?_));clear hK K;try go_bits)
     refine bz rfl rfl (fun K hK=>?_);refine agC 30 (.tmp 2) (.tmp 73) rfl B fs rfl rfl 30 _ RB.out FI.out FZ.out kJ.out ?_;refine hK _ _ ⟨(setRow_other _ B gD _ (Nat.ne_of_gt JA.out)).trans RF.out,?_⟩;clear hK K
     repeat (refine ax (by decide) rfl fun K hK=>?_;go_simp;(first|refine hK _ ?_|(simp only[IntWalk.iteOmega];go_simp;refine hK _ ?_)|(go_bits;go_simp;refine hK _ ?_));clear hK K;try go_bits)
     refine cH ?_;go_wp2_with fail;exact agf (v:=.tuple #[.agg fs,.bool false]) (ai rfl _ _ B 30 fs (0,0) _ rfl (agd _ _ _ _ _ _ RB.out) _ rfl Tryz.underlying30 rfl FI.out) rfl (rN HN.out F5s.out kJ.out LF.out HB.out)
    |false=>
     have HY:Hid (aQ S=some ⟨dC b1 false++[ca],0,false,[kk]⟩):=aa (by rw[WD.out,hk];rfl);have HF:Hid (fs=BZ ⟨dC b1 false++[ca],0,false,[kk]⟩ sl):=aa (by rw[Qx];exact rT.out)
     have hKR:KR (W8.drew.setRow B fs) w.heap.size w.heap.size sl [kk]:=by
      obtain⟨q1,q2,q3⟩:=aag.out;have hBw:=HB.out;have hBD:=JA.out;have v6:KV W6 (gD+1) kk pv sv:=(gF.mono q1).below H56.out;have v7:KV W7 (gD+1) kk pv sv:=(gF.mono q1).below H57.out;have v8:KV W8 (gD+1) kk pv sv:=by rw[UA.out];exact v7.kept (by simp) (fun j hj _=>ago _ _ _ _ (show j≠gD by omega))
      have v9:KV (W8.drew.setRow B fs) (gD+1) kk pv sv:=KV.kept (W:=W8) v8 (by simp) (fun j hj _=>setRow_other W8.drew B j fs (by omega))
      have hr:(W8.drew.setRow B fs).heap[gs]?=some (.cells cs 71 (0,0)):=by
       have oU:=Ip.out;refine(setRow_other W8.drew B gs fs (by omega)).trans ?_;show W8.heap[gs]?=_;rw[UA.out];exact(ago _ _ _ _ (show gs≠gD by omega)).trans G7.out
      have sM:=hr;rw[Ip.out] at sM;have h9:=P3 (base:=gD+1) jX v9 v6 (by omega) cs bB sM;rw[Hsl.out,Ip.out];exact h9.mono2 (by omega) (by omega)
     have HKR:=aa hKR;clear hKR hk jX bB gF;refine bw (fun W=>W.heap[gD]?=some (.cells fs 30 (0,0))) [(0,1),(1,0),(2,0),(3,0),(4,1),(5,0),(6,0),(7,2),(8,0)] bW (by kernel_rfl) (by intro c a d v w h;cases d<;>exact h) RF.out ?_;refine aO (.agg fs) (by decide) rfl rfl (fun W hW=>bI 30 (.tmp 4) rfl gD rfl 30 fs (0,0) _ hW Tryz.underlying30 rfl FI.out) ?_;refine(show aY _ _ _ _ _ _ (Act.put _ (some 73) _) _ from ?_)
     conv in (Act.put _ (some 73) _)=>simp[Act.put]
     repeat (refine ax (by decide) rfl fun K hK=>?_;go_simp;(first|refine hK _ ?_|(simp only[IntWalk.iteOmega];go_simp;refine hK _ ?_)|(go_bits;go_simp;refine hK _ ?_));clear hK K;try go_bits)
     refine aO (.bool false) (by decide) rfl rfl (fun W hW=>by have il:=F1.out W hW;clear hW;go_simp) ?_;refine(show aY _ _ _ _ _ _ (Act.put _ (some 77) _) _ from ?_)
     conv in (Act.put _ (some 77) _)=>simp[Act.put]
     repeat (refine ax (by decide) rfl fun K hK=>?_;go_simp;(first|refine hK _ ?_|(simp only[IntWalk.iteOmega];go_simp;refine hK _ ?_)|(go_bits;go_simp;refine hK _ ?_));clear hK K;try go_bits)
     refine bz rfl rfl (fun K hK=>?_);refine agC 30 (.tmp 2) (.tmp 73) rfl B fs rfl rfl 30 _ RB.out FI.out FZ.out kJ.out ?_;refine hK _ _ ⟨(setRow_other _ B gD _ (Nat.ne_of_gt JA.out)).trans RF.out,?_⟩;clear hK K
     repeat (refine ax (by decide) rfl fun K hK=>?_;go_simp;(first|refine hK _ ?_|(simp only[IntWalk.iteOmega];go_simp;refine hK _ ?_)|(go_bits;go_simp;refine hK _ ?_));clear hK K;try go_bits)
     refine cH ?_;go_wp2_with fail;exact agf (v:=.tuple #[.agg fs,.bool true]) (ai rfl _ _ B 30 fs (0,0) _ rfl (agd _ _ _ _ _ _ RB.out) _ rfl Tryz.underlying30 rfl FI.out) rfl (rY HY.out F5s.out kJ.out LF.out HB.out HF.out HKR.out)
  |false=>
   have k2:=Jy R3.out;have z2:=bV R3.out 2;go_wp2_with fail;obtain⟨W4,sP⟩:∃W4,W4=W3.setCell ⟨gD,2,none⟩ (.int .i64 4):=⟨_,rfl⟩;rw[←sP];have R4:Hid (W4.heap[gD]?=some (.cells (ln b1 b2 4 0 aV) 30 (0,0))):=aa (by rw[sP];exact sy R3.out 4);have L4:Hid (Below gD W1 W4):=aa (by rw[sP];exact L3.out.setCell (p:=⟨gD,2,none⟩) (af2 _) _);clear sP k2 z2;refine(H5.out W4).mono ?_;rintro e w' ⟨rfl,bD⟩;rw[←bD];clear bD H5;go_upto_if 87 with (fail)
   go_cut [5,11] (fun s5 s11 wx=>∃(t:List UInt8) (mm sb:Bool) (kd:Nat),s5=.string ⟨t.toArray⟩∧s11=.bool mm∧Hid (t.length≤4096)∧Hid (Below gD W1 wx)∧Hid (wx.heap[gD]?=some (.cells (ln b1 b2 kd 0 aV) 30 (0,0)))∧Hid (aQ S=if mm then iI (dC b1 b2) sb t else none)∧Hid (kd=if sb then 4 else 3))
   case first=>
    cases aaf with
    |true=>
     go_wp2_with fail;go_meet;exact⟨t5,true,true,4,rfl,rfl,Hz5,L4,R4,aa (by rw[HDD.out];exact BE (ee Hh3.out).1 (ee Hh4.out).1 (ll Hh5.out)),aa rfl⟩
    |false=>
     have k2:=Jy R4.out;have z2:=bV R4.out 2;go_wp2_with fail;obtain⟨W5,xP⟩:∃W5,W5=W4.setCell ⟨gD,2,none⟩ (.int .i64 3):=⟨_,rfl⟩;rw[←xP];have R5:Hid (W5.heap[gD]?=some (.cells (ln b1 b2 3 0 aV) 30 (0,0))):=aa (by rw[xP];exact sy R4.out 3);have L5:Hid (Below gD W1 W5):=aa (by rw[xP];exact L4.out.setCell (p:=⟨gD,2,none⟩) (af2 _) _);clear xP k2 z2;refine(H6.out W5).mono ?_;rintro e w' ⟨rfl,bD⟩;rw[←bD];clear bD H6;go_wp2_with fail;go_meet
     exact⟨t6,UN,false,3,rfl,rfl,Hz6,L5,R5,aa (by
      rw[HDD.out]
      cases UN with
      |true=>exact Ef (ee Hh3.out).1 (ee Hh4.out).1 (ee Hh5.out).1 (ll Hh6.out)
      |false=>exact Qw (ee Hh3.out).1 (ee Hh4.out).1 (ee Hh5.out).1 (ee Hh6.out).1),aa rfl⟩
   case rest=>
    obtain⟨tt,mm,sb,kd,rfl,rfl,aah,LC,RC,HDm,Hkd⟩:=hcut;obtain⟨p0,rs,hP⟩:∃p0 rs,aK 44 tt=p0::rs:=⟨_,_,eM 44 tt⟩;have QW:=aa (fun W=>xD ⟨tt.toArray⟩ 44 (by rw[aA];have:=aah.out;omega) W);rw[show (⟨tt.toArray⟩:ByteArray).data.toList=tt from rfl,hP] at QW;have HP:=aa hP;have Me:∀x∈p0::rs,x.length≤4096:=fun x hx=>agx (mb 44 tt x (by rw[hP];exact hx)) aah.out
    have zK:rs.length≤4096:=by have:=mP 44 tt;rw[hP] at this;have:=aah.out;simp at*;omega
    obtain⟨q,hq⟩:=ab rs.length;rw[←hq] at zK;have Mf:=aa Me;have Hq:=aa hq;have hq4:=zK;clear hP Me hq zK;go_wp2_with fail;refine(QW.out wc).mono ?_;rintro e wS ⟨v,rfl,ho,QX⟩;have gDW:gD<wc.heap.size:=aJ RC.out;have RS:Hid (wS.heap[gD]?=some (.cells (ln b1 b2 kd 0 aV) 30 (0,0))):=aa ((QX.block gD gDW).trans RC.out);have LS:Hid (Below gD W1 wS):=aa (LC.out.trans (QX.mono (Nat.le_of_lt gDW)));obtain⟨m,hm⟩:∃m,m=(ST (p0::rs)).length:=⟨_,rfl⟩;have Z5:m=q+1:=by rw[hm,Hq.out];simp
    obtain⟨A,c,rfl,dW,ez⟩:=ho.form;rw[←hm] at ho dW⊢;obtain⟨gP,rfl,hgP,_,IL,_⟩:=ho.at_ (j:=0) (by simp);rw[show (ST (p0::rs))[0]=.string ⟨p0.toArray⟩ from rfl] at IL;have yB:gP<wS.heap.size:=World.block_lt_of_cell? _ _ IL;have acw:gD<gP:=agq gDW hgP
    have PS:Hid (∀j (h:j<(p0::rs).length),wS.cell? ⟨gP,j,none⟩=some (.string ⟨(p0::rs)[j].toArray⟩)):=aa (fun j h=>by
     obtain⟨g2,e2,_,_,ez,_⟩:=ho.at_ (j:=j) (by simpa using h)
     cases e2
     rw[ez,js])
    subst Z5;have aai:=aa acw;have aeB:=aa yB;have Er:Hid (q+1≤c):=aa dW;clear ho QX hm dW ez hgP yB IL QW gDW acw
    cases mm with
    |false=>
     obtain⟨fs,rT,RF,FI,F5s,FZ,kJ⟩:=MY RS.out rfl;have RB:=aa (BW.out wS LS.out);have LF:=aa (LW.out wS LS.out);have HN:=HDm;go_wp2_with (first|((with_reducible refine aga ?_ 30 (.tmp 4) ?_ gD ?_ 30 fs (0,0) _ RF.out Tryz.underlying30 ?_ FI.out ?_);rfl;rfl;rfl;rfl)|((with_reducible refine af6 ?_ 30 (.tmp 2) (.tmp 130) ?_ B fs ?_ ?_ 30 _ RB.out FI.out ?_ kJ.out ?_);rfl;rfl;rfl;rfl;exact FZ.out));exact agf (v:=.tuple #[.agg fs,.bool false]) (ai rfl _ _ B 30 fs (0,0) _ rfl (agd _ _ _ _ _ _ RB.out) _ rfl Tryz.underlying30 rfl FI.out) rfl (rN HN.out F5s.out kJ.out LF.out HB.out)
    |true=>
     have HM:Hid (aQ S=if 1≤q∧q≤16∧GU p0=true∧mC p0≤q then (bJ rs).map (fun ks=>⟨dC b1 b2,mC p0,sb,ks⟩) else none):=aa (by rw[show aQ S=iI (dC b1 b2) sb tt from HDm.out,ab7 HP.out,←Hq.out]);obtain⟨pB,Wy⟩:∃pB:ByteArray,pB=⟨p0.toArray⟩:=⟨_,rfl⟩;obtain⟨l,hl⟩:=ab p0.length;have iO:pB.size=l:=by rw[Wy,hl];exact aA p0
     have HpB:=aa Wy;have Hl:=aa hl;have HPc:Hid (∀W:World,(∀j (h:j<(p0::rs).length),W.cell? ⟨gP,j,none⟩=some (.string ⟨(p0::rs)[j].toArray⟩))→W.cell? ⟨gP,0,none⟩=some (.string pB)):=aa (fun W h=>by rw[h 0 (by simp),HpB.out];rfl);have c0:=HPc.out wS PS.out;clear Wy hl
     by_cases hc:q<1
     · have iu:=hc
       clear iu;obtain⟨fs,rT,RF,FI,F5s,FZ,kJ⟩:=MY RS.out rfl;have RB:=aa (BW.out wS LS.out);have LF:=aa (LW.out wS LS.out);have HN:Hid (aQ S=none):=aa (by rw[HM.out,if_neg (fun h=>by omega)]);go_wp2_with (first|((with_reducible refine aga ?_ 30 (.tmp 4) ?_ gD ?_ 30 fs (0,0) _ RF.out Tryz.underlying30 ?_ FI.out ?_);rfl;rfl;rfl;rfl)|((with_reducible refine af6 ?_ 30 (.tmp 2) (.tmp 130) ?_ B fs ?_ ?_ 30 _ RB.out FI.out ?_ kJ.out ?_);rfl;rfl;rfl;rfl;exact FZ.out));exact agf (v:=.tuple #[.agg fs,.bool false]) (ai rfl _ _ B 30 fs (0,0) _ rfl (agd _ _ _ _ _ _ RB.out) _ rfl Tryz.underlying30 rfl FI.out) rfl (rN HN.out F5s.out kJ.out LF.out HB.out)
     skip;have hq1:=hc;clear hc
     by_cases hc:16<q
     · have iu:=hc
       clear iu;obtain⟨fs,rT,RF,FI,F5s,FZ,kJ⟩:=MY RS.out rfl;have RB:=aa (BW.out wS LS.out);have LF:=aa (LW.out wS LS.out);have HN:Hid (aQ S=none):=aa (by rw[HM.out,if_neg (fun h=>by omega)]);go_wp2_with (first|((with_reducible refine aga ?_ 30 (.tmp 4) ?_ gD ?_ 30 fs (0,0) _ RF.out Tryz.underlying30 ?_ FI.out ?_);rfl;rfl;rfl;rfl)|((with_reducible refine af6 ?_ 30 (.tmp 2) (.tmp 130) ?_ B fs ?_ ?_ 30 _ RB.out FI.out ?_ kJ.out ?_);rfl;rfl;rfl;rfl;exact FZ.out));exact agf (v:=.tuple #[.agg fs,.bool false]) (ai rfl _ _ B 30 fs (0,0) _ rfl (agd _ _ _ _ _ _ RB.out) _ rfl Tryz.underlying30 rfl FI.out) rfl (rN HN.out F5s.out kJ.out LF.out HB.out)
     skip;have af1:=hc;clear hc
     by_cases hc:l<1
     · have iu:=hc
       clear iu;obtain⟨fs,rT,RF,FI,F5s,FZ,kJ⟩:=MY RS.out rfl;have RB:=aa (BW.out wS LS.out);have LF:=aa (LW.out wS LS.out);have HN:Hid (aQ S=none):=aa (by rw[HM.out,if_neg (fun h=>by have:=Jv h.2.2.1;have:=Hl.out;omega)]);go_wp2_with (first|((with_reducible refine aga ?_ 30 (.tmp 4) ?_ gD ?_ 30 fs (0,0) _ RF.out Tryz.underlying30 ?_ FI.out ?_);rfl;rfl;rfl;rfl)|((with_reducible refine af6 ?_ 30 (.tmp 2) (.tmp 130) ?_ B fs ?_ ?_ 30 _ RB.out FI.out ?_ kJ.out ?_);rfl;rfl;rfl;rfl;exact FZ.out));exact agf (v:=.tuple #[.agg fs,.bool false]) (ai rfl _ _ B 30 fs (0,0) _ rfl (agd _ _ _ _ _ _ RB.out) _ rfl Tryz.underlying30 rfl FI.out) rfl (rN HN.out F5s.out kJ.out LF.out HB.out)
     skip;have j7:=hc;clear hc
     by_cases hc:2<l
     · have iu:=hc
       clear iu;obtain⟨fs,rT,RF,FI,F5s,FZ,kJ⟩:=MY RS.out rfl;have RB:=aa (BW.out wS LS.out);have LF:=aa (LW.out wS LS.out);have HN:Hid (aQ S=none):=aa (by rw[HM.out,if_neg (fun h=>by have:=Jv h.2.2.1;have:=Hl.out;omega)]);go_wp2_with (first|((with_reducible refine aga ?_ 30 (.tmp 4) ?_ gD ?_ 30 fs (0,0) _ RF.out Tryz.underlying30 ?_ FI.out ?_);rfl;rfl;rfl;rfl)|((with_reducible refine af6 ?_ 30 (.tmp 2) (.tmp 130) ?_ B fs ?_ ?_ 30 _ RB.out FI.out ?_ kJ.out ?_);rfl;rfl;rfl;rfl;exact FZ.out));exact agf (v:=.tuple #[.agg fs,.bool false]) (ai rfl _ _ B 30 fs (0,0) _ rfl (agd _ _ _ _ _ _ RB.out) _ rfl Tryz.underlying30 rfl FI.out) rfl (rN HN.out F5s.out kJ.out LF.out HB.out)
     skip;have yN:=hc;clear hc;obtain⟨y0,Zd⟩:=ab (p0.getD 0 0);have tI:∀h,pB[0]'h=y0:=fun h=>by rw[na pB p0 HpB.out 0 h,Zd]
     have Hy0:=aa Zd;clear Zd
     by_cases j8:y0=48
     · have q48:((y0.toNat:Int)==48)=true:=by rw[j8];rfl
       have H48:=aa j8;clear j8;obtain⟨fs,rT,RF,FI,F5s,FZ,kJ⟩:=MY RS.out rfl;have RB:=aa (BW.out wS LS.out);have LF:=aa (LW.out wS LS.out);have HN:Hid (aQ S=none):=aa (by rw[HM.out,if_neg (fun h=>LU h.2.2.1 (by rw[←Hy0.out];exact H48.out))]);go_wp2_with (first|((with_reducible refine aga ?_ 30 (.tmp 4) ?_ gD ?_ 30 fs (0,0) _ RF.out Tryz.underlying30 ?_ FI.out ?_);rfl;rfl;rfl;rfl)|((with_reducible refine af6 ?_ 30 (.tmp 2) (.tmp 130) ?_ B fs ?_ ?_ 30 _ RB.out FI.out ?_ kJ.out ?_);rfl;rfl;rfl;rfl;exact FZ.out));exact agf (v:=.tuple #[.agg fs,.bool false]) (ai rfl _ _ B 30 fs (0,0) _ rfl (agd _ _ _ _ _ _ RB.out) _ rfl Tryz.underlying30 rfl FI.out) rfl (rN HN.out F5s.out kJ.out LF.out HB.out)
     have q48:((y0.toNat:Int)==48)=false:=by rw[show ((y0.toNat:Int)==48)=decide (y0=48) from oK y0 48];exact af8 j8
     have H48:=aa j8;clear j8;go_wp2_with fail;clear tI q48 c0;go_loopw [14,15] (fun iv _ wr=>∃(k m:Nat),k≤l∧iv=.int .i64 k∧Hid (m=mC (p0.take k))∧((k=0→m=0)∧(k=1→m≤9)∧m≤99)∧Hid (∀j (h:j<p0.length),j<k→48≤p0[j].toNat∧p0[j].toNat≤57)∧Hid (Below gD W1 wr)∧Hid (wr.heap[gD]?=some (.cells (ln b1 b2 kd m aV) 30 (0,0)))∧Hid (∀j (h:j<(p0::rs).length),wr.cell? ⟨gP,j,none⟩=some (.string ⟨(p0::rs)[j].toArray⟩))∧Hid (gP<wr.heap.size)) (fun iv _ _=>l-(intOf iv).toNat)
     case atStart=>exact⟨0,0,by omega,rfl,aa rfl,⟨fun _=>rfl,fun h=>by omega,by omega⟩,aa (fun j h h0=>by omega),LS,RS,PS,aeB⟩
     case round=>
      obtain⟨k,m,hk,rfl,Hm,⟨ZN,vm,hm9⟩,Hdg,LR,RR,PR,GR⟩:=hrel;have c0:=HPc.out wr PR.out
      by_cases aL:k<l
      · have hkp:k<p0.length:=by rw[←Hl.out];exact aL
        obtain⟨y,hy⟩:∃y,y=p0[k]:=⟨_,rfl⟩;have tI:∀h,pB[k]'h=y:=fun h=>by rw[na pB p0 HpB.out k h,hy,agB,age hkp];rfl
        have Hy:Hid (∃h:k<p0.length,p0[k]=y):=aa ⟨hkp,hy.symm⟩;clear hkp hy
        by_cases oY:y.toNat<48
        · have HX:=aa oY
          have e48:decide ((y.toNat:Int)<48)=true:=af9 (by omega);clear oY;obtain⟨fs,rT,RF,FI,F5s,FZ,kJ⟩:=MY RR.out rfl;have RB:=aa (BW.out wr LR.out);have LF:=aa (LW.out wr LR.out);have HN:Hid (aQ S=none):=aa (by rw[HM.out,if_neg (fun h=>by obtain⟨h1,h2⟩:=Hy.out;have:=QB h.2.2.1 k h1;rw[h2] at this;have:=HX.out;omega)]);go_wp2_with (first|((with_reducible refine aga ?_ 30 (.tmp 4) ?_ gD ?_ 30 fs (0,0) _ RF.out Tryz.underlying30 ?_ FI.out ?_);rfl;rfl;rfl;rfl)|((with_reducible refine af6 ?_ 30 (.tmp 2) (.tmp 150) ?_ B fs ?_ ?_ 30 _ RB.out FI.out ?_ kJ.out ?_);rfl;rfl;rfl;rfl;exact FZ.out));exact agf (v:=.tuple #[.agg fs,.bool false]) (ai rfl _ _ B 30 fs (0,0) _ rfl (agd _ _ _ _ _ _ RB.out) _ rfl Tryz.underlying30 rfl FI.out) rfl (rN HN.out F5s.out kJ.out LF.out HB.out)
        by_cases CX:57<y.toNat
        · have HX:=aa CX
          have e48:decide ((y.toNat:Int)<48)=false:=af8 (by omega);have e57:decide ((57:Int)<(y.toNat:Int))=true:=af9 (by omega);clear CX oY;obtain⟨fs,rT,RF,FI,F5s,FZ,kJ⟩:=MY RR.out rfl;have RB:=aa (BW.out wr LR.out);have LF:=aa (LW.out wr LR.out);have HN:Hid (aQ S=none):=aa (by rw[HM.out,if_neg (fun h=>by obtain⟨h1,h2⟩:=Hy.out;have:=QB h.2.2.1 k h1;rw[h2] at this;have:=HX.out;omega)]);go_wp2_with (first|((with_reducible refine aga ?_ 30 (.tmp 4) ?_ gD ?_ 30 fs (0,0) _ RF.out Tryz.underlying30 ?_ FI.out ?_);rfl;rfl;rfl;rfl)|((with_reducible refine af6 ?_ 30 (.tmp 2) (.tmp 150) ?_ B fs ?_ ?_ 30 _ RB.out FI.out ?_ kJ.out ?_);rfl;rfl;rfl;rfl;exact FZ.out));exact agf (v:=.tuple #[.agg fs,.bool false]) (ai rfl _ _ B 30 fs (0,0) _ rfl (agd _ _ _ _ _ _ RB.out) _ rfl Tryz.underlying30 rfl FI.out) rfl (rN HN.out F5s.out kJ.out LF.out HB.out)
        have e48:decide ((y.toNat:Int)<48)=false:=af8 (by omega);have e57:decide ((57:Int)<(y.toNat:Int))=false:=af8 (by omega);obtain⟨d,hd⟩:∃d,y.toNat=48+d:=⟨y.toNat-48,by omega⟩;have hd9:d≤9:=by omega
        obtain⟨yn,XY⟩:=ab y.toNat;have k3:=WC RR.out;have z3:=bV RR.out 3;have Hd:=aa hd;have Ri:k<2:=by omega
        go_wp2_with fail;rw[show (10*(m:Int)+(48+(d:Int)-48))=((10*m+d:Nat):Int) by omega]
        have hv:10*m+d=mC (p0.take (k+1)):=by
         obtain⟨h1,h2⟩:=Hy.out;rw[agh h1,h2,LQ,←Hm.out,Hd.out];omega
        exact⟨⟨k+1,10*m+d,by omega,by simp,aa hv,⟨fun h=>by omega,fun h=>by omega,by omega⟩,aa (fun j h hj=>by
         rcases Nat.lt_or_ge j k with h1|h1
         · exact Hdg.out j h h1
         · obtain rfl:j=k:=by omega
           obtain⟨h2,h3⟩:=Hy.out;rw[h3];have:=Hd.out;omega),aa (LR.out.setCell (p:=⟨gD,3,none⟩) (af2 _) _),aa (Q7 RR.out (10*m+d)),aa (fun j h=>by
         rw[World.cell?_setCell_other _ _ _ _ (by intro e;injection e with e _ _;have:=aai.out;omega)];exact PR.out j h),aa (by simpa using GR.out)⟩,by simp only[intOf];omega⟩
      obtain rfl:k=l:=by omega
      have qF:GU p0=true:=ZU (by rw[←Hl.out];omega) (by rw[←Hl.out];omega) (by rw[←Hy0.out];exact H48.out) (fun j h=>Hdg.out j h (by rw[Hl.out];exact h));have hv:mC p0=m:=by rw[Hm.out,af7 (by rw[Hl.out];exact af2 _)]
      have yE:1≤m:=by have:=(zH qF).1;omega
      have sS:Hid (aQ S=if m≤q then (bJ rs).map (fun ks=>⟨dC b1 b2,m,sb,ks⟩) else none):=aa (by
       rw[HM.out,hv]
       by_cases Ra:m≤q
       · rw[if_pos Ra,if_pos ⟨by omega,by omega,qF,Ra⟩]
       rw[if_neg Ra,if_neg (fun h=>Ra h.2.2.2)])
      have Hge:=aa yE;have aeR:q≤16:=by omega
      go_wp2_with fail;clear c0 qF hv yE ZN vm aL hk;go_loopw [16,17,18] (fun iv _ _ wr=>∃(j:Nat) (ks:List DKey) (kv:Value),j≤q∧iv=.int .i64 ((j:Int)+1)∧Hid (bJ (rs.take j)=some ks)∧Hid (Below gD W1 wr)∧Hid (wr.heap[gD]?=some (.cells (ln b1 b2 kd m kv) 30 (0,0)))∧Hid (KR wr (gP+1) (gD+1) kv ks)∧Hid (∀j (h:j<(p0::rs).length),wr.cell? ⟨gP,j,none⟩=some (.string ⟨(p0::rs)[j].toArray⟩))∧Hid (gP<wr.heap.size)) (fun iv _ _ _=>q+1-(intOf iv).toNat)
      case atStart=>exact⟨0,[],aV,by omega,rfl,aa rfl,LR,RR,aa (Zj _ _ _),PR,GR⟩
      case round=>
       obtain⟨j,ks,kv,hj,rfl,Hks,LT,RT,HK,PT,GT⟩:=hrel
       by_cases aL:j<q
       · have hjr:j<rs.length:=by rw[←Hq.out];exact aL
         obtain⟨pj,hpj⟩:∃pj,pj=rs[j]:=⟨_,rfl⟩;have cj:wr.cell? ⟨gP,j+1,none⟩=some (.string ⟨pj.toArray⟩):=by rw[PT.out (j+1) (by simp;exact hjr),hpj];rfl
         have BV:pj∈rs:=by rw[hpj];exact agl _
         have Hpm:=aa BV;have oh:Hid (rs.take (j+1)=rs.take j++[pj]):=aa (by rw[agh hjr,hpj]);have Q8:=aa (ng ⟨pj.toArray⟩ (by rw[aA];exact Mf.out pj (.tail _ BV)) wr);rw[show (⟨pj.toArray⟩:ByteArray).data.toList=pj from rfl] at Q8;clear hjr hpj BV;go_wp2_with fail;refine Q8.out.mono ?_;rintro e w5 ⟨⟨cs,ok,rfl,dX,dW,nh,oN⟩,eh⟩;have gDt:gD<wr.heap.size:=aJ RT.out;have Q9:wr.heap.size≤w5.heap.size:=eh.size;obtain⟨W6,JB⟩:=ab (w5.alloc (.cells cs 71));obtain⟨gk,jR⟩:=ab w5.heap.size;have g6:W6.heap[gk]?=some (.cells cs 71 (0,0)):=by rw[JB,jR];exact af4 w5 _
         have JC:Below w5.heap.size w5 W6:=by rw[JB];exact(af5 _ _).alloc (af2 _) _
         have b46:Below wr.heap.size wr W6:=eh.trans (JC.mono Q9);have R6:Hid (W6.heap[gD]?=some (.cells (ln b1 b2 kd m kv) 30 (0,0))):=aa ((b46.block gD gDt).trans RT.out);have L6:Hid (Below gD W1 W6):=aa (LT.out.trans (b46.mono (Nat.le_of_lt gDt)));have Rb:kv.oneCell'=true:=by obtain⟨A0,c0,e0,_⟩:=HK.out.form;rw[e0];rfl
         have aaj:=aa Rb;have Ed:=aa eh;have H56:=aa JC;have H46:=aa b46;have G6:=aa g6;have WE:=aa JB;have No:=aa jR;have je:=aa nh;have lJ:=aa oN;have kL:=aa dX;have mR:=aa dW;have Hzt:Hid (gD<wr.heap.size∧wr.heap.size≤w5.heap.size∧w5.heap.size≤W6.heap.size):=aa ⟨gDt,Q9,JC.size⟩;have fJ:Hid ((Tryz.prog.info? 71).map (·.size)=some cs.size):=aa (by rw[dX];exact KI.out);have HcZ:Hid (dz.size=cs.size):=aa (by rw[dX];exact eB);clear eh gDt Q9 JB jR g6 JC b46 nh oN dX dW Q8 Rb
         cases hk:aR pj with
         |none=>
          obtain rfl:=je.out hk;obtain⟨fs,rT,RF,FI,F5s,FZ,kJ⟩:=MY R6.out aaj.out;have RB:=aa (BW.out W6 L6.out);have LF:=aa (LW.out W6 L6.out);have HN:Hid (aQ S=none):=aa (by rw[sS.out,oz rs pj Hpm.out hk];split<;>rfl);clear hk;go_wp2_with (first|((with_reducible refine af6 ?s1 71 (.tmp 17) (.tmp 170) ?s2 w5.heap.size cs ?s3 ?s4 71 _ (af4 w5 _) fJ.out ?s6 mR.out ?_);(case s1=>rfl);(case s2=>rfl);(case s3=>rfl);(case s4=>rfl);(case s6=>exact HcZ.out);rw[agi];refine(show W6=_ from WE.out)▸?_;rw[←No.out])|((with_reducible refine aga ?_ 30 (.tmp 4) ?_ gD ?_ 30 fs (0,0) _ RF.out Tryz.underlying30 ?_ FI.out ?_);rfl;rfl;rfl;rfl)|((with_reducible refine af6 ?_ 30 (.tmp 2) (.tmp 174) ?_ B fs ?_ ?_ 30 _ RB.out FI.out ?_ kJ.out ?_);rfl;rfl;rfl;rfl;exact FZ.out));exact agf (v:=.tuple #[.agg fs,.bool false]) (ai rfl _ _ B 30 fs (0,0) _ rfl (agd _ _ _ _ _ _ RB.out) _ rfl Tryz.underlying30 rfl FI.out) rfl (rN HN.out F5s.out kJ.out LF.out HB.out)
         |some kk=>
          obtain⟨rfl,jX,pv,sv,bB,gF⟩:=lJ.out kk hk;have Rc:Hid (bJ (rs.take (j+1))=some (ks++[kk])):=aa (by rw[oh.out];exact oy _ _ _ _ Hks.out hk);have EE:ks.length≤1000:=by have h1:=qB _ _ Hks.out;rw[agj] at h1;omega
          have TN:=aa EE
          have hkr:∀r,kv.ownBlock=some r→gP+1≤r∧r<wr.heap.size:=fun r hr=>by
           obtain⟨gb,_,_,h3⟩:=HK.out;exact h3.lt r hr
          have Rd:=gF.offLo kv.ownBlock (fun r hr=>(hkr r hr).2);obtain⟨W7,AA⟩:=ab (W6.alloc (.cells cs 71));obtain⟨gs,oU⟩:=ab W6.heap.size;have N7:Hid (W7.heap[gs]?=some (.cells (eS kk pv sv).toArray 71 (0,0))):=aa (by rw[AA,oU,←bB];exact af4 W6 _);have Se:Below W6.heap.size W6 W7:=by rw[AA];exact(af5 _ _).alloc (af2 _) _
          have q1:=Hzt.out.1;have q2:=Hzt.out.2.1;have q3:=Hzt.out.2.2;have qP:=GT.out;have qD:=aai.out;have Mj:Below wr.heap.size wr W7:=H46.out.trans (Se.mono (agx q2 q3));have q4:W6.heap.size≤W7.heap.size:=Se.size;have R7:Hid (W7.heap[gD]?=some (.cells (ln b1 b2 kd m kv) 30 (0,0))):=aa ((Mj.block gD q1).trans RT.out);have L7:Hid (Below gD W1 W7):=aa (LT.out.trans (Mj.mono (Nat.le_of_lt q1)));have K7:Hid (KR W7 (gP+1) (gD+1) kv ks):=aa (HK.out.below Mj);have V7:Hid (KV W7 (gD+1) kk pv sv):=aa ((gF.mono q1).below (H56.out.trans (Se.mono q3)));have Re:=aa Rd;have aeC:=aa jX;have Vl:gP+1≤W7.heap.size:=by omega
          have Hbz:=aa Vl;have HW7:=aa AA;have Ip:=aa oU;have Hkr:=aa hkr;have UP:Hid (gD<W7.heap.size∧gP<W7.heap.size∧gD<gP):=aa ⟨by omega,by omega,qD⟩;have aeD:=aa Mj;have k4:=Jz R6.out;clear hk jX bB gF EE hkr Rd AA oU Se q1 q2 q3 q4 qP qD Mj Vl;go_wp2_with (first|((with_reducible refine af6 ?s1 71 (.tmp 17) (.tmp 170) ?s2 w5.heap.size cs ?s3 ?s4 71 _ (af4 w5 _) fJ.out ?s6 mR.out ?_);(case s1=>rfl);(case s2=>rfl);(case s3=>rfl);(case s4=>rfl);(case s6=>exact HcZ.out);rw[agi];refine(show W6=_ from WE.out)▸?_;rw[←No.out])|((with_reducible refine aga ?_ 71 (.tmp 17) ?_ gk ?_ 71 cs (0,0) _ G6.out Tryz.underlying71 ?_ fJ.out ?_);rfl;rfl;rfl;rfl)|(((with_reducible refine jD ?u1 28 71 (.tmp 177) 75 cs ?u2 (some 178) ?u3 Tryz.underlying28 KI.out KZ.out (by decide) (by decide) ?u4 kL.out ?_);(case u1=>rfl);(case u2=>rfl);(case u3=>rfl);(case u4=>rfl);(refine(show W7=_ from HW7.out)▸?_);rw[←Ip.out]))|(at_builtin;(refine yC rfl (.tmp 176) (.tmp 178) rfl K7.out aeC.out V7.out Re.out.1 Re.out.2 gs N7.out TN.out Hbz.out rfl rfl ?_);intro A10 n10 c10 wm Rf BM;have Sg:=(BM.block gD UP.out.1 (fun e=>by have h1:=(Hkr.out gD e.symm).1;have h2:=UP.out.2.2;omega)).trans R7.out;have k4b:=Jz Sg;have z4b:=bV Sg 4;have Ut:=aa Rf;have aeE:=aa Sg;have aeF:=aa BM;clear Rf BM Sg));have hE3:=acv (.slice A10 n10 c10) L7.out aeF.out (fun r hr=>(Hkr.out r hr).1) UP.out aeD.out GT.out PT.out;exact⟨⟨j+1,ks++[kk],_,aL,rfl,Rc,aa hE3.1,aa (xV aeE.out _),aa (Ut.out.setCell (Nat.lt_succ_of_lt UP.out.2.2) (Nat.lt_succ_self _) 4 _),aa hE3.2.1,aa hE3.2.2⟩,acu q j aL⟩
       obtain rfl:q=j:=by omega
       have Rc:Hid (bJ rs=some ks):=aa (by have h1:=Hks.out;rwa [af7 (by rw[←Hq.out];exact af2 _)] at h1);have Rb:kv.oneCell'=true:=by obtain⟨A0,c0,e0,_⟩:=HK.out.form;rw[e0];rfl
       have aaj:=aa Rb;have d1:decide ((1:Int)≤(m:Int))=true:=af9 (by have:=Hge.out;omega);clear Rb aL;obtain⟨fs,rT,RF,FI,F5s,FZ,kJ⟩:=MY RT.out aaj.out;have RB:Hid (wr.drew.heap[B]?=some (.cells zD 30 (0,0))):=aa (BW.out wr LT.out);have LF:=aa (LW.out wr LT.out).drew;have F3:=aeA (g:=gD) rT;go_wp2_with fail
       by_cases Ra:m≤q
       · have dq:decide (m≤q)=true:=af9 Ra
         have HY:Hid (aQ S=some ⟨dC b1 b2,m,sb,ks⟩):=aa (by rw[sS.out,if_pos Ra,Rc.out];rfl);have HF:Hid (fs=BZ ⟨dC b1 b2,m,sb,ks⟩ kv):=aa (by rw[Qy _ _ _ _ _ _ Hge.out,←Hkd.out];exact rT.out)
         have HKR:Hid (KR (wr.drew.setRow B fs) w.heap.size w.heap.size kv ks):=aa (by
          have h1:KR wr.drew (gP+1) (gD+1) kv ks:=HK.out.below ((af5 wr.heap.size wr).drew);have hBD:=JA.out;have hDP:=aai.out;have hBw:=HB.out;exact(h1.setRow0 (show B<gP+1 by omega) (show B<gD+1 by omega) fs).mono2 (by omega) (by omega))
         clear Ra;refine bw (fun W=>W.heap[gD]?=some (.cells fs 30 (0,0))) [(0,1),(1,0),(2,1),(3,0),(4,0),(5,0),(6,1),(7,0),(8,0),(9,0),(10,2),(11,0)] bW (by kernel_rfl) (by intro c a d v w h;cases d<;>exact h) RF.out ?_;refine aO (.agg fs) (by decide) rfl rfl (fun W hW=>bI 30 (.tmp 4) rfl gD rfl 30 fs (0,0) _ hW Tryz.underlying30 rfl FI.out) ?_;refine(show aY _ _ _ _ _ _ (Act.put _ (some 181) _) _ from ?_)
         conv in (Act.put _ (some 181) _)=>simp[Act.put]
         repeat (refine ax (by decide) rfl fun K hK=>?_;go_simp;(first|refine hK _ ?_|(simp only[IntWalk.iteOmega];go_simp;refine hK _ ?_)|(go_bits;go_simp;refine hK _ ?_));clear hK K;try go_bits)
         refine aO (.int .i64 (m:Int)) (by decide) rfl rfl (fun W hW=>by have il:=F3.out W hW;clear hW;go_simp) ?_;refine(show aY _ _ _ _ _ _ (Act.put _ (some 183) _) _ from ?_)
         conv in (Act.put _ (some 183) _)=>simp[Act.put]
         repeat (refine ax (by decide) rfl fun K hK=>?_;go_simp;(first|refine hK _ ?_|(simp only[IntWalk.iteOmega];go_simp;refine hK _ ?_)|(go_bits;go_simp;refine hK _ ?_));clear hK K;try go_bits)
         refine aO (.int .i64 (m:Int)) (by decide) rfl rfl (fun W hW=>by have il:=F3.out W hW;clear hW;go_simp) ?_;refine(show aY _ _ _ _ _ _ (Act.put _ (some 187) _) _ from ?_)
         conv in (Act.put _ (some 187) _)=>simp[Act.put]
         repeat (refine ax (by decide) rfl fun K hK=>?_;go_simp;(first|refine hK _ ?_|(simp only[IntWalk.iteOmega];go_simp;refine hK _ ?_)|(go_bits;go_simp;refine hK _ ?_));clear hK K;try go_bits)
         refine bz rfl rfl (fun K hK=>?_);refine agC 30 (.tmp 2) (.tmp 181) rfl B fs rfl rfl 30 _ RB.out FI.out FZ.out kJ.out ?_;refine hK _ _ ⟨(setRow_other _ B gD _ (Nat.ne_of_gt JA.out)).trans RF.out,?_⟩;clear hK K
         repeat (refine ax (by decide) rfl fun K hK=>?_;go_simp;(first|refine hK _ ?_|(simp only[IntWalk.iteOmega];go_simp;refine hK _ ?_)|(go_bits;go_simp;refine hK _ ?_));clear hK K;try go_bits)
         refine cH ?_;go_wp2_with fail;exact agf (v:=.tuple #[.agg fs,.bool true]) (ai rfl _ _ B 30 fs (0,0) _ rfl (agd _ _ _ _ _ _ RB.out) _ rfl Tryz.underlying30 rfl FI.out) rfl (rY HY.out F5s.out kJ.out LF.out HB.out HF.out HKR.out)
       have dq:decide (m≤q)=false:=af8 Ra;have HN:Hid (aQ S=none):=aa (by rw[sS.out,if_neg Ra]);clear Ra;refine bw (fun W=>W.heap[gD]?=some (.cells fs 30 (0,0))) [(0,1),(1,0),(2,1),(3,0),(4,0),(5,0),(6,1),(7,0),(8,0),(9,0),(10,2),(11,0)] bW (by kernel_rfl) (by intro c a d v w h;cases d<;>exact h) RF.out ?_;refine aO (.agg fs) (by decide) rfl rfl (fun W hW=>bI 30 (.tmp 4) rfl gD rfl 30 fs (0,0) _ hW Tryz.underlying30 rfl FI.out) ?_;refine(show aY _ _ _ _ _ _ (Act.put _ (some 181) _) _ from ?_)
       conv in (Act.put _ (some 181) _)=>simp[Act.put]
       repeat (refine ax (by decide) rfl fun K hK=>?_;go_simp;(first|refine hK _ ?_|(simp only[IntWalk.iteOmega];go_simp;refine hK _ ?_)|(go_bits;go_simp;refine hK _ ?_));clear hK K;try go_bits)
       refine aO (.int .i64 (m:Int)) (by decide) rfl rfl (fun W hW=>by have il:=F3.out W hW;clear hW;go_simp) ?_;refine(show aY _ _ _ _ _ _ (Act.put _ (some 183) _) _ from ?_)
       conv in (Act.put _ (some 183) _)=>simp[Act.put]
       repeat (refine ax (by decide) rfl fun K hK=>?_;go_simp;(first|refine hK _ ?_|(simp only[IntWalk.iteOmega];go_simp;refine hK _ ?_)|(go_bits;go_simp;refine hK _ ?_));clear hK K;try go_bits)
       refine aO (.int .i64 (m:Int)) (by decide) rfl rfl (fun W hW=>by have il:=F3.out W hW;clear hW;go_simp) ?_;refine(show aY _ _ _ _ _ _ (Act.put _ (some 187) _) _ from ?_)
       conv in (Act.put _ (some 187) _)=>simp[Act.put]
       repeat (refine ax (by decide) rfl fun K hK=>?_;go_simp;(first|refine hK _ ?_|(simp only[IntWalk.iteOmega];go_simp;refine hK _ ?_)|(go_bits;go_simp;refine hK _ ?_));clear hK K;try go_bits)
       refine bz rfl rfl (fun K hK=>?_);refine agC 30 (.tmp 2) (.tmp 181) rfl B fs rfl rfl 30 _ RB.out FI.out FZ.out kJ.out ?_;refine hK _ _ ⟨(setRow_other _ B gD _ (Nat.ne_of_gt JA.out)).trans RF.out,?_⟩;clear hK K
       repeat (refine ax (by decide) rfl fun K hK=>?_;go_simp;(first|refine hK _ ?_|(simp only[IntWalk.iteOmega];go_simp;refine hK _ ?_)|(go_bits;go_simp;refine hK _ ?_));clear hK K;try go_bits)
       refine cH ?_;go_wp2_with fail;exact agf (v:=.tuple #[.agg fs,.bool false]) (ai rfl _ _ B 30 fs (0,0) _ rfl (agd _ _ _ _ _ _ RB.out) _ rfl Tryz.underlying30 rfl FI.out) rfl (rN HN.out F5s.out kJ.out LF.out HB.out)
end Go.Proofs.YtcjioogololnoaaGreatDoor
