/- Of any text: the program's descriptors and the reference's are read and written alike (DescParses). No condition. -/
import Derived.Test.YtcjioogololnoaaGreatDoorU1
import Derived.Deep.DeepCutAuto
import Derived.Test.YtcjioogololnoaaGreatDoorU18
import Derived.Test.YtcjioogololnoaaGreatDoorTie
import Derived.Test.YtcjioogololnoaaGreatDoorCards
import Derived.Test.YtcjioogololnoaaGreatDoorU30
import Derived.Test.YtcjioogololnoaaGreatDoorU36
import Derived.ProofKit
import Derived.OpenShut
import Derived.LaidMore
import Derived.Lay
import Derived.SevenTiedAt
import Derived.Stop.Joined
import Derived.Stop.LaidErr
import Derived.HandedShaped
import Derived.Lib.LaidU8
import Derived.Shelf.Vars
set_option maxRecDepth 1000000
set_option maxHeartbeats 16000000
set_option linter.unusedVariables false
set_option linter.unusedSimpArgs false
namespace Go.Proofs.YtcjioogololnoaaGreatDoor
open Go Go.RowKit Go.Shelf
theorem acx (l3 k:Nat) (hk:k<l3) (a b:List Value) (ha:a[159]?=some (.int .i64 ((k:Int)+1))) (hb:b[159]?=some (.int .i64 (k:Int))):l3-(intOf (a.toArray.getD 159 undef)).toNat<l3-(intOf (b.toArray.getD 159 undef)).toNat:=by
 have e:∀(l:List Value) (v:Value),l[159]?=some v→l.toArray.getD 159 undef=v:=fun l v h=>by
  rw[Array.getD_eq_getD_getElem?,agr,h];rfl
 rw[e _ _ ha,e _ _ hb];simp[intOf];omega
theorem acy (k:Nat):Value.int .i64 ((k:Int)+1)=.int .i64 ((k+1:Nat):Int):=rfl
theorem JD (T Wd:List UInt8) (hT:T.length≤4096) (hW:Wd.length≤100) (W:World):Calls Tryz.prog 36 #[.string ⟨T.toArray⟩,.string ⟨Wd.toArray⟩] W fun e w'=>∃(u:List UInt8) (b:Bool),e=.returned (.tuple #[.string ⟨u.toArray⟩,.bool b])∧W=w'∧(b=true→au T Wd=some u)∧(b=false→au T Wd=none):=
 (qz ⟨T.toArray⟩ ⟨Wd.toArray⟩ (by show T.toArray.size≤4096;simpa using hT) (by show Wd.toArray.size≤100;simpa using hW) W).mono fun e w' ⟨⟨u,he,hu⟩,bD⟩=>⟨u.data.toList,_,he,bD,fun h=>by
  cases hk:au T Wd with
  |none=>rw[show au (⟨T.toArray⟩:ByteArray).data.toList (⟨Wd.toArray⟩:ByteArray).data.toList=none from hk] at h;cases h
  |some t=>rw[hu t hk],fun h=>by
  cases hk:au T Wd with
  |none=>rfl
  |some t=>rw[show au (⟨T.toArray⟩:ByteArray).data.toList (⟨Wd.toArray⟩:ByteArray).data.toList=some t from hk] at h;cases h⟩
theorem aeG {w0 wm:World} {g G F k:Nat} {rs ps ws:List (List UInt8)} {ks:List DKey} {kk:DKey} {Av:Option Addr} {n cv:Nat} {v:Int} {s:Bool} {kv0 kv1:Value}
 (h1:bJ (rs.take (k+1))=some (ks++[kk])) (Sg:wm.heap[g]?=some (.cells (DC (.slice Av n cv) v s kv0) 48 (0,0))) (O10:Ow wm (G+1) 9 (.slice Av n cv) (ST ws)) (K10:KS wm (F+1) (g+1) kv1 (ks++[kk]))
 (F10:wm.heap[F]?=some (.cells (ST ps).toArray 9 (0,0))) (B10:Below w0.heap.size w0 wm) (hg:w0.heap.size≤g) (hgG:g<G) (hF:g<F):
 ∃ks' kv',bJ (rs.take (k+1))=some ks'∧(wm.setCell ⟨g,3,none⟩ kv1).heap[g]?=some (.cells (DC (.slice Av n cv) v s kv') 48 (0,0))∧Ow (wm.setCell ⟨g,3,none⟩ kv1) (G+1) 9 (.slice Av n cv) (ST ws)∧KS (wm.setCell ⟨g,3,none⟩ kv1) (F+1) (g+1) kv' ks'∧
  (wm.setCell ⟨g,3,none⟩ kv1).heap[F]?=some (.cells (ST ps).toArray 9 (0,0))∧Below w0.heap.size w0 (wm.setCell ⟨g,3,none⟩ kv1):=
 ⟨ks++[kk],kv1,h1,IY Sg _,O10.setCell (p:=⟨g,3,none⟩) (fun r hr=>by have:=(O10.row r hr).1;show g≠r;omega) _,K10.setCell (by omega) (by omega) 3 _,(ago _ _ _ _ (show F≠g by omega)).trans F10,B10.setCell (p:=⟨g,3,none⟩) hg _⟩
theorem Rg (w0 w:World) (hE:Env w0) (hb:Below w0.heap.size w0 w) (g:Nat) (hg:w0.heap.size≤g)
 (aF:w.heap[g]?=some (.cells (DC aV 0 false aV) 48 (0,0))) (s:ByteArray) (hs:s.size≤4096):
 Calls Tryz.prog 18 #[.pointer (some ⟨g,0,none⟩),.string s] w (RD w0 g s.data.toList):=by
 obtain⟨S,hS⟩:=ab s.data.toList;have sU:S.length≤4096:=by rw[hS];simpa using hs
 have px:s=⟨S.toArray⟩:=by rw[hS]
 rw[←hS];subst px;clear hS hs;have HE:=aa hE;have HR:=aa aF;have tg:=aa sU;clear hE aF sU;have KI:=aa (show (Tryz.prog.info? 62).map (·.size)=some 75 by kernel_rfl);have KZ:=aa (show ((Tryz.prog.info? 62).bind (·.zero)).isSome=true by kernel_rfl);go_enter Tryz.func18,Tryz.ntmps18;go_wp2_with fail;obtain⟨w1,gu⟩:=ab (w.alloc (.cells #[.string ⟨#[115,104]⟩,.string ⟨#[119,115,104]⟩] 9))
 obtain⟨G,hG⟩:=ab w.heap.size;rw[←gu,←hG];have hgG:g<G:=by rw[hG];exact(af3.1 HR.out).1
 have hrG:w1.heap[G]?=some (.cells #[.string ⟨#[115,104]⟩,.string ⟨#[119,115,104]⟩] 9 (0,0)):=by rw[gu,hG];exact af4 w _
 have Mq:G<w1.heap.size:=(af3.1 hrG).1;have TP:w1.heap[g]?=some (.cells (DC aV 0 false aV) 48 (0,0)):=by rw[gu,Lib.alloc_old _ _ _ (by rw[←hG];exact hgG)];exact HR.out
 have aZ:Below w0.heap.size w0 w1:=by rw[gu];exact hb.alloc hb.size _
 have hbG:w0.heap.size≤G:=by rw[hG];exact hb.size
 have HRG:=aa hrG;have V4:=aa TP;clear gu hG HR hb hrG TP;go_loopw [1,22] (fun a i wr=>∃k:Nat,k≤2∧i=.int .i64 k∧a=.string ⟨(jo S k).2.toArray⟩∧(∃v,wr.heap[g]?=some (.cells (DC v 0 false aV) 48 (0,0))∧Ow wr (G+1) 9 v (ST (jo S k).1))∧wr.heap[G]?=some (.cells #[.string ⟨#[115,104]⟩,.string ⟨#[119,115,104]⟩] 9 (0,0))∧Below w0.heap.size w0 wr) (fun _ i _=>2-(intOf i).toNat)
 case atStart=>exact⟨0,by decide,rfl,rfl,⟨aV,V4.out,Ow.nil_ _ _ _ _⟩,HRG.out,aZ⟩
 case round=>
  obtain⟨k,hk,rfl,rfl,⟨v,hRk,ho⟩,acz,hbk⟩:=hrel;have Mp:=OY S k;have hln:=KN S k;have UQ:=FK S k;obtain⟨ws,UR⟩:∃ws,ws=(jo S k).1:=⟨_,rfl⟩;obtain⟨T,hTE⟩:∃T,T=(jo S k).2:=⟨_,rfl⟩;have hpE:jo S k=(ws,T):=by rw[UR,hTE]
  rw[hpE] at UQ;rw[←UR] at ho Mp;rw[←hTE] at hln⊢;have aeH:=aa UR;have HTE:=aa hTE;have HpE:=aa hpE;have sZ:=aa hRk;have HrG:=aa acz;clear UR hTE hpE V4 HRG hRk acz;obtain⟨Av,cv,rfl,dW,ez⟩:=ho.form;rw[ST_length] at dW;obtain⟨n,hn⟩:=ab ws.length;rw[←hn] at dW Mp;have Hn:=aa hn;clear hn;have c0:=Ds sZ.out;rw[ST_length,←Hn.out] at c0
  by_cases aL:k<2
  · obtain⟨wd,FQ⟩:=ab (VI k)
    have UQ:=UQ aL;rw[←FQ] at UQ
    have hcw:wr.cell? ⟨G,k,none⟩=some (.string ⟨wd.toArray⟩):=by
     rw[agb _ _ _ _ _ _ HrG.out,FQ]
     match k,aL with
     |0,_=>rfl
     |1,_=>rfl
    have JS:wd.length≤100:=by
     rw[FQ]
     match k,aL with
     |0,_=>decide
     |1,_=>decide
    obtain⟨U,hU⟩:=ab (au T wd);have UT:(⟨T.toArray⟩:ByteArray).size≤4096:=by show T.toArray.size≤4096;simp;have:=tg.out;omega
    have UU:(⟨wd.toArray⟩:ByteArray).size≤100:=by show wd.toArray.size≤100;simpa using JS
    cases U with
    |none=>
     have JE:=aa (tW ⟨T.toArray⟩ ⟨wd.toArray⟩ UT UU (by simp only[];exact hU.symm));have px:jo S (k+1)=(ws,T):=by rw[UQ,ox];simp only[];rw[←hU]
     have Oy:=aa px;have Ho:=aa ho;clear hU UQ px FQ ho hln JS UT UU;go_wp2_with (go_at_call 36;refine(JE.out _).mono ?_;rintro e w' ⟨u,rfl,bD⟩;rw[←bD];clear bD);exact⟨⟨k+1,by omega,rfl,by rw[Oy.out],⟨_,sZ.out,by rw[Oy.out];exact Ho.out⟩,HrG.out,hbk⟩,by simp[intOf];omega⟩
    |some t=>
     have JE:=aa (tV ⟨T.toArray⟩ ⟨wd.toArray⟩ t UT UU (by simp only[];exact hU.symm));have px:jo S (k+1)=(ws++[wd],t):=by rw[UQ,ox];simp only[];rw[←hU]
     have Oy:=aa px;rw[ST_length,←Hn.out] at ho sZ;have Ho:=aa ho;have Hbk:=aa hbk;have HGr:Hid (G<wr.heap.size):=aa (af3.1 HrG.out).1;have Vy:Hid (∀o,G+1≤(wr.alloc o).heap.size):=aa fun o=>by have:=HGr.out;rw[agn];omega
     clear hU UQ px FQ hln JS UT UU ho hbk;go_wp2_with (first|(go_at_call 36;refine(JE.out _).mono ?_;rintro e w' ⟨rfl,bD⟩;rw[←bD];clear bD)|(at_builtin;go_loud (refine aq (m:=1) (c:=1) (base:=G+1) (xs:=ST ws) (v:=.slice Av n cv) (A:=some ⟨wr.heap.size,0,none⟩) (B:=wr.heap.size+1) (news:=[.string ⟨wd.toArray⟩]) elT rfl (.tmp 37) (.tmp 39) rfl rfl (Ho.out.alloc _) rfl (Sl.one wr _ _) rfl (by simp;rfl) (by rw[ST_length,←Hn.out];simp[maxLen];omega) (by rw[ST_length,←Hn.out];omega) (Vy.out _) ?_);intro v3 w3 cZ fl j0;rw[u9] at cZ;obtain⟨A3,k3,rfl,_,_⟩:=cZ.form;obtain⟨q1,q2,q3⟩:=zn Hbk.out hg hgG HGr.out Ho.out fl;have R3:=aa (q1.trans sZ.out);have G3:=aa (q2.trans HrG.out);have Q3:=aa q3;have c3:=Ds R3.out;have f3:w3.frozen? ⟨g,0,none⟩=false:=agF _ _ _ _ _ R3.out;have VV:=aa cZ;clear q1 q2 q3 fl cZ j0));have cZ:=VV.out;rw[show (ST (ws++[wd])).length=ws.length+1 by simp] at cZ;exact⟨⟨k+1,by omega,rfl,by rw[Oy.out],⟨_,IX R3.out _,by rw[Oy.out];exact cZ.setCell (p:=⟨g,0,none⟩) (fun r hr=>by have:=(cZ.row r hr).1;show g≠r;omega) _⟩,(ago _ _ _ _ (show G≠g by omega)).trans G3.out,Q3.out.setCell (p:=⟨g,0,none⟩) hg _⟩,by simp[intOf];omega⟩
  obtain rfl:k=2:=by omega
  rw[ST_length,←Hn.out] at ho sZ;have Ho:=aa ho;have hWS:=Bc Av cv ws cf wr (by have h:=ho;rw[Hn.out] at h;exact Ow.sl (n:=ws.length) (c:=cv) h) (by rw[←Hn.out];omega);rw[←Hn.out] at hWS;have HWS:=aa hWS;have aak:aQ S=b5 ws (ws.contains cf) T:=by rw[FL,HpE.out]
  obtain⟨WS,acA⟩:=ab (ws.contains cf);rw[←acA] at HWS aak;have UW:=aa aak;clear aak acA hWS ho aL UQ;go_wp2_with fail;refine HWS.out.mono ?_;rintro e w' ⟨rfl,rfl⟩;clear HWS;go_wp2_with fail;obtain⟨w2,iN⟩:=ab (wr.alloc (.cells #[.string ⟨#[112,107,104]⟩,.string ⟨#[119,112,107,104]⟩] 9))
  obtain⟨G2,qo⟩:=ab wr.heap.size;rw[←iN,←qo];have hGz:G<wr.heap.size:=(af3.1 HrG.out).1;have sM:w2.heap[G2]?=some (.cells #[.string ⟨#[112,107,104]⟩,.string ⟨#[119,112,107,104]⟩] 9 (0,0)):=by rw[iN,qo];exact af4 wr _
  have Hr2:=aa sM;have R2:Hid (w2.heap[g]?=some (.cells (DC (.slice Av n cv) 0 false aV) 48 (0,0))):=aa (by rw[iN,Lib.alloc_old _ _ _ (by omega)];exact sZ.out);have O2:Hid (Ow w2 (G+1) 9 (.slice Av n cv) (ST ws)):=aa (by rw[iN];exact Ho.out.alloc _);have B2:Hid (Below w0.heap.size w0 w2):=aa (by rw[iN];exact hbk.alloc hbk.size _);have aeI:G<w2.heap.size:=by rw[iN,agn];omega
  have hlT:T.length≤4096:=agx hln tg.out;clear iN qo sM sZ Ho hbk c0 HrG aeH HTE HpE hGz hln hk;go_loopw [52] (fun i wq=>wq=w2∧∃k:Nat,k≤2∧i=.int .i64 k∧∀j,j<k→au T (rU j)=none) (fun i _=>2-(intOf i).toNat)
  case atStart=>exact⟨rfl,0,by decide,rfl,fun j hj=>absurd hj (Nat.not_lt_zero _)⟩
  case round=>
   obtain⟨Nz,k,hk,rfl,EJ⟩:=hrel;replace Nz:=Nz.symm;subst Nz;have Rh:=aa EJ;clear EJ;have c0:=Ds R2.out
   by_cases aL:k<2
   · obtain⟨wd,FQ⟩:=ab (rU k)
     have hcw:w2.cell? ⟨G2,k,none⟩=some (.string ⟨wd.toArray⟩):=by
      rw[agb _ _ _ _ _ _ Hr2.out,FQ]
      match k,aL with
      |0,_=>rfl
      |1,_=>rfl
     have JS:wd.length≤100:=by
      rw[FQ]
      match k,aL with
      |0,_=>decide
      |1,_=>decide
     obtain⟨U,hU⟩:=ab (au T wd);have UT:(⟨T.toArray⟩:ByteArray).size≤4096:=by show T.toArray.size≤4096;simpa using hlT
     have UU:(⟨wd.toArray⟩:ByteArray).size≤100:=by show wd.toArray.size≤100;simpa using JS
     cases U with
     |none=>
      have JE:=aa (tW ⟨T.toArray⟩ ⟨wd.toArray⟩ UT UU (by simp only[];exact hU.symm))
      have fN:Hid (∀j,j<k+1→au T (rU j)=none):=aa fun j hj=>by
       by_cases WL:j=k
       · rw[WL,←FQ];exact hU.symm
       exact Rh.out j (by omega)
      clear hU FQ JS UT UU;go_wp2_with (go_at_call 36;refine(JE.out _).mono ?_;rintro e w' ⟨u,rfl,bD⟩;rw[←bD];clear bD);exact⟨⟨trivial,k+1,by omega,rfl,fN.out⟩,by simp[intOf];omega⟩
     |some t=>
      have JE:=aa (tV ⟨T.toArray⟩ ⟨wd.toArray⟩ t UT UU (by simp only[];exact hU.symm));have HD:Hid (aQ S=KO ws WS wd t):=aa (by rw[UW.out,FQ];exact To ws WS T t k aL Rh.out (by rw[←FQ];exact hU.symm));have yb:t.length≤4096:=agx (jM hU.symm) hlT;have Hrk:=aa (tZ ⟨t.toArray⟩ (by show t.toArray.size≤4096;simpa using yb));clear hU FQ JS UT UU yb UW Rh
      cases WS with
      |true=>
       have je:Hid (aQ S=none):=aa (by rw[HD.out];rfl);clear HD Hrk
       cases n
       all_goals
        go_wp2_with (first|(go_at_call 36;refine(JE.out _).mono ?_;rintro e w' ⟨rfl,bD⟩;rw[←bD];clear bD)|(go_at_call 38;(with_reducible refine(bR _).mono ?_);rintro e w' ⟨rfl,rfl⟩));exact⟨rfl,.inl ⟨rfl,je.out⟩,B2.out⟩
      |false=>
       obtain⟨WB,hWB⟩:∃WB:ByteArray,WB=⟨wd.toArray⟩:=⟨_,rfl⟩;have hWl:WB.toList=wd:=by rw[hWB,agt]
       have Vy:Hid (∀o,G+1≤(w2.alloc o).heap.size):=aa fun o=>by rw[agn];omega
       obtain⟨okW,qF⟩:∃okW,okW=(decide (ws.length=0)||decide (wd=ca)):=⟨_,rfl⟩;have Je:Hid (aQ S=if okW then (aR t).map fun k=>⟨ws++[wd],0,false,[k]⟩ else none):=aa (by rw[HD.out,KO,←qF];simp only[Bool.not_false,Bool.true_and]);rw[←Hn.out] at qF;have HWB:=aa hWB;rw[←hWB] at hcw;clear HD hWB
       cases okW with
       |false=>
        have hq:¬n=0∧¬wd=ca:=by simpa using qF.symm
        have zL:((n:Int)==0)=false:=by simpa using hq.1
        have hwx:(WB.toList==[119,112,107,104])=false:=by rw[hWl];exact beq_eq_false_iff_ne.2 hq.2
        have je:Hid (aQ S=none):=aa (by rw[Je.out];rfl);rw[←HWB.out] at JE;clear Je Hrk hq qF hWl;go_wp2_with (first|(go_at_call 36;refine(JE.out _).mono ?_;rintro e w' ⟨rfl,bD⟩;rw[←bD];clear bD)|(go_at_call 38;(with_reducible refine(bR _).mono ?_);rintro e w' ⟨rfl,rfl⟩));exact⟨rfl,.inl ⟨rfl,je.out⟩,B2.out⟩
       |true=>
        have Gb:Hid (aQ S=(aR t).map fun k=>⟨ws++[wd],0,false,[k]⟩):=aa (by rw[Je.out];rfl)
        have hq:(((n:Int)==0)=true)∨(((n:Int)==0)=false∧(WB.toList==[119,112,107,104])=true):=by
         rw[hWl]
         by_cases h0:n=0
         · exact .inl (by rw[h0];rfl)
         refine .inr ⟨by simpa using h0,?_⟩;have h1:decide (n=0)=false:=af8 h0;rw[h1,Bool.false_or] at qF;have h2:=of_decide_eq_true qF.symm;rw[h2];rfl
        rw[←HWB.out] at JE;clear Je qF hWl;rcases hq with zL|⟨zL,hwx⟩
        all_goals
         go_wp2_with (first|(go_at_call 36;refine(JE.out _).mono ?_;rintro e w' ⟨rfl,bD⟩;rw[←bD];clear bD)|(go_at_call 38;(with_reducible refine(bg _).mono ?_);rintro e w' ⟨rfl,rfl⟩)|(at_builtin;go_loud (refine aq (m:=1) (c:=1) (base:=G+1) (xs:=ST ws) (v:=.slice Av n cv) (A:=some ⟨w2.heap.size,0,none⟩) (B:=w2.heap.size+1) (news:=[.string WB]) elT rfl (.tmp 82) (.tmp 84) rfl rfl (O2.out.alloc _) rfl (Sl.one w2 _ _) rfl (by simp;rfl) (by rw[ST_length,←Hn.out];simp[maxLen];omega) (by rw[ST_length,←Hn.out];omega) (Vy.out _) ?_);intro v3 w3 cZ fl j0;rw[HWB.out,u9] at cZ;obtain⟨A3,k3,rfl,_,_⟩:=cZ.form;obtain⟨q1,q2,q3⟩:=zn B2.out hg hgG aeI O2.out fl;have R3:=aa (q1.trans R2.out);have Q3:=aa q3;have c3:=Ds R3.out;have f3:w3.frozen? ⟨g,0,none⟩=false:=agF _ _ _ _ _ R3.out;have VV:=aa cZ;clear q1 q2 q3 fl cZ j0));obtain⟨w4,nE⟩:∃w4,w4=w3.setCell ⟨g,0,none⟩ (.slice A3 (ws.length+1) k3):=⟨_,rfl⟩;rw[←nE];have cZ:=VV.out;rw[show (ST (ws++[wd])).length=ws.length+1 by simp] at cZ;have R4:=aa (IX R3.out (.slice A3 (ws.length+1) k3));have O4:=aa (cZ.setCell (p:=⟨g,0,none⟩) (fun r hr=>by have:=(cZ.row r hr).1;show g≠r;omega) (.slice A3 (ws.length+1) k3));have B4:=aa (Q3.out.setCell (p:=⟨g,0,none⟩) hg (.slice A3 (ws.length+1) k3));rw[←nE] at R4 O4 B4;clear nE cZ R3 VV Q3 c3 f3;refine(Hrk.out w4 (HE.out.below B4.out)).mono ?_;rintro e w5 ⟨h5,eh⟩;have R5:=aa ((eh.block g (af3.1 R4.out).1).trans R4.out);have O5:=aa (O4.out.below eh (af2 _));have B5:=aa (B4.out.trans (eh.mono B4.out.size));rcases h5 with ⟨rfl,WG⟩|⟨kk,pv,sv,WG,rfl,gF⟩
         · have je:Hid (aQ S=none):=aa (by rw[Gb.out,show aR t=none from WG];rfl)
           clear WG;exact⟨rfl,.inl ⟨rfl,je.out⟩,B5.out⟩
         replace WG:aR t=some kk:=WG;have lJ:Hid (aQ S=some ⟨ws++[wd],0,false,[kk]⟩):=aa (by rw[Gb.out,WG];rfl);have qF:=Dt WG;obtain⟨cs,bB⟩:∃cs,cs=(eS kk pv sv).toArray:=⟨_,rfl⟩;rw[←bB];have HC1:Hid (cs.size=75):=aa (by rw[bB];simp[aT qF]);obtain⟨w6,uc⟩:=ab (w5.alloc (.cells cs 62));have R6:Hid (w6.heap[g]?=some (.cells (DC (.slice A3 (ws.length+1) k3) 0 false aV) 48 (0,0))):=aa (by rw[uc,Lib.alloc_old _ _ _ (af3.1 R5.out).1];exact R5.out);have O6:Hid (Ow w6 (G+1) 9 (.slice A3 (ws.length+1) k3) (ST (ws++[wd]))):=aa (by rw[uc];exact O5.out.alloc _);have B6:Hid (Below w0.heap.size w0 w6):=aa (by rw[uc];exact B5.out.alloc B5.out.size _);have B56:Below w5.heap.size w5 w6:=by rw[uc];exact(af5 _ w5).alloc (af2 _) _
         have hrk:w6.heap[w5.heap.size]?=some (.cells cs 62 (0,0)):=by rw[uc];exact af4 w5 _
         have Rz:g<w5.heap.size:=(af3.1 R5.out).1;have Rq:w0.heap.size≤w5.heap.size:=B5.out.size;have acB:KV w6 (g+1) kk pv sv:=(gF.mono (af3.1 R4.out).1).below B56;have acC:KV (w6.setCell ⟨g,3,none⟩ (.slice (some ⟨w5.heap.size,0,none⟩) 1 1)) (g+1) kk pv sv:=acB.kept (by simp) (fun j hj _=>ago _ _ _ _ (show j≠g by omega));have Su:Hid (KS (w6.setCell ⟨g,3,none⟩ (.slice (some ⟨w5.heap.size,0,none⟩) 1 1)) w0.heap.size (g+1) (.slice (some ⟨w5.heap.size,0,none⟩) 1 1) [kk]):=aa (YI qF acC (gF.mono (af3.1 R4.out).1) Rq cs bB ((ago _ _ _ _ (show w5.heap.size≠g by omega)).trans hrk));have WE:=aa uc;have c63:=OZ R6.out;have f63:w6.frozen? ⟨g,3,none⟩=false:=agF _ _ _ _ _ R6.out;clear WG qF bB uc B56 hrk gF eh acB acC;go_wp2_with (go_loud ((with_reducible refine jD ?b1 46 62 (.tmp 90) 75 cs ?b2 (some 91) ?b3 Tryz.underlying46 KI.out KZ.out (by decide) (by decide) ?b4 HC1.out ?_);(case b1=>rfl);(case b2=>rfl);(case b3=>rfl);(case b4=>rfl);(refine(show w6=_ from WE.out)▸?_)));go_end0;exact⟨.inr ⟨_,lJ.out,rfl,_,_,IY R6.out _,(O6.out.setCell (p:=⟨g,3,none⟩) (fun r hr=>by have:=(O6.out.row r hr).1;show g≠r;omega) _).mono (by omega),Su.out⟩,B6.out.setCell (p:=⟨g,3,none⟩) hg _⟩
   obtain rfl:k=2:=by omega
   go_wp2_with fail;have UX:Hid (aQ S=Pd ws (au T ec) (au T fW)):=aa (by rw[UW.out];exact Tt ws WS T Rh.out);have c2:=Ts R2.out;have f2:w2.frozen? ⟨g,2,none⟩=false:=agF _ _ _ _ _ R2.out;have JE:Hid (∀W,Calls Tryz.prog 36 #[.string ⟨T.toArray⟩,.string ⟨#[115,111,114,116,101,100,109,117,108,116,105]⟩] W fun e w'=>∃(u:List UInt8) (b:Bool),e=.returned (.tuple #[.string ⟨u.toArray⟩,.bool b])∧W=w'∧(b=true→au T ec=some u)∧(b=false→au T ec=none)):=aa (JD T ec hlT (by decide))
   have acD:Hid (∀W,Calls Tryz.prog 36 #[.string ⟨T.toArray⟩,.string ⟨#[109,117,108,116,105]⟩] W fun e w'=>∃(u:List UInt8) (b:Bool),e=.returned (.tuple #[.string ⟨u.toArray⟩,.bool b])∧W=w'∧(b=true→au T fW=some u)∧(b=false→au T fW=none)):=aa (JD T fW hlT (by decide))
   have HlT:=aa hlT;clear UW Rh aL hk c0;refine(JE.out _).mono ?_;rintro e w' ⟨u0,b0,rfl,bD,hu0,hu1⟩;rw[←bD];have Od:=aa hu0;have HU1:=aa hu1;clear bD JE hu0 hu1;go_upto_if 105 with (fail)
   go_cut [13,14] (fun s13 s14 wx=>∃(t:List UInt8) (b srt:Bool),s13=.string ⟨t.toArray⟩∧s14=.bool b∧Hid (wx=w2.setCell ⟨g,2,none⟩ (.bool srt))∧Hid (if b then aQ S=iI ws srt t∧t.length≤4096 else aQ S=none))
   case first=>
    cases b0 with
    |true=>
     go_wp2_with fail;go_meet;exact⟨u0,true,true,rfl,rfl,aa rfl,aa ⟨by rw[UX.out,Od.out (by trivial)];rfl,agx (jM (Od.out (by trivial))) HlT.out⟩⟩
    |false=>
     go_wp2_with (go_at_call 36;refine(acD.out _).mono ?_;rintro e w' ⟨u1,b1,rfl,bD,Vc,oV⟩;rw[←bD];have HV0:=aa Vc;have HV1:=aa oV;clear bD Vc oV);go_meet;refine⟨u1,b1,false,rfl,rfl,aa rfl,aa ?_⟩
     cases b1 with
     |true=>exact⟨by rw[UX.out,HU1.out (by trivial),HV0.out (by trivial)];rfl,agx (jM (HV0.out (by trivial))) HlT.out⟩
     |false=>show aQ S=none;rw[UX.out,HU1.out (by trivial),HV1.out (by trivial)];rfl
   case rest=>
    obtain⟨t,b,Mk,rfl,rfl,Hwx,HD0⟩:=hcut;clear acD Od HU1 UX
    cases b with
    |false=>
     have je:Hid (aQ S=none):=HD0;have B3:Hid (Below w0.heap.size w0 wc):=aa (by rw[Hwx.out];exact B2.out.setCell (p:=⟨g,2,none⟩) hg _);go_wp2_with (go_at_call 38;(with_reducible refine(bR _).mono ?_);rintro e w' ⟨rfl,rfl⟩);exact⟨rfl,.inl ⟨rfl,je.out⟩,B3.out⟩
    |true=>
     have HD:=aa HD0.out.1;have yb:t.length≤4096:=HD0.out.2;clear HD0;go_wp2_with (go_at_call 38;(with_reducible refine(bg _).mono ?_);rintro e w' ⟨rfl,rfl⟩);obtain⟨w3,mf⟩:=ab wc;rw[←mf];rw[Hwx.out] at mf;have R3:Hid (w3.heap[g]?=some (.cells (DC (.slice Av n cv) 0 Mk aV) 48 (0,0))):=aa (by rw[mf];exact Tn R2.out Mk);have O3:Hid (Ow w3 (G+1) 9 (.slice Av n cv) (ST ws)):=aa (by rw[mf];exact O2.out.setCell (p:=⟨g,2,none⟩) (fun r hr=>by have:=(O2.out.row r hr).1;show g≠r;omega) _);have B3:Hid (Below w0.heap.size w0 w3):=aa (by rw[mf];exact B2.out.setCell (p:=⟨g,2,none⟩) hg _);clear mf c2 f2;have Ue:(⟨t.toArray⟩:ByteArray).size≤8192:=by show t.toArray.size≤8192;simp;omega
     obtain⟨ps,pG⟩:=ab (aK 44 t);have tH:∀p∈ps,p.length≤4096:=fun p hp=>agx (mb 44 t p (by rw[←pG];exact hp)) yb
     have pF:=sX ⟨t.toArray⟩ 44 Ue w3 (HE.out.below B3.out);simp only[] at pF;have Je:Hid (aQ S=zp ws Mk ps):=aa (by rw[HD.out,Pe,←pG]);rw[←pG] at pF;obtain⟨q,hq⟩:=ab ps.length;rw[←hq] at pF;obtain⟨w4,nE⟩:=ab (w3.alloc (.cells (ST ps).toArray 9));obtain⟨F,hF⟩:=ab w3.heap.size;rw[←nE,←hF] at pF;have hgF:g<F:=by rw[hF];exact(af3.1 R3.out).1
     have hrF:w4.heap[F]?=some (.cells (ST ps).toArray 9 (0,0)):=by rw[nE,hF];exact af4 w3 _
     have R4:Hid (w4.heap[g]?=some (.cells (DC (.slice Av n cv) 0 Mk aV) 48 (0,0))):=aa (by rw[nE,Lib.alloc_old _ _ _ (by rw[←hF];exact hgF)];exact R3.out);have O4:Hid (Ow w4 (G+1) 9 (.slice Av n cv) (ST ws)):=aa (by rw[nE];exact O3.out.alloc _);have B4:Hid (Below w0.heap.size w0 w4):=aa (by rw[nE];exact B3.out.alloc B3.out.size _);have HrW:Hid (∀r,az (.slice Av n cv)=some r→r<F):=aa (fun r hr=>by rw[hF];exact(O3.out.row r hr).2);have uE:=aa pF;have HrF:=aa hrF;have zd:=aa tH;have Hq:=aa hq;clear pG pF hq nE hF hrF Ue yb tH R3 O3 B3 HD;refine(uE.out).mono ?_;rintro e w' ⟨rfl,bD⟩;rw[bD];clear bD uE
     by_cases h2:2≤q
     · have d2:decide ((2:Int)≤(q:Int))=true:=af9 (by omega)
       by_cases h17:q≤17
       · have d17:decide ((q:Int)≤17)=true:=af9 (by omega)
         obtain⟨p0,rs,qx⟩:∃p0 rs,ps=p0::rs:=by
          cases hh:ps with
          |nil=>have:=Hq.out;rw[hh] at this;simp at this;omega
          |cons a b=>exact⟨a,b,rfl⟩
         have lZ:q=rs.length+1:=by have:=Hq.out;rw[qx] at this;simpa using this
         have Gb:Hid (aQ S=match zi p0 with|none=>none|some m=>if m≤rs.length then (bJ rs).map fun ks=>⟨ws,m,Mk,ks⟩ else none):=aa (by
          rw[Je.out,qx];exact KP ws Mk p0 rs (by simp only[agm];omega))
         obtain⟨P0,zb⟩:∃P0:ByteArray,P0=⟨p0.toArray⟩:=⟨_,rfl⟩
         have c0:w4.cell? ⟨F,0,none⟩=some (.string P0):=by
          rw[agb _ _ _ _ _ _ HrF.out,zb,qx];rfl
         have hPz:P0.size≤8192:=by have:=zd.out p0 (by rw[qx];simp);rw[zb];show p0.toArray.size≤8192;simp;omega
         have MC:=aa zb;have FG:=aa qx;have PJ:=aa lZ;have HPz:=aa hPz;clear Je zb qx lZ hPz;have hPL:P0.data.toList=p0:=by rw[MC.out]
         have bW:Tryz.prog.follows .mixedOrders=true:=by kernel_rfl
         by_cases qF:∃v,Lib.atoiAll p0=.ok v
         · obtain⟨v,hv⟩:=qF
           obtain⟨oV,hv2⟩:=Lib.atoiAll_bounds hv;have HA:=aa (S6 P0 HPz.out v (by rw[hPL];exact hv));have HI:=aa (Dd v oV hv2);obtain⟨IV,hIV⟩:∃IV:ByteArray,IV=⟨(Lib.itoa v).toArray⟩:=⟨_,rfl⟩;rw[←hIV] at HI;obtain⟨okI,aal⟩:∃okI,okI=(IV.toList==P0.toList):=⟨_,rfl⟩
           have WH:okI=decide (Lib.itoa v=p0):=by
            rw[aal,hIV,MC.out,agt,agt];exact Bool.eq_iff_iff.2 (by rw[beq_iff_eq,agy])
           have HM:Hid (zi p0=if okI=true∧1≤v then some v.toNat else none):=aa (by rw[YL hv,WH];simp only[agy]);have Ml:=aa aal.symm;clear hPL hv hIV WH aal oV hv2;go_wp2_with (go_at_call 38;(with_reducible refine(bg _).mono ?_);rintro e w' ⟨rfl,rfl⟩);refine(HA.out w4).mono ?_;rintro e w5 ⟨rfl,eh⟩;have R5:=aa ((eh.block g (af3.1 R4.out).1).trans R4.out);have F5:=aa ((eh.block F (af3.1 HrF.out).1).trans HrF.out);have O5:=aa (O4.out.below eh (af2 _));have B5:=aa (B4.out.trans (eh.mono B4.out.size))
           have c5:w5.cell? ⟨F,0,none⟩=some (.string P0):=by
            rw[agb _ _ _ _ _ _ F5.out,MC.out,FG.out];rfl
           clear eh HA R4 O4 B4 HrF c0;go_wp2_with fail;refine an [(0,0),(1,0),(2,0),(3,0),(5,0),(6,0),(7,1),(4,2),(8,0),(9,0),(10,0),(11,0),(12,0),(13,0),(14,0),(15,0),(16,0),(17,0),(18,0),(19,0),(20,2)] 21 bW (by kernel_rfl) (by intro c a d v w h;cases d<;>exact h) ?_
           repeat ((first|refine ag rfl fun K hK=>?_|refine af rfl fun K hK=>?_);go_simp;(first|refine hK _ ?_|(simp only[IntWalk.iteOmega];go_simp;refine hK _ ?_)|(go_bits;go_simp;refine hK _ ?_));clear hK K;try go_bits)
           refine gg rfl rfl (fun K hK=>?_);go_wp2_with fail;refine(HI.out _ (HE.out.below B5.out.drew)).mono ?_;rintro e w6 ⟨rfl,fv⟩;have R6:=aa ((fv.block g (af3.1 R5.out).1).trans R5.out);have F6:=aa ((fv.block F (af3.1 F5.out).1).trans F5.out);have O6:Hid (Ow w6 (G+1) 9 (.slice Av n cv) (ST ws)):=aa (O5.out.drew.below fv (af2 _));have B6:Hid (Below w0.heap.size w0 w6):=aa (B5.out.drew.trans (fv.mono B5.out.size));have HX6:=aa (aj fv);clear fv HI R5 F5 O5 B5 c5;go_wp2_with fail;refine⟨.inr HX6.out,?_⟩;clear HX6
           cases okI with
           |false=>
            have hx:=Ml.out;have je:Hid (aQ S=none):=aa (by rw[Gb.out,HM.out];simp);clear HM Gb Ml;refine j4 (.tmp 135) (.tmp 138) 9 9 IV P0 false rfl rfl rfl rfl rfl Tryz.underlying9 hx ?_;refine(show ay _ _ _ _ _ _ (Act.put _ (some 139) _) _ from ?_)
            conv in (Act.put _ (some 139) _)=>simp[Act.put]
            clear hx
            repeat ((first|refine ag rfl fun K hK=>?_|refine af rfl fun K hK=>?_);go_simp;(first|refine hK _ ?_|(simp only[IntWalk.iteOmega];go_simp;refine hK _ ?_)|(go_bits;go_simp;refine hK _ ?_));clear hK K;try go_bits)
            refine gg rfl rfl (fun K hK=>?_);go_wp2_with (go_at_call 38;(with_reducible refine(bR _).mono ?_);rintro e w' ⟨rfl,rfl⟩);exact⟨rfl,.inl ⟨rfl,je.out⟩,B6.out⟩
           |true=>
            have hx:=Ml.out
            by_cases oV:1≤v
            · have vN:decide ((1:Int)≤v)=true:=af9 oV
              by_cases hvq:v<(q:Int)
              · have hdq:decide (v<(q:Int))=true:=af9 hvq
                have HD4:Hid (aQ S=(bJ rs).map fun ks=>⟨ws,v.toNat,Mk,ks⟩):=aa (by
                 rw[Gb.out,HM.out,if_pos ⟨rfl,oV⟩];simp only[];rw[if_pos (by have:=PJ.out;omega)])
                clear HM Gb Ml;refine j4 (.tmp 135) (.tmp 138) 9 9 IV P0 true rfl rfl rfl rfl rfl Tryz.underlying9 hx ?_;refine(show ay _ _ _ _ _ _ (Act.put _ (some 139) _) _ from ?_)
                conv in (Act.put _ (some 139) _)=>simp[Act.put]
                clear hx
                repeat ((first|refine ag rfl fun K hK=>?_|refine af rfl fun K hK=>?_);go_simp;(first|refine hK _ ?_|(simp only[IntWalk.iteOmega];go_simp;refine hK _ ?_)|(go_bits;go_simp;refine hK _ ?_));clear hK K;try go_bits)
                refine gg rfl rfl (fun K hK=>?_);go_wp2_with (go_at_call 38;(with_reducible refine(bg _).mono ?_);rintro e w' ⟨rfl,rfl⟩);refine⟨.inr (Ext.refl _),ak ?_⟩;have c1:=Pc R6.out;have f1:w6.frozen? ⟨g,1,none⟩=false:=agF _ _ _ _ _ R6.out;obtain⟨l3,hl3⟩:=ab rs.length;have ZG:q=l3+1:=by rw[hl3];exact PJ.out
                have Hl3:=aa hl3;subst ZG;clear hl3;go_wp2_with fail;obtain⟨w7,MW⟩:∃w7,w7=w6.setCell ⟨g,1,none⟩ (.int .i64 v):=⟨_,rfl⟩;rw[←MW];have R7:Hid (w7.heap[g]?=some (.cells (DC (.slice Av n cv) v Mk aV) 48 (0,0))):=aa (by rw[MW];exact Tm R6.out v);have O7:Hid (Ow w7 (G+1) 9 (.slice Av n cv) (ST ws)):=aa (by rw[MW];exact O6.out.setCell (p:=⟨g,1,none⟩) (fun r hr=>by have:=(O6.out.row r hr).1;show g≠r;omega) _);have B7:Hid (Below w0.heap.size w0 w7):=aa (by rw[MW];exact B6.out.setCell (p:=⟨g,1,none⟩) hg _);have F7:Hid (w7.heap[F]?=some (.cells (ST ps).toArray 9 (0,0))):=aa (by rw[MW];exact(ago _ _ _ _ (show F≠g by omega)).trans F6.out);have H17:=aa h17;have HmN:Hid ((v.toNat:Int)=v):=aa (by omega);clear MW R6 O6 B6 F6 c1 f1 vN hdq hvq oV d2 d17 h2 h17;go_loopw [159] (fun i wr=>∃k:Nat,k≤l3∧i=.int .i64 k∧∃ks kv,bJ (rs.take k)=some ks∧wr.heap[g]?=some (.cells (DC (.slice Av n cv) v Mk kv) 48 (0,0))∧Ow wr (G+1) 9 (.slice Av n cv) (ST ws)∧KS wr (F+1) (g+1) kv ks∧wr.heap[F]?=some (.cells (ST ps).toArray 9 (0,0))∧Below w0.heap.size w0 wr) (fun i _=>l3-(intOf i).toNat)
                case atStart=>exact⟨0,agu _,rfl,[],aV,rfl,R7.out,O7.out,YK _ _ _,F7.out,B7.out⟩
                case round=>
                 obtain⟨k,hk,rfl,ks,kv,hks,hRk,hOk,hKk,hFk,hBk⟩:=hrel;have Hks:=aa hks;have sZ:=aa hRk;have HOk:=aa hOk;have HKk:=aa hKk;have HFk:=aa hFk;have Es:=aa hBk;clear hks hRk hOk hKk hFk hBk R7 O7 B7 F7;have h16:l3≤16:=by have:=H17.out;omega
                 by_cases aL:k<l3
                 · have hkr:k<rs.length:=by have:=Hl3.out;omega
                   obtain⟨p,hp⟩:∃p,p=rs[k]:=⟨_,rfl⟩;have BV:p∈ps:=by rw[FG.out,hp];exact List.mem_cons_of_mem _ (agl _)
                   have IL:wr.cell? ⟨F,1+k,none⟩=some (.string ⟨p.toArray⟩):=by
                    rw[agb _ _ _ _ _ _ HFk.out,agr,FG.out,Nat.add_comm,hp];rw[age (by simp;omega),js];simp
                   have Hrk:=aa (tZ ⟨p.toArray⟩ (by show p.toArray.size≤4096;simpa using zd.out p BV));have oh:Hid (rs.take (k+1)=rs.take k++[p]):=aa (by rw[agh hkr,hp]);have HgF:Hid (g<F):=aa (by omega);have Ic:Hid (p∈rs):=aa (by rw[hp];exact agl _);have c3:=OZ sZ.out
                   have hkz:ks.length≤1000:=by
                    have h1:=qB _ _ Hks.out;rw[agj] at h1;have h2:=Hq.out;have h3:=H17.out;omega
                   clear hp BV;go_wp2_with fail;refine an [(0,0),(1,0),(2,0),(3,0),(4,1),(5,0),(6,2),(7,2),(8,2),(9,2),(10,2),(11,2)] 8 bW (by kernel_rfl) (by intro c a d v w h;cases d<;>exact h) ?_
                   repeat ((first|refine ag rfl fun K hK=>?_|refine af rfl fun K hK=>?_);go_simp;(first|refine hK _ ?_|(simp only[IntWalk.iteOmega];go_simp;refine hK _ ?_)|(go_bits;go_simp;refine hK _ ?_));clear hK K;try go_bits)
                   refine ae rfl rfl (fun K hK=>?_);go_wp2_with fail;refine(Hrk.out _ (HE.out.below Es.out.drew)).mono ?_;rintro e w8 ⟨h8,eR⟩;have hB8:Below w0.heap.size w0 w8:=Es.out.drew.trans (eR.mono Es.out.size);have B8':=aa hB8;rcases h8 with ⟨rfl,hn8⟩|⟨kk,pv,sv,Vh,rfl,gF⟩
                   · have je:Hid (aQ S=none):=aa (by rw[HD4.out,oz rs p Ic.out hn8];rfl)
                     clear hn8 eR hB8;exact⟨rfl,.inl ⟨rfl,je.out⟩,B8'.out⟩
                   replace Vh:aR p=some kk:=Vh;have aam:=Dt Vh;have Rc:Hid (bJ (rs.take (k+1))=some (ks++[kk])):=aa (by rw[oh.out];exact oy _ _ _ _ Hks.out Vh);have jR:g<wr.heap.size:=(af3.1 sZ.out).1;have hFk:F<wr.heap.size:=(af3.1 HFk.out).1;have R8:w8.heap[g]?=some (.cells (DC (.slice Av n cv) v Mk kv) 48 (0,0)):=(eR.block g jR).trans sZ.out;have F8:w8.heap[F]?=some (.cells (ST ps).toArray 9 (0,0)):=(eR.block F hFk).trans HFk.out;have O8:Ow w8 (G+1) 9 (.slice Av n cv) (ST ws):=HOk.out.drew.below eR (af2 _);have K8:KS w8 (F+1) (g+1) kv ks:=KS.below (W:=wr.drew) HKk.out eR
                   have aan:∀r,kv.ownBlock=some r→F+1≤r∧r<wr.heap.size:=fun r hr=>by
                    obtain⟨gb,_,_,h3⟩:=HKk.out;exact h3.lt r hr
                   have Rd:=gF.offLo kv.ownBlock (fun r hr=>(aan r hr).2);have acE:KV w8 (g+1) kk pv sv:=gF.mono jR;have KX:wr.heap.size≤w8.heap.size:=eR.size;obtain⟨cs,bB⟩:∃cs,cs=(eS kk pv sv).toArray:=⟨_,rfl⟩;have dX:cs.size=75:=by rw[bB];simp[aT aam]
                   rw[←bB];obtain⟨w9,MX⟩:=ab (w8.alloc (.cells cs 62));obtain⟨gN,ki⟩:=ab w8.heap.size;have HX8:=aa (aj eR);have HX9:Hid (Ext w8 w9):=aa (by rw[MX];exact aW _ _);have Et:Below w8.heap.size w8 w9:=by rw[MX];exact(af5 _ w8).alloc (af2 _) _
                   have YP:w8.heap.size≤w9.heap.size:=Et.size;have R9:=aa ((Et.block g (by omega)).trans R8);have F9:=aa ((Et.block F (by omega)).trans F8);have O9:=aa (O8.below Et (af2 _));have K9:=aa (K8.below Et);have B9:=aa (hB8.trans (Et.mono hB8.size));have V9:=aa (acE.below Et);have N9:Hid (w9.heap[gN]?=some (.cells (eS kk pv sv).toArray 62 (0,0))):=aa (by rw[MX,ki,←bB];exact af4 w8 _);have acF:F+1≤w9.heap.size:=by omega
                   have Re:=aa Rd;have aeJ:=aa aam;have kL:=aa dX;have HW9:=aa MX;have HGN:=aa ki;have UY:=aa aan;have OF:g<w9.heap.size:=by omega
                   have hF9:F<w9.heap.size:=by omega
                   have Hg9:=aa OF;have HF9:=aa hF9;have aeK:=aa acF;clear eR hB8 Vh aam jR hFk R8 F8 O8 K8 aan Rd acE KX bB dX MX ki Et YP gF acF OF hF9 B8';go_wp2_with fail;refine⟨.inr HX8.out,?_⟩;clear HX8;refine ae rfl rfl (fun K hK=>?_);refine zo 46 62 (.tmp 169) 75 cs rfl Tryz.underlying46 KI.out KZ.out (by decide) (by decide) rfl kL.out ?_;refine(show K (Act.put _ (some 170) _) _ from ?_)
                   conv in (Act.put _ (some 170) _)=>simp[Act.put]
                   refine hK _ _ ⟨.inr (by rw[←HW9.out];exact HX9.out),?_⟩;clear hK K;rw[←HW9.out,←HGN.out];clear HX9;refine ae rfl rfl (fun K hK=>?_);refine Pf (.tmp 167) (.tmp 170) rfl K9.out aeJ.out V9.out Re.out.1 Re.out.2 gN N9.out hkz aeK.out rfl rfl ?_;intro A10 n10 c10 wm Rf BM;have Sg:=aa ((BM.block g Hg9.out (fun e=>by have:=(UY.out g e.symm).1;omega)).trans R9.out);have F10:=aa ((BM.block F HF9.out (fun e=>by have:=(UY.out F e.symm).1;omega)).trans F9.out);have O10:=aa (O9.out.kept BM (fun r hr e=>by have h1:=(UY.out r e).1;have h2:=HrW.out r hr;omega));have B10:=aa (B9.out.grown BM B9.out.size (fun r hr=>by have:=(UY.out r hr).1;omega));have K10:=aa Rf;clear Rf BM;refine(show K (Act.put _ (some 171) _) _ from ?_)
                   conv in (Act.put _ (some 171) _)=>simp[Act.put]
                   refine hK _ _ ⟨.inl (by decide),?_⟩;clear hK K c3;have c3:=OZ Sg.out;have f3:wm.frozen? ⟨g,3,none⟩=false:=agF _ _ _ _ _ Sg.out;refine ae rfl rfl (fun K hK=>?_);go_wp2_with fail;refine⟨.inl (by decide),?_⟩;refine ae rfl rfl (fun K hK=>?_);go_wp2_with fail;refine⟨.inl (by decide),?_⟩;refine ae rfl rfl (fun K hK=>?_);go_wp2_with fail;refine⟨.inl (by decide),ak ?_⟩;go_wp2_with fail;refine⟨⟨_,_,_,_,_,_,_,_,_,_,_,_,_,_,_,_,_,?_,rfl⟩,?_⟩
                   · exact⟨k+1,aL,acy k,aeG Rc.out Sg.out O10.out K10.out F10.out B10.out hg hgG HgF.out⟩
                   exact acx l3 k aL _ _ rfl rfl
                 obtain rfl:k=l3:=by omega
                 have hT:rs.take k=rs:=af7 (by have:=Hl3.out;omega);have lJ:Hid (aQ S=some ⟨ws,v.toNat,Mk,ks⟩):=aa (by rw[HD4.out,←hT,Hks.out];rfl);clear hT aL;go_wp2_with fail;go_end0;exact⟨.inr ⟨_,lJ.out,rfl,_,_,by simp only[HmN.out];exact sZ.out,HOk.out.mono (by omega),HKk.out.mono (by omega)⟩,Es.out⟩
              have hdq:decide (v<(q:Int))=false:=af8 hvq
              have je:Hid (aQ S=none):=aa (by
               rw[Gb.out,HM.out,if_pos ⟨rfl,oV⟩];simp only[];rw[if_neg (by have:=PJ.out;omega)])
              clear HM Gb Ml;refine j4 (.tmp 135) (.tmp 138) 9 9 IV P0 true rfl rfl rfl rfl rfl Tryz.underlying9 hx ?_;refine(show ay _ _ _ _ _ _ (Act.put _ (some 139) _) _ from ?_)
              conv in (Act.put _ (some 139) _)=>simp[Act.put]
              clear hx
              repeat ((first|refine ag rfl fun K hK=>?_|refine af rfl fun K hK=>?_);go_simp;(first|refine hK _ ?_|(simp only[IntWalk.iteOmega];go_simp;refine hK _ ?_)|(go_bits;go_simp;refine hK _ ?_));clear hK K;try go_bits)
              refine gg rfl rfl (fun K hK=>?_);go_wp2_with (go_at_call 38;(with_reducible refine(bR _).mono ?_);rintro e w' ⟨rfl,rfl⟩);exact⟨rfl,.inl ⟨rfl,je.out⟩,B6.out⟩
            have vN:decide ((1:Int)≤v)=false:=af8 oV;have je:Hid (aQ S=none):=aa (by rw[Gb.out,HM.out,if_neg (fun h=>oV h.2)]);clear HM Gb Ml;refine j4 (.tmp 135) (.tmp 138) 9 9 IV P0 true rfl rfl rfl rfl rfl Tryz.underlying9 hx ?_;refine(show ay _ _ _ _ _ _ (Act.put _ (some 139) _) _ from ?_)
            conv in (Act.put _ (some 139) _)=>simp[Act.put]
            clear hx
            repeat ((first|refine ag rfl fun K hK=>?_|refine af rfl fun K hK=>?_);go_simp;(first|refine hK _ ?_|(simp only[IntWalk.iteOmega];go_simp;refine hK _ ?_)|(go_bits;go_simp;refine hK _ ?_));clear hK K;try go_bits)
            refine gg rfl rfl (fun K hK=>?_);go_wp2_with (go_at_call 38;(with_reducible refine(bR _).mono ?_);rintro e w' ⟨rfl,rfl⟩);exact⟨rfl,.inl ⟨rfl,je.out⟩,B6.out⟩
         have nh:zi p0=none:=YM (fun v hv=>qF ⟨v,hv⟩);have HA:=aa (S7 P0 HPz.out (fun v hv=>qF ⟨v,by rw[←hPL];exact hv⟩) w4 (HE.out.below B4.out));have je:Hid (aQ S=none):=aa (by rw[Gb.out,nh]);clear hPL qF nh Gb;go_wp2_with (go_at_call 38;(with_reducible refine(bg _).mono ?_);rintro e w' ⟨rfl,rfl⟩);refine HA.out.mono ?_;rintro e w5 ⟨x5,t5,p5,rfl,eh⟩;have B5:=aa (B4.out.trans (eh.mono B4.out.size));have c5:w5.cell? ⟨F,0,none⟩=some (.string P0):=eh.cell (p:=⟨F,0,none⟩) (af3.1 HrF.out).1 |>.trans c0;clear eh HA R4 O4 B4 HrF c0;go_wp2_with fail;refine an [(0,0),(1,0),(2,0),(3,0),(5,0),(6,0),(7,1),(4,2),(8,0),(9,0),(10,0),(11,0),(12,0),(13,0),(14,0),(15,0),(16,0),(17,0),(18,0),(19,0),(20,2)] 21 bW (by kernel_rfl) (by intro c a d v w h;cases d<;>exact h) ?_
         repeat ((first|refine ag rfl fun K hK=>?_|refine af rfl fun K hK=>?_);go_simp;(first|refine hK _ ?_|(simp only[IntWalk.iteOmega];go_simp;refine hK _ ?_)|(go_bits;go_simp;refine hK _ ?_));clear hK K;try go_bits)
         refine Bd rfl rfl ?_
         repeat ((first|refine ag rfl fun K hK=>?_|refine af rfl fun K hK=>?_);go_simp;(first|refine hK _ ?_|(simp only[IntWalk.iteOmega];go_simp;refine hK _ ?_)|(go_bits;go_simp;refine hK _ ?_));clear hK K;try go_bits)
         refine gg rfl rfl (fun K hK=>?_);go_wp2_with (go_at_call 38;(with_reducible refine(bR _).mono ?_);rintro e w' ⟨rfl,rfl⟩);exact⟨rfl,.inl ⟨rfl,je.out⟩,B5.out.drew⟩
       have d17:decide ((q:Int)≤17)=false:=af8 (by omega);have je:Hid (aQ S=none):=aa (by rw[Je.out];exact Du ws Mk ps (by rw[←Hq.out];omega));clear Je h17;go_wp2_with (go_at_call 38;(with_reducible refine(bR _).mono ?_);rintro e w' ⟨rfl,rfl⟩);exact⟨rfl,.inl ⟨rfl,je.out⟩,B4.out⟩
     have d2:decide ((2:Int)≤(q:Int))=false:=af8 (by omega);have je:Hid (aQ S=none):=aa (by rw[Je.out];exact Du ws Mk ps (by rw[←Hq.out];omega));clear Je h2;go_wp2_with (go_at_call 38;(with_reducible refine(bR _).mono ?_);rintro e w' ⟨rfl,rfl⟩);exact⟨rfl,.inl ⟨rfl,je.out⟩,B4.out⟩
end Go.Proofs.YtcjioogololnoaaGreatDoor
namespace Go.Proofs.YtcjioogololnoaaGreatDoor
open Go.ChangeShapes Go.WideShapes Go.ChangeAt Go.RowKit
open Go.ChangeMaps (open_string shut_string)
theorem Eu {W:World} (AS:W.ShapedOpen Tryz.prog) (hL:laidMet Tryz.prog Rows.descParsesRow.laid W):Env W where
 max:=cell_of_shapedOpen_int (zero:=#[.int .i64 0]) (t:=3) AS (of_decide_eq_true (by kernel_rfl)) (by kernel_rfl) rfl (by kernel_rfl) (by kernel_rfl) Tryz.underlying3
 pow:=by
  obtain⟨g,t,cs,fuel,p,hg,ht,hv,hd⟩:=Lib.laidMet.reads hL (n:= "internal/strconv.uint64pow10") (d:=Rows.laid_internal_strconv_uint64pow10) (.tail _ (.tail _ (.head _)));obtain rfl:=Option.some.inj ((show Tryz.prog.globalNamed "internal/strconv.uint64pow10"=some 3 by kernel_rfl).symm.trans hg);obtain rfl:=Option.some.inj ((show (Tryz.prog.globals[3]?).map (·.type)=some 218 by kernel_rfl).symm.trans ht);unfold Lib.TabIs;rw[hv,←Lib.cells_of_tab Tryz.underlying218 Tryz.underlying78 (by kernel_rfl) (by kernel_rfl) hd]
 syn:=by
  obtain⟨g,t,cs,fuel,p,hg,ht,hv,hd⟩:=Lib.laidMet.reads hL (n:= "strconv.ErrSyntax") (d:=Rows.laid_strconv_ErrSyntax) (.tail _ (.tail _ (.tail _ (.tail _ (.tail _ (.head _))))));obtain rfl:=Option.some.inj ((show Tryz.prog.globalNamed "strconv.ErrSyntax"=some 1 by kernel_rfl).symm.trans hg);obtain rfl:=Option.some.inj ((show (Tryz.prog.globals[1]?).map (·.type)=some 90 by kernel_rfl).symm.trans ht);obtain⟨_,u,v,bB,_,_⟩:=iface_of_trod Tryz.underlying90 hd;exact⟨u,v,hv.trans (congrArg some (Array.toList_inj.1 bB))⟩
 ran:=by
  obtain⟨g,t,cs,fuel,p,hg,ht,hv,hd⟩:=Lib.laidMet.reads hL (n:= "strconv.ErrRange") (d:=Rows.laid_strconv_ErrRange) (.tail _ (.tail _ (.tail _ (.tail _ (.head _)))));obtain rfl:=Option.some.inj ((show Tryz.prog.globalNamed "strconv.ErrRange"=some 2 by kernel_rfl).symm.trans hg);obtain rfl:=Option.some.inj ((show (Tryz.prog.globals[2]?).map (·.type)=some 90 by kernel_rfl).symm.trans ht);obtain⟨_,u,v,bB,_,_⟩:=iface_of_trod Tryz.underlying90 hd;exact⟨u,v,hv.trans (congrArg some (Array.toList_inj.1 bB))⟩
theorem If:tC:=fun s w hs=>Mi s hs w
theorem Mm:rV:=fun w0 w hE hb g hg aF s hs=>Rg w0 w hE hb g hg aF s hs
theorem UZ:ownKnob Tryz.prog.godebug=none:=by kernel_rfl
theorem Ig (os:Os) (started:os.Started) (H:Type) (enc:TypeId×Value→H):
 ReturnsInHanded {} Tryz.checked os 3 .any (fun w args=>(Rows.descParsesSpec.pre enc Tryz.prog Tryz.f3 Rows.descParsesRow.domain false w args∧laidMetH Tryz.prog Rows.descParsesRow.laid w)∧sizedMet enc Tryz.prog Tryz.f3 (OpenSpec.ofChange Rows.descParsesSpec) false w args)
  (Rows.descParsesSpec.post enc Tryz.prog Tryz.f3 false true false false):=by
 refine returnsInHanded_of_calls UZ started (by kernel_rfl)
  (ChangeSpec.witness_shaped (enc:=enc) (C:=Tryz.checked) (os:=os) (X:=fun w _=>laidMetH Tryz.prog Rows.descParsesRow.laid w) false (World.laidAll Tryz.prog os Rows.descParsesRow.laid) #[.string ⟨#[]⟩] 8 (World.laidAll_os _ _ _)
   (World.shaped_of_ZipB (by kernel_rfl) (by kernel_rfl)) (by kernel_rfl) (by kernel_rfl) (by kernel_rfl)
   (by rw[MakeChecks.laidMetH_plain _ _ _ (by kernel_rfl)];exact laidMet_laidAll _ (by kernel_rfl) (by kernel_rfl))) ?_
 intro w tape i _ AS _ qF po _;obtain⟨_,_,_,fn',acG,_,_,_,_,JF⟩:=qF;obtain rfl:fn'=Tryz.f3:=Option.some.inj (acG.symm.trans Tryz.func3);obtain⟨⟨⟨ds,gs,before,hw,_⟩,hx⟩,_⟩:=po;have hW:=DataW.Whole.of_heap (w':=w.forCall tape i) (by rfl) hw;have hL:laidMetH Tryz.prog Rows.descParsesRow.laid (w.forCall tape i):=hx.of_heap (by rfl);rw[MakeChecks.laidMetH_plain _ _ _ (by kernel_rfl)] at hL;have hE:=Eu AS hL;obtain⟨W,hWd⟩:=ab (w.forCall tape i);obtain⟨args,acH⟩:=ab i.args;rw[←hWd] at hW hE JF⊢;rw[←acH] at hW JF⊢;have acI:∀(j:Nat) t v,Tryz.f3.params[j]?=some t→args[j]?=some v→Value.okWide Tryz.prog W .any w.heap.size t v:=JF;clear hw hx AS hL acG JF;have hW':=hW;obtain⟨p,q,hA0,hV,rfl,_,_⟩:=hW;have hA:DataW.TrodAll enc Tryz.prog W 0 (fun _=>true) true Tryz.f3.params.toList args.toList ds p:=hA0;rw[Tryz.params3] at hA acI;obtain⟨v0,d0,Tf,rfl,h0⟩:=trodAll_one hA;obtain⟨rfl,rfl⟩:=trodVars_none hV;subst Tf;obtain⟨s,rfl,rfl,rfl,hs⟩:=open_string Tryz.underlying9 (acI 0 9 v0 rfl rfl) h0;refine(uO Mm If s W hE).mono fun e W' ⟨he,hb⟩=>?_
 subst he;refine ChangeSpec.post_blind (W:=W) ?_;exact⟨_,_,_,[],_,[],hW',trodAll_mk1 (shut_bool Tryz.underlying4 _),trodAll_mk1 (shut_string Tryz.underlying9 hs),rfl,hb.frame _,fun h=>by cases h⟩
theorem Mn:Rows.DescParsesSaid:=
 OpenClaim.holds_of_wide 3 Tryz.f3 rfl rfl rfl rfl rfl rfl rfl ⟨rfl,rfl,rfl,rfl,rfl⟩ rfl rfl rfl rfl rfl (by kernel_rfl) Tryz.func3 (by kernel_rfl)
  (of_decide_eq_true (by kernel_rfl)) (by unfold Func.isWrapper;first|(rw[if_pos (by decide+kernel)];kernel_rfl)|(rw[if_neg (by decide+kernel)];exact⟨rfl,rfl⟩))
  (fun os started H enc _=>Ig os started H enc)
theorem descParses_card:Rows.DescParsesCardSaid:=
 Claim7.holds_tied_plain_at .later [] [.data,.data,.data,.data,.sentinel,.sentinel,.pinned] true (true,"4aef7aa8fe64e9aae84ae2c2f4cc4384f1dcc42bfe99c06f642fde0edc04d6ea") true Mn (fun _ h=>by cases h) (by kernel_rfl) (fun _ h=>by cases h) descParses_row_tie rfl ⟨rfl,rfl⟩ (by kernel_rfl) rfl
  (fun f fn hf hfn=>by
   obtain rfl:f=3:=Option.some.inj ((show Tryz.prog.funcNamed "strongbox/strongboxlaw20.DescParses"=some 3 by kernel_rfl).symm.trans hf) |>.symm;obtain rfl:fn=Tryz.f3:=(Option.some.inj (Tryz.func3.symm.trans hfn)).symm
   exact⟨by kernel_rfl,fun j t ht=>by
    rw[Tryz.params3] at ht;have hm:t∈[9]:=by simpa using Array.mem_of_getElem? ht
    have dV:([9].all fun u=>!Tryz.prog.wantsStandIn u)=true:=by kernel_rfl
    exact(show Tryz.prog.wantsStandIn t=false by simpa using List.all_eq_true.1 dV t hm)⟩)
  (by kernel_rfl)
#print axioms descParses_card
end Go.Proofs.YtcjioogololnoaaGreatDoor
