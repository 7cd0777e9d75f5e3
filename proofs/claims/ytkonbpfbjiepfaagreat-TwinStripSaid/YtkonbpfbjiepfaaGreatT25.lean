/- Lemmas of the proof, with their conditions. -/
import Derived.Test.YtkonbpfbjiepfaaGreatT10
import Derived.Test.YtkonbpfbjiepfaaGreatT23
namespace Go.Proofs.YtkonbpfbjiepfaaGreat
set_option linter.unusedSimpArgs false
set_option linter.unusedVariables false
set_option maxHeartbeats 4000000
set_option maxRecDepth 20000
section
open Go.RowKit
structure PEv where
 k:Int
 a:Int
 b:Int
 y:Int
 p:List Int
def evo (p:Value×PEv):Value×POp:=(p.1,⟨p.2.k,p.2.a,p.2.b,p.2.y,[]⟩)
theorem elemEvs:ElemN Tryz.prog 84 88 (.agg #[.int .i64 0,.int .i64 0,.int .i64 0,.int .i64 0,.slice none 0 0]) 5 56:=ElemN.of Tryz.underlying84 (by kernel_rfl) rfl (by omega)
def PkRd (w:World) (v:Value) (zs:List Int):Prop:=∃ A n c,v=.slice A n c∧n≤9223372036854775807∧Rd w A n (VI zs)
theorem PkRd.keep0 {w w':World} {v:Value} {zs:List Int} (h:PkRd w v zs) (hk:Keep [] w w'):PkRd w' v zs:=by
 obtain⟨A,n,c,e,h1,h2⟩:=h;exact⟨A,n,c,e,h1,h2.keep hk⟩
def EvsRd (w:World) (A:Option Addr) (n:Nat) (es:List (Value×PEv)):Prop:=OpsRd w A n (es.map evo)∧∀ p∈es,PkRd w p.1 p.2.p
theorem EvsRd.keep0 {w w':World} {A:Option Addr} {n:Nat} {es:List (Value×PEv)} (h:EvsRd w A n es) (hk:Keep [] w w'):EvsRd w' A n es:=⟨h.1.keep hk,fun p hp=>(h.2 p hp).keep0 hk⟩
theorem EvsRd.len {w:World} {A:Option Addr} {n:Nat} {es:List (Value×PEv)} (h:EvsRd w A n es):es.length=n:=by simpa using h.1.2
theorem EvsRd.at_ {w:World} {A:Option Addr} {n:Nat} {es:List (Value×PEv)} (h:EvsRd w A n es) {i:Nat} (hi:i<n) (hl:i<es.length) :
 ∃ b o,A=some ⟨b,o,none⟩∧b<w.heap.size∧w.cell? ⟨b,o+i*5,none⟩=some (.int .i64 es[i].2.k)∧w.cell? ⟨b,o+i*5+1,none⟩=some (.int .i64 es[i].2.a)∧w.cell? ⟨b,o+i*5+2,none⟩=some (.int .i64 es[i].2.b) ∧
   w.cell? ⟨b,o+i*5+3,none⟩=some (.int .i64 es[i].2.y)∧w.cell? ⟨b,o+i*5+4,none⟩=some es[i].1∧PkRd w es[i].1 es[i].2.p:=by
 obtain⟨b,o,h0,h1,h2,h3,h4,h5,h6⟩:=h.1.at_ hi (by simpa using hl);simp only[List.getElem_map,evo] at h2 h3 h4 h5 h6;exact⟨b,o,h0,h1,h2,h3,h4,h5,h6,h.2 _ (List.getElem_mem hl)⟩
theorem ElemN.run_lh {P:Program} {t e:TypeId} {z:Value} {s bytes:Nat} (E:ElemN P t e z s bytes) (A:Option Addr) (n cap:Nat) (kl kh:IntKind) (l h:Int) (h0:0≤l) (h1:l≤h) (h2:h≤cap) (w:World) :
 (Instr.sliceAt t (.slice A n cap) (some (.int kl l)) (some (.int kh h)) none).run P w=.ok (.slice (cutN s A l.toNat cap) (h.toNat-l.toNat) (cap-l.toNat)) w:=by
 rw[run_sliceAt_slice _ _ _ _ _ _ E.und',run_slice_lh _ _ _ _ _ E.und' _ _ _ _ h0 h1 h2,E.run_size];simp only[Result.andThen,sliced,Go.Proofs.YtkonbpfbjiepfaaGreat.cutN]
theorem EvsRd.cut1 {w:World} {A:Option Addr} {n cap:Nat} {es:List (Value×PEv)} (h:EvsRd w A n es) {k:Nat} (hk:k<n) (hc:n≤cap) (hl:k<es.length):EvsRd w (Go.Proofs.YtkonbpfbjiepfaaGreat.cutN 5 A k cap) 1 [es[k]]:=by
 have h1:=(h.1.1.cutN 5 (k:=k) (cap:=cap) (by omega) hc).take (k:=1*5) (by omega);rw[ZAA,List.drop_eq_getElem_cons (by simpa using hl),List.flatMap_cons,List.take_left' (by simp)] at h1;refine⟨⟨?_,rfl⟩,fun p hp=>?_⟩
 · simpa using h1
 · obtain rfl:=List.mem_singleton.1 hp
   exact h.2 _ (List.getElem_mem hl)
structure EHold (w:World) (B:Nat) (v:Value) (es:List (Value×PEv)):Prop where
 row:w.ownsRow B 88 5 v es.length ((es.map evo).flatMap opc)
 data:∀ p∈es,w.ownsRow B 3 1 p.1 p.2.p.length (VI p.2.p)
namespace EHold
variable {w w':World} {B:Nat} {v:Value} {es:List (Value×PEv)}
theorem keep0 (h:EHold w B v es) (hk:Keep [] w w'):EHold w' B v es:=⟨QB h.row hk,fun p hp=>QB (h.data p hp) hk⟩
theorem nil (w:World) (B:Nat):EHold w B (.slice none 0 0) []:=⟨World.ownsRow_nil _ _ _ _,by simp⟩
theorem rd (h:EHold w B v es) (hs:∀ p∈es,p.2.p.length≤150) {A:Option Addr} {n c:Nat} (hv:v=.slice A n c) (hn:n=es.length):EvsRd w A n es:=by
 subst hv hn;refine⟨⟨Rd.of_ownN h.row,by simp⟩,fun p hp=>?_⟩;have hd:=h.data p hp;have hl:=hs p hp;obtain⟨PA,pc,he,_⟩:=JB hd;rw[he] at hd ⊢;exact⟨PA,_,pc,rfl,by omega,Rd.of_own hd⟩
theorem snoc {v':Value} (h:EHold w B v es) (p:Value×PEv) (hp:w.ownsRow B 3 1 p.1 p.2.p.length (VI p.2.p))
 (hv:w'.ownsRow B 88 5 v' (es.length+1) ((es.map evo).flatMap opc++opc (evo p))) (hk:Keep v.ownBlock.toList w w'):EHold w' B v' (es++[p]):=by
 refine⟨?_,?_⟩
 · rw[List.length_append,List.map_append,List.flatMap_append,List.map_singleton,List.flatMap_singleton];exact hv
 · intro q hq
   rcases List.mem_append.1 hq with hq | hq
   · exact XB (h.data q hq) hk (fun g hg hm=>own_ne (h.data q hq) h.row (by decide) hg (by simpa using hm))
   · obtain rfl:=List.mem_singleton.1 hq
     exact XB hp hk (fun g hg hm=>own_ne hp h.row (by decide) hg (by simpa using hm))
end EHold
def YY (k:Int):Bool:=k == 10 || k == 11 || k == 12
def VP (l:List PEv):List PEv:=l.filter fun e => !YY e.k
theorem XAI (l:List PEv):VP (VP l)=VP l:=by simp[VP]
theorem XQ (w:World) (k a b y:Int) (v:Value):Calls Tryz.prog 40 #[.agg #[.int .i64 k,.int .i64 a,.int .i64 b,.int .i64 y,v]] w fun e w'=>e=.returned (.bool (YY k))∧Keep [] w w':=by
 have hb:=Blk.new w 88 #[.int .i64 k,.int .i64 a,.int .i64 b,.int .i64 y,v];have hk0:Keep [] w (w.alloc (.cells #[.int .i64 k,.int .i64 a,.int .i64 b,.int .i64 y,v] 88)):=(Keep.refl _ _).alloc _;have c0:(w.alloc (.cells #[.int .i64 k,.int .i64 a,.int .i64 b,.int .i64 y,v] 88)).cell? ⟨w.heap.size,0,none⟩=some (.int .i64 k):=by simp
 unfold YY
 by_cases h0:k=10
 · subst h0
   go_enter Tryz.func40,Tryz.ntmps40
   go_wp2
   go_ret;exact⟨rfl,hk0⟩
 · by_cases h1:k=11
   · subst h1
     go_enter Tryz.func40,Tryz.ntmps40
     go_wp2
     go_ret;exact⟨rfl,hk0⟩
   · have e0:(k == 10)=false:=by simpa using h0
     have e1:(k == 11)=false:=by simpa using h1
     rw[e0,e1,Bool.false_or,Bool.false_or]
     go_enter Tryz.func40,Tryz.ntmps40
     go_wp2
     go_ret;exact⟨rfl,hk0⟩
theorem JBC (w:World) (A:Option Addr) (n c:Nat) (es:List (Value×PEv)) (h:EvsRd w A n es) (hn:n≤9223372036854775807) :
 Calls Tryz.prog 37 #[.slice A n c,.int .i64 60] w fun e w'=>∃ b,e=.returned (.bool b)∧Keep [] w w'∧(b=true→n≤60∧∀ p∈es,p.2.p.length≤150):=by
 have HL:=XC h.len
 go_enter Tryz.func37,Tryz.ntmps37
 go_wp2
 go_loopw [5] (fun i wr=>∃ j:Nat,j≤n∧i=.int .i64 j∧Keep [] w wr∧Hid (∀ q (hq:q<es.length),q<j→es[q].2.p.length≤150)) (fun i _=>n-(intOf i).toNat)
 case atStart=>exact⟨0,Nat.zero_le _,rfl,Keep.refl _ _,fun q hq h0=>by omega⟩
 case round=>
  obtain⟨j,hj,rfl,hkp,hS⟩:=hrel
  by_cases hlt:j<n
  · have hl:j<es.length:=by rw[JA HL];exact hlt
    obtain⟨b,o,rfl,hb,c0,c1,c2,c3,c4,PA,pn,pc,hpe,hpn,hpr⟩:=(h.keep0 hkp).at_ hlt hl;rw[hpe] at c4;have hpl:es[j].2.p.length=pn:=by simpa using hpr.1
    clear c0 c1 c2 c3 hpr hpe
    by_cases hp:pn≤150
    · have HP:=XC hpl
      clear hpl
      go_wp2
      go_roundw
      case rel=>
       refine⟨j+1,by omega,by go_num,hkp,fun q hq hqj=>?_⟩;rcases Nat.lt_or_ge q j with h1 | h1
       · exact JA hS q hq h1
       · obtain rfl:q=j:=by omega
         rw[JA HP];exact hp
      case measure=>simp[intOf];omega
    · clear hpl
      go_wp2
      go_ret;exact⟨false,rfl,hkp,by simp⟩
  · obtain rfl:j=n:=by omega
    by_cases h60:j≤60
    · go_wp2
      go_ret
      exact⟨_,rfl,hkp,fun _=>⟨h60,fun p hp=>by
       obtain⟨q,hq,rfl⟩:=List.getElem_of_mem hp;exact JA hS q hq (by have:=JA HL;omega)⟩⟩
    · have q0:¬ ((j:Nat):Int)≤60:=by omega
      have q1:decide (((j:Nat):Int)≤60)=false:=by simpa using q0
      go_wp2
      go_ret;exact⟨rfl,hkp⟩
theorem XAf (A B:Option Addr) (n m c d:Nat) (zs:List Int) (w:World) (ha:Rd w A n (VI zs)) (hb:Rd w B m (VI zs)) (hn:n≤9223372036854775807) :
 Calls Tryz.prog 96 #[.slice A n c,.slice B m d] w fun e w'=>e=.returned (.bool true)∧Keep [] w w':=by
 have hl:zs.length=n:=by simpa using ha.1
 have hm:zs.length=m:=by simpa using hb.1
 obtain rfl:m=n:=by omega
 have HL:=XC hl;clear hl hm
 go_enter Tryz.func96,Tryz.ntmps96
 go_wp2
 go_loopw [5] (fun i wr=>∃ j:Nat,j≤m∧i=.int .i64 j∧Keep [] w wr) (fun i _=>m-(intOf i).toNat)
 case atStart=>exact⟨0,Nat.zero_le _,rfl,Keep.refl _ _⟩
 case round=>
  obtain⟨j,hj,rfl,hkp⟩:=hrel
  by_cases hlt:j<m
  · have hjl:j<zs.length:=by rw[JA HL];exact hlt
    obtain⟨b1,o1,u1,rfl,hx1,hb1,hc1⟩:=(ha.keep hkp).at_ hlt;obtain⟨b2,o2,u2,rfl,hx2,hb2,hc2⟩:=(hb.keep hkp).at_ hlt;obtain rfl:u1=.int .i64 zs[j]:=by simp only[VI,List.getElem?_map,List.getElem?_eq_getElem hjl,Option.map_some,Option.some.injEq] at hx1;exact hx1.symm
    obtain rfl:u2=.int .i64 zs[j]:=by simp only[VI,List.getElem?_map,List.getElem?_eq_getElem hjl,Option.map_some,Option.some.injEq] at hx2;exact hx2.symm
    clear hx1 hx2;generalize zs[j]=z at *
    go_wp2
    refine ZT (fun W=>W.cell? ⟨b1,o1+j,none⟩=some (.int .i64 z)∧W.cell? ⟨b2,o2+j,none⟩=some (.int .i64 z)) 8 [[0,1,2,3,4,5,6,7]] ⟨hc1,hc2⟩ ?_;simp only[PI]
    iterate 8 (refine ZH ?_;simp only[Act.put,PU])
    refine QC ?_
    go_wp2
    go_roundw
    case rel=>exact⟨j+1,by omega,by go_num,hkp.drew⟩
    case measure=>simp[intOf];omega
  · go_wp2
    go_ret;exact⟨rfl,hkp⟩
theorem Jl (A B:Option Addr) (n c d:Nat) (xs ys:List (Value×PEv)) (w:World) (ha:EvsRd w A n xs) (hb:EvsRd w B n ys) (hs:xs.map (·.2)=ys.map (·.2)) (hn:n≤1000000) :
 Calls Tryz.prog 41 #[.slice A n c,.slice B n d] w fun e w'=>e=.returned (.bool true)∧Keep [] w w':=by
 have HXL:=XC ha.len;have HYL:=XC hb.len;have HS:=XC hs;clear hs
 go_enter Tryz.func41,Tryz.ntmps41
 go_wp2
 go_loopw [5] (fun i wr=>∃ k:Nat,k≤n∧i=.int .i64 k∧Keep [] w wr) (fun i _=>n-(intOf i).toNat)
 case atStart=>exact⟨0,Nat.zero_le _,rfl,Keep.refl _ _⟩
 case round=>
  obtain⟨k,hk,rfl,hkp⟩:=hrel
  by_cases hlt:k<n
  · have hxk:k<xs.length:=by rw[JA HXL];exact hlt
    have hyk:k<ys.length:=by rw[JA HYL];exact hlt
    have hxy:xs[k].2=ys[k].2:=by
     have:(xs.map (·.2))[k]? = (ys.map (·.2))[k]? := by rw[JA HS]
     simpa [hxk,hyk] using this
    obtain⟨b1,o1,rfl,hb1,e0,e1,e2,e3,e4,XA,xn,xc,hxe,hx1,hx2⟩:=(ha.keep0 hkp).at_ hlt hxk;obtain⟨b2,o2,rfl,hb2,f0,f1,f2,f3,f4,YA,yn,yc,hye,hy1,hy2⟩:=(hb.keep0 hkp).at_ hlt hyk;rw[← hxy] at f0 f1 f2 f3 hy2;rw[hxe] at e4;rw[hye] at f4;clear hxy hxe hye;generalize xs[k]=p at *;obtain⟨pv,pk,pa,pb,py,pp⟩:=p;simp only at e0 e1 e2 e3 e4 f0 f1 f2 f3 f4 hx2 hy2;have hT:=XAf XA YA xn yn xc yc pp wr.drew hx2.drew hy2.drew hx1
    go_wp2
    refine ZT (fun w'=>w'.cell? ⟨b1,o1+k*5,none⟩=some (.int .i64 pk)∧w'.cell? ⟨b1,o1+k*5+1,none⟩=some (.int .i64 pa)∧w'.cell? ⟨b1,o1+k*5+2,none⟩=some (.int .i64 pb)∧w'.cell? ⟨b1,o1+k*5+3,none⟩=some (.int .i64 py)∧w'.cell? ⟨b1,o1+k*5+4,none⟩=some (.slice XA xn xc)∧w'.cell? ⟨b2,o2+k*5,none⟩=some (.int .i64 pk)∧w'.cell? ⟨b2,o2+k*5+1,none⟩=some (.int .i64 pa)∧w'.cell? ⟨b2,o2+k*5+2,none⟩=some (.int .i64 pb)∧w'.cell? ⟨b2,o2+k*5+3,none⟩=some (.int .i64 py)∧w'.cell? ⟨b2,o2+k*5+4,none⟩=some (.slice YA yn yc)) 61 [[0,1,2,3,4,5,6,7,8,9,10,11,12,13,14,15,16,17,18,19,20,21,22,23,24,25,26,27,28,29,30,31,32,33,34,35,36,37,38,39,40,41,42,43,44,45,46,47,48,49,50,51,52,53,54,55,56,57,58,59,60]] ⟨e0,e1,e2,e3,e4,f0,f1,f2,f3,f4⟩ ?_;simp only[PI]
    iterate 61 (refine ZH ?_;simp only[Act.put,PU])
    refine QC ?_
    go_wp2_with (refine hT.mono ?_;clear hT;rintro e w' ⟨rfl,hk'⟩)
    go_roundw
    case rel=>exact⟨k+1,by omega,by go_num,hkp.drew.trans0 hk'⟩
    case measure=>simp[intOf];omega
  · go_wp2
    go_ret;exact⟨rfl,hkp⟩
end
section
open Go.RowKit
theorem Yv {w:World} {g:Nat} {x0 x1 x2 x3 x4:Value} (h:Blk w g 88 #[x0,x1,x2,x3,x4]) :
 w.cell? ⟨g,0,none⟩=some x0∧w.cell? ⟨g,1,none⟩=some x1∧w.cell? ⟨g,2,none⟩=some x2∧w.cell? ⟨g,3,none⟩=some x3∧w.cell? ⟨g,4,none⟩=some x4:=
 ⟨by simpa using h.cell 0,by simpa using h.cell 1,by simpa using h.cell 2,by simpa using h.cell 3,by simpa using h.cell 4⟩
theorem Ku (w0:World) (A:Option Addr) (n c:Nat) (es:List (Value×PEv)) (h:EvsRd w0 A n es) (hn:n≤60) (hp:∀ p∈es,p.2.p.length≤150) :
 Calls Tryz.prog 39 #[.slice A n c] w0 fun e w'=>∃ OA oc oz,e=.returned (.slice OA oz.length oc)∧oz.map (·.2)=VP (es.map (·.2))∧EHold w' w0.heap.size (.slice OA oz.length oc) oz∧Keep [] w0 w':=by
 have HL:=XC h.len
 go_enter Tryz.func39,Tryz.ntmps39
 go_wp2
 go_loopw [2,7] (fun v i wr=>∃ (j:Nat) (oz:List (Value×PEv)),j≤n∧i=.int .i64 j∧Hid (oz.map (·.2)=VP ((es.map (·.2)).take j))∧Hid (oz.length≤j)∧EHold wr w0.heap.size v oz∧Keep [] w0 wr) (fun _ i _=>n-(intOf i).toNat)
 case atStart=>exact⟨0,[],Nat.zero_le _,rfl,by simp[Hid,VP],by simp[Hid],EHold.nil _ _,Keep.refl _ _⟩
 case round=>
  obtain⟨j,oz,hj,rfl,hoz,hol,hO,hkw⟩:=hrel;obtain⟨VA,vc,hvv,_⟩:=JB hO.row;subst hvv
  by_cases hlt:j<n
  · have hl:j<es.length:=by rw[JA HL];exact hlt
    obtain⟨b,o,rfl,hb,c0,c1,c2,c3,c4,PA,pn,pc,hpe,hpn,hpr⟩:=(h.keep0 hkw).at_ hlt hl;have htk:(es.map (·.2)).take (j+1)=(es.map (·.2)).take j++[es[j].2]:=by rw[List.take_succ_eq_append_getElem (by simpa using hl)];simp
    have hpl:=hp _ (List.getElem_mem hl);rw[hpe] at c4;clear hpe;generalize es[j]=q at *;obtain⟨qv,k,a,b',y,pp⟩:=q;simp only at c0 c1 c2 c3 c4 hpr hpl htk;obtain rfl:pp.length=pn:=by simpa using hpr.1
    have HTK:=XC htk;have hbA:=Blk.new wr 88 #[.int .i64 k,.int .i64 a,.int .i64 b',.int .i64 y,.slice PA pp.length pc];have hkA:Keep [] wr (wr.alloc (.cells #[.int .i64 k,.int .i64 a,.int .i64 b',.int .i64 y,.slice PA pp.length pc] 88)):=(Keep.refl _ _).alloc _;have hKp:=fun W=>XQ W k a b' y (.slice PA pp.length pc);clear htk
    by_cases hkp:YY k=true
    · rw[hkp] at hKp
      go_wp2_with (go_at_call 40;refine(hKp _).mono ?_;clear hKp;rintro e w1 ⟨rfl,hk1⟩)
      go_roundw
      case rel=>exact⟨j+1,oz,by omega,by go_num,by show _=_;rw[JA HTK,JA hoz];simp[VP,hkp],by have:=JA hol;show _≤_;omega,(hO.keep0 hkA).keep0 hk1,(hkw.trans0 hkA).trans0 hk1⟩
      case measure=>simp[intOf];omega
    · have hkf:YY k=false:=by simpa using hkp
      rw[hkf] at hKp
      go_wp2_with (first
       | (go_at_call 40
          refine(hKp _).mono ?_;clear hKp;rintro e w1 ⟨rfl,hk1⟩;have hb1:=hbA.keep0 hk1;obtain⟨d0,d1,d2,d3,d4⟩:=Yv hb1;have hkx:=hkA.trans0 hk1;have hprx:=hpr.keep hkx
          have hsz:=(hkw.trans0 hkx).size)
       | (at_builtin;refine elemInts.wp_app rfl _ _ rfl w0.heap.size (.slice none 0 0) 0 [] rfl (World.ownsRow_nil _ _ _ _) PA pp.length pc (VI pp) rfl hprx (Qs _) (by omega) (by omega) (by omega) ?_))
      intro v' w2 hv' hk2 _ _;simp only[Value.ownBlock,Option.map_none,Option.toList_none] at hk2;obtain⟨QA,qc,hqv,_⟩:=JB hv';subst hqv;have hb2:=hb1.keep0 hk2;have g4:=hb2.frozen 4;have hlt2:=hb2.lt;have hb3:=hb2.set 4 (.slice QA pp.length qc);simp only[List.setIfInBounds_toArray,List.set_cons_zero,List.set_cons_succ] at hb3;have hkA2:Keep [] wr (w2.setCell ⟨wr.heap.size,4,none⟩ (.slice QA pp.length qc)):=(hkx.trans0 hk2).setCell (p:=⟨wr.heap.size,4,none⟩) (.inr (Nat.le_refl _)) _;have hq3:(w2.setCell ⟨wr.heap.size,4,none⟩ (.slice QA pp.length qc)).ownsRow w0.heap.size 3 1 (.slice QA pp.length qc) pp.length (VI pp):=own_set hv' (fun hm=>own_blk_ne hv' hb2 (by decide) (by simpa using hm)) _;clear d0 d1 d2 d3 d4 c0 c1 c2 c3 c4;obtain⟨e0,e1,e2,e3,e4⟩:=Yv hb2;obtain⟨d0,d1,d2,d3,d4⟩:=Yv hb3;have hO3:=hO.keep0 hkA2;have hlt3:=hb3.lt;have hkA4:Keep [] (w2.setCell ⟨wr.heap.size,4,none⟩ (.slice QA pp.length qc)) ((w2.setCell ⟨wr.heap.size,4,none⟩ (.slice QA pp.length qc)).alloc (.cells #[.int .i64 k,.int .i64 a,.int .i64 b',.int .i64 y,.slice QA pp.length qc] 88)):=(Keep.refl _ _).alloc _
      have hrdB:Rd ((w2.setCell ⟨wr.heap.size,4,none⟩ (.slice QA pp.length qc)).alloc (.cells #[.int .i64 k,.int .i64 a,.int .i64 b',.int .i64 y,.slice QA pp.length qc] 88)) (some ⟨w2.heap.size,0,none⟩) (1*5) (opc (evo ((.slice QA pp.length qc),⟨k,a,b',y,pp⟩))):=by
       have:=Rd.of_blk (n:=5) (Blk.new (w2.setCell ⟨wr.heap.size,4,none⟩ (.slice QA pp.length qc)) 88 #[.int .i64 k,.int .i64 a,.int .i64 b',.int .i64 y,.slice QA pp.length qc]) (by simp);simpa [opc,evo] using this
      go_wp2_with (at_builtin;refine elemEvs.wp_app rfl _ _ rfl w0.heap.size _ oz.length ((oz.map evo).flatMap opc) rfl (hO3.keep0 hkA4).row ⟨w2.heap.size,0,none⟩ 1 1 (opc (evo ((.slice QA pp.length qc),⟨k,a,b',y,pp⟩))) rfl hrdB (VAt _ rfl) (by have:=JA hol;omega) (by have:=JA hol;omega) (by have:=(hkw.trans0 (hkA2.trans0 hkA4)).size;exact this) ?_)
      intro v' w6 hv6 hk6 _ _;obtain⟨VA',vc',hvv',_⟩:=JB hv6;subst hvv';have hO6:=(hO3.keep0 hkA4).snoc ((.slice QA pp.length qc:Value),(⟨k,a,b',y,pp⟩:PEv)) (QB hq3 hkA4) hv6 hk6;have hkw6:Keep [] w0 w6:=(hkw.trans0 (hkA2.trans0 hkA4)).trans hk6 (fun x hx=>.inr (own_mem (hO3.keep0 hkA4).row (by simpa using hx)).1)
      go_wp2
      go_roundw
      case rel=>
       refine⟨j+1,oz++[((.slice QA pp.length qc:Value),(⟨k,a,b',y,pp⟩:PEv))],by omega,by go_num,?_,?_,hO6,hkw6⟩
       · show _=_;rw[List.map_append,JA hoz,JA HTK];simp[VP,hkf]
       · show _≤_;have:=JA hol;rw[List.length_append];simp;omega
      case measure=>simp[intOf];omega
  · obtain rfl:j=n:=by omega
    go_wp2
    go_ret;refine⟨VA,vc,oz,rfl,?_,hO,hkw⟩;rw[JA hoz,List.take_of_length_le (by simp[JA HL])]
end
end Go.Proofs.YtkonbpfbjiepfaaGreat
