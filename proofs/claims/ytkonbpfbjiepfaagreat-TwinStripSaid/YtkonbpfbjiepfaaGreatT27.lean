/- Lemmas of the proof, with their conditions. -/
import Derived.Test.YtkonbpfbjiepfaaGreatT24
import Derived.Test.YtkonbpfbjiepfaaGreatT26
namespace Go.Proofs.YtkonbpfbjiepfaaGreat
set_option linter.unusedSimpArgs false
set_option linter.unusedVariables false
set_option maxHeartbeats 4000000
set_option maxRecDepth 20000
section
open Go.RowKit
section
variable {P:Program} {t e:TypeId} {z:Value} {s bytes:Nat}
theorem ElemN.run_copyAll (E:ElemN P t e z s bytes) (w:World) (rt:TypeId) (base g c n:Nat) (xs:List Value) (hown:w.ownsRow base e s (.slice (some ⟨g,0,none⟩) n c) n xs)
 (a:Addr) (sc:Nat) (ys:List Value) (hr:Rd w (some a) (n*s) ys) (h1:∀ u∈ys,u.oneCell'=true) (hn:0<n) :
 ∃ w',(Builtin.copy_ #[t,t] rt #[.slice (some ⟨g,0,none⟩) n c,.slice (some a) n sc]).run P w=.ok (.int .i64 (n:Nat)) w'∧w'.ownsRow base e s (.slice (some ⟨g,0,none⟩) n c) n ys∧Keep [g] w w':=by
 obtain⟨i,hi,hz,hsz,hby⟩:=E.info;have hpos:=Nat.mul_pos hn E.pos;obtain⟨b,o',ha,hb,hc⟩:=hr.2 hpos;cases ha;rcases hown.2 with⟨he,h0'⟩ | ⟨g',cap,cur,he,hbg,hg,hnc,hcm,hs,ht⟩
 · cases he
 · cases he
   have hl:=run_loadCells_list (P:=P) w ⟨b,o',none⟩ ys (fun j v hv=>by rw[Addr.add_mid];exact hc j v hv);have hns:n*s≤c*s:=Nat.mul_le_mul_right _ hnc;have hst:=run_storeCells_at P g 0 e ys 0 cur w hg (by rw[hr.1];omega) h1;have hcs:cur.size=c*s:=hs;refine⟨w.setRow g (cur.toList.take 0++ys++cur.toList.drop (0+ys.length)).toArray,?_,⟨hr.1,.inr ⟨g,c,_,rfl,hbg,setRow_heap w g cur _ e _ hg,hnc,hcm,?_,?_⟩⟩,⟨rfl,rfl,rfl,by simp[World.setRow],fun k hk hn=>setRow_other w g k _ (by simpa [eq_comm] using hn)⟩⟩
   · have hl':=hl
     rw[hr.1] at hl';simp[Builtin.copy_,run_underlying E.und,Builtin.lenOf,Builtin.firstCells,sizeOf,typeInfo,hi,hsz,hl',hst];rfl
   · simp[hr.1,hcs];omega
   · simp[hr.1]
theorem ElemN.wp_copyAll (E:ElemN P t e z s bytes) {w:World} {ops:Array Oper} {rest:List Oper} {o:Oper} {a:Act} {Q:Exit→Act→World→Prop} (hgd:o.guard=none) (d x:Operand)
 (ho:o.op=.call { callee:=.builtin .copy,args:=#[d,x],argTypes:=#[t,t] })
 (base g c n:Nat) (xs:List Value) (hd:a.eval d=.slice (some ⟨g,0,none⟩) n c) (hown:w.ownsRow base e s (.slice (some ⟨g,0,none⟩) n c) n xs)
 (ad:Addr) (sc:Nat) (ys:List Value) (hx:a.eval x=.slice (some ad) n sc) (hr:Rd w (some ad) (n*s) ys) (h1:∀ u∈ys,u.oneCell'=true) (hn:0<n)
 (h:∀ w',w'.ownsRow base e s (.slice (some ⟨g,0,none⟩) n c) n ys→Keep [g] w w'→wpList P ops Q rest (a.put o.dst (.int .i64 (n:Nat))) w'):wpList P ops Q (o :: rest) a w:=
 wpList_plain hgd fun K hK=>by
  obtain⟨w',hrun,h2,h3⟩:=E.run_copyAll w o.type base g c n xs hown ad sc ys hr h1 hn;unfold Oper.wp execOp;simp only[ho,resolve,invoke,builtin,Sem.run_bind,Sem.run_pure,Result.andThen_ok,List.map_toArray,List.map_cons,List.map_nil,hd,hx,hrun];exact hK _ _ (h w' h2 h3)
end
theorem elemUse:ElemN Tryz.prog 166 212 (.agg #[.int .i64 0,.int .i64 0]) 2 16:=ElemN.of Tryz.underlying166 (by kernel_rfl) rfl (by omega)
theorem elemIntsN:ElemN Tryz.prog 22 3 (.int .i64 0) 1 8:=ElemN.of Tryz.underlying22 (by kernel_rfl) rfl (by omega)
theorem Vr (us:List (Nat×Nat)):∀ u∈us.flatMap JU,u.oneCell'=true:=by
 intro u hu;obtain⟨p,-,hp⟩:=List.mem_flatMap.1 hu;simp[JU] at hp;rcases hp with rfl | rfl <;> rfl
theorem ZAV (w:World) (g B:Nat) (hg:GeomAt w g B) (s sc:Nat) (us:List (Nat×Nat)) (hs:Rd w (some ⟨s,0,none⟩) (8*2) (us.flatMap JU)) (hul:us.length=8) (huo:∀ u∈us,u.1≤2∧u.2≤2147483647) :
 Calls Tryz.prog 103 #[.pointer (some ⟨g,0,none⟩),.slice (some ⟨s,0,none⟩) 8 sc] w fun e w'=>∃ t F,e=.returned (.pointer (some ⟨t,0,none⟩))∧TableAt w' w.heap.size t g F us (List.replicate 8 0)∧Keep [] w w':=by
 have hC:=ConfigG_is w g B hg;have hfd:=fun W=>VE (P:=Tryz.prog) Tryz.underlying27 1 rfl Tryz.isAgg3 #[.int .i64 B,.int .i64 8,.int .i64 24] rfl W;have HL:=XC hul;clear hul
 go_enter Tryz.func103,Tryz.ntmps103
 go_wp2_with (refine hC.mono ?_;clear hC;rintro e w1 ⟨rfl,hk1⟩)
 go_loopw [7,27] (fun _ i wr=>∃ k:Nat,k≤8∧i=.int .i64 k∧Keep [] w wr) (fun _ i _=>8-(intOf i).toNat)
 case atStart=>exact⟨0,Nat.zero_le _,rfl,hk1⟩
 case round=>
  clear hk1;obtain⟨k,hk,rfl,hK⟩:=hrel
  by_cases hlt:k<8
  · have hkl:k<us.length:=by rw[JA HL];exact hlt
    have hltI:((k:Nat):Int)<8:=by omega
    have hsl:s<wr.heap.size:=(KH ZE (hs.keep hK) hkl (j:=0) (by omega)).1;have d0:=(KH ZE (hs.keep hK) hkl (j:=0) (by omega)).2;have d1:=(KH ZE (hs.keep hK) hkl (j:=1) (by omega)).2;obtain⟨u1,u2⟩:=huo _ (List.getElem_mem hkl);generalize us[k]=u at *;obtain⟨x,y⟩:=u;simp only[JU,List.getElem?_cons_zero,List.getElem?_cons_succ,Nat.add_zero] at d0 d1 u1 u2;have u1I:((x:Nat):Int)≤2:=by omega
    have u2I:((y:Nat):Int)≤2147483647:=by omega
    go_wp2_with fail
    go_roundw
    case rel=>exact⟨k+1,by omega,by go_num,hK.alloc _⟩
    case measure=>simp[intOf];omega
  · obtain rfl:8=k:=by omega
    have hKr:=hK;clear hK hfd
    go_wp2_with fail
    refine ZR (fun w'=>Keep [] w w') 5 (.held 0 (.held 1 (.held 3 (.two 2 (.loud 4 .nil) 4 (.loud 2 .nil))))) hKr.drew ?_;simp only[RT.pick,PJ]
    iterate 3 (refine ZK ?_;simp only[Act.put,PU])
    refine wpR_two ?_ ?_
    · refine wpR_loud (by rfl) (fun K hK=>?_)
      refine elemUse.wp1_make _ _ rfl .i64 .i64 8 rfl rfl (by omega) (by omega) ?_;intro w2 g2 hg2 hs2 hb2 hk2;refine hK _ _ (hKr.drew.trans0 hk2) ?_;clear hK K
      try simp only[Act.put,PU]
      refine wpR_loud (by rfl) (fun K hK=>?_);refine elemIntsN.wp1_make _ _ rfl .i64 .i64 8 rfl rfl (by omega) (by omega) ?_;intro w3 g3 hg3 hs3 hb3 hk3;refine hK _ _ ((hKr.drew.trans0 hk2).trans0 hk3) ?_;clear hK K
      try simp only[Act.put,PU]
      refine wpR_nil ?_;have HK:=(hKr.drew.trans0 hk2).trans0 hk3;have HB2:=hb2.keep0 hk3;have HB3:=hb3;have HG2:w.heap.size≤g2:=by rw[hg2];exact hKr.drew.size
      have HG3:w.heap.size≤g3:=by rw[hg3];exact(hKr.drew.trans0 hk2).size
      have hL:w3.ownsRow w.heap.size 212 2 (.slice (some ⟨g2,0,none⟩) 8 8) 8 (List.replicate 16 (.int .i64 0)):=XJ (s:=2) (z:=.int .i64 0) HB2 (by omega) HG2 (by omega) (by simp) rfl;have hV:w3.ownsRow w.heap.size 3 1 (.slice (some ⟨g3,0,none⟩) 8 8) 8 (QH (List.replicate 8 0)):=XJ (s:=1) (z:=.int .i64 0) HB3 (by omega) HG3 (by omega) (by simp[QH]) rfl;clear hg2 hs2 hg3 hs3 HB2 HB3;have hL':=VC hL (.cells #[.pointer (some ⟨g,0,none⟩),.slice (some ⟨g2,0,none⟩) 8 8,.slice (some ⟨g3,0,none⟩) 8 8] 168);have hV':=VC hV (.cells #[.pointer (some ⟨g,0,none⟩),.slice (some ⟨g2,0,none⟩) 8 8,.slice (some ⟨g3,0,none⟩) 8 8] 168);have hbT:=Blk.new w3 168 #[.pointer (some ⟨g,0,none⟩),.slice (some ⟨g2,0,none⟩) 8 8,.slice (some ⟨g3,0,none⟩) 8 8];have hkT:=HK.alloc (.cells #[.pointer (some ⟨g,0,none⟩),.slice (some ⟨g2,0,none⟩) 8 8,.slice (some ⟨g3,0,none⟩) 8 8] 168);have hsT:=hs.keep hkT;have hg23:g2≠g3:=fun e=>own_ne hL hV (by decide) rfl (by simp[Value.ownBlock,e]);have hg2lt:=XX hL g2 (by simp[Value.ownBlock]);have hg3lt:=XX hV g3 (by simp[Value.ownBlock]);have hN3:w3.heap.size≠g2:=by omega
      have hN4:w3.heap.size≠g3:=by omega
      clear hg2lt hg3lt
      go_wp2_with (refine elemUse.wp_copyAll rfl (.tmp 60) (.tmp 61) rfl w.heap.size g2 8 8 _ rfl hL' _ sc _ rfl hsT (Vr us) (by omega) ?_;rintro w5 hL5 hk5)
      go_ret;refine⟨w3.heap.size,w3.heap.size :: ((Value.slice (some ⟨g2,0,none⟩) 8 8).ownBlock.toList++(Value.slice (some ⟨g3,0,none⟩) 8 8).ownBlock.toList),rfl,⟨_,_,hbT.keep hk5 (by simpa using hN3),hL5,XB hV' hk5 (fun x hx=>by simp[Value.ownBlock] at hx;subst hx;simpa using fun e=>hg23 e.symm),rfl,HK.size,JA HL,huo,fun x hx=>by have:=List.eq_of_mem_replicate hx;omega⟩,hkT.trans hk5 (fun x hx=>.inr (by simp at hx;omega))⟩
    · refine wpR_loud (by rfl) (fun K hK=>?_)
      refine elemIntsN.wp1_make _ _ rfl .i64 .i64 8 rfl rfl (by omega) (by omega) ?_;intro w2 g3 hg3 hs3 hb3 hk2;refine hK _ _ (hKr.drew.trans0 hk2) ?_;clear hK K
      try simp only[Act.put,PU]
      refine wpR_loud (by rfl) (fun K hK=>?_);refine elemUse.wp1_make _ _ rfl .i64 .i64 8 rfl rfl (by omega) (by omega) ?_;intro w3 g2 hg2 hs2 hb2 hk3;refine hK _ _ ((hKr.drew.trans0 hk2).trans0 hk3) ?_;clear hK K
      try simp only[Act.put,PU]
      refine wpR_nil ?_;have HK:=(hKr.drew.trans0 hk2).trans0 hk3;have HB2:=hb2;have HB3:=hb3.keep0 hk3;have HG3:w.heap.size≤g3:=by rw[hg3];exact hKr.drew.size
      have HG2:w.heap.size≤g2:=by rw[hg2];exact(hKr.drew.trans0 hk2).size
      have hL:w3.ownsRow w.heap.size 212 2 (.slice (some ⟨g2,0,none⟩) 8 8) 8 (List.replicate 16 (.int .i64 0)):=XJ (s:=2) (z:=.int .i64 0) HB2 (by omega) HG2 (by omega) (by simp) rfl;have hV:w3.ownsRow w.heap.size 3 1 (.slice (some ⟨g3,0,none⟩) 8 8) 8 (QH (List.replicate 8 0)):=XJ (s:=1) (z:=.int .i64 0) HB3 (by omega) HG3 (by omega) (by simp[QH]) rfl;clear hg2 hs2 hg3 hs3 HB2 HB3;have hL':=VC hL (.cells #[.pointer (some ⟨g,0,none⟩),.slice (some ⟨g2,0,none⟩) 8 8,.slice (some ⟨g3,0,none⟩) 8 8] 168);have hV':=VC hV (.cells #[.pointer (some ⟨g,0,none⟩),.slice (some ⟨g2,0,none⟩) 8 8,.slice (some ⟨g3,0,none⟩) 8 8] 168);have hbT:=Blk.new w3 168 #[.pointer (some ⟨g,0,none⟩),.slice (some ⟨g2,0,none⟩) 8 8,.slice (some ⟨g3,0,none⟩) 8 8];have hkT:=HK.alloc (.cells #[.pointer (some ⟨g,0,none⟩),.slice (some ⟨g2,0,none⟩) 8 8,.slice (some ⟨g3,0,none⟩) 8 8] 168);have hsT:=hs.keep hkT;have hg23:g2≠g3:=fun e=>own_ne hL hV (by decide) rfl (by simp[Value.ownBlock,e]);have hg2lt:=XX hL g2 (by simp[Value.ownBlock]);have hg3lt:=XX hV g3 (by simp[Value.ownBlock]);have hN3:w3.heap.size≠g2:=by omega
      have hN4:w3.heap.size≠g3:=by omega
      clear hg2lt hg3lt
      go_wp2_with (refine elemUse.wp_copyAll rfl (.tmp 60) (.tmp 61) rfl w.heap.size g2 8 8 _ rfl hL' _ sc _ rfl hsT (Vr us) (by omega) ?_;rintro w5 hL5 hk5)
      go_ret;refine⟨w3.heap.size,w3.heap.size :: ((Value.slice (some ⟨g2,0,none⟩) 8 8).ownBlock.toList++(Value.slice (some ⟨g3,0,none⟩) 8 8).ownBlock.toList),rfl,⟨_,_,hbT.keep hk5 (by simpa using hN3),hL5,XB hV' hk5 (fun x hx=>by simp[Value.ownBlock] at hx;subst hx;simpa using fun e=>hg23 e.symm),rfl,HK.size,JA HL,huo,fun x hx=>by have:=List.eq_of_mem_replicate hx;omega⟩,hkT.trans hk5 (fun x hx=>.inr (by simp at hx;omega))⟩
end
section
open Go.RowKit
def KR (us:List (Nat×Nat)) (lv:List Nat) (s:Nat):Bool:=(us.getD s (0,0)).1 == 2 && lv.getD s 0 == 0
def ZP (us:List (Nat×Nat)) (lv:List Nat):Nat→List (Nat×Nat)
 | 0=>us
 | k+1=>if KR us lv k then XE (ZP us lv k) k 0 else ZP us lv k
def YAj (us:List (Nat×Nat)) (lv:List Nat) (k:Nat):List Nat:=(List.range k).filter (KR us lv)
theorem KAd (us:List (Nat×Nat)) (lv:List Nat) (k:Nat):YAj us lv (k+1)=YAj us lv k++if KR us lv k then [k] else []:=by
 unfold YAj;rw[List.range_succ,List.filter_append]
 congr 1
 by_cases h:KR us lv k <;> simp[h]
theorem XAt (us:List (Nat×Nat)) (lv:List Nat) (k:Nat):(YAj us lv k).length≤k:=by
 unfold YAj;exact Nat.le_trans (List.length_filter_le _ _) (by simp)
theorem JN (us:List (Nat×Nat)) (lv:List Nat) (k:Nat):(ZP us lv k).length=us.length:=by
 induction k with
 | zero=>rfl
 | succ k ih=>
   simp only[ZP]
   split
   · simp[XE,ih]
   · exact ih
theorem VAg (us:List (Nat×Nat)) (lv:List Nat) (k s:Nat) (h:k≤s):(ZP us lv k).getD s (0,0)=us.getD s (0,0):=by
 induction k with
 | zero=>rfl
 | succ k ih=>
   simp only[ZP]
   split
   · unfold XE
     rw[List.getD_eq_getElem?_getD,List.getElem?_set_ne (by omega),← List.getD_eq_getElem?_getD];exact ih (by omega)
   · exact ih (by omega)
theorem XAY (us:List (Nat×Nat)) (lv:List Nat) (k s:Nat) (h:k≤s):KR (ZP us lv k) lv s=KR us lv s:=by unfold KR;rw[VAg us lv k s h]
theorem VAK (w:World) (base t g:Nat) (F:List Nat) (us:List (Nat×Nat)) (lv:List Nat) (h:TableAt w base t g F us lv) (s:Nat) (hs:s<8) :
 Calls Tryz.prog 216 #[.pointer (some ⟨t,0,none⟩),.int .i64 (s:Nat)] w fun e w'=>e=.returned (.bool (KR us lv s))∧w=w':=by
 obtain⟨L,V,h⟩:=h;obtain⟨l,lc,v,vc,rfl,rfl,hlv,htl,htv⟩:=h.forms;obtain⟨c0,c1,c2⟩:=h.cells;have hul:=h.ulen;have hlen:=h.llen;obtain⟨u1,u2⟩:=h.use s hs;have l1:=h.liveOf s hs;have hsI:((s:Nat):Int)<8:=by omega
 have e1:us.getD s (0,0)=us[s]:=JH (by omega);have e2:lv.getD s 0=lv[s]:=by rw[List.getD_eq_getElem?_getD,List.getElem?_eq_getElem (by omega)];rfl
 have hI:KR us lv s=(us[s].1 == 2 && lv[s] == 0):=by unfold KR;rw[e1,e2]
 rw[hI];clear hI e1 e2;generalize us[s].1=p at *;generalize lv[s]=q at *;have hlt:=h.blk.lt;have hll:=(own_mem h.l (g:=l) (by simp[Value.ownBlock])).2;have hvl:=(own_mem h.live (g:=v) (by simp[Value.ownBlock])).2;clear u2 h
 by_cases hp:p=2
 · subst hp
   by_cases hq:q=0
   · subst hq
     go_enter Tryz.func216,Tryz.ntmps216
     go_wp2
     go_ret;exact⟨rfl,rfl⟩
   · have hq':¬ ((q:Nat):Int)=0:=by omega
     go_enter Tryz.func216,Tryz.ntmps216
     go_wp2
     go_ret;have h1:(((q:Nat):Int) == 0)=false:=by simpa using hq'
     have h2:(q == 0)=false:=by simpa using hq
     exact⟨by simp[h1,h2],rfl⟩
 · have hp':¬ ((p:Nat):Int)=2:=by omega
   go_enter Tryz.func216,Tryz.ntmps216
   go_wp2
   go_ret;exact⟨by simp[hp],rfl⟩
theorem JAH (w:World) (base t g:Nat) (F:List Nat) (us:List (Nat×Nat)) (lv:List Nat) (h:TableAt w base t g F us lv) :
 Calls Tryz.prog 243 #[.pointer (some ⟨t,0,none⟩)] w fun e w'=>∃ u,e=.returned u∧w'.ownsRow w.heap.size 3 1 u (YAj us lv 8).length (QH (YAj us lv 8))∧TableAt w' base t g F (ZP us lv 8) lv∧Keep F w w':=by
 obtain⟨L,V,h⟩:=h;obtain⟨l,lc,v,vc,rfl,rfl,hlv,htl,htv⟩:=h.forms;obtain⟨c0,c1,c2⟩:=h.cells;have hF:=h.foot;have hlF:l∈F:=by rw[hF];simp[Value.ownBlock]
 have hFlt:=h.lt
 go_enter Tryz.func243,Tryz.ntmps243
 go_wp2
 go_loopw [2,3,11] (fun o _ i wr=>∃ k:Nat,k≤8∧i=.int .i64 (k:Nat)∧TableIs wr base t g (.slice (some ⟨l,0,none⟩) 8 lc) (.slice (some ⟨v,0,none⟩) 8 vc) F (ZP us lv k) lv∧wr.ownsRow w.heap.size 3 1 o (YAj us lv k).length (QH (YAj us lv k))∧Keep F w wr) (fun _ _ i _=>8-(intOf i).toNat)
 case atStart=>exact⟨0,by omega,rfl,h,World.ownsRow_nil _ _ _ _,Keep.refl _ _⟩
 case round=>
  have hus:=h.ulen;clear c0 c1 c2 h;obtain⟨k,hk,rfl,h,hO,hkp⟩:=hrel;obtain⟨OA,oc,rfl,_⟩:=JB hO;obtain⟨c0,c1,c2⟩:=h.cells
  by_cases hlt:k<8
  · have hI:=VAK wr base t g F _ lv ⟨_,_,h⟩ k hlt
    rw[XAY us lv k k (Nat.le_refl _)] at hI;have hkI:((k:Nat):Int)<8:=by omega
    have hol:=XAt us lv k;have hsucc:=KAd us lv k;have hrs:ZP us lv (k+1)=if KR us lv k then XE (ZP us lv k) k 0 else ZP us lv k:=rfl;have hul:=JN us lv k;obtain⟨u1,u2⟩:=h.use k hlt;have hfr:=XU h.l (k*2);have hgd:(ZP us lv k).getD k (0,0)=(ZP us lv k)[k]:=JH (by omega);obtain⟨h2,hk2⟩:=h.setUse k 0 hlt (by omega) 0 (0,(ZP us lv k)[k].2) rfl ⟨by omega,(h.uok _ (List.getElem_mem _)).2⟩;have hst:XE (ZP us lv k) k 0=(ZP us lv k).set k (0,(ZP us lv k)[k].2):=by unfold XE;rw[hgd]
    rw[← hst] at h2;have hlw:=(own_mem h.l (g:=l) (by simp[Value.ownBlock])).2;have HSU:=XC hsucc;have HRS:=XC hrs;clear hsucc hrs hst hgd;generalize ((ZP us lv k)[k]'_).1=y at u1;generalize hib:KR us lv k=ib at *;have HIB:=XC hib;clear hib;generalize hgl:YAj us lv k=gl at *;have HGL:=XC hgl;clear hgl;have h2':=h2;generalize ZP us lv k=ul at *;cases ib
    · go_wp2_with (refine hI.mono ?_;clear hI;rintro e w' ⟨rfl,rfl⟩)
      go_roundw
      case rel=>
       refine⟨k+1,by omega,by go_num,?_,?_,hkp⟩
       · rw[JA HRS];exact h
       · rw[JA HSU];simpa using hO
      case measure=>simp[intOf];omega
    · have hOs:(wr.setCell ⟨l,k*2,none⟩ (.int .i64 0)).ownsRow w.heap.size 3 1 (.slice OA gl.length oc) gl.length (QH gl):=own_set hO (fun hm=>by have:=(own_mem hO hm).1;have:=hFlt l hlF;omega) _
      have hkS:Keep F w (wr.setCell ⟨l,k*2,none⟩ (.int .i64 0)):=hkp.setCell (p:=⟨l,k*2,none⟩) (.inl hlF) _;have hsz:(wr.setCell ⟨l,k*2,none⟩ (.int .i64 0)).heap.size=wr.heap.size:=by simp
      have hrd:=JQ (wr.setCell ⟨l,k*2,none⟩ (.int .i64 0)) (.int .i64 (k:Nat)) 3;rw[hsz] at hrd;have hsz2:=hkS.size;rw[hsz] at hsz2
      go_wp2_with (first
       | (refine hI.mono ?_;clear hI;rintro e w' ⟨rfl,rfl⟩)
       | (at_builtin;refine elemInts.wp_app rfl _ _ (by rfl) w.heap.size _ gl.length (QH gl) (by rfl) (VC hOs _) (some ⟨wr.heap.size,0,none⟩) 1 1 [.int .i64 (k:Nat)] (by rfl) hrd (by simp[Value.oneCell']) (by omega) (by omega) (by simp;omega) ?_))
      intro V' w4 hS' hk4 hSb _
      go_wp2
      go_roundw
      case rel=>
       have hkA:Keep [] (wr.setCell ⟨l,k*2,none⟩ (.int .i64 0)) ((wr.setCell ⟨l,k*2,none⟩ (.int .i64 0)).alloc (.cells #[.int .i64 (k:Nat)] 3)):=(Keep.refl _ _).alloc _;have hall:Keep (Value.slice OA gl.length oc).ownBlock.toList (wr.setCell ⟨l,k*2,none⟩ (.int .i64 0)) w4:=hkA.zero.trans hk4 (fun x hx=>.inl hx);have hge:∀ x∈(Value.slice OA gl.length oc).ownBlock.toList,w.heap.size≤x:=fun x hx=>(own_mem hO hx).1;refine⟨k+1,by omega,by go_num,?_,?_,hkS.trans hall (fun x hx=>.inr (hge x hx))⟩
       · rw[JA HRS,if_pos trivial]
         exact h2'.keep hall (fun x hx hm=>by have:=hge x hm;have:=hFlt x hx;omega)
       · rw[JA HSU,if_pos trivial,List.length_append,List.length_singleton,show QH (gl++[k])=QH gl++[.int .i64 (k:Nat)] by simp[QH]]
         exact hS'
      case measure=>simp[intOf];omega
  · obtain rfl:k=8:=by omega
    go_wp2
    go_ret;exact⟨_,rfl,hO,⟨_,_,h⟩,hkp⟩
end
section
open Go.RowKit
theorem Kw (A:Option Addr) (n c:Nat) (us:List (Nat×Nat)) (w:World) (ha:Rd w A (n*2) (us.flatMap JU)) (hn:n≤1000000) :
 Calls Tryz.prog 215 #[.slice A n c] w fun e w'=>∃ v,e=.returned v∧w'.ownsRow w.heap.size 212 2 v n (us.flatMap JU)∧Keep [] w w':=by
 have heq:=fun(W:World)=>Lib.run_eql_slice_nil (P:=Tryz.prog) W 166 212 A n c 0 0 Tryz.underlying166;have hl:=ha.1;rcases A with _ | ad
 · obtain rfl:n=0:=by
    rcases Nat.eq_zero_or_pos n with e | e
    · exact e
    · obtain⟨b,o,h,_⟩:=ha.2 (by omega)
      cases h
   obtain h0:us.flatMap JU=[]:=List.eq_nil_of_length_eq_zero (by rw[hl]);rw[h0]
   go_enter Tryz.func215,Tryz.ntmps215
   go_wp2
   go_ret;exact⟨_,rfl,World.ownsRow_nil _ _ _ _,Keep.refl _ _⟩
 · have hr:=ha.keep ((Keep.refl _ w).alloc (.cells #[] 212))
   have ho:(w.alloc (.cells #[] 212)).ownsRow w.heap.size 212 2 (.slice (some ⟨w.heap.size,0,none⟩) 0 0) 0 []:=World.ownsRow_made _ _ _ (Nat.le_refl _) (by simp[maxLen]) rfl;clear hl
   go_enter Tryz.func215,Tryz.ntmps215
   go_wp2_with (at_builtin;refine elemUse.wp_app rfl _ _ rfl w.heap.size _ 0 [] rfl ho ad n c (us.flatMap JU) rfl hr (Vr us) (by omega) (by omega) (by simp) ?_)
   intro v' w' hown hk _ _
   go_wp2
   go_ret;exact⟨_,rfl,by simpa using hown,((Keep.refl _ w).alloc _).trans hk (by simp[Value.ownBlock])⟩
theorem YAT (w:World) (base t g:Nat) (F:List Nat) (us:List (Nat×Nat)) (lv:List Nat) (h:TableAt w base t g F us lv) :
 Calls Tryz.prog 132 #[.pointer (some ⟨t,0,none⟩),.bool true] w fun e w'=>∃ u c,e=.returned (.slice (some ⟨u,0,none⟩) 8 c)∧8≤c∧w'.ownsRow w.heap.size 212 2 (.slice (some ⟨u,0,none⟩) 8 c) 8 ((ZP us lv 8).flatMap JU)∧Keep [] w w':=by
 obtain⟨L,V,h⟩:=h;obtain⟨l,lc,v,vc,rfl,rfl,hlv,htl,htv⟩:=h.forms;obtain⟨c0,c1,c2⟩:=h.cells;have hul0:=h.ulen;have hC:=Kw (some ⟨l,0,none⟩) 8 lc us w (Rd.of_ownN h.l) (by omega)
 go_enter Tryz.func132,Tryz.ntmps132
 go_wp2_with (
  refine hC.mono ?_;clear hC;rintro e w1 ⟨u0,rfl,hu,hk1⟩;obtain⟨u,uc,rfl,huc⟩:=QD hu (by omega))
 go_loopw [6,16] (fun _ i wr=>∃ k:Nat,k≤8∧i=.int .i64 (k:Nat)∧wr.ownsRow w.heap.size 212 2 (.slice (some ⟨u,0,none⟩) 8 uc) 8 ((ZP us lv k).flatMap JU)∧Keep [] w wr) (fun _ i _=>8-(intOf i).toNat)
 case atStart=>exact⟨0,by omega,rfl,hu,hk1⟩
 case round=>
  clear hu hk1;obtain⟨k,hk,rfl,hO,hkp⟩:=hrel
  by_cases hlt:k<8
  · have hI:=VAK wr base t g F us lv ⟨_,_,h.keep0 hkp⟩ k hlt
    have hkI:((k:Nat):Int)<8:=by omega
    have hrs:ZP us lv (k+1)=if KR us lv k then XE (ZP us lv k) k 0 else ZP us lv k:=rfl;have hul:=JN us lv k;have hgd:(ZP us lv k).getD k (0,0)=(ZP us lv k)[k]:=JH (by omega)
    have u1:wr.cell? ⟨u,k*2,none⟩=some (.int .i64 ((ZP us lv k)[k]'(by omega)).1):=by
     have:=ZF hO (k:=k*2+0) (u:=.int .i64 ((ZP us lv k)[k]'(by omega)).1) (by rw[YH ZE _ k 0 (by omega) (by omega)];rfl);simpa using this
    have hfr:=XU hO (k*2);have hul2:=(own_mem hO (g:=u) (by simp[Value.ownBlock])).2;have hge:=(own_mem hO (g:=u) (by simp[Value.ownBlock])).1;have hst:XE (ZP us lv k) k 0=(ZP us lv k).set k (0,(ZP us lv k)[k].2):=by unfold XE;rw[hgd]
    have hO2:=Qf hO (k*2+0) (.int .i64 0);rw[KAK ZE (ZP us lv k) k 0 (by omega) (by omega) (.int .i64 0) (0,(ZP us lv k)[k].2) rfl,← hst] at hO2;have HRS:=XC hrs;clear hrs hst hgd;generalize ((ZP us lv k)[k]'_).1=y at u1;generalize hib:KR us lv k=ib at *;have HIB:=XC hib;clear hib;generalize ZP us lv k=ul at *;cases ib
    · go_wp2_with (refine hI.mono ?_;clear hI;rintro e w' ⟨rfl,rfl⟩)
      go_roundw
      case rel=>exact⟨k+1,by omega,by go_num,by rw[JA HRS];exact hO,hkp⟩
      case measure=>simp[intOf];omega
    · have hkS:Keep [] w (wr.setCell ⟨u,k*2,none⟩ (.int .i64 0)):=hkp.setCell (p:=⟨u,k*2,none⟩) (.inr hge) _
      go_wp2_with (refine hI.mono ?_;clear hI;rintro e w' ⟨rfl,rfl⟩)
      go_roundw
      case rel=>exact⟨k+1,by omega,by go_num,by rw[JA HRS,if_pos trivial];exact hO2,hkS⟩
      case measure=>simp[intOf];omega
  · obtain rfl:k=8:=by omega
    go_wp2
    go_ret;exact⟨u,uc,rfl,huc.1,hO,hkp⟩
end
end Go.Proofs.YtkonbpfbjiepfaaGreat
