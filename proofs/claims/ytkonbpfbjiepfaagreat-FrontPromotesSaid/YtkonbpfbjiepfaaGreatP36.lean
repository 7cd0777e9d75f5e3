/- Lemmas of the proof, with their conditions. -/
import Derived.Test.YtkonbpfbjiepfaaGreatP35
namespace Go.Proofs.YtkonbpfbjiepfaaGreat
set_option linter.unusedSimpArgs false
set_option linter.unusedVariables false
set_option maxHeartbeats 1000000
set_option maxRecDepth 100000
section
open Go.RowKit
theorem VAk {z:Int} (h1 : -1≤z) (h2:z<4096):(z = -1∧YAI z=4294967295)∨(0≤z∧((YAI z:Nat):Int)=z∧YAI z<4096):=by
 unfold YAI
 split <;> omega
theorem KAQ {w w':World} {base b2 r a n:Nat} {v u:Value} {bs:List UInt8} {xs:List Value} (hR:RowAt w base r v bs a) (hu:w.ownsRow b2 3 1 u n xs) (hk:Keep u.ownBlock.toList w w'):RowAt w' base r v bs a:=
 ⟨hR.blk.keep hk (fun hm=>own_blk_ne hu hR.blk (by decide) (by simpa using hm)),QB hR.own hk (fun x hx hm=>own_ne hR.own hu (by decide) hx (by simpa using hm)),hR.base,hR.le,hR.few⟩
theorem XBB (A:Option Addr) (c:Nat) (zs:List Int) (w:World) (ha:Rd w A 64 (bys (QT zs))) (hl:zs.length=15) (hz:∀ z∈zs,-1≤z∧z<4096) :
 Calls Tryz.prog 293 #[.slice A 64 c] w fun e w'=>∃ u,e=.returned (.tuple #[u,.int .i64 0])∧w'.ownsRow w.heap.size 3 1 u 15 (JK zs)∧Keep [] w w':=by
 have hlen:=KU (zs:=zs) (by omega);obtain⟨t,hbs⟩:∃ t,QT zs=fields (ZU zs)++t:=Yb 64 _;have hE:=fun A' c' W (hr:Rd W A' 15 (JK zs))=>Yz A' 15 c' zs W hr hz (by omega);generalize QT zs=bs at *;have hF:=fun W (hk:Keep [] w W)=>JZ A 64 c bs W (ha.keep hk) (by omega);have HLEN:=JB hlen;have HBS:=JB hbs;have HL:=JB hl;clear hlen hbs hl
 go_enter Tryz.func293,Tryz.ntmps293
 go_wp2_with (
  (refine(hF _ (Keep.refl _ _)).mono ?_)
  clear hF;rintro e w2 ⟨r,v,rfl,hR,hk2⟩)
 go_loopw [2,5,6,11] (fun u _ _ i wr=>∃ k:Nat,k≤15∧i=.int .i64 k∧wr.ownsRow w.heap.size 3 1 u k (JK (zs.take k))∧RowAt wr w.heap.size r v bs (4*k)∧Keep [] w wr) (fun _ _ _ i _=>15-(intOf i).toNat)
 case atStart=>exact⟨0,Nat.zero_le _,rfl,World.ownsRow_nil _ _ _ _,hR,hk2⟩
 case round=>
  clear hR hk2;obtain⟨k,hk,rfl,hu,hR,hK⟩:=hrel;obtain⟨UA,uc,rfl,_⟩:=ZB hu
  by_cases hlt:k<15
  · have hltI:((k:Nat):Int)<15:=by omega
    have hkl:k<zs.length:=by rw[XA HL];exact hlt
    have hts:ZU zs=(ZU zs).take k++(4,YAI zs[k]) :: (ZU zs).drop (k+1):=by
     have:=List.take_append_drop k (ZU zs);rw[List.drop_eq_getElem_cons (by simpa [ZU] using hkl)] at this;simpa [ZU] using this.symm
    have hwk:4*k=widths ((ZU zs).take k):=by
     unfold ZU;rw[← List.map_take];have:=YR (zs.take k);rw[List.length_take,Nat.min_eq_left (by omega)] at this;exact this.symm
    obtain⟨h1,h2⟩:=hz _ (List.getElem_mem hkl);have hG:=JAk (k:=4) (n:=YAI zs[k]) ((ZU zs).take k) ((ZU zs).drop (k+1)) hR (by rw[← hts];exact XA HBS) hwk (by omega) (QAq h2);have htk:Hid (JK (zs.take (k+1))=JK (zs.take k)++[.int .i64 zs[k]]):=JB (by rw[List.take_succ_eq_append_getElem hkl];simp only[JK,List.map_append,List.map_cons,List.map_nil];rfl);have hb:=VAk h1 h2;clear hts hwk;generalize zs[k]=z at *;generalize YAI z=m at *;rcases hb with⟨hz1,hm1⟩ | ⟨h0,hzm,hm4⟩
    · subst hz1 hm1
      go_wp2_with (first
       | (go_at_call 226
          refine hG.mono ?_;clear hG;rintro e w3 ⟨rfl,hR3,hk3⟩;have hu3:=QB hu hk3 (fun x hx hm=>by simp at hm;subst hm;exact own_blk_ne hu hR.blk (by decide) hx)
          have hK3:=hK.trans hk3 (fun x hx=>.inr (by have:=hR.fresh x (by simp at hx;simp[hx]);omega)))
       | (at_builtin
          refine elemInts.wp_app rfl _ _ rfl w.heap.size _ k (JK (zs.take k)) rfl (XD hu3 _) (some ⟨w3.heap.size,0,none⟩) 1 1 [.int .i64 (-1)] rfl (Rd.of_blk (n:=1) (Blk.new w3 3 #[.int .i64 (-1)]) (by simp)) (by simp[Value.oneCell']) (by omega) (by omega) (Nat.le_trans hK3.size (by simp)) ?_;rintro v' w7 hv7 hk7 _ _))
      go_roundw
      case rel=>
       refine⟨k+1,by omega,by go_num,by rw[XA htk];exact hv7,?_,(hK3.alloc _).trans hk7 (fun x hx=>.inr (own_mem hu3 hx).1)⟩;rw[Nat.mul_succ];exact KAQ (hR3.keep0 ((Keep.refl _ _).alloc _)) (XD hu3 _) hk7
      case measure=>simp[intOf];omega
    · subst hzm
      have hne:((m:Nat):Int)≠4294967295:=by omega
      go_wp2_with (first
       | (go_at_call 226
          refine hG.mono ?_;clear hG;rintro e w3 ⟨rfl,hR3,hk3⟩;have hu3:=QB hu hk3 (fun x hx hm=>by simp at hm;subst hm;exact own_blk_ne hu hR.blk (by decide) hx)
          have hK3:=hK.trans hk3 (fun x hx=>.inr (by have:=hR.fresh x (by simp at hx;simp[hx]);omega)))
       | (at_builtin
          refine elemInts.wp_app rfl _ _ rfl w.heap.size _ k (JK (zs.take k)) rfl (XD hu3 _) (some ⟨w3.heap.size,0,none⟩) 1 1 [.int .i64 (m:Nat)] rfl (Rd.of_blk (n:=1) (Blk.new w3 3 #[.int .i64 (m:Nat)]) (by simp)) (by simp[Value.oneCell']) (by omega) (by omega) (Nat.le_trans hK3.size (by simp)) ?_;rintro v' w7 hv7 hk7 _ _))
      go_roundw
      case rel=>
       refine⟨k+1,by omega,by go_num,by rw[XA htk];exact hv7,?_,(hK3.alloc _).trans hk7 (fun x hx=>.inr (own_mem hu3 hx).1)⟩;rw[Nat.mul_succ];exact KAQ (hR3.keep0 ((Keep.refl _ _).alloc _)) (XD hu3 _) hk7
      case measure=>simp[intOf];omega
  · obtain rfl:k=15:=by omega
    rw[List.take_of_length_le (by have:=XA HL;omega)] at hu
    go_wp2_with (
     (refine(hE _ _ _ (Rd.of_own hu)).mono ?_)
     clear hE;rintro e w4 ⟨u4,rfl,hu4,hk4⟩;obtain⟨A4,c4,rfl,_⟩:=ZB hu4;have hEq:=VM A4 A 64 64 c4 c bs bs w4 (Rd.of_own hu4) (ha.keep (hK.trans0 hk4)))
    go_wp2_with (refine hEq.mono ?_;clear hEq;rintro e w' ⟨rfl,rfl⟩)
    go_ret2;exact⟨_,rfl,KA hu hk4,hK.trans0 hk4⟩
end
section
open Go.RowKit
theorem JAQ {w:World} {base r a k n:Nat} {v:Value} {bs t:List UInt8} (l m:List (Nat×Nat)) (hR:RowAt w base r v bs a) (hbs:bs=fields (l++(k,n) :: m)++t) (ha:a=widths l) (hk:k=1∨k=2∨k=4) (hn:n<256 ^ k) :
 Calls Tryz.prog 390 #[.agg #[.pointer (some ⟨r,0,none⟩)],.int .i64 (k:Nat)] w fun e w'=>e=.returned (.int .i64 (n:Nat))∧RowAt w' base r v bs (a+k)∧Keep [r] w w':=by
 have hG:=fun W (hK:Keep [] w W)=>JAk (W0:=W) l m (hR.keep0 hK) hbs ha hk hn
 go_enter Tryz.func390,Tryz.ntmps390
 go_wp2_with (
  (refine(hG _ ((Keep.refl _ _).alloc _)).mono ?_)
  clear hG;rintro e w3 ⟨rfl,hR3,hk3⟩)
 go_ret;exact⟨rfl,hR3,((Keep.refl _ _).alloc _).zero.trans hk3 (fun x hx=>.inl hx)⟩
theorem ZBC (zs:List Nat) (h:∀ z∈zs,z≤1) (n k:Nat) (hk:k<n):VL zs n / 2 ^ k % 2=zs.getD k 0:=by
 induction n with
 | zero=>omega
 | succ n ih=>
   have hz:zs.getD k 0≤1:=by
    rw[List.getD_eq_getElem?_getD];rcases Nat.lt_or_ge k zs.length with h1 | h1
    · rw[List.getElem?_eq_getElem h1];exact h _ (List.getElem_mem h1)
    · rw[List.getElem?_eq_none h1];exact Nat.zero_le _
   simp only[VL];rcases Nat.lt_or_ge k n with h1 | h1
   · rw[show zs.getD n 0*2 ^ n=2 ^ k*(2*(zs.getD n 0*2 ^ (n-k-1))) by
      rw[← Nat.mul_assoc,Nat.mul_comm (2 ^ k),Nat.mul_comm (2*2 ^ k)];rw[Nat.mul_assoc,Nat.mul_comm 2 (2 ^ k),← Nat.mul_assoc,← Nat.mul_assoc];rw[Nat.mul_assoc (zs.getD n 0),← Nat.pow_add,Nat.mul_assoc,← Nat.pow_succ]
      congr 2
      omega]
     rw[Nat.add_mul_div_left _ _ (Nat.two_pow_pos k),Nat.add_mul_mod_self_left];exact ih h1
   · obtain rfl:k=n:=by omega
     rw[Nat.mul_comm,Nat.add_mul_div_left _ _ (Nat.two_pow_pos k),Nat.div_eq_of_lt (Ki zs h k),Nat.zero_add];omega
theorem KBM (n k:Nat) (hn:n≤65536):bits BinOp.and IntKind.i64 (((n:Nat):Int) / 2 ^ k) 1=((n / 2 ^ k % 2:Nat):Int):=by
 have e:((n:Nat):Int) / 2 ^ k=((n / 2 ^ k:Nat):Int):=by simp
 have h2:n / 2 ^ k≤n:=Nat.div_le_self _ _;rw[e];generalize n / 2 ^ k=m at *;show IntKind.i64.wrap ((BitVec.ofInt 64 (m:Int) &&& BitVec.ofInt 64 1).toNat:Int)=_;have h3:(BitVec.ofInt 64 1).toNat=1:=by decide
 have h4:(BitVec.ofInt 64 (m:Int)).toNat=m:=by rw[BitVec.toNat_ofInt];omega
 rw[BitVec.toNat_and,h3,h4,Nat.and_one_is_mod,IntKind.wrap_i64];omega
theorem Vg {w:World} {base r a p:Nat} {v:Value} {bs t:List UInt8} (zs:List Nat) (l m:List (Nat×Nat)) (hR:RowAt w base r v bs a) (hbs:bs=fields (l++(1,VL zs p) :: m)++t) (ha:a=widths l) (hp:p≤8) (hz:∀ z∈zs,z≤1) (hl:zs.length=p) :
 Calls Tryz.prog 391 #[.agg #[.pointer (some ⟨r,0,none⟩)],.int .i64 (p:Nat)] w fun e w'=>∃ u,e=.returned u∧w'.ownsRow w.heap.size 3 1 u p (XJ zs)∧RowAt w' base r v bs (a+1)∧Keep [r] w w':=by
 have hq:=Ki zs hz p;have h5:(2:Nat) ^ p≤256:=Nat.pow_le_pow_right (n:=2) (by omega) (show p≤8 by omega);have hO:=fun W (hK:Keep [] w W)=>JAQ (w:=W) (k:=1) (n:=VL zs p) l m (hR.keep0 hK) hbs ha (by omega) (by omega);have hget:=fun k (hk:k<p)=>ZBC zs hz p k hk;have HL:=JB hl;have hq256:VL zs p≤65536:=by omega
 clear hbs ha hl h5;have hand:=fun k=>KBM (VL zs p) k hq256;generalize VL zs p=q at *
 go_enter Tryz.func391,Tryz.ntmps391
 go_wp2_with (
  (refine(hO _ ((Keep.refl _ _).alloc _)).mono ?_)
  clear hO;rintro e w3 ⟨rfl,hR3,hk3⟩)
 have hk0:Keep [r] w w3:=((Keep.refl _ _).alloc _).zero.trans hk3 (fun x hx=>.inl hx)
 go_loopw [4,6,10] (fun u _ i wr=>∃ k:Nat,k≤p∧i=.int .i64 k∧wr.ownsRow w.heap.size 3 1 u k (XJ (zs.take k))∧RowAt wr base r v bs (a+1)∧Keep [r] w wr) (fun _ _ i _=>p-(intOf i).toNat)
 case atStart=>exact⟨0,Nat.zero_le _,rfl,World.ownsRow_nil _ _ _ _,hR3,hk0⟩
 case round=>
  clear hR3 hk3 hk0 hR;obtain⟨k,hk,rfl,hu,hR,hK⟩:=hrel;obtain⟨UA,uc,rfl,_⟩:=ZB hu
  by_cases hlt:k<p
  · have hltI:((k:Nat):Int)<(p:Nat):=by omega
    have hkl:k<zs.length:=by rw[XA HL];exact hlt
    have he:=hand k;rw[hget k hlt,List.getD_eq_getElem?_getD,List.getElem?_eq_getElem hkl,Option.getD_some] at he;have htk:Hid (XJ (zs.take (k+1))=XJ (zs.take k)++[.int .i64 (zs[k]:Nat)]):=JB (by rw[List.take_succ_eq_append_getElem hkl];simp only[XJ,List.map_append,List.map_cons,List.map_nil]);generalize zs[k]=z at *;clear hand hget
    go_wp2_with (at_builtin
                 refine elemInts.wp_app rfl _ _ rfl w.heap.size _ k (XJ (zs.take k)) rfl (XD hu _) (some ⟨wr.heap.size,0,none⟩) 1 1 [.int .i64 (z:Nat)] rfl (Rd.of_blk (n:=1) (Blk.new wr 3 #[.int .i64 (z:Nat)]) (by simp)) (by simp[Value.oneCell']) (by omega) (by omega) (Nat.le_trans hK.size (by simp)) ?_;rintro v' w7 hv7 hk7 _ _)
    go_roundw
    case rel=>
     refine⟨k+1,by omega,by go_num,by rw[XA htk];exact hv7,KAQ (hR.keep0 ((Keep.refl _ _).alloc _)) (XD hu _) hk7,(hK.alloc _).trans hk7 (fun x hx=>.inr (own_mem hu hx).1)⟩
    case measure=>simp[intOf];omega
  · obtain rfl:k=p:=by omega
    rw[List.take_of_length_le (by have:=XA HL;omega)] at hu
    go_wp2
    go_ret;exact⟨_,rfl,hu,hR,hK⟩
end
section
open Go.RowKit Go.Shelf
attribute [local go_sem] Oper.semAt_some
theorem Jd {w:World} {g:Nat} {t:TypeId} {x0 x1 x2 x3 x4 x5 x6 x7 x8 x9 x10 x11 x12:Value} (h:Blk w g t #[x0,x1,x2,x3,x4,x5,x6,x7,x8,x9,x10,x11,x12]) :
 w.cell? ⟨g,0,none⟩=some x0∧w.cell? ⟨g,1,none⟩=some x1∧w.cell? ⟨g,2,none⟩=some x2∧w.cell? ⟨g,3,none⟩=some x3∧w.cell? ⟨g,4,none⟩=some x4∧w.cell? ⟨g,5,none⟩=some x5∧w.cell? ⟨g,6,none⟩=some x6∧w.cell? ⟨g,7,none⟩=some x7∧w.cell? ⟨g,8,none⟩=some x8∧w.cell? ⟨g,9,none⟩=some x9∧w.cell? ⟨g,10,none⟩=some x10∧w.cell? ⟨g,11,none⟩=some x11∧w.cell? ⟨g,12,none⟩=some x12:=
 ⟨by simpa using h.cell 0,by simpa using h.cell 1,by simpa using h.cell 2,by simpa using h.cell 3,by simpa using h.cell 4,by simpa using h.cell 5,by simpa using h.cell 6,by simpa using h.cell 7,by simpa using h.cell 8,by simpa using h.cell 9,by simpa using h.cell 10,by simpa using h.cell 11,by simpa using h.cell 12⟩
def KD (W:World) (c d g:Nat):Prop:=Blk W c 435 #[.pointer (some ⟨d,0,none⟩),.pointer (some ⟨g,0,none⟩),.int .i64 0,.int .i64 0,.int .i64 1,.int .i64 0,.int .i64 1,.int .i64 0,.int .i64 0,.int .i64 1,.int .i64 0,.int .i64 1,.int .i64 0]
theorem ZAL (w:World) (d g:Nat) :
 Calls Tryz.prog 299 #[.pointer (some ⟨d,0,none⟩),.pointer (some ⟨g,0,none⟩),.agg #[.int .i64 0,.int .i64 0,.int .i64 1,.int .i64 0,.int .i64 1]] w fun e w'=>∃ c,e=.returned (.pointer (some ⟨c,0,none⟩))∧KD w' c d g∧w.heap.size≤c∧Keep [] w w':=by
 go_enter Tryz.func299,Tryz.ntmps299
 go_wp2
 go_ret;exact⟨_,rfl,Blk.new1 _ _ _ _,by simp,((Keep.refl _ _).alloc _).alloc _⟩
theorem JAM (w:World) (c d g:Nat) (hs:KD w c d g):Calls Tryz.prog 305 #[.pointer (some ⟨c,0,none⟩)] w fun e w'=>e=.returned (.int .i64 0)∧w=w':=by
 unfold KD at hs;have c12:=(Jd hs).2.2.2.2.2.2.2.2.2.2.2.2
 go_enter Tryz.func305,Tryz.ntmps305
 go_wp2
 go_ret;exact⟨rfl,rfl⟩
theorem KAL (w:World) (c d g:Nat) (hs:KD w c d g):Calls Tryz.prog 304 #[.pointer (some ⟨c,0,none⟩)] w fun e w'=>e=.returned (.agg #[.int .i64 0,.int .i64 0,.int .i64 1,.int .i64 0,.int .i64 1])∧Keep [] w w':=by
 unfold KD at hs;obtain⟨c0,c1,c2,c3,c4,c5,c6,c7,c8,c9,c10,c11,c12⟩:=Jd hs;have hlt:=hs.lt
 go_enter Tryz.func304,Tryz.ntmps304
 go_wp2
 exact bodyPost_ret (v:=.agg #[.int .i64 0,.int .i64 0,.int .i64 1,.int .i64 0,.int .i64 1]) (by simp[results,Tryz.results304,go_sem]) rfl ⟨rfl,(Keep.refl _ _).alloc _⟩
theorem VAZ (n:Nat) (v:Value) (w:World) (hv:v.oneCell'=true) :
 CallsIn Fence.wide n Tryz.prog 300 #[v] w fun e w'=>e=.returned (.func (.func 349) #[] #[.pointer (some ⟨w.heap.size,0,none⟩)])∧w'=w.alloc (.cells #[v] 392):=by
 refine(callsIn_wide (n:=n)).2 ?_
 go_enter Tryz.func300,Tryz.ntmps300
 go_wp2
 go_ret;exact⟨rfl,rfl⟩
theorem Jz {W:World} {c d g:Nat} (h:KD W c d g) :
 KD (((((W.setCell ⟨c,7,none⟩ (.int .i64 0)).setCell ⟨c,8,none⟩ (.int .i64 0)).setCell ⟨c,9,none⟩ (.int .i64 1)).setCell ⟨c,10,none⟩ (.int .i64 0)).setCell ⟨c,11,none⟩ (.int .i64 1)) c d g ∧
 Keep [c] W (((((W.setCell ⟨c,7,none⟩ (.int .i64 0)).setCell ⟨c,8,none⟩ (.int .i64 0)).setCell ⟨c,9,none⟩ (.int .i64 1)).setCell ⟨c,10,none⟩ (.int .i64 0)).setCell ⟨c,11,none⟩ (.int .i64 1)):=by
 unfold KD at *;have hz:=((((h.set 7 (.int .i64 0)).set 8 (.int .i64 0)).set 9 (.int .i64 1)).set 10 (.int .i64 0)).set 11 (.int .i64 1);simp only[List.setIfInBounds_toArray,List.set_cons_zero,List.set_cons_succ] at hz;exact⟨hz,(((((Keep.refl [c] W).setCell (p:=⟨c,7,none⟩) (.inl (by simp)) _).setCell (p:=⟨c,8,none⟩) (.inl (by simp)) _).setCell (p:=⟨c,9,none⟩) (.inl (by simp)) _).setCell (p:=⟨c,10,none⟩) (.inl (by simp)) _).setCell (p:=⟨c,11,none⟩) (.inl (by simp)) _⟩
theorem XAE {W:World} {c d g:Nat} (h:KD W c d g):KD (W.setCell ⟨c,12,none⟩ (.int .i64 0)) c d g∧Keep [c] W (W.setCell ⟨c,12,none⟩ (.int .i64 0)):=by
 unfold KD at *;have hz:=h.set 12 (.int .i64 0);simp only[List.setIfInBounds_toArray,List.set_cons_zero,List.set_cons_succ] at hz;exact⟨hz,(Keep.refl [c] W).setCell (p:=⟨c,12,none⟩) (.inl (by simp)) _⟩
theorem QAM {F:Fence} {n:Nat} {P:Program} {c:Code} {Q:Exit→Act→World→Prop} {a:Act} {w:World} (h:c.wpIn F n P (ZBM Q) a w):c.wpIn F n P Q a w:=
 wpIn_mono h (fun e a w h=>by cases e <;> first | exact h | exact h.elim)
theorem VBQ {P X:World→Nat→Nat→Prop} {G:Prop} (f:(∀ a b c,P a b c→X a b c)→G) (r:∀ a b c,P a b c→X a b c):G:=f r
def ChS (cb c d g:Nat) (W:World):Prop:=W.cell? ⟨cb,0,none⟩=some (.pointer (some ⟨c,0,none⟩))∧W.cell? ⟨c,0,none⟩=some (.pointer (some ⟨d,0,none⟩))∧W.cell? ⟨c,1,none⟩=some (.pointer (some ⟨g,0,none⟩))∧W.cell? ⟨c,7,none⟩=some (.int .i64 0)∧W.cell? ⟨c,8,none⟩=some (.int .i64 0)∧W.cell? ⟨c,9,none⟩=some (.int .i64 1)∧W.cell? ⟨c,10,none⟩=some (.int .i64 0)∧W.cell? ⟨c,11,none⟩=some (.int .i64 1)
theorem ChS.of {W:World} {cb c d g:Nat} (h:KD W c d g) (hb:Boxed W cb 392 (.pointer (some ⟨c,0,none⟩))):ChS cb c d g W:=by
 unfold KD at h;obtain⟨c0,c1,c2,c3,c4,c5,c6,c7,c8,c9,c10,c11,c12⟩:=Jd h;exact⟨hb.cell,c0,c1,c7,c8,c9,c10,c11⟩
structure ChP (w w4:World) (N cb c d g:Nat) (V:World) (s b:Nat):Prop where
 ch:KD V c d g
 cbx:Boxed V cb 392 (.pointer (some ⟨c,0,none⟩))
 more:Blk V N 4 #[.bool true]
 scan:VJ V s d g
 box:Boxed V b 300 (.pointer none)
 kept:Keep [] w4 V
 sl:w4.heap.size≤s
 bl:w4.heap.size≤b
theorem QAS {w:World} {g:Nat} {t:TypeId} {cs:Array Value} (h:Blk w g t cs) (o n:Nat) (hn:o+n≤cs.size):w.there g o n:=fun j hj=>by
 rw[h.cell,Array.getElem?_eq_getElem (by omega)];exact⟨rfl,h.frozen _⟩
theorem KAE (b o:Nat) (x0 x1 x2 x3 x4:Value) (h1:∀ u∈[x0,x1,x2,x3,x4],u.oneCell'=true) (W:World) (h:W.there b o 5):(Instr.storeAt 175 (.pointer (some ⟨b,o,none⟩)) (.agg #[x0,x1,x2,x3,x4])).run Tryz.prog W=.ok () (W.setCells b o [x0,x1,x2,x3,x4]):=
 run_storeAt_mid W b o 175 #[x0,x1,x2,x3,x4] (by simpa using h) (by kernel_rfl) (all_oneCell_toArray h1)
theorem ZAC (n:Nat) (w:World) (v:Value) (hv:v.oneCell'=true) (cb c d g B base:Nat) (F:List Nat) (D:PDisk) (hb:Boxed w cb 392 (.pointer (some ⟨c,0,none⟩))) (hs:KD w c d g) (hg:GeomAt w g B) (h:DiskAt w base d F D) (hoff:D.off=false) (hn:D.n=198+4*pgs B) (hf:D.faults[6+4*pgs B]? = some false) (hz:seg 64 D.now (6+4*pgs B)=List.replicate 64 0) (hcF:c∉F) (hcg:c≠g) (hcb:cb≠c) :
 CallsIn Fence.wide n Tryz.prog 349 #[v,.pointer (some ⟨cb,0,none⟩)] w fun e w'=>(∃ u,e=.returned u)∧KD w' c d g∧Keep [c] w w':=by
 refine callsIn_of_wp_marks Tryz.func349 rfl trivial ?_ rfl;simp only[Tryz.ntmps349,List.size_toArray,List.length_cons,List.length_nil,Nat.reduceAdd,Nat.reduceSub,Array.replicate_succ,Array.replicate_zero,List.push_toArray,List.append_toArray,List.nil_append,List.cons_append];have hb0:=JA hb ((Keep.refl [] _).alloc (.cells #[v] 425)) (by simp);have hcm:=hb.cell;have hbl:=hb.lt;have hkA:Keep [c] w (w.alloc (.cells #[v] 425)):=(Keep.refl _ _).alloc _;have hsA:KD (w.alloc (.cells #[v] 425)) c d g:=hs.keep0 ((Keep.refl _ _).alloc _)
 gi_wp2
 generalize (w.alloc (.cells #[v] 425))=w1 at *;clear hcm hbl;have hbd:=JA hb0 (Keep.refl [] w1).drew (by simp);have hsd:KD w1.drew c d g:=hsA.keep0 (Keep.refl [] w1).drew;have q0:=hbd.cell;have hsd':=id hsd;unfold KD at hsd';obtain⟨c0,c1,c2,c3,c4,c5,c6,c7,c8,c9,c10,c11,c12⟩:=Jd hsd';refine KH (wpIn_wide.2 ?_);refine ZT (fun W=>W.cell? ⟨cb,0,none⟩=some (.pointer (some ⟨c,0,none⟩))∧W.cell? ⟨c,2,none⟩=some (.int .i64 0)∧W.cell? ⟨c,3,none⟩=some (.int .i64 0)∧W.cell? ⟨c,4,none⟩=some (.int .i64 1)∧W.cell? ⟨c,5,none⟩=some (.int .i64 0)∧W.cell? ⟨c,6,none⟩=some (.int .i64 1)) 9 [[0,1,2,3,4,5,6,7],[8]] ⟨q0,c2,c3,c4,c5,c6⟩ ?_;simp only[PI]
 iterate 8 (refine ZH ?_;simp only[Act.put,PU])
 have hkd:=hkA.drew;have f7:=hsd'.frozen 7;have f8:=hsd'.frozen 8;have f9:=hsd'.frozen 9;have f10:=hsd'.frozen 10;have f11:=hsd'.frozen 11;have hlt:=hsd'.lt;obtain⟨hs2,hk2⟩:=Jz hsd;have hb2:=JA hbd hk2 (by simpa using hcb);have hs2':=id hs2;unfold KD at hs2';obtain⟨e0,e1,e2,e3,e4,e5,e6,e7,e8,e9,e10,e11,e12⟩:=Jd hs2';have HE:=JB (show _∧_∧_∧_∧_∧_ from ⟨hb2.cell,e2,e3,e4,e5,e6⟩);clear e0 e1 e2 e3 e4 e5 e6 e7 e8 e9 e10 e11 e12;refine XB (by rfl) (fun K hK=>?_);refine Zb _ _ _ rfl _ _ rfl rfl (KAE c 7 (.int .i64 0) (.int .i64 0) (.int .i64 1) (.int .i64 0) (.int .i64 1) (by simp[Value.oneCell']) _ (QAS hsd' 7 5 (by simp))) ?_;refine hK _ _ (XA HE) ?_;clear hK K
 try simp only[Act.put,PU]
 refine YB ?_;have hkw2:=hkd.trans hk2 (fun x hx=>.inl hx);replace hs2:KD (w1.drew.setCells c 7 [.int .i64 0,.int .i64 0,.int .i64 1,.int .i64 0,.int .i64 1]) c d g:=hs2;replace hb2:Boxed (w1.drew.setCells c 7 [.int .i64 0,.int .i64 0,.int .i64 1,.int .i64 0,.int .i64 1]) cb 392 (.pointer (some ⟨c,0,none⟩)):=hb2;replace hkw2:Keep [c] w (w1.drew.setCells c 7 [.int .i64 0,.int .i64 0,.int .i64 1,.int .i64 0,.int .i64 1]):=hkw2;clear HE hs2' hk2 hkd hsd' q0 c0 c1 c2 c3 c4 c5 c6 c7 c8 c9 c10 c11 c12 f7 f8 f9 f10 f11 hlt hsd hbd hkA hsA hb0;generalize w1.drew.setCells c 7 [.int .i64 0,.int .i64 0,.int .i64 1,.int .i64 0,.int .i64 1]=w2 at *;obtain⟨hs3,hk3⟩:=XAE hs2;have c12:w2.cell? ⟨c,12,none⟩=some (.int .i64 0):=by unfold KD at hs2;exact(Jd hs2).2.2.2.2.2.2.2.2.2.2.2.2
 have f12:w2.frozen? ⟨c,12,none⟩=false:=by unfold KD at hs2;exact hs2.frozen 12
 have hb3:=JA hb2 hk3 (by simpa using hcb);have hkw3:=hkw2.trans hk3 (fun x hx=>.inl hx)
 go_wp2_with fail
 clear c12 f12 hk3 hb2 hs2 hkw2;generalize w2.setCell ⟨c,12,none⟩ (.int .i64 0)=w3 at *
 gi_wp2
 have hNl:w.heap.size≤w3.heap.size:=hkw3.size;have hbB:=Blk.new w3 4 #[.bool true];have hka:=(Keep.refl [] w3).alloc (.cells #[.bool true] 4);replace hs3:KD (w3.alloc (.cells #[.bool true] 4)) c d g:=hs3.keep0 hka;replace hb3:=JA hb3 hka (by simp);replace hkw3:=hkw3.trans0 hka;have hNc:w3.heap.size≠c:=fun e=>by unfold KD at hs3;exact Blk.ne_ hbB hs3 (by decide) e
 have hNb:w3.heap.size≠cb:=fun e=>by have h1:=hbB;rw[e] at h1;exact Blk.ne_ h1 hb3 (by decide) rfl
 clear hka;generalize w3.alloc (.cells #[.bool true] 4)=w4 at *;generalize w3.heap.size=N at *;refine wpIn_loop_rounds 2 ?_;rw[roundsIn_succ];have hN0:w4.cell? ⟨N,0,none⟩=some (.bool true):=by simpa using hbB.cell 0
 gi_wp2
 clear hN0;have hSN:=fun W=>YAV W d g;refine KH (wpIn_wide.2 ?_);refine ZR (ChS cb c d g) 14 (.held 0 (.held 1 (.held 2 (.held 3 (.held 4 (.held 5 (.held 6 (.held 7 (.held 8 (.held 9 (.held 10 (.held 11 (.two 12 (.loud 13 .nil) 13 (.loud 12 .nil)))))))))))))) (ChS.of (Blk.keep0 hs3 (Keep.refl [] w4).drew) (JA hb3 (Keep.refl [] w4).drew (by simp))) ?_;simp only[RT.pick,PJ]
 iterate 12 (refine wpR_held ?_ (by rfl) ?_ ?_;rotate_left;(focus(rintro W ⟨hW0,hW1,hW2,hW3,hW4,hW5,hW6,hW7⟩;go_simp;try with_reducible rfl));simp only[Act.put,PU])
 refine @VBQ (ChP w w4 N cb c d g) ?XA _ (fun hR=>?_) ?_;rotate_left
 · have hk0:Keep [] w4 w4.drew:=(Keep.refl [] w4).drew
   have hsD:KD w4.drew c d g:=hs3.keep0 hk0;have hbD:=JA hb3 hk0 (by simp);have hbBD:=hbB.keep0 hk0;generalize w4.drew=V0 at hk0 hsD hbD hbBD ⊢;refine wpR_two ?_ ?_
   · refine wpR_loud (by rfl) (fun K hK=>?_)
     go_wp2_with (refine(hSN _).mono ?_;rintro e V1 ⟨s,rfl,hsS,hsl,hkS⟩)
     have hk1:=hk0.trans0 hkS;have hs1:KD V1 c d g:=hsD.keep0 hkS;have hb1:=JA hbD hkS (by simp);refine hK _ _ ((ChS.of hs1 hb1)) ?_;clear hK K
     try simp only[Act.put,PU]
     refine wpR_loud (by rfl) (fun K hK=>?_)
     go_wp2_with fail
     have hka:=(Keep.refl [] V1).alloc (.cells #[.pointer none] 300);have hbx:=Boxed.new V1 300 (.pointer none);have hbl:=hk1.size;generalize V1.alloc (.cells #[.pointer none] 300)=V2 at hka hbx ⊢;generalize V1.heap.size=b at hbx hbl ⊢;refine hK _ _ ((ChS.of (Blk.keep0 hs1 hka) (JA hb1 hka (by simp)))) ?_;clear hK K
     try simp only[Act.put,PU]
     refine wpR_nil ?_;exact hR V2 s b ⟨Blk.keep0 hs1 hka,JA hb1 hka (by simp),(hbBD.keep0 hkS).keep0 hka,Blk.keep0 hsS hka,hbx,hk1.trans0 hka,Nat.le_trans hk0.size hsl,hbl⟩
   · refine wpR_loud (by rfl) (fun K hK=>?_)
     go_wp2_with fail
     have hka:=(Keep.refl [] V0).alloc (.cells #[.pointer none] 300);have hbx:=Boxed.new V0 300 (.pointer none);have hbl:=hk0.size;have hsz:=hka.size;generalize V0.alloc (.cells #[.pointer none] 300)=V2 at hka hbx hsz ⊢;generalize V0.heap.size=b at hbx hbl hsz ⊢;have hs1:KD V2 c d g:=hsD.keep0 hka;have hb1:=JA hbD hka (by simp);refine hK _ _ ((ChS.of hs1 hb1)) ?_;clear hK K
     try simp only[Act.put,PU]
     refine wpR_loud (by rfl) (fun K hK=>?_)
     go_wp2_with (refine(hSN _).mono ?_;rintro e V1 ⟨s,rfl,hsS,hsl,hkS⟩)
     refine hK _ _ ((ChS.of (hs1.keep0 hkS) (JA hb1 hkS (by simp)))) ?_;clear hK K
     try simp only[Act.put,PU]
     refine wpR_nil ?_;exact hR V1 s b ⟨Blk.keep0 hs1 hkS,JA hb1 hkS (by simp),(hbBD.keep0 hka).keep0 hkS,hsS,JA hbx hkS (by simp),(hk0.trans0 hka).trans0 hkS,by omega,hbl⟩
 rintro V s b ⟨q1,q2,q3,q4,q5,q6,q7,q8⟩;have hbN:b≠N:=fun e=>by have h1:=q5;rw[e] at h1;exact Blk.ne_ h1 q3 (by decide) rfl
 have hbc:b≠c:=fun e=>by unfold KD at q1;have h1:=q5;rw[e] at h1;exact Blk.ne_ h1 q1 (by decide) rfl
 have hbcb:b≠cb:=fun e=>by have h1:=q5;rw[e] at h1;exact Blk.ne_ h1 q2 (by decide) rfl
 have hbs:b≠s:=fun e=>by unfold VJ at q4;have h1:=q5;rw[e] at h1;exact Blk.ne_ h1 q4 (by decide) rfl
 have hNs:N≠s:=fun e=>by unfold VJ at q4;have h1:=q3;rw[e] at h1;exact Blk.ne_ h1 q4 (by decide) rfl
 have hcs:c≠s:=fun e=>by unfold VJ at q4;unfold KD at q1;have h1:=q1;rw[e] at h1;exact Blk.ne_ h1 q4 (by decide) rfl
 have hcbs:cb≠s:=fun e=>by unfold VJ at q4;have h1:=q2;rw[e] at h1;exact Blk.ne_ h1 q4 (by decide) rfl
 have hkw4:Keep [c] w V:=hkw3.trans0 q6;have hwl:w.heap.size≤w4.heap.size:=hkw3.size;have hkz:Keep [b,N] V ((V.setCell ⟨b,0,none⟩ (.pointer (some ⟨s,0,none⟩))).setCell ⟨N,0,none⟩ (.bool false)):=((Keep.refl [b,N] V).setCell (p:=⟨b,0,none⟩) (.inl (by simp)) _).setCell (p:=⟨N,0,none⟩) (.inl (by simp)) _;have r1:KD ((V.setCell ⟨b,0,none⟩ (.pointer (some ⟨s,0,none⟩))).setCell ⟨N,0,none⟩ (.bool false)) c d g:=Blk.keep q1 hkz (by simp;exact⟨fun e=>hbc e.symm,fun e=>hNc e.symm⟩);have r2:=JA q2 hkz (by simp;exact⟨fun e=>hbcb e.symm,fun e=>hNb e.symm⟩);have r4:VJ ((V.setCell ⟨b,0,none⟩ (.pointer (some ⟨s,0,none⟩))).setCell ⟨N,0,none⟩ (.bool false)) s d g:=Blk.keep q4 hkz (by simp;exact⟨fun e=>hbs e.symm,fun e=>hNs e.symm⟩)
 have r3:Blk ((V.setCell ⟨b,0,none⟩ (.pointer (some ⟨s,0,none⟩))).setCell ⟨N,0,none⟩ (.bool false)) N 4 #[.bool false]:=by
  have h1:=(q3.keep ((Keep.refl [b] V).setCell (p:=⟨b,0,none⟩) (.inl (by simp)) (.pointer (some ⟨s,0,none⟩))) (by simpa using fun e=>hbN e.symm)).set 0 (.bool false);simpa using h1
 have r5:Boxed ((V.setCell ⟨b,0,none⟩ (.pointer (some ⟨s,0,none⟩))).setCell ⟨N,0,none⟩ (.bool false)) b 300 (.pointer (some ⟨s,0,none⟩)):=JA (q5.set (.pointer (some ⟨s,0,none⟩))) ((Keep.refl [N] _).setCell (p:=⟨N,0,none⟩) (.inl (by simp)) _) (by simpa using hbN);have z0:=q5.cell;have z1:=q5.frozen;have z2:V.cell? ⟨N,0,none⟩=some (.bool true):=by simpa using q3.cell 0
 have z3:=q3.frozen 0;have hPl:=YAq (n-1) (.pointer (some ⟨s,0,none⟩)) ((V.setCell ⟨b,0,none⟩ (.pointer (some ⟨s,0,none⟩))).setCell ⟨N,0,none⟩ (.bool false)) rfl
 go_wp2_with fail
 gi_wp2_with (refine⟨trivial,fun h=>by simp[Fence.wide] at h,?_⟩;refine hPl.mono ?_;clear hPl;rintro e w' ⟨rfl,rfl⟩)
 have hkv:Keep [c] w ((V.setCell ⟨b,0,none⟩ (.pointer (some ⟨s,0,none⟩))).setCell ⟨N,0,none⟩ (.bool false)):=hkw4.trans hkz (fun x hx=>.inr (by simp at hx;rcases hx with rfl | rfl <;> omega));have hszV:((V.setCell ⟨b,0,none⟩ (.pointer (some ⟨s,0,none⟩))).setCell ⟨N,0,none⟩ (.bool false)).heap.size=V.heap.size:=by simp
 clear z0 z1 z2 z3 q1 q2 q3 q4 q5 q6 hkz hkw4 hs3 hb3 hbB hkw3;generalize (V.setCell ⟨b,0,none⟩ (.pointer (some ⟨s,0,none⟩))).setCell ⟨N,0,none⟩ (.bool false)=V2 at *;obtain⟨V3,hV3⟩:∃ V3,V3=V2.alloc (.cells #[.pointer (some ⟨s,0,none⟩)] 300):=⟨_,rfl⟩;rw[← hV3];have hka:Keep [] V2 V3:=by rw[hV3];exact(Keep.refl [] V2).alloc _
 have hbx:Boxed V3 V.heap.size 300 (.pointer (some ⟨s,0,none⟩)):=by rw[hV3,← hszV];exact Boxed.new V2 _ _
 have s3:V3.heap.size=V2.heap.size+1:=by rw[hV3];simp
 clear hV3;replace r1:KD V3 c d g:=Blk.keep0 r1 hka;replace r2:=JA r2 hka (by simp);replace r4:VJ V3 s d g:=Blk.keep0 r4 hka;replace r3:=r3.keep0 hka;replace r5:=JA r5 hka (by simp);have hk3:Keep [c] w V3:=hkv.trans0 hka;have hsl2:s<V3.heap.size:=by unfold VJ at r4;exact r4.lt
 have hVl:w.heap.size≤V2.heap.size:=hkv.size
 refine Vd (n:=n) (gf:=342) (lb:=#[.pointer (some ⟨V.heap.size,0,none⟩)]) rfl (enters_of Tryz.func342 (by kernel_rfl) rfl) [s] (fun x hx=>by simp at hx;omega) (fun W=>VJ W s d g)
  (fun W l o o' h hl hg' ho=>ZJ o' h hg' ho) (fun l W hW _=>?_) (fun D' W hD' hk hG hdef=>?_)
 · refine(callsIn_wide (n:=n-1)).2 ((YAH W (.func (.yield l) #[] #[]) V.heap.size s d g B base F D (JA hbx hW (by simp)) (Blk.keep0 r4 hW) ?_ ?_ hoff hn hf hz ?_ ?_ ?_).mono ?_)
   · exact(hg.keep hk3 (by simpa using fun e=>hcg e.symm)).keep0 hW
   · exact(h.keep hk3 (fun x hx hm=>by simp at hm;subst hm;exact hcF hx)).keep0 hW
   · intro hm;have:=h.lt s hm;omega
   · intro e;have:=hg.lt;omega
   · have:=q7;intro e;subst e;unfold VJ at r4;exact Blk.ne_ hbx r4 (by decide) rfl
   · rintro e w' ⟨h1,h2,h3⟩
     exact⟨h1,h3,h2⟩
 · have u1:KD W c d g:=Blk.keep r1 hk (by simpa using hcs)
   have u2:=JA r2 hk (by simpa using hcbs);have u3:=r3.keep hk (by simpa using hNs);have u5:=JA r5 hk (by simpa using hbs);have hkW:Keep [c] w W:=hk3.trans hk (fun x hx=>.inr (by simp at hx;omega));have hD3:w.heap.size≤D':=by omega
   have z:W.cell? ⟨N,0,none⟩=some (.bool false):=by simpa using u3.cell 0
   have hDc:D'≠c:=fun e=>by
    unfold KD at u1;rw[e] at hdef;rw[show W.heap[c]? = _ from u1] at hdef;cases hdef
   clear r1 r2 r3 r4 r5 hk3 hk hbx s3 hka hkv hszV
   gi_wp2
   clear z;refine QAM (wpIn_wide.2 ?_);have hEnd:=fun X (hX:Keep [] W X)=>XAY X s d g (Blk.keep0 hG hX);have hErr:=fun X (hX:Keep [] W X)=>VAV X s d g (Blk.keep0 hG hX);have hkd:Keep [] W W.drew:=(Keep.refl [] W).drew;refine ZT (fun X=>X.cell? ⟨cb,0,none⟩=some (.pointer (some ⟨c,0,none⟩))∧X.cell? ⟨b,0,none⟩=some (.pointer (some ⟨s,0,none⟩))) 9 [[0,1,2,4],[3],[5,6,7],[8]] ⟨(JA u2 hkd (by simp)).cell,(JA u5 hkd (by simp)).cell⟩ ?_;simp only[PI]
   iterate 4 (refine ZH ?_;simp only[Act.put,PU])
   refine XB (by rfl) (fun K hK=>?_)
   go_wp2_with (refine(hEnd _ hkd).mono ?_;rintro e W1 ⟨rfl,hk1⟩)
   have hkd1:=hkd.trans0 hk1;refine hK _ _ (⟨(JA u2 hkd1 (by simp)).cell,(JA u5 hkd1 (by simp)).cell⟩) ?_;clear hK K
   try simp only[Act.put,PU]
   refine XB (by rfl) (fun K hK=>?_)
   go_wp2_with (refine(hErr _ hkd1).mono ?_;rintro e W2 ⟨rfl,rfl⟩)
   refine hK _ _ (⟨(JA u2 hkd1 (by simp)).cell,(JA u5 hkd1 (by simp)).cell⟩) ?_;clear hK K
   try simp only[Act.put,PU]
   iterate 2 (refine ZH ?_;simp only[Act.put,PU])
   have v1:KD W1 c d g:=Blk.keep0 u1 hkd1;obtain⟨hs2,hk2⟩:=Jz v1;have v2:=JA (JA u2 hkd1 (by simp)) hk2 (by simpa using hcb);have v5:=JA (JA u5 hkd1 (by simp)) hk2 (by simpa using hbc);have v3:=(u3.keep0 hkd1).keep hk2 (by simpa using hNc);have HV:=JB (show _∧_ from ⟨v2.cell,v5.cell⟩);refine XB (by rfl) (fun K hK=>?_);refine Zb _ _ _ rfl _ _ rfl rfl (KAE c 7 (.int .i64 0) (.int .i64 0) (.int .i64 1) (.int .i64 0) (.int .i64 1) (by simp[Value.oneCell']) _ (QAS (t:=435) v1 7 5 (by simp))) ?_;refine hK _ _ (XA HV) ?_;clear hK K
   try simp only[Act.put,PU]
   refine YB ?_;have hkW2:Keep [c] w (W1.setCells c 7 [.int .i64 0,.int .i64 0,.int .i64 1,.int .i64 0,.int .i64 1]):=(hkW.trans0 hkd1).trans hk2 (fun x hx=>.inl hx);replace hs2:KD (W1.setCells c 7 [.int .i64 0,.int .i64 0,.int .i64 1,.int .i64 0,.int .i64 1]) c d g:=hs2;replace v2:Boxed (W1.setCells c 7 [.int .i64 0,.int .i64 0,.int .i64 1,.int .i64 0,.int .i64 1]) cb 392 (.pointer (some ⟨c,0,none⟩)):=v2;replace v3:Blk (W1.setCells c 7 [.int .i64 0,.int .i64 0,.int .i64 1,.int .i64 0,.int .i64 1]) N 4 #[.bool false]:=v3
   have hdef2:(W1.setCells c 7 [.int .i64 0,.int .i64 0,.int .i64 1,.int .i64 0,.int .i64 1]).heap[D']? = some (.deferred (some [])):=
    ((hkd1.zero.trans hk2 (fun x hx=>.inl hx)).block D' (Array.getElem?_eq_some_iff.1 hdef).1 (by simpa using hDc)).trans hdef
   clear HV u1 u2 u3 u5 hkW hEnd hErr hkd hk1 hkd1 v1 hk2 v5 hdef hG;generalize W1.setCells c 7 [.int .i64 0,.int .i64 0,.int .i64 1,.int .i64 0,.int .i64 1]=W3 at *;obtain⟨hs3,hk3⟩:=XAE hs2;have c12:W3.cell? ⟨c,12,none⟩=some (.int .i64 0):=by unfold KD at hs2;exact(Jd hs2).2.2.2.2.2.2.2.2.2.2.2.2
   have f12:W3.frozen? ⟨c,12,none⟩=false:=by unfold KD at hs2;exact hs2.frozen 12
   go_wp2_with fail
   have v4:Blk (W3.setCell ⟨c,12,none⟩ (.int .i64 0)) N 4 #[.bool false]:=v3.keep hk3 (by simpa using hNc);have hkW3:=hkW2.trans hk3 (fun x hx=>.inl hx);have hdef3:(W3.setCell ⟨c,12,none⟩ (.int .i64 0)).heap[D']? = some (.deferred (some [])):=(hk3.block D' (Array.getElem?_eq_some_iff.1 hdef2).1 (by simpa using hDc)).trans hdef2;clear c12 f12 hk3 v3 v2 hdef2 hs2 hkW2;generalize W3.setCell ⟨c,12,none⟩ (.int .i64 0)=W4 at *;simp only[ZBM];have z:W4.cell? ⟨N,0,none⟩=some (.bool false):=by simpa using v4.cell 0
   gi_wp2
   rw[show (1:Nat)=0+1 from rfl,roundsIn_succ];have hka:=(Keep.refl [] W4).alloc (.cells #[.bool false] 4);have v6:=Blk.new W4 4 #[.bool false];have v7:KD (W4.alloc (.cells #[.bool false] 4)) c d g:=Blk.keep0 hs3 hka;have hkE:=hkW3.trans0 hka;have hdefE:(W4.alloc (.cells #[.bool false] 4)).heap[D']? = some (.deferred (some [])):=hka.heap_same hdef3;clear z hka v4 hs3 hkW3 hdef3;generalize W4.alloc (.cells #[.bool false] 4)=W5 at *;generalize W4.heap.size=N5 at *;have z:W5.cell? ⟨N5,0,none⟩=some (.bool false):=by simpa using v6.cell 0
   gi_wp2
   refine⟨by simp,.inl ⟨_,_,rfl,run_takeDeferred hdefE,?_⟩⟩;refine⟨.tuple #[],?_,⟨_,rfl⟩,ZJ _ v7 hdefE rfl,hkE.putObj (by omega) _⟩;simp[results,Tryz.results349,go_sem]
end
section
open Go.RowKit
def ZL (B s:Nat) (a:Int):Bool:=decide (0<a) && ((a.toNat-(6+4*pgs B)) / 24 == s)
theorem KAd {B s:Nat} {a:Int} (h:ZL B s a=true):0<a∧(a.toNat-(6+4*pgs B)) / 24=s:=by
 simpa [ZL] using h
theorem VI {B s:Nat} {a:Int} (h:a≤0):ZL B s a=false:=by
 unfold ZL;rw[decide_eq_false (by omega)];rfl
def KZ (B:Nat) (I:PImage) (s:Nat):Nat:=I.bl.countP (ZL B s)+I.ol.countP (ZL B s)
structure LiveOk (B:Nat) (lv:List Nat) (I:PImage):Prop where
 len:lv.length=8
 live:∀ s<8,lv.getD s 0=KZ B I s
 diff:∀ i,0<I.ol.getD i 0→I.ol.getD i 0≠I.bl.getD i 0
structure Ext (B:Nat) (S:PS):Prop where
 segs:KP S.us S.W.pos.seg
 liv:LiveOk B S.lv S.I
 slot:S.slot≤1
 lie0:∀ x∈S.lie0,x≤1
 lie1:∀ x∈S.lie1,x≤1
theorem Qe (lv:List Nat) (s:Nat) (z:Int):(YL lv s z).length=lv.length:=by simp[YL]
theorem KAa (lv:List Nat) (s k:Nat) (hl:lv.getD s 0≤1000000) (hs:s<lv.length):(YL lv s 1).getD k 0=lv.getD k 0+if k=s then 1 else 0:=by
 unfold YL;rw[List.getD_eq_getElem?_getD,List.getElem?_set]
 by_cases h:k=s
 · subst h
   rw[if_pos rfl,if_pos hs,if_pos rfl,if_neg (by omega)];simp only[Option.getD_some];omega
 · rw[if_neg (by omega),if_neg h,← List.getD_eq_getElem?_getD];rfl
theorem KAG (lv:List Nat) (s k:Nat) (hk:k<lv.length) (hl:lv.getD s 0≤1000000):(YL lv s (-1)).getD k 0=lv.getD k 0-if s=k then 1 else 0:=by
 unfold YL;rw[List.getD_eq_getElem?_getD,List.getElem?_set]
 by_cases h:s=k
 · subst h
   rw[if_pos rfl,if_pos hk,if_pos rfl,if_neg (by omega)];simp only[Option.getD_some];omega
 · rw[if_neg (by omega),if_neg h,← List.getD_eq_getElem?_getD];rfl
theorem JAI {B:Nat} (zs:List Int) (lv:List Nat) (h8:lv.length=8) (hm:∀ k,lv.getD k 0≤1000000) :
 (zs.foldl (fun lv x=>if 0<x then YL lv ((x.toNat-(6+4*pgs B)) / 24) (-1) else lv) lv).length=8∧∀ k<8,(zs.foldl (fun lv x=>if 0<x then YL lv ((x.toNat-(6+4*pgs B)) / 24) (-1) else lv) lv).getD k 0=lv.getD k 0-zs.countP (ZL B k):=by
 induction zs generalizing lv with
 | nil=>exact⟨h8,fun k hk=>by simp⟩
 | cons z zs ih=>
   simp only[List.foldl_cons]
   by_cases hz:0<z
   · rw[if_pos hz]
     have hd:=KAG lv ((z.toNat-(6+4*pgs B)) / 24)
     obtain⟨i1,i2⟩:=ih (YL lv ((z.toNat-(6+4*pgs B)) / 24) (-1)) (by rw[Qe];exact h8) (fun k=>by
      by_cases hk:k<lv.length
      · rw[hd k hk (hm _)];have:=hm k;omega
      · rw[List.getD_eq_getElem?_getD,List.getElem?_eq_none (by rw[Qe];omega)];simp)
     refine⟨i1,fun k hk=>?_⟩;rw[i2 k hk,hd k (by omega) (hm _),List.countP_cons];unfold ZL;rw[decide_eq_true hz];simp only[Bool.true_and,beq_iff_eq]
     split <;> omega
   · rw[if_neg hz]
     obtain⟨i1,i2⟩:=ih lv h8 hm;refine⟨i1,fun k hk=>?_⟩;rw[i2 k hk,List.countP_cons,VI (by omega)];simp
theorem Jh {B:Nat} {lv:List Nat} {a:Nat} {zs:List Int} (h8:lv.length=8) (hm:∀ k,lv.getD k 0≤1000) (ha:(a-(6+4*pgs B)) / 24<8) :
 (Xd B lv a zs).length=8∧∀ k<8,(Xd B lv a zs).getD k 0=lv.getD k 0+(if ZL B k (a:Nat) then 1 else 0)-zs.countP (ZL B k):=by
 unfold Xd
 by_cases h0:a=0
 · subst h0
   rw[if_pos rfl];obtain⟨i1,i2⟩:=JAI (B:=B) zs lv h8 (fun k=>by have:=hm k;omega);refine⟨i1,fun k hk=>?_⟩;rw[i2 k hk,VI (by omega)];simp
 · rw[if_neg h0]
   have hu:=fun k=>KAa lv ((a-(6+4*pgs B)) / 24) k (by have:=hm ((a-(6+4*pgs B)) / 24);omega) (by omega);obtain⟨i1,i2⟩:=JAI (B:=B) zs (YL lv ((a-(6+4*pgs B)) / 24) 1) (by rw[Qe];exact h8) (fun k=>by rw[hu];have:=hm k;split <;> omega);refine⟨i1,fun k hk=>?_⟩;rw[i2 k hk,hu];unfold ZL;rw[decide_eq_true (by omega)];simp only[Bool.true_and,beq_iff_eq,Int.toNat_natCast]
   congr 2
   by_cases e:k=(a-(6+4*pgs B)) / 24
   · rw[if_pos e,if_pos e.symm]
   · rw[if_neg e,if_neg (fun h=>e h.symm)]
theorem YBA {B:Nat} {S:PS} {k j s:Nat} (hg:Good B S k j) (hs:(S.us.getD s (0,0)).1=0):KZ B S.I s=0:=by
 have key:∀ x:Int,x = -1∨RefOk B S x→ZL B s x=false:=by
  intro x hx
  by_cases h:ZL B s x=true
  · obtain⟨h1,h2⟩:=KAd h
    rcases hx with rfl | rfl | ⟨_,hl⟩
    · omega
    · omega
    · have:=hl.used
      rw[h2] at this;exact absurd hs this
  · simpa using h
 unfold KZ;rw[List.countP_eq_zero.2 (fun x hx=>by rw[key x (.inr (hg.brefs x hx))];simp),List.countP_eq_zero.2 (fun x hx=>by rw[key x (hg.orefs x hx)];simp)]
theorem KBO {B:Nat} {I:PImage} {a:Int} (ha:a∈I.bl∨a∈I.ol) (h0:0<a):0<KZ B I ((a.toNat-(6+4*pgs B)) / 24):=by
 have hin:ZL B ((a.toNat-(6+4*pgs B)) / 24) a=true:=by simp[ZL,h0]
 unfold KZ;rcases ha with ha | ha
 · have:=List.countP_pos_iff.2 ⟨a,ha,hin⟩;omega
 · have:=List.countP_pos_iff.2 ⟨a,ha,hin⟩;omega
theorem JBF {B:Nat} {S:PS} {k j:Nat} (hg:Good B S k j) (s:Nat):KZ B S.I s≤128:=by
 unfold KZ;have h1:=List.countP_le_length (p:=ZL B s) (l:=S.I.bl);have h2:=List.countP_le_length (p:=ZL B s) (l:=S.I.ol);have:=hg.bl;have:=hg.ol;have:=hg.b64;omega
theorem LiveOk.small {B:Nat} {S:PS} {k j:Nat} (h:LiveOk B S.lv S.I) (hg:Good B S k j) (s:Nat):S.lv.getD s 0≤1000:=by
 by_cases hs:s<8
 · rw[h.live s hs];have:=JBF hg s;omega
 · rw[List.getD_eq_getElem?_getD,List.getElem?_eq_none (by have:=h.len;omega)];simp
theorem JAF {us:List (Nat×Nat)} {s t x:Nat} (h:KP us s) (hx:x≤2147483647):KP (VF us t x) s:=by
 obtain⟨h1,h2,h3⟩:=h;unfold VF;refine⟨by simpa using h1,fun u hu=>?_,fun k hk=>?_⟩
 · rcases List.mem_or_eq_of_mem_set hu with hu | rfl
   · exact h2 u hu
   · refine⟨?_,hx⟩
     simp only
     by_cases ht:t<us.length
     · rw[QH ht];exact(h2 _ (List.getElem_mem _)).1
     · rw[List.getD_eq_getElem?_getD,List.getElem?_eq_none (by omega)];simp
 · rw[List.getElem_set]
   split
   · rename_i e
     subst e;simp only[List.length_set] at hk;rw[QH hk];exact h3 t hk
   · exact h3 k (by simpa using hk)
theorem Emitted.segs {B:Nat} {D D':PDisk} {us us':List (Nat×Nat)} {W W':PW} {s:Nat} (hE:Emitted B D us W D' us' W') (h:KP us s) (hl:W.pos.lsn≤2147483647):KP us' s:=by
 rcases hE with⟨_,_,rfl,_⟩ | ⟨_,D1,W1,rs,sum,_,_,_,_,rfl,_⟩
 · exact h
 · exact JAF h hl
theorem Added.ext {B:Nat} {S:PS} {D':PDisk} {us':List (Nat×Nat)} {lv':List Nat} {W':PW} {k j a:Nat} {i:PItem} {bs:List UInt8} (hA:Added B S.D S.us S.lv S.W i bs D' us' lv' W' a) (hg:Good B S k j) (hk:k≤50) (hj:j≤100000) (hx:Ext B S) :
 KP us' W'.pos.seg∧LiveOk B lv' S.I:=by
 obtain⟨W1,hR,rfl,ha⟩:=hA;have hlsn:=hg.cap.lsn;have hm:KV i≤1:=by unfold KV;split <;> omega
 rcases hR with⟨hf,rfl,rfl,rfl,rfl⟩ | ⟨hnf,hf,hE,rfl⟩ | ⟨hnf,hf,rfl,D1,us1,W2,hE,hT⟩
 · exact⟨hx.segs,hx.liv⟩
 · refine⟨?_,hx.liv⟩
   have hs:=hE.segs hx.segs (by omega);obtain⟨_,_,e3,_⟩:=hg.cap.emitted hE;simp only;rw[e3];exact hs
 · have hfree:=hg.cap.free hk hm hf
   obtain⟨g1,g2⟩:=QV S.us (by omega);have hul:=hg.cap.ul;have hsg:=hg.cap.seg;have hl:=hx.liv.len;refine⟨?_,⟨by simpa using hl,fun s hs=>?_,hx.liv.diff⟩⟩
   · obtain⟨rs,hd,sum,t1,t2,t3,rfl,rfl,rfl⟩:=hT
     obtain⟨f1,f2,f3,f4,f5,f6,f7,f8,f9,f10,f11,f12⟩:=hE.facts hg.cap.ok;simp only;obtain⟨h1,h2,h3⟩:=hx.segs;have hul1:us1.length=8:=by rcases f10 with rfl | rfl <;> simpa using hul
     have hlsn2:W2.pos.lsn≤S.W.pos.lsn+1:=f6
     have hst:∀ q<8,(us1.getD q (0,0)).1=((QE S.us (YC S.us) 1).getD q (0,0)).1:=by
      intro q hq;rcases f10 with rfl | rfl
      · rfl
      · rw[JJ]
     have hne:S.W.pos.seg≠YC S.us:=by
      intro e;have:=hg.cap.opn;rw[e,g2] at this;omega
     have hstp:∀ u∈us1,u.1≤2∧u.2≤2147483647:=by
      have h0:∀ u∈QE S.us (YC S.us) 1,u.1≤2∧u.2≤2147483647:=by
       intro u hu;unfold QE at hu;rcases List.mem_or_eq_of_mem_set hu with hu | rfl
       · exact h2 u hu
       · refine⟨by simp,?_⟩
         simp only;rw[QH g1];exact(h2 _ (List.getElem_mem _)).2
      rcases f10 with rfl | rfl
      · exact h0
      · intro u hu
        unfold VF at hu;rcases List.mem_or_eq_of_mem_set hu with hu | rfl
        · exact h0 u hu
        · refine⟨?_,by simp only;omega⟩
          simp only;rw[QH (by simp[QE];omega)];exact(h0 _ (List.getElem_mem _)).1
     refine⟨by simp[QE,VF];exact hul1,?_,?_⟩
     · intro u hu
       unfold QE at hu;rcases List.mem_or_eq_of_mem_set hu with hu | rfl
       · unfold VF at hu
         rcases List.mem_or_eq_of_mem_set hu with hu | rfl
         · exact hstp u hu
         · refine⟨?_,by simp only;omega⟩
           simp only;rw[QH (by omega)];exact(hstp _ (List.getElem_mem _)).1
       · refine⟨by simp,?_⟩
         simp only;rw[QH (by simp[VF];omega)];unfold VF;rw[List.getElem_set_self];simp only;omega
     · intro q hq
       have hq8:q<8:=by simpa [QE,VF,hul1] using hq
       rw[← QH hq,ZG _ _ _ _ (by simp[VF];omega),JJ,hst q hq8,ZG _ _ _ _ g1];rw[f3]
       by_cases e:q=S.W.pos.seg
       · rw[if_pos e]
         subst e;constructor
         · intro h;omega
         · intro h;exact absurd h hne
       · rw[if_neg e]
         by_cases e2:q=YC S.us
         · rw[if_pos e2];simp[e2]
         · rw[if_neg e2]
           rw[QH (by omega),h3 q (by omega)];constructor
           · intro h;exact absurd h e
           · intro h;exact absurd h e2
   · rw[List.getD_eq_getElem?_getD,List.getElem?_set]
     split
     · rename_i e
       subst e;rw[if_pos (by omega)];exact(YBA hg g2).symm
     · rw[← List.getD_eq_getElem?_getD]
       exact hx.liv.live s hs
theorem Qq {p:Int→Bool} {l:List Int} {i:Nat} {a:Int} (hi:i<l.length):(l.set i a).countP p+(if p l[i] then 1 else 0)=l.countP p+if p a then 1 else 0:=by
 have:=List.countP_set (p:=p) (l:=l) (i:=i) (a:=a) hi
 have h2:(if p l[i] then 1 else 0)≤l.countP p:=by
  split
  · exact List.countP_pos_iff.2 ⟨l[i],List.getElem_mem _,by assumption⟩
  · omega
 omega
theorem Ve {B s:Nat} {x z:Int} (h:0<x→x≠z):ZL B s (XE x z)=ZL B s x:=by
 unfold XE
 by_cases hx:0<x
 · rw[if_neg (h hx),show max x 0=x by omega]
 · rw[VI (a:=x) (by omega)]
   split
   · exact VI (by omega)
   · exact VI (by omega)
theorem Wrote.ext {B:Nat} {S S':PS} {b:Nat} {bs:List UInt8} {k j:Nat} (h:Wrote B S b bs S') (hg:Good B S k j) (hk:k≤50) (hj:j≤100000) (hb:b<B) (hx:Ext B S):Ext B S':=by
 obtain⟨D',us',lv1,W',a,hA,rfl⟩:=h;obtain⟨hs,hl⟩:=hA.ext hg hk hj hx;obtain⟨r1,r2,r3,r4,r5⟩:=hA.reads hg.cap hk hg.now hg.many;obtain⟨ra,rb⟩:=r5 rfl;have ha0:0<a:=by have:=ra.lo;omega
 have ha8:(a-(6+4*pgs B)) / 24<8:=by have:=ra.hi;omega
 have hol:=hg.ol
 have hne:∀ x:Int,x = -1∨RefOk B S x→0<x→x≠(a:Nat):=by
  intro x hx h0;rcases hx with rfl | rfl | ⟨_,hy⟩
  · omega
  · omega
  · have:=(r4 _ hy).2.2 rfl
    omega
 have hm:=fun s=>LiveOk.small (S:={ S with lv:=lv1 }) hl ⟨hg.cap,hg.now,hg.many,hg.flt,hg.flen,hg.b1,hg.b64,hg.bl,hg.ol,hg.brefs,hg.orefs,hg.seq,hg.epoch,hg.done⟩ s;obtain⟨l1,l2⟩:=Jh (B:=B) (zs:=[XE (S.I.ol.getD b 0) a]) hl.len hm ha8;refine⟨hs,⟨l1,fun s hs=>?_,fun i hi=>?_⟩,hx.slot,hx.lie0,hx.lie1⟩
 · rw[l2 s hs,hl.live s hs]
   unfold KZ;simp only;have hc:=Qq (p:=ZL B s) (l:=S.I.ol) (i:=b) (a:=(a:Nat)) (by omega);have hbo:S.I.ol.getD b 0=S.I.ol[b]:=Jr (by omega);rw[List.countP_cons,List.countP_nil,hbo,Ve (fun h0=>hne _ (hg.orefs _ (List.getElem_mem _)) h0)]
   have h2:(if ZL B s S.I.ol[b] then 1 else 0)≤S.I.ol.countP (ZL B s):=by
    split
    · exact List.countP_pos_iff.2 ⟨S.I.ol[b],List.getElem_mem _,by assumption⟩
    · omega
   omega
 · simp only at hi ⊢
   rw[List.getD_eq_getElem?_getD,List.getElem?_set] at hi ⊢
   split
   · rename_i e
     subst e;rw[if_pos (by omega)];simp only[Option.getD_some];intro he;have hbl:=hg.bl;rw[Jr (by omega)] at he;exact hne _ (.inr (hg.brefs _ (List.getElem_mem _))) (by rw[← he];omega) he.symm
   · rename_i e
     rw[if_neg e,← List.getD_eq_getElem?_getD] at hi;rw[← List.getD_eq_getElem?_getD];exact hx.liv.diff i hi
theorem JAW (B s b n:Nat) (l:List Int) (ds:List Bool) (hb:b+n≤l.length):(QG b n l ds).2.1.countP (ZL B s)+(QG b n l ds).1.countP (ZL B s)=l.countP (ZL B s):=by
 induction n with
 | zero=>simp[QG]
 | succ n ih=>
   rw[QQ];unfold YO;simp only;have hlen:=(QK b n l ds).1;have hlt:b+n<(QG b n l ds).2.1.length:=by omega
   have hc:=Qq (p:=ZL B s) (a:=0) hlt;rw[List.countP_append,Jr hlt];have hz:ZL B s 0=false:=VI (by omega);rw[hz] at hc
   have h2:(if 0<XE (QG b n l ds).2.1[b+n] 0 then [XE (QG b n l ds).2.1[b+n] 0] else []).countP (ZL B s)=if ZL B s (QG b n l ds).2.1[b+n] then 1 else 0:=by
    rw[← Ve (z:=0) (fun h=>by omega)];generalize XE (QG b n l ds).2.1[b+n] 0=g
    by_cases hg:0<g
    · rw[if_pos hg];simp[List.countP_cons]
    · rw[if_neg hg,VI (by omega)];simp
   have:=ih (by omega);rw[h2];simp at hc;omega
theorem Trimmed.ext {B:Nat} {S S':PS} {b n:Nat} {k j:Nat} (h:Trimmed B S b n S') (hg:Good B S k j) (hk:k≤50) (hj:j≤100000) (hb:b+n≤B) (hx:Ext B S):Ext B S':=by
 obtain⟨D',us',lv1,W',a,hA,rfl⟩:=h;obtain⟨hs,hl⟩:=hA.ext hg hk hj hx;have hol:=hg.ol;have hm:=fun s=>LiveOk.small (S:={ S with lv:=lv1 }) hl ⟨hg.cap,hg.now,hg.many,hg.flt,hg.flen,hg.b1,hg.b64,hg.bl,hg.ol,hg.brefs,hg.orefs,hg.seq,hg.epoch,hg.done⟩ s;obtain⟨l1,l2⟩:=Jh (B:=B) (a:=0) (zs:=(QG b n S.I.ol S.I.od).1) hl.len hm (by omega);refine⟨hs,⟨l1,fun s hs=>?_,fun i hi=>?_⟩,hx.slot,hx.lie0,hx.lie1⟩
 · rw[l2 s hs,hl.live s hs]
   unfold KZ;simp only;have hc:=JAW B s b n S.I.ol S.I.od (by omega);rw[VI (a:=((0:Nat):Int)) (by omega)];simp only[Bool.false_eq_true,if_false];omega
 · simp only at hi ⊢
   rw[List.getD_eq_getElem?_getD,Ji] at hi ⊢
   split
   · rename_i e
     rw[if_pos e] at hi;simp at hi
   · rename_i e
     rw[if_neg e,← List.getD_eq_getElem?_getD] at hi;rw[← List.getD_eq_getElem?_getD];exact hx.liv.diff i hi
theorem QBK (B s:Nat) (bl ol:List Int) (hl:bl.length=ol.length) (hd:∀ i,0<ol.getD i 0→ol.getD i 0≠bl.getD i 0) (hr:∀ x∈ol,-1≤x) :
 (List.zipWith (fun b o=>if o = -1 then b else o) bl ol).countP (ZL B s)+((bl.zip ol).flatMap (fun p=>if p.2 = -1 then [] else if 0<XE p.1 p.2 then [XE p.1 p.2] else [])).countP (ZL B s)=bl.countP (ZL B s)+ol.countP (ZL B s):=by
 induction bl generalizing ol with
 | nil=>
   cases ol with
   | nil=>rfl
   | cons o ol=>simp at hl
 | cons b bl ih=>
   cases ol with
   | nil=>simp at hl
   | cons o ol=>
     have hi:=ih ol (by simpa using hl) (fun i hi=>by simpa using hd (i+1) (by simpa using hi)) (fun x hx=>hr x (by simp[hx]));have h0:=hd 0;simp only[List.getD_cons_zero] at h0;have hro:=hr o (by simp);rw[List.zipWith_cons_cons,List.zip_cons_cons,List.flatMap_cons,List.countP_cons,List.countP_cons,List.countP_cons,List.countP_append]
     by_cases ho:o = -1
     · subst ho
       rw[if_pos rfl,VI (a := -1) (by omega)];simp;omega
     · rw[if_neg ho]
       simp only[if_neg ho];have hg:ZL B s (XE b o)=ZL B s b:=Ve (fun hb e=>by subst e;exact h0 hb rfl);rw[← hg];generalize XE b o=g
       by_cases hgp:0<g
       · rw[if_pos hgp,List.countP_cons,List.countP_nil];omega
       · rw[if_neg hgp,VI (a:=g) (by omega)];simp;omega
theorem Marked.ext {B:Nat} {S S':PS} {e:Nat} {k j:Nat} (h:Marked B S e S') (hg:Good B S k j) (hk:k≤50) (hj:j≤100000) (he:1≤e∧e≤j+1) (hx:Ext B S):Ext B S':=by
 obtain⟨D1,us1,lv1,W1,a,D2,us2,W2,bd,od,hA,hE,rfl⟩:=h;have hmay:PItem.May ⟨3,0,0,e⟩:=.inr (.inr (.inl ⟨rfl,rfl,rfl,he.1,by simp only;omega⟩));have hc:=hg.cap.added hk hmay (fun h=>by cases h) hA;obtain⟨hs,hl⟩:=hA.ext hg hk hj hx;obtain⟨_,_,e3,_⟩:=hc.emitted hE;have hlsn:=hc.lsn;have hs2:=hE.segs hs (by omega);have hol:=hg.ol;have hbl:=hg.bl;have hlen:S.I.bl.length=S.I.ol.length:=by omega
 have hm:=fun s=>LiveOk.small (S:={ S with lv:=lv1 }) hl ⟨hg.cap,hg.now,hg.many,hg.flt,hg.flen,hg.b1,hg.b64,hg.bl,hg.ol,hg.brefs,hg.orefs,hg.seq,hg.epoch,hg.done⟩ s;obtain⟨l1,l2⟩:=Jh (B:=B) (a:=0) (zs:=Vv S.I.bl S.I.ol S.I.ol.length) hl.len hm (by omega);refine⟨by simp only;rw[e3];exact hs2,⟨l1,fun s hs=>?_,fun i hi=>?_⟩,hx.slot,hx.lie0,hx.lie1⟩
 · rw[l2 s hs,hl.live s hs]
   unfold KZ;simp only
   have hc:=QBK B s S.I.bl S.I.ol hlen hl.diff (fun x hx=>by
    rcases hg.orefs x hx with rfl | rfl | ⟨h,_⟩ <;> omega)
   rw[Vm hlen,VO,VI (a:=((0:Nat):Int)) (by omega)];unfold Vv;rw[List.take_of_length_le (by simp;omega),List.countP_replicate,VI (a := -1) (by omega)];simp only[Bool.false_eq_true,if_false];omega
 · simp only at hi ⊢
   rw[VO,List.getD_eq_getElem?_getD,List.getElem?_replicate] at hi
   split at hi <;> simp at hi
theorem Does.ext {B:Nat} {S S':PS} {o:POp} {k j:Nat} (h:Does B S o S') (ho:Xe B o) (hg:Good B S k j) (hk:k≤50) (hj:j≤100000) (hx:Ext B S):Ext B S':=by
 rcases h with⟨h1,h2⟩ | ⟨h1,h2⟩ | ⟨h1,h2,h3⟩
 · rcases ho with⟨_,o1,o2,o3⟩ | ⟨o0,_⟩ | ⟨o0,_⟩
   · exact h2.ext hg hk hj (by omega) hx
   · omega
   · omega
 · rcases ho with⟨o0,_⟩ | ⟨_,o1,o2,o3⟩ | ⟨o0,_⟩
   · omega
   · exact h2.ext hg hk hj (by omega) hx
   · omega
 · have he:=hg.epoch
   exact h3.ext hg hk hj (by omega) hx
end
end Go.Proofs.YtkonbpfbjiepfaaGreat
