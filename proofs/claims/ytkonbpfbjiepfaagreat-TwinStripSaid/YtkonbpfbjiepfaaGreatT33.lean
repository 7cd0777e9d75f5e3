/- Lemmas of the proof, with their conditions. -/
import Derived.Test.YtkonbpfbjiepfaaGreatT32
namespace Go.Proofs.YtkonbpfbjiepfaaGreat
set_option linter.unusedSimpArgs false
set_option linter.unusedVariables false
set_option maxHeartbeats 1000000
set_option maxRecDepth 100000
section
open Go.RowKit
theorem VAa {z:Int} (h1 : -1≤z) (h2:z<4096):(z = -1∧Kx z=4294967295)∨(0≤z∧((Kx z:Nat):Int)=z∧Kx z<4096):=by
 unfold Kx
 split <;> omega
theorem ZAI {w w':World} {base b2 r a n:Nat} {v u:Value} {bs:List UInt8} {xs:List Value} (hR:RowAt w base r v bs a) (hu:w.ownsRow b2 3 1 u n xs) (hk:Keep u.ownBlock.toList w w'):RowAt w' base r v bs a:=
 ⟨hR.blk.keep hk (fun hm=>own_blk_ne hu hR.blk (by decide) (by simpa using hm)),XB hR.own hk (fun x hx hm=>own_ne hR.own hu (by decide) hx (by simpa using hm)),hR.base,hR.le,hR.few⟩
theorem XAp (A:Option Addr) (c:Nat) (zs:List Int) (w:World) (ha:Rd w A 64 (bys (QQ zs))) (hl:zs.length=15) (hz:∀ z∈zs,-1≤z∧z<4096) :
 Calls Tryz.prog 293 #[.slice A 64 c] w fun e w'=>∃ u,e=.returned (.tuple #[u,.int .i64 0])∧w'.ownsRow w.heap.size 3 1 u 15 (VI zs)∧Keep [] w w':=by
 have hlen:=XR (zs:=zs) (by omega);obtain⟨t,hbs⟩:∃ t,QQ zs=fields (YQ zs)++t:=ZV 64 _;have hE:=fun A' c' W (hr:Rd W A' 15 (VI zs))=>Jt A' 15 c' zs W hr hz (by omega);generalize QQ zs=bs at *;have hF:=fun W (hk:Keep [] w W)=>ZX A 64 c bs W (ha.keep hk) (by omega);have HLEN:=XC hlen;have HBS:=XC hbs;have HL:=XC hl;clear hlen hbs hl
 go_enter Tryz.func293,Tryz.ntmps293
 go_wp2_with (
  (refine(hF _ (Keep.refl _ _)).mono ?_)
  clear hF;rintro e w2 ⟨r,v,rfl,hR,hk2⟩)
 go_loopw [2,5,6,11] (fun u _ _ i wr=>∃ k:Nat,k≤15∧i=.int .i64 k∧wr.ownsRow w.heap.size 3 1 u k (VI (zs.take k))∧RowAt wr w.heap.size r v bs (4*k)∧Keep [] w wr) (fun _ _ _ i _=>15-(intOf i).toNat)
 case atStart=>exact⟨0,Nat.zero_le _,rfl,World.ownsRow_nil _ _ _ _,hR,hk2⟩
 case round=>
  clear hR hk2;obtain⟨k,hk,rfl,hu,hR,hK⟩:=hrel;obtain⟨UA,uc,rfl,_⟩:=JB hu
  by_cases hlt:k<15
  · have hltI:((k:Nat):Int)<15:=by omega
    have hkl:k<zs.length:=by rw[JA HL];exact hlt
    have hts:YQ zs=(YQ zs).take k++(4,Kx zs[k]) :: (YQ zs).drop (k+1):=by
     have:=List.take_append_drop k (YQ zs);rw[List.drop_eq_getElem_cons (by simpa [YQ] using hkl)] at this;simpa [YQ] using this.symm
    have hwk:4*k=widths ((YQ zs).take k):=by
     unfold YQ;rw[← List.map_take];have:=VO (zs.take k);rw[List.length_take,Nat.min_eq_left (by omega)] at this;exact this.symm
    obtain⟨h1,h2⟩:=hz _ (List.getElem_mem hkl);have hG:=XAU (k:=4) (n:=Kx zs[k]) ((YQ zs).take k) ((YQ zs).drop (k+1)) hR (by rw[← hts];exact JA HBS) hwk (by omega) (JAd h2);have htk:Hid (VI (zs.take (k+1))=VI (zs.take k)++[.int .i64 zs[k]]):=XC (by rw[List.take_succ_eq_append_getElem hkl];simp only[VI,List.map_append,List.map_cons,List.map_nil];rfl);have hb:=VAa h1 h2;clear hts hwk;generalize zs[k]=z at *;generalize Kx z=m at *;rcases hb with⟨hz1,hm1⟩ | ⟨h0,hzm,hm4⟩
    · subst hz1 hm1
      go_wp2_with (first
       | (go_at_call 226
          refine hG.mono ?_;clear hG;rintro e w3 ⟨rfl,hR3,hk3⟩;have hu3:=XB hu hk3 (fun x hx hm=>by simp at hm;subst hm;exact own_blk_ne hu hR.blk (by decide) hx)
          have hK3:=hK.trans hk3 (fun x hx=>.inr (by have:=hR.fresh x (by simp at hx;simp[hx]);omega)))
       | (at_builtin
          refine elemInts.wp_app rfl _ _ rfl w.heap.size _ k (VI (zs.take k)) rfl (VC hu3 _) (some ⟨w3.heap.size,0,none⟩) 1 1 [.int .i64 (-1)] rfl (Rd.of_blk (n:=1) (Blk.new w3 3 #[.int .i64 (-1)]) (by simp)) (by simp[Value.oneCell']) (by omega) (by omega) (Nat.le_trans hK3.size (by simp)) ?_;rintro v' w7 hv7 hk7 _ _))
      go_roundw
      case rel=>
       refine⟨k+1,by omega,by go_num,by rw[JA htk];exact hv7,?_,(hK3.alloc _).trans hk7 (fun x hx=>.inr (own_mem hu3 hx).1)⟩;rw[Nat.mul_succ];exact ZAI (hR3.keep0 ((Keep.refl _ _).alloc _)) (VC hu3 _) hk7
      case measure=>simp[intOf];omega
    · subst hzm
      have hne:((m:Nat):Int)≠4294967295:=by omega
      go_wp2_with (first
       | (go_at_call 226
          refine hG.mono ?_;clear hG;rintro e w3 ⟨rfl,hR3,hk3⟩;have hu3:=XB hu hk3 (fun x hx hm=>by simp at hm;subst hm;exact own_blk_ne hu hR.blk (by decide) hx)
          have hK3:=hK.trans hk3 (fun x hx=>.inr (by have:=hR.fresh x (by simp at hx;simp[hx]);omega)))
       | (at_builtin
          refine elemInts.wp_app rfl _ _ rfl w.heap.size _ k (VI (zs.take k)) rfl (VC hu3 _) (some ⟨w3.heap.size,0,none⟩) 1 1 [.int .i64 (m:Nat)] rfl (Rd.of_blk (n:=1) (Blk.new w3 3 #[.int .i64 (m:Nat)]) (by simp)) (by simp[Value.oneCell']) (by omega) (by omega) (Nat.le_trans hK3.size (by simp)) ?_;rintro v' w7 hv7 hk7 _ _))
      go_roundw
      case rel=>
       refine⟨k+1,by omega,by go_num,by rw[JA htk];exact hv7,?_,(hK3.alloc _).trans hk7 (fun x hx=>.inr (own_mem hu3 hx).1)⟩;rw[Nat.mul_succ];exact ZAI (hR3.keep0 ((Keep.refl _ _).alloc _)) (VC hu3 _) hk7
      case measure=>simp[intOf];omega
  · obtain rfl:k=15:=by omega
    rw[List.take_of_length_le (by have:=JA HL;omega)] at hu
    go_wp2_with (
     (refine(hE _ _ _ (Rd.of_own hu)).mono ?_)
     clear hE;rintro e w4 ⟨u4,rfl,hu4,hk4⟩;obtain⟨A4,c4,rfl,_⟩:=JB hu4;have hEq:=KL A4 A 64 64 c4 c bs bs w4 (Rd.of_own hu4) (ha.keep (hK.trans0 hk4)))
    go_wp2_with (refine hEq.mono ?_;clear hEq;rintro e w' ⟨rfl,rfl⟩)
    go_ret2;exact⟨_,rfl,QB hu hk4,hK.trans0 hk4⟩
end
section
open Go.RowKit
theorem VAH {w:World} {base r a k n:Nat} {v:Value} {bs t:List UInt8} (l m:List (Nat×Nat)) (hR:RowAt w base r v bs a) (hbs:bs=fields (l++(k,n) :: m)++t) (ha:a=widths l) (hk:k=1∨k=2∨k=4) (hn:n<256 ^ k) :
 Calls Tryz.prog 390 #[.agg #[.pointer (some ⟨r,0,none⟩)],.int .i64 (k:Nat)] w fun e w'=>e=.returned (.int .i64 (n:Nat))∧RowAt w' base r v bs (a+k)∧Keep [r] w w':=by
 have hG:=fun W (hK:Keep [] w W)=>XAU (W0:=W) l m (hR.keep0 hK) hbs ha hk hn
 go_enter Tryz.func390,Tryz.ntmps390
 go_wp2_with (
  (refine(hG _ ((Keep.refl _ _).alloc _)).mono ?_)
  clear hG;rintro e w3 ⟨rfl,hR3,hk3⟩)
 go_ret;exact⟨rfl,hR3,((Keep.refl _ _).alloc _).zero.trans hk3 (fun x hx=>.inl hx)⟩
theorem JAp (zs:List Nat) (h:∀ z∈zs,z≤1) (n k:Nat) (hk:k<n):YJ zs n / 2 ^ k % 2=zs.getD k 0:=by
 induction n with
 | zero=>omega
 | succ n ih=>
   have hz:zs.getD k 0≤1:=by
    rw[List.getD_eq_getElem?_getD];rcases Nat.lt_or_ge k zs.length with h1 | h1
    · rw[List.getElem?_eq_getElem h1];exact h _ (List.getElem_mem h1)
    · rw[List.getElem?_eq_none h1];exact Nat.zero_le _
   simp only[YJ];rcases Nat.lt_or_ge k n with h1 | h1
   · rw[show zs.getD n 0*2 ^ n=2 ^ k*(2*(zs.getD n 0*2 ^ (n-k-1))) by
      rw[← Nat.mul_assoc,Nat.mul_comm (2 ^ k),Nat.mul_comm (2*2 ^ k)];rw[Nat.mul_assoc,Nat.mul_comm 2 (2 ^ k),← Nat.mul_assoc,← Nat.mul_assoc];rw[Nat.mul_assoc (zs.getD n 0),← Nat.pow_add,Nat.mul_assoc,← Nat.pow_succ]
      congr 2
      omega]
     rw[Nat.add_mul_div_left _ _ (Nat.two_pow_pos k),Nat.add_mul_mod_self_left];exact ih h1
   · obtain rfl:k=n:=by omega
     rw[Nat.mul_comm,Nat.add_mul_div_left _ _ (Nat.two_pow_pos k),Nat.div_eq_of_lt (Ze zs h k),Nat.zero_add];omega
theorem JAt (n k:Nat) (hn:n≤65536):bits BinOp.and IntKind.i64 (((n:Nat):Int) / 2 ^ k) 1=((n / 2 ^ k % 2:Nat):Int):=by
 have e:((n:Nat):Int) / 2 ^ k=((n / 2 ^ k:Nat):Int):=by simp
 have h2:n / 2 ^ k≤n:=Nat.div_le_self _ _;rw[e];generalize n / 2 ^ k=m at *;show IntKind.i64.wrap ((BitVec.ofInt 64 (m:Int) &&& BitVec.ofInt 64 1).toNat:Int)=_;have h3:(BitVec.ofInt 64 1).toNat=1:=by decide
 have h4:(BitVec.ofInt 64 (m:Int)).toNat=m:=by rw[BitVec.toNat_ofInt];omega
 rw[BitVec.toNat_and,h3,h4,Nat.and_one_is_mod,IntKind.wrap_i64];omega
theorem Za {w:World} {base r a p:Nat} {v:Value} {bs t:List UInt8} (zs:List Nat) (l m:List (Nat×Nat)) (hR:RowAt w base r v bs a) (hbs:bs=fields (l++(1,YJ zs p) :: m)++t) (ha:a=widths l) (hp:p≤8) (hz:∀ z∈zs,z≤1) (hl:zs.length=p) :
 Calls Tryz.prog 391 #[.agg #[.pointer (some ⟨r,0,none⟩)],.int .i64 (p:Nat)] w fun e w'=>∃ u,e=.returned u∧w'.ownsRow w.heap.size 3 1 u p (QH zs)∧RowAt w' base r v bs (a+1)∧Keep [r] w w':=by
 have hq:=Ze zs hz p;have h5:(2:Nat) ^ p≤256:=Nat.pow_le_pow_right (n:=2) (by omega) (show p≤8 by omega);have hO:=fun W (hK:Keep [] w W)=>VAH (w:=W) (k:=1) (n:=YJ zs p) l m (hR.keep0 hK) hbs ha (by omega) (by omega);have hget:=fun k (hk:k<p)=>JAp zs hz p k hk;have HL:=XC hl;have hq256:YJ zs p≤65536:=by omega
 clear hbs ha hl h5;have hand:=fun k=>JAt (YJ zs p) k hq256;generalize YJ zs p=q at *
 go_enter Tryz.func391,Tryz.ntmps391
 go_wp2_with (
  (refine(hO _ ((Keep.refl _ _).alloc _)).mono ?_)
  clear hO;rintro e w3 ⟨rfl,hR3,hk3⟩)
 have hk0:Keep [r] w w3:=((Keep.refl _ _).alloc _).zero.trans hk3 (fun x hx=>.inl hx)
 go_loopw [4,6,10] (fun u _ i wr=>∃ k:Nat,k≤p∧i=.int .i64 k∧wr.ownsRow w.heap.size 3 1 u k (QH (zs.take k))∧RowAt wr base r v bs (a+1)∧Keep [r] w wr) (fun _ _ i _=>p-(intOf i).toNat)
 case atStart=>exact⟨0,Nat.zero_le _,rfl,World.ownsRow_nil _ _ _ _,hR3,hk0⟩
 case round=>
  clear hR3 hk3 hk0 hR;obtain⟨k,hk,rfl,hu,hR,hK⟩:=hrel;obtain⟨UA,uc,rfl,_⟩:=JB hu
  by_cases hlt:k<p
  · have hltI:((k:Nat):Int)<(p:Nat):=by omega
    have hkl:k<zs.length:=by rw[JA HL];exact hlt
    have he:=hand k;rw[hget k hlt,List.getD_eq_getElem?_getD,List.getElem?_eq_getElem hkl,Option.getD_some] at he;have htk:Hid (QH (zs.take (k+1))=QH (zs.take k)++[.int .i64 (zs[k]:Nat)]):=XC (by rw[List.take_succ_eq_append_getElem hkl];simp only[QH,List.map_append,List.map_cons,List.map_nil]);generalize zs[k]=z at *;clear hand hget
    go_wp2_with (at_builtin
                 refine elemInts.wp_app rfl _ _ rfl w.heap.size _ k (QH (zs.take k)) rfl (VC hu _) (some ⟨wr.heap.size,0,none⟩) 1 1 [.int .i64 (z:Nat)] rfl (Rd.of_blk (n:=1) (Blk.new wr 3 #[.int .i64 (z:Nat)]) (by simp)) (by simp[Value.oneCell']) (by omega) (by omega) (Nat.le_trans hK.size (by simp)) ?_;rintro v' w7 hv7 hk7 _ _)
    go_roundw
    case rel=>
     refine⟨k+1,by omega,by go_num,by rw[JA htk];exact hv7,ZAI (hR.keep0 ((Keep.refl _ _).alloc _)) (VC hu _) hk7,(hK.alloc _).trans hk7 (fun x hx=>.inr (own_mem hu hx).1)⟩
    case measure=>simp[intOf];omega
  · obtain rfl:k=p:=by omega
    rw[List.take_of_length_le (by have:=JA HL;omega)] at hu
    go_wp2
    go_ret;exact⟨_,rfl,hu,hR,hK⟩
end
section
open Go.RowKit Go.Shelf
attribute [local go_sem] Oper.semAt_some
theorem QZ {w:World} {g:Nat} {t:TypeId} {x0 x1 x2 x3 x4 x5 x6 x7 x8 x9 x10 x11 x12:Value} (h:Blk w g t #[x0,x1,x2,x3,x4,x5,x6,x7,x8,x9,x10,x11,x12]) :
 w.cell? ⟨g,0,none⟩=some x0∧w.cell? ⟨g,1,none⟩=some x1∧w.cell? ⟨g,2,none⟩=some x2∧w.cell? ⟨g,3,none⟩=some x3∧w.cell? ⟨g,4,none⟩=some x4∧w.cell? ⟨g,5,none⟩=some x5∧w.cell? ⟨g,6,none⟩=some x6∧w.cell? ⟨g,7,none⟩=some x7∧w.cell? ⟨g,8,none⟩=some x8∧w.cell? ⟨g,9,none⟩=some x9∧w.cell? ⟨g,10,none⟩=some x10∧w.cell? ⟨g,11,none⟩=some x11∧w.cell? ⟨g,12,none⟩=some x12:=
 ⟨by simpa using h.cell 0,by simpa using h.cell 1,by simpa using h.cell 2,by simpa using h.cell 3,by simpa using h.cell 4,by simpa using h.cell 5,by simpa using h.cell 6,by simpa using h.cell 7,by simpa using h.cell 8,by simpa using h.cell 9,by simpa using h.cell 10,by simpa using h.cell 11,by simpa using h.cell 12⟩
def XD (W:World) (c d g:Nat):Prop:=Blk W c 435 #[.pointer (some ⟨d,0,none⟩),.pointer (some ⟨g,0,none⟩),.int .i64 0,.int .i64 0,.int .i64 1,.int .i64 0,.int .i64 1,.int .i64 0,.int .i64 0,.int .i64 1,.int .i64 0,.int .i64 1,.int .i64 0]
theorem QAE (w:World) (d g:Nat) :
 Calls Tryz.prog 299 #[.pointer (some ⟨d,0,none⟩),.pointer (some ⟨g,0,none⟩),.agg #[.int .i64 0,.int .i64 0,.int .i64 1,.int .i64 0,.int .i64 1]] w fun e w'=>∃ c,e=.returned (.pointer (some ⟨c,0,none⟩))∧XD w' c d g∧w.heap.size≤c∧Keep [] w w':=by
 go_enter Tryz.func299,Tryz.ntmps299
 go_wp2
 go_ret;exact⟨_,rfl,Blk.new1 _ _ _ _,by simp,((Keep.refl _ _).alloc _).alloc _⟩
theorem KAH (w:World) (c d g:Nat) (hs:XD w c d g):Calls Tryz.prog 305 #[.pointer (some ⟨c,0,none⟩)] w fun e w'=>e=.returned (.int .i64 0)∧w=w':=by
 unfold XD at hs;have c12:=(QZ hs).2.2.2.2.2.2.2.2.2.2.2.2
 go_enter Tryz.func305,Tryz.ntmps305
 go_wp2
 go_ret;exact⟨rfl,rfl⟩
theorem VAD (w:World) (c d g:Nat) (hs:XD w c d g):Calls Tryz.prog 304 #[.pointer (some ⟨c,0,none⟩)] w fun e w'=>e=.returned (.agg #[.int .i64 0,.int .i64 0,.int .i64 1,.int .i64 0,.int .i64 1])∧Keep [] w w':=by
 unfold XD at hs;obtain⟨c0,c1,c2,c3,c4,c5,c6,c7,c8,c9,c10,c11,c12⟩:=QZ hs;have hlt:=hs.lt
 go_enter Tryz.func304,Tryz.ntmps304
 go_wp2
 exact bodyPost_ret (v:=.agg #[.int .i64 0,.int .i64 0,.int .i64 1,.int .i64 0,.int .i64 1]) (by simp[results,Tryz.results304,go_sem]) rfl ⟨rfl,(Keep.refl _ _).alloc _⟩
theorem VAQ (n:Nat) (v:Value) (w:World) (hv:v.oneCell'=true) :
 CallsIn Fence.wide n Tryz.prog 300 #[v] w fun e w'=>e=.returned (.func (.func 349) #[] #[.pointer (some ⟨w.heap.size,0,none⟩)])∧w'=w.alloc (.cells #[v] 392):=by
 refine(callsIn_wide (n:=n)).2 ?_
 go_enter Tryz.func300,Tryz.ntmps300
 go_wp2
 go_ret;exact⟨rfl,rfl⟩
theorem Yo {W:World} {c d g:Nat} (h:XD W c d g) :
 XD (((((W.setCell ⟨c,7,none⟩ (.int .i64 0)).setCell ⟨c,8,none⟩ (.int .i64 0)).setCell ⟨c,9,none⟩ (.int .i64 1)).setCell ⟨c,10,none⟩ (.int .i64 0)).setCell ⟨c,11,none⟩ (.int .i64 1)) c d g ∧
 Keep [c] W (((((W.setCell ⟨c,7,none⟩ (.int .i64 0)).setCell ⟨c,8,none⟩ (.int .i64 0)).setCell ⟨c,9,none⟩ (.int .i64 1)).setCell ⟨c,10,none⟩ (.int .i64 0)).setCell ⟨c,11,none⟩ (.int .i64 1)):=by
 unfold XD at *;have hz:=((((h.set 7 (.int .i64 0)).set 8 (.int .i64 0)).set 9 (.int .i64 1)).set 10 (.int .i64 0)).set 11 (.int .i64 1);simp only[List.setIfInBounds_toArray,List.set_cons_zero,List.set_cons_succ] at hz;exact⟨hz,(((((Keep.refl [c] W).setCell (p:=⟨c,7,none⟩) (.inl (by simp)) _).setCell (p:=⟨c,8,none⟩) (.inl (by simp)) _).setCell (p:=⟨c,9,none⟩) (.inl (by simp)) _).setCell (p:=⟨c,10,none⟩) (.inl (by simp)) _).setCell (p:=⟨c,11,none⟩) (.inl (by simp)) _⟩
theorem Yz {W:World} {c d g:Nat} (h:XD W c d g):XD (W.setCell ⟨c,12,none⟩ (.int .i64 0)) c d g∧Keep [c] W (W.setCell ⟨c,12,none⟩ (.int .i64 0)):=by
 unfold XD at *;have hz:=h.set 12 (.int .i64 0);simp only[List.setIfInBounds_toArray,List.set_cons_zero,List.set_cons_succ] at hz;exact⟨hz,(Keep.refl [c] W).setCell (p:=⟨c,12,none⟩) (.inl (by simp)) _⟩
theorem QAD {F:Fence} {n:Nat} {P:Program} {c:Code} {Q:Exit→Act→World→Prop} {a:Act} {w:World} (h:c.wpIn F n P (XAw Q) a w):c.wpIn F n P Q a w:=
 wpIn_mono h (fun e a w h=>by cases e <;> first | exact h | exact h.elim)
theorem QBC {P X:World→Nat→Nat→Prop} {G:Prop} (f:(∀ a b c,P a b c→X a b c)→G) (r:∀ a b c,P a b c→X a b c):G:=f r
def ChS (cb c d g:Nat) (W:World):Prop:=W.cell? ⟨cb,0,none⟩=some (.pointer (some ⟨c,0,none⟩))∧W.cell? ⟨c,0,none⟩=some (.pointer (some ⟨d,0,none⟩))∧W.cell? ⟨c,1,none⟩=some (.pointer (some ⟨g,0,none⟩))∧W.cell? ⟨c,7,none⟩=some (.int .i64 0)∧W.cell? ⟨c,8,none⟩=some (.int .i64 0)∧W.cell? ⟨c,9,none⟩=some (.int .i64 1)∧W.cell? ⟨c,10,none⟩=some (.int .i64 0)∧W.cell? ⟨c,11,none⟩=some (.int .i64 1)
theorem ChS.of {W:World} {cb c d g:Nat} (h:XD W c d g) (hb:Boxed W cb 392 (.pointer (some ⟨c,0,none⟩))):ChS cb c d g W:=by
 unfold XD at h;obtain⟨c0,c1,c2,c3,c4,c5,c6,c7,c8,c9,c10,c11,c12⟩:=QZ h;exact⟨hb.cell,c0,c1,c7,c8,c9,c10,c11⟩
structure ChP (w w4:World) (N cb c d g:Nat) (V:World) (s b:Nat):Prop where
 ch:XD V c d g
 cbx:Boxed V cb 392 (.pointer (some ⟨c,0,none⟩))
 more:Blk V N 4 #[.bool true]
 scan:VH V s d g
 box:Boxed V b 300 (.pointer none)
 kept:Keep [] w4 V
 sl:w4.heap.size≤s
 bl:w4.heap.size≤b
theorem JAJ {w:World} {g:Nat} {t:TypeId} {cs:Array Value} (h:Blk w g t cs) (o n:Nat) (hn:o+n≤cs.size):w.there g o n:=fun j hj=>by
 rw[h.cell,Array.getElem?_eq_getElem (by omega)];exact⟨rfl,h.frozen _⟩
theorem QAA (b o:Nat) (x0 x1 x2 x3 x4:Value) (h1:∀ u∈[x0,x1,x2,x3,x4],u.oneCell'=true) (W:World) (h:W.there b o 5):(Instr.storeAt 175 (.pointer (some ⟨b,o,none⟩)) (.agg #[x0,x1,x2,x3,x4])).run Tryz.prog W=.ok () (W.setCells b o [x0,x1,x2,x3,x4]):=
 run_storeAt_mid W b o 175 #[x0,x1,x2,x3,x4] (by simpa using h) (by kernel_rfl) (all_oneCell_toArray h1)
theorem Ks (n:Nat) (w:World) (v:Value) (hv:v.oneCell'=true) (cb c d g B base:Nat) (F:List Nat) (D:PDisk) (hb:Boxed w cb 392 (.pointer (some ⟨c,0,none⟩))) (hs:XD w c d g) (hg:GeomAt w g B) (h:DiskAt w base d F D) (hoff:D.off=false) (hn:D.n=198+4*pgs B) (hf:D.faults[6+4*pgs B]? = some false) (hz:seg 64 D.now (6+4*pgs B)=List.replicate 64 0) (hcF:c∉F) (hcg:c≠g) (hcb:cb≠c) :
 CallsIn Fence.wide n Tryz.prog 349 #[v,.pointer (some ⟨cb,0,none⟩)] w fun e w'=>(∃ u,e=.returned u)∧XD w' c d g∧Keep [c] w w':=by
 refine callsIn_of_wp_marks Tryz.func349 rfl trivial ?_ rfl;simp only[Tryz.ntmps349,List.size_toArray,List.length_cons,List.length_nil,Nat.reduceAdd,Nat.reduceSub,Array.replicate_succ,Array.replicate_zero,List.push_toArray,List.append_toArray,List.nil_append,List.cons_append];have hb0:=KA hb ((Keep.refl [] _).alloc (.cells #[v] 425)) (by simp);have hcm:=hb.cell;have hbl:=hb.lt;have hkA:Keep [c] w (w.alloc (.cells #[v] 425)):=(Keep.refl _ _).alloc _;have hsA:XD (w.alloc (.cells #[v] 425)) c d g:=hs.keep0 ((Keep.refl _ _).alloc _)
 gi_wp2
 generalize (w.alloc (.cells #[v] 425))=w1 at *;clear hcm hbl;have hbd:=KA hb0 (Keep.refl [] w1).drew (by simp);have hsd:XD w1.drew c d g:=hsA.keep0 (Keep.refl [] w1).drew;have q0:=hbd.cell;have hsd':=id hsd;unfold XD at hsd';obtain⟨c0,c1,c2,c3,c4,c5,c6,c7,c8,c9,c10,c11,c12⟩:=QZ hsd';refine XF (wpIn_wide.2 ?_);refine ZT (fun W=>W.cell? ⟨cb,0,none⟩=some (.pointer (some ⟨c,0,none⟩))∧W.cell? ⟨c,2,none⟩=some (.int .i64 0)∧W.cell? ⟨c,3,none⟩=some (.int .i64 0)∧W.cell? ⟨c,4,none⟩=some (.int .i64 1)∧W.cell? ⟨c,5,none⟩=some (.int .i64 0)∧W.cell? ⟨c,6,none⟩=some (.int .i64 1)) 9 [[0,1,2,3,4,5,6,7],[8]] ⟨q0,c2,c3,c4,c5,c6⟩ ?_;simp only[PI]
 iterate 8 (refine ZH ?_;simp only[Act.put,PU])
 have hkd:=hkA.drew;have f7:=hsd'.frozen 7;have f8:=hsd'.frozen 8;have f9:=hsd'.frozen 9;have f10:=hsd'.frozen 10;have f11:=hsd'.frozen 11;have hlt:=hsd'.lt;obtain⟨hs2,hk2⟩:=Yo hsd;have hb2:=KA hbd hk2 (by simpa using hcb);have hs2':=id hs2;unfold XD at hs2';obtain⟨e0,e1,e2,e3,e4,e5,e6,e7,e8,e9,e10,e11,e12⟩:=QZ hs2';have HE:=XC (show _∧_∧_∧_∧_∧_ from ⟨hb2.cell,e2,e3,e4,e5,e6⟩);clear e0 e1 e2 e3 e4 e5 e6 e7 e8 e9 e10 e11 e12;refine ZB (by rfl) (fun K hK=>?_);refine VW _ _ _ rfl _ _ rfl rfl (QAA c 7 (.int .i64 0) (.int .i64 0) (.int .i64 1) (.int .i64 0) (.int .i64 1) (by simp[Value.oneCell']) _ (JAJ hsd' 7 5 (by simp))) ?_;refine hK _ _ (JA HE) ?_;clear hK K
 try simp only[Act.put,PU]
 refine QC ?_;have hkw2:=hkd.trans hk2 (fun x hx=>.inl hx);replace hs2:XD (w1.drew.setCells c 7 [.int .i64 0,.int .i64 0,.int .i64 1,.int .i64 0,.int .i64 1]) c d g:=hs2;replace hb2:Boxed (w1.drew.setCells c 7 [.int .i64 0,.int .i64 0,.int .i64 1,.int .i64 0,.int .i64 1]) cb 392 (.pointer (some ⟨c,0,none⟩)):=hb2;replace hkw2:Keep [c] w (w1.drew.setCells c 7 [.int .i64 0,.int .i64 0,.int .i64 1,.int .i64 0,.int .i64 1]):=hkw2;clear HE hs2' hk2 hkd hsd' q0 c0 c1 c2 c3 c4 c5 c6 c7 c8 c9 c10 c11 c12 f7 f8 f9 f10 f11 hlt hsd hbd hkA hsA hb0;generalize w1.drew.setCells c 7 [.int .i64 0,.int .i64 0,.int .i64 1,.int .i64 0,.int .i64 1]=w2 at *;obtain⟨hs3,hk3⟩:=Yz hs2;have c12:w2.cell? ⟨c,12,none⟩=some (.int .i64 0):=by unfold XD at hs2;exact(QZ hs2).2.2.2.2.2.2.2.2.2.2.2.2
 have f12:w2.frozen? ⟨c,12,none⟩=false:=by unfold XD at hs2;exact hs2.frozen 12
 have hb3:=KA hb2 hk3 (by simpa using hcb);have hkw3:=hkw2.trans hk3 (fun x hx=>.inl hx)
 go_wp2_with fail
 clear c12 f12 hk3 hb2 hs2 hkw2;generalize w2.setCell ⟨c,12,none⟩ (.int .i64 0)=w3 at *
 gi_wp2
 have hNl:w.heap.size≤w3.heap.size:=hkw3.size;have hbB:=Blk.new w3 4 #[.bool true];have hka:=(Keep.refl [] w3).alloc (.cells #[.bool true] 4);replace hs3:XD (w3.alloc (.cells #[.bool true] 4)) c d g:=hs3.keep0 hka;replace hb3:=KA hb3 hka (by simp);replace hkw3:=hkw3.trans0 hka;have hNc:w3.heap.size≠c:=fun e=>by unfold XD at hs3;exact Blk.ne_ hbB hs3 (by decide) e
 have hNb:w3.heap.size≠cb:=fun e=>by have h1:=hbB;rw[e] at h1;exact Blk.ne_ h1 hb3 (by decide) rfl
 clear hka;generalize w3.alloc (.cells #[.bool true] 4)=w4 at *;generalize w3.heap.size=N at *;refine wpIn_loop_rounds 2 ?_;rw[roundsIn_succ];have hN0:w4.cell? ⟨N,0,none⟩=some (.bool true):=by simpa using hbB.cell 0
 gi_wp2
 clear hN0;have hSN:=fun W=>XAQ W d g;refine XF (wpIn_wide.2 ?_);refine ZR (ChS cb c d g) 14 (.held 0 (.held 1 (.held 2 (.held 3 (.held 4 (.held 5 (.held 6 (.held 7 (.held 8 (.held 9 (.held 10 (.held 11 (.two 12 (.loud 13 .nil) 13 (.loud 12 .nil)))))))))))))) (ChS.of (Blk.keep0 hs3 (Keep.refl [] w4).drew) (KA hb3 (Keep.refl [] w4).drew (by simp))) ?_;simp only[RT.pick,PJ]
 iterate 12 (refine wpR_held ?_ (by rfl) ?_ ?_;rotate_left;(focus(rintro W ⟨hW0,hW1,hW2,hW3,hW4,hW5,hW6,hW7⟩;go_simp;try with_reducible rfl));simp only[Act.put,PU])
 refine @QBC (ChP w w4 N cb c d g) ?XA _ (fun hR=>?_) ?_;rotate_left
 · have hk0:Keep [] w4 w4.drew:=(Keep.refl [] w4).drew
   have hsD:XD w4.drew c d g:=hs3.keep0 hk0;have hbD:=KA hb3 hk0 (by simp);have hbBD:=hbB.keep0 hk0;generalize w4.drew=V0 at hk0 hsD hbD hbBD ⊢;refine wpR_two ?_ ?_
   · refine wpR_loud (by rfl) (fun K hK=>?_)
     go_wp2_with (refine(hSN _).mono ?_;rintro e V1 ⟨s,rfl,hsS,hsl,hkS⟩)
     have hk1:=hk0.trans0 hkS;have hs1:XD V1 c d g:=hsD.keep0 hkS;have hb1:=KA hbD hkS (by simp);refine hK _ _ ((ChS.of hs1 hb1)) ?_;clear hK K
     try simp only[Act.put,PU]
     refine wpR_loud (by rfl) (fun K hK=>?_)
     go_wp2_with fail
     have hka:=(Keep.refl [] V1).alloc (.cells #[.pointer none] 300);have hbx:=Boxed.new V1 300 (.pointer none);have hbl:=hk1.size;generalize V1.alloc (.cells #[.pointer none] 300)=V2 at hka hbx ⊢;generalize V1.heap.size=b at hbx hbl ⊢;refine hK _ _ ((ChS.of (Blk.keep0 hs1 hka) (KA hb1 hka (by simp)))) ?_;clear hK K
     try simp only[Act.put,PU]
     refine wpR_nil ?_;exact hR V2 s b ⟨Blk.keep0 hs1 hka,KA hb1 hka (by simp),(hbBD.keep0 hkS).keep0 hka,Blk.keep0 hsS hka,hbx,hk1.trans0 hka,Nat.le_trans hk0.size hsl,hbl⟩
   · refine wpR_loud (by rfl) (fun K hK=>?_)
     go_wp2_with fail
     have hka:=(Keep.refl [] V0).alloc (.cells #[.pointer none] 300);have hbx:=Boxed.new V0 300 (.pointer none);have hbl:=hk0.size;have hsz:=hka.size;generalize V0.alloc (.cells #[.pointer none] 300)=V2 at hka hbx hsz ⊢;generalize V0.heap.size=b at hbx hbl hsz ⊢;have hs1:XD V2 c d g:=hsD.keep0 hka;have hb1:=KA hbD hka (by simp);refine hK _ _ ((ChS.of hs1 hb1)) ?_;clear hK K
     try simp only[Act.put,PU]
     refine wpR_loud (by rfl) (fun K hK=>?_)
     go_wp2_with (refine(hSN _).mono ?_;rintro e V1 ⟨s,rfl,hsS,hsl,hkS⟩)
     refine hK _ _ ((ChS.of (hs1.keep0 hkS) (KA hb1 hkS (by simp)))) ?_;clear hK K
     try simp only[Act.put,PU]
     refine wpR_nil ?_;exact hR V1 s b ⟨Blk.keep0 hs1 hkS,KA hb1 hkS (by simp),(hbBD.keep0 hka).keep0 hkS,hsS,KA hbx hkS (by simp),(hk0.trans0 hka).trans0 hkS,by omega,hbl⟩
 rintro V s b ⟨q1,q2,q3,q4,q5,q6,q7,q8⟩;have hbN:b≠N:=fun e=>by have h1:=q5;rw[e] at h1;exact Blk.ne_ h1 q3 (by decide) rfl
 have hbc:b≠c:=fun e=>by unfold XD at q1;have h1:=q5;rw[e] at h1;exact Blk.ne_ h1 q1 (by decide) rfl
 have hbcb:b≠cb:=fun e=>by have h1:=q5;rw[e] at h1;exact Blk.ne_ h1 q2 (by decide) rfl
 have hbs:b≠s:=fun e=>by unfold VH at q4;have h1:=q5;rw[e] at h1;exact Blk.ne_ h1 q4 (by decide) rfl
 have hNs:N≠s:=fun e=>by unfold VH at q4;have h1:=q3;rw[e] at h1;exact Blk.ne_ h1 q4 (by decide) rfl
 have hcs:c≠s:=fun e=>by unfold VH at q4;unfold XD at q1;have h1:=q1;rw[e] at h1;exact Blk.ne_ h1 q4 (by decide) rfl
 have hcbs:cb≠s:=fun e=>by unfold VH at q4;have h1:=q2;rw[e] at h1;exact Blk.ne_ h1 q4 (by decide) rfl
 have hkw4:Keep [c] w V:=hkw3.trans0 q6;have hwl:w.heap.size≤w4.heap.size:=hkw3.size;have hkz:Keep [b,N] V ((V.setCell ⟨b,0,none⟩ (.pointer (some ⟨s,0,none⟩))).setCell ⟨N,0,none⟩ (.bool false)):=((Keep.refl [b,N] V).setCell (p:=⟨b,0,none⟩) (.inl (by simp)) _).setCell (p:=⟨N,0,none⟩) (.inl (by simp)) _;have r1:XD ((V.setCell ⟨b,0,none⟩ (.pointer (some ⟨s,0,none⟩))).setCell ⟨N,0,none⟩ (.bool false)) c d g:=Blk.keep q1 hkz (by simp;exact⟨fun e=>hbc e.symm,fun e=>hNc e.symm⟩);have r2:=KA q2 hkz (by simp;exact⟨fun e=>hbcb e.symm,fun e=>hNb e.symm⟩);have r4:VH ((V.setCell ⟨b,0,none⟩ (.pointer (some ⟨s,0,none⟩))).setCell ⟨N,0,none⟩ (.bool false)) s d g:=Blk.keep q4 hkz (by simp;exact⟨fun e=>hbs e.symm,fun e=>hNs e.symm⟩)
 have r3:Blk ((V.setCell ⟨b,0,none⟩ (.pointer (some ⟨s,0,none⟩))).setCell ⟨N,0,none⟩ (.bool false)) N 4 #[.bool false]:=by
  have h1:=(q3.keep ((Keep.refl [b] V).setCell (p:=⟨b,0,none⟩) (.inl (by simp)) (.pointer (some ⟨s,0,none⟩))) (by simpa using fun e=>hbN e.symm)).set 0 (.bool false);simpa using h1
 have r5:Boxed ((V.setCell ⟨b,0,none⟩ (.pointer (some ⟨s,0,none⟩))).setCell ⟨N,0,none⟩ (.bool false)) b 300 (.pointer (some ⟨s,0,none⟩)):=KA (q5.set (.pointer (some ⟨s,0,none⟩))) ((Keep.refl [N] _).setCell (p:=⟨N,0,none⟩) (.inl (by simp)) _) (by simpa using hbN);have z0:=q5.cell;have z1:=q5.frozen;have z2:V.cell? ⟨N,0,none⟩=some (.bool true):=by simpa using q3.cell 0
 have z3:=q3.frozen 0;have hPl:=YAg (n-1) (.pointer (some ⟨s,0,none⟩)) ((V.setCell ⟨b,0,none⟩ (.pointer (some ⟨s,0,none⟩))).setCell ⟨N,0,none⟩ (.bool false)) rfl
 go_wp2_with fail
 gi_wp2_with (refine⟨trivial,fun h=>by simp[Fence.wide] at h,?_⟩;refine hPl.mono ?_;clear hPl;rintro e w' ⟨rfl,rfl⟩)
 have hkv:Keep [c] w ((V.setCell ⟨b,0,none⟩ (.pointer (some ⟨s,0,none⟩))).setCell ⟨N,0,none⟩ (.bool false)):=hkw4.trans hkz (fun x hx=>.inr (by simp at hx;rcases hx with rfl | rfl <;> omega));have hszV:((V.setCell ⟨b,0,none⟩ (.pointer (some ⟨s,0,none⟩))).setCell ⟨N,0,none⟩ (.bool false)).heap.size=V.heap.size:=by simp
 clear z0 z1 z2 z3 q1 q2 q3 q4 q5 q6 hkz hkw4 hs3 hb3 hbB hkw3;generalize (V.setCell ⟨b,0,none⟩ (.pointer (some ⟨s,0,none⟩))).setCell ⟨N,0,none⟩ (.bool false)=V2 at *;obtain⟨V3,hV3⟩:∃ V3,V3=V2.alloc (.cells #[.pointer (some ⟨s,0,none⟩)] 300):=⟨_,rfl⟩;rw[← hV3];have hka:Keep [] V2 V3:=by rw[hV3];exact(Keep.refl [] V2).alloc _
 have hbx:Boxed V3 V.heap.size 300 (.pointer (some ⟨s,0,none⟩)):=by rw[hV3,← hszV];exact Boxed.new V2 _ _
 have s3:V3.heap.size=V2.heap.size+1:=by rw[hV3];simp
 clear hV3;replace r1:XD V3 c d g:=Blk.keep0 r1 hka;replace r2:=KA r2 hka (by simp);replace r4:VH V3 s d g:=Blk.keep0 r4 hka;replace r3:=r3.keep0 hka;replace r5:=KA r5 hka (by simp);have hk3:Keep [c] w V3:=hkv.trans0 hka;have hsl2:s<V3.heap.size:=by unfold VH at r4;exact r4.lt
 have hVl:w.heap.size≤V2.heap.size:=hkv.size
 refine XT (n:=n) (gf:=342) (lb:=#[.pointer (some ⟨V.heap.size,0,none⟩)]) rfl (enters_of Tryz.func342 (by kernel_rfl) rfl) [s] (fun x hx=>by simp at hx;omega) (fun W=>VH W s d g)
  (fun W l o o' h hl hg' ho=>XH o' h hg' ho) (fun l W hW _=>?_) (fun D' W hD' hk hG hdef=>?_)
 · refine(callsIn_wide (n:=n-1)).2 ((Ky W (.func (.yield l) #[] #[]) V.heap.size s d g B base F D (KA hbx hW (by simp)) (Blk.keep0 r4 hW) ?_ ?_ hoff hn hf hz ?_ ?_ ?_).mono ?_)
   · exact(hg.keep hk3 (by simpa using fun e=>hcg e.symm)).keep0 hW
   · exact(h.keep hk3 (fun x hx hm=>by simp at hm;subst hm;exact hcF hx)).keep0 hW
   · intro hm;have:=h.lt s hm;omega
   · intro e;have:=hg.lt;omega
   · have:=q7;intro e;subst e;unfold VH at r4;exact Blk.ne_ hbx r4 (by decide) rfl
   · rintro e w' ⟨h1,h2,h3⟩
     exact⟨h1,h3,h2⟩
 · have u1:XD W c d g:=Blk.keep r1 hk (by simpa using hcs)
   have u2:=KA r2 hk (by simpa using hcbs);have u3:=r3.keep hk (by simpa using hNs);have u5:=KA r5 hk (by simpa using hbs);have hkW:Keep [c] w W:=hk3.trans hk (fun x hx=>.inr (by simp at hx;omega));have hD3:w.heap.size≤D':=by omega
   have z:W.cell? ⟨N,0,none⟩=some (.bool false):=by simpa using u3.cell 0
   have hDc:D'≠c:=fun e=>by
    unfold XD at u1;rw[e] at hdef;rw[show W.heap[c]? = _ from u1] at hdef;cases hdef
   clear r1 r2 r3 r4 r5 hk3 hk hbx s3 hka hkv hszV
   gi_wp2
   clear z;refine QAD (wpIn_wide.2 ?_);have hEnd:=fun X (hX:Keep [] W X)=>ZAO X s d g (Blk.keep0 hG hX);have hErr:=fun X (hX:Keep [] W X)=>JAR X s d g (Blk.keep0 hG hX);have hkd:Keep [] W W.drew:=(Keep.refl [] W).drew;refine ZT (fun X=>X.cell? ⟨cb,0,none⟩=some (.pointer (some ⟨c,0,none⟩))∧X.cell? ⟨b,0,none⟩=some (.pointer (some ⟨s,0,none⟩))) 9 [[0,1,2,4],[3],[5,6,7],[8]] ⟨(KA u2 hkd (by simp)).cell,(KA u5 hkd (by simp)).cell⟩ ?_;simp only[PI]
   iterate 4 (refine ZH ?_;simp only[Act.put,PU])
   refine ZB (by rfl) (fun K hK=>?_)
   go_wp2_with (refine(hEnd _ hkd).mono ?_;rintro e W1 ⟨rfl,hk1⟩)
   have hkd1:=hkd.trans0 hk1;refine hK _ _ (⟨(KA u2 hkd1 (by simp)).cell,(KA u5 hkd1 (by simp)).cell⟩) ?_;clear hK K
   try simp only[Act.put,PU]
   refine ZB (by rfl) (fun K hK=>?_)
   go_wp2_with (refine(hErr _ hkd1).mono ?_;rintro e W2 ⟨rfl,rfl⟩)
   refine hK _ _ (⟨(KA u2 hkd1 (by simp)).cell,(KA u5 hkd1 (by simp)).cell⟩) ?_;clear hK K
   try simp only[Act.put,PU]
   iterate 2 (refine ZH ?_;simp only[Act.put,PU])
   have v1:XD W1 c d g:=Blk.keep0 u1 hkd1;obtain⟨hs2,hk2⟩:=Yo v1;have v2:=KA (KA u2 hkd1 (by simp)) hk2 (by simpa using hcb);have v5:=KA (KA u5 hkd1 (by simp)) hk2 (by simpa using hbc);have v3:=(u3.keep0 hkd1).keep hk2 (by simpa using hNc);have HV:=XC (show _∧_ from ⟨v2.cell,v5.cell⟩);refine ZB (by rfl) (fun K hK=>?_);refine VW _ _ _ rfl _ _ rfl rfl (QAA c 7 (.int .i64 0) (.int .i64 0) (.int .i64 1) (.int .i64 0) (.int .i64 1) (by simp[Value.oneCell']) _ (JAJ (t:=435) v1 7 5 (by simp))) ?_;refine hK _ _ (JA HV) ?_;clear hK K
   try simp only[Act.put,PU]
   refine QC ?_;have hkW2:Keep [c] w (W1.setCells c 7 [.int .i64 0,.int .i64 0,.int .i64 1,.int .i64 0,.int .i64 1]):=(hkW.trans0 hkd1).trans hk2 (fun x hx=>.inl hx);replace hs2:XD (W1.setCells c 7 [.int .i64 0,.int .i64 0,.int .i64 1,.int .i64 0,.int .i64 1]) c d g:=hs2;replace v2:Boxed (W1.setCells c 7 [.int .i64 0,.int .i64 0,.int .i64 1,.int .i64 0,.int .i64 1]) cb 392 (.pointer (some ⟨c,0,none⟩)):=v2;replace v3:Blk (W1.setCells c 7 [.int .i64 0,.int .i64 0,.int .i64 1,.int .i64 0,.int .i64 1]) N 4 #[.bool false]:=v3
   have hdef2:(W1.setCells c 7 [.int .i64 0,.int .i64 0,.int .i64 1,.int .i64 0,.int .i64 1]).heap[D']? = some (.deferred (some [])):=
    ((hkd1.zero.trans hk2 (fun x hx=>.inl hx)).block D' (Array.getElem?_eq_some_iff.1 hdef).1 (by simpa using hDc)).trans hdef
   clear HV u1 u2 u3 u5 hkW hEnd hErr hkd hk1 hkd1 v1 hk2 v5 hdef hG;generalize W1.setCells c 7 [.int .i64 0,.int .i64 0,.int .i64 1,.int .i64 0,.int .i64 1]=W3 at *;obtain⟨hs3,hk3⟩:=Yz hs2;have c12:W3.cell? ⟨c,12,none⟩=some (.int .i64 0):=by unfold XD at hs2;exact(QZ hs2).2.2.2.2.2.2.2.2.2.2.2.2
   have f12:W3.frozen? ⟨c,12,none⟩=false:=by unfold XD at hs2;exact hs2.frozen 12
   go_wp2_with fail
   have v4:Blk (W3.setCell ⟨c,12,none⟩ (.int .i64 0)) N 4 #[.bool false]:=v3.keep hk3 (by simpa using hNc);have hkW3:=hkW2.trans hk3 (fun x hx=>.inl hx);have hdef3:(W3.setCell ⟨c,12,none⟩ (.int .i64 0)).heap[D']? = some (.deferred (some [])):=(hk3.block D' (Array.getElem?_eq_some_iff.1 hdef2).1 (by simpa using hDc)).trans hdef2;clear c12 f12 hk3 v3 v2 hdef2 hs2 hkW2;generalize W3.setCell ⟨c,12,none⟩ (.int .i64 0)=W4 at *;simp only[XAw];have z:W4.cell? ⟨N,0,none⟩=some (.bool false):=by simpa using v4.cell 0
   gi_wp2
   rw[show (1:Nat)=0+1 from rfl,roundsIn_succ];have hka:=(Keep.refl [] W4).alloc (.cells #[.bool false] 4);have v6:=Blk.new W4 4 #[.bool false];have v7:XD (W4.alloc (.cells #[.bool false] 4)) c d g:=Blk.keep0 hs3 hka;have hkE:=hkW3.trans0 hka;have hdefE:(W4.alloc (.cells #[.bool false] 4)).heap[D']? = some (.deferred (some [])):=hka.heap_same hdef3;clear z hka v4 hs3 hkW3 hdef3;generalize W4.alloc (.cells #[.bool false] 4)=W5 at *;generalize W4.heap.size=N5 at *;have z:W5.cell? ⟨N5,0,none⟩=some (.bool false):=by simpa using v6.cell 0
   gi_wp2
   refine⟨by simp,.inl ⟨_,_,rfl,run_takeDeferred hdefE,?_⟩⟩;refine⟨.tuple #[],?_,⟨_,rfl⟩,XH _ v7 hdefE rfl,hkE.putObj (by omega) _⟩;simp[results,Tryz.results349,go_sem]
end
end Go.Proofs.YtkonbpfbjiepfaaGreat
