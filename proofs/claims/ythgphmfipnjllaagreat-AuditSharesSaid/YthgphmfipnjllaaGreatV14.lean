/- Lemmas of the proof, with their conditions. -/
import Derived.Test.YthgphmfipnjllaaGreatV13
import Derived.Lib.BufferRead
namespace Go.Proofs.YthgphmfipnjllaaGreat
set_option linter.unusedSimpArgs false
set_option linter.unusedVariables false
section
open Go.RowKit
theorem JY (A:Option Addr) (n c:Nat) (xs:List UInt8) (w:World) (ha:Rd w A n (bys xs)):(convert 39 9 (.slice A n c)).run Tryz.prog w=.ok (.string ⟨xs.toArray⟩) w:=by
 have hl:xs.length=n:=by simpa using ha.1
 rcases Nat.eq_zero_or_pos n with h0 | h0
 · subst h0
   obtain rfl:=List.eq_nil_of_length_eq_zero hl
   rcases A with _ | a
   · exact Lib.run_convert_nil_bytes w _ _ _ c Tryz.underlying39 Tryz.underlying5 Tryz.underlying9
   · exact run_convert_bytes_back w _ _ _ a c [] Tryz.underlying39 Tryz.underlying5 Tryz.underlying9 (by simp)
 · obtain⟨b,o,rfl,_,hc⟩:=ha.2 h0
   have:=run_convert_bytes_back (P:=Tryz.prog) w 39 9 5 ⟨b,o,none⟩ c xs Tryz.underlying39 Tryz.underlying5 Tryz.underlying9 (fun j hj=>by rw[Addr.add_mid];exact hc j _ (Xv _ _ hj))
   rwa [hl] at this
theorem JN (A B:Option Addr) (n m c d:Nat) (xs ys:List UInt8) (w:World) (ha:Rd w A n (bys xs)) (hb:Rd w B m (bys ys)) :
 Calls Tryz.prog 308 #[.slice A n c,.slice B m d] w fun e w'=>e=.returned (.bool (decide (xs=ys)))∧w=w':=by
 have h1:=JY A n c xs w ha
 have h2:=JY B m d ys w hb
 go_enter Tryz.func308,Tryz.ntmps308
 go_wp2
 go_ret
 exact⟨XK (by rw[Bool.eq_iff_iff];simp),rfl⟩
end
section
open Go.RowKit
def FrMay (k v s b c e d:Int) (data:List UInt8):Prop:=
 (1≤v∧v≤2147483647) ∧
   ((k=1∧(1≤s∧s≤2147483647)∧(0≤b∧b≤63)∧c=0∧e=0∧d=0∧data.length=64) ∨
    (k=2∧(1≤s∧s≤2147483647)∧(0≤b∧b≤63)∧(1≤c∧c≤64-b)∧e=0∧d=0∧data=[]) ∨
    (k=3∧(1≤s∧s≤2147483647)∧b=0∧c=0∧(1≤e∧e≤2147483647)∧d=0∧data=[]) ∨
    (k=8∧(0≤s∧s≤2147483647)∧b=0∧c=0∧(0≤e∧e≤2147483647)∧(0≤d∧d≤s)∧data=[]) ∨
    (k=9∧s=0∧b=0∧c=0∧e=0∧d=0∧data=[]))
instance (k v s b c e d:Int) (data:List UInt8):Decidable (FrMay k v s b c e d data):=by unfold FrMay;infer_instance
end
section
open Go.RowKit
def YAI (k v s b c e d:Nat) (data:List UInt8):List UInt8:=([75,70,k].flatMap (le 1)++[v,s].flatMap (le 4)++[b,c].flatMap (le 1)++[e,d].flatMap (le 4))++data
def ZAU (k v s b c e d:Nat) (data:List UInt8):List UInt8:=YAI k v s b c e d data++le 4 (ZQ (YAI k v s b c e d data))
@[simp] theorem length_frBody (k v s b c e d:Nat) (data:List UInt8):(YAI k v s b c e d data).length=21+data.length:=by
 simp[YAI];omega
@[simp] theorem length_frBytes (k v s b c e d:Nat) (data:List UInt8):(ZAU k v s b c e d data).length=25+data.length:=by
 simp[ZAU];omega
theorem FrMay.bounds {k v s b c e d:Nat} {xs:List UInt8} (h:FrMay k v s b c e d xs):k≤9∧v≤2147483647∧s≤2147483647∧b≤63∧c≤64∧e≤2147483647∧d≤2147483647∧xs.length≤64:=by
 obtain⟨g1,g | g | g | g | g⟩:=h
 · omega
 all_goals
  have:xs=[]:=by simp only[g]
  subst this
  simp only[List.length_nil]
  omega
theorem XAu {w1 W0:World} {r a k:Nat} {v:Value} {bs:List UInt8} (hK:Keep [] w1 W0) (hR:RowAt W0 w1.heap.size r v bs a) (hk:k=1∨k=2∨k=4) (zs:List Nat) (hz:∀ z∈zs,z<256 ^ k) (hm0:0<zs.length) (hm:a+k*zs.length≤bs.length)
 (cs:Array Value) (hcs:cs.toList=ZP zs) (m:Nat) (hml:m=zs.length) :
 Calls Tryz.prog 290 #[.pointer (some ⟨r,0,none⟩),.int .i64 (k:Nat),.slice (some ⟨W0.heap.size,0,none⟩) m m] (W0.alloc (.cells cs 3)) fun e w'=>e=.returned (.bool true)∧RowAt w' w1.heap.size r v (laid bs a (zs.flatMap (le k))) (a+k*m)∧Keep [] w1 w':=by
 subst hml
 have hka:=hK.alloc (.cells cs 3)
 have hRA:RowAt (W0.alloc (.cells cs 3)) w1.heap.size r v bs a:=hR.keep0 ((Keep.refl _ _).alloc _)
 have hrd:Rd (W0.alloc (.cells cs 3)) (some ⟨W0.heap.size,0,none⟩) zs.length (ZP zs):=by
  have hl:cs.toList.length=zs.length:=by rw[hcs,length_nats]
  have:=Rd.of_blk (n:=zs.length) (Blk.new W0 3 cs) (by simpa using Nat.le_of_eq hl.symm)
  rwa [hcs,List.take_of_length_le (by simp)] at this
 refine(KAb _ _ r a k v bs hRA hk _ zs.length zs.length zs hrd (fun p hp=>?_) hz hm0 hm).mono ?_
 · cases hp
   intro hx
   rcases List.mem_cons.1 hx with e | hx
   · exact absurd (show W0.heap.size=r from e) (Nat.ne_of_gt hR.blk.lt)
   · exact absurd (own_mem hR.own hx).2 (Nat.lt_irrefl _)
 · rintro e w' ⟨rfl,h1,h2⟩
   exact⟨rfl,h1,hka.trans h2 (fun x hx=>.inr (hRA.fresh x hx))⟩
theorem JAi (N:Nat) (H ns:List UInt8) (h:H.length+ns.length≤N):laid (laid (List.replicate N 0) 0 H) H.length ns=laid (List.replicate N 0) 0 (H++ns):=by
 have:=YAi (List.replicate N (0:UInt8)) 0 H ns (by simp;omega)
 rwa [Nat.zero_add] at this
theorem KQ (N:Nat) (H:List UInt8) (h:H.length≤N):(laid (List.replicate N (0:UInt8)) 0 H).length=N:=by
 rw[XF _ _ _ (by simp;omega)];simp
theorem ZAi {w1 W0:World} {r k N:Nat} {v:Value} {H:List UInt8} (hK:Keep [] w1 W0) (hR:RowAt W0 w1.heap.size r v (laid (List.replicate N 0) 0 H) H.length) (hk:k=1∨k=2∨k=4) (zs:List Nat) (hz:∀ z∈zs,z<256 ^ k) (hm0:0<zs.length) (hm:H.length+k*zs.length≤N)
 (cs:Array Value) (hcs:cs.toList=ZP zs) (m:Nat) (hml:m=zs.length) :
 Calls Tryz.prog 290 #[.pointer (some ⟨r,0,none⟩),.int .i64 (k:Nat),.slice (some ⟨W0.heap.size,0,none⟩) m m] (W0.alloc (.cells cs 3)) fun e w'=>e=.returned (.bool true) ∧
  RowAt w' w1.heap.size r v (laid (List.replicate N 0) 0 (H++zs.flatMap (le k))) (H++zs.flatMap (le k)).length∧Keep [] w1 w':=by
 refine(XAu hK hR hk zs hz hm0 (by rw[KQ _ _ (by omega)];exact hm) cs hcs m hml).mono ?_
 rintro e w' ⟨rfl,h1,h2⟩
 refine⟨rfl,?_,h2⟩
 rw[JAi _ _ _ (by rw[QH];exact hm),hml] at h1
 rw[List.length_append,QH]
 exact h1
end
section
open Go.RowKit
end
section
open Go.RowKit
end
section
open Go.RowKit
end
section
open Go.RowKit
structure Fr where
 k:Nat
 v:Nat
 s:Nat
 b:Nat
 c:Nat
 e:Nat
 d:Nat
 data:List UInt8
end
section
open Go.RowKit
end
end Go.Proofs.YthgphmfipnjllaaGreat
