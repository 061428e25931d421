/- A part of the proof: what its functions compute. -/
import Derived.Test.YtalffooghioekaaGreatDoorBaseN2
set_option linter.unusedVariables false
set_option linter.unusedSimpArgs false
set_option maxRecDepth 100000
namespace Go.Proofs.YtalffooghioekaaGreatDoorX
theorem sn_tri {a b c:Int} (h0:-9223372036854775808≤sn a b - sn c b) (h1:sn a b - sn c b < 9223372036854775808):sn a c=sn a b - sn c b:=by unfold sn at *;omega
theorem sn_lat {b k:Int} (h:In64 k):sn (lat b k) b=k:=by unfold sn lat;unfold In64 at h;omega
theorem lat_sn {t b:Int} (h:U64 t):lat b (sn t b)=t:=by unfold sn lat;unfold U64 at h;omega
theorem lat_zero {b:Int} (h:U64 b):lat b 0=b:=by unfold lat;unfold U64 at h;omega
theorem sn_self (b:Int):sn b b=0:=by unfold sn;omega
def Near (x y:Int):Prop:=-9223372036854775808≤x - y∧x - y < 9223372036854775808
theorem sn_near {a c b:Int} (h:Near (sn a b) (sn c b)):sn a c=sn a b - sn c b:=sn_tri h.1 h.2
theorem mul_lt_cancel {c a b:Int} (hc:0 < c) (h:c*a≤c*b):a≤b:=Int.le_of_mul_le_mul_left h hc
theorem fr_trans {a b c p q r:Int} (hp:0 < p) (hq:0 < q) (hr:0 < r) (h1:a*q≤b*p) (h2:b*r≤c*q):a*r≤c*p:=by
  have k1:=Int.mul_le_mul_of_nonneg_right h1 (Int.le_of_lt hr)
  have k2:=Int.mul_le_mul_of_nonneg_right h2 (Int.le_of_lt hp)
  refine mul_lt_cancel hq ?_
  have e1:q*(a*r)=a*q*r:=by grind
  have e2:b*p*r=b*r*p:=by grind
  have e3:c*q*p=q*(c*p):=by grind
  omega
theorem pright_all {p:Pt} (hp:p.In) (h:p.right=true):1≤p.w∧p.w≤1048576∧0≤p.r∧p.r < p.w:=by
  unfold Pt.right at h
  simp only [Bool.and_eq_true,decide_eq_true_eq] at h
  have:=mayW_iff.1 h.1
  exact ⟨this.1,this.2,hp.2.1.1,h.2⟩
theorem cmpP_frac {p q:Pt} (hp:p.In) (hq:q.In) (h1:p.right=true) (h2:q.right=true) {b:Int} (hn:Near (sn q.t b) (sn p.t b)):cmpP p q=cmpI (dist p b*q.w) (dist q b*p.w):=by
  have a1:=pright_all hp h1
  have a2:=pright_all hq h2
  unfold cmpP
  rw [sn_near hn]
  have d1:dist p b=p.w*sn p.t b+p.r:=rfl
  have d2:dist q b=q.w*sn q.t b+q.r:=rfl
  generalize sn p.t b=x at *
  generalize sn q.t b=y at *
  have e1:dist p b*q.w=p.w*q.w*x+p.r*q.w:=by rw [d1];grind
  have e2:dist q b*p.w=p.w*q.w*y+q.r*p.w:=by rw [d2];grind
  have m0:0 < p.w*q.w:=Int.mul_pos (by omega) (by omega)
  have m1:0≤p.r*q.w:=Int.mul_nonneg (by omega) (by omega)
  have m2:0≤q.r*p.w:=Int.mul_nonneg (by omega) (by omega)
  have m3:p.r*q.w < p.w*q.w:=Int.mul_lt_mul_of_pos_right (by omega) (by omega)
  have m4:q.r*p.w < p.w*q.w:=by rw [Int.mul_comm p.w];exact Int.mul_lt_mul_of_pos_right (by omega) (by omega)
  rw [e1,e2]
  generalize p.w*q.w=W at *
  generalize p.r*q.w=u at *
  generalize q.r*p.w=v at *
  rcases Int.lt_trichotomy x y with h | h | h
  · have:W*x+W≤W*y:=by have:=Int.mul_le_mul_of_nonneg_left (show x+1≤y by omega) (Int.le_of_lt m0);rwa [Int.mul_add,Int.mul_one] at this
    have c1:cmpI 0 (y - x)=-1:=by unfold cmpI;rw [if_pos (by omega)]
    rw [c1,if_neg (by decide)]
    unfold cmpI;rw [if_pos (by omega)]
  · subst h
    have c1:cmpI 0 (x - x)=0:=by unfold cmpI;rw [if_neg (by omega),if_neg (by omega)]
    rw [if_pos c1]
    unfold cmpI
    by_cases k:u < v
    · rw [if_pos k,if_pos (by omega)]
    · rw [if_neg k,if_neg (show ¬ W*x+u < W*x+v by omega)]
      by_cases k':v < u
      · rw [if_pos k',if_pos (by omega)]
      · rw [if_neg k',if_neg (by omega)]
  · have:W*y+W≤W*x:=by have:=Int.mul_le_mul_of_nonneg_left (show y+1≤x by omega) (Int.le_of_lt m0);rwa [Int.mul_add,Int.mul_one] at this
    have c1:cmpI 0 (y - x)=1:=by unfold cmpI;rw [if_neg (by omega),if_pos (by omega)]
    rw [c1,if_neg (by decide)]
    unfold cmpI;rw [if_neg (by omega),if_pos (by omega)]
theorem lex_ord {α:Type} {c:α→α→Int} {lt2:α→α→Bool} {S:α→Prop} (le:α→α→Prop) (h1:∀ a b,S a→S b→(c a b < 0↔¬ le b a)) (h0:∀ a b,S a→S b→(c a b=0↔le a b∧le b a)) (tot:∀ a b,S a→S b→le a b∨le b a)
    (tr:∀ a b d,S a→S b→S d→le a b→le b d→le a d) (o:OrdOn lt2 S):OrdOn (fun a b=>decide (c a b < 0) || (decide (c a b=0) && lt2 a b)) S where
  irr a ha:=by
    have k1:=h1 a a ha ha
    have:=tot a a ha ha
    simp only [o.irr a ha,Bool.and_false,Bool.or_false,decide_eq_false_iff_not,k1]
    rcases this with h | h <;> exact fun k=>k h
  tr a b d ha hb hd k1 k2:=by
    simp only [Bool.or_eq_true,Bool.and_eq_true,decide_eq_true_eq] at k1 k2 ⊢
    rw [h1 a b ha hb,h0 a b ha hb] at k1
    rw [h1 b d hb hd,h0 b d hb hd] at k2
    rw [h1 a d ha hd,h0 a d ha hd]
    have tab:=tot a b ha hb
    have tbd:=tot b d hb hd
    have x1:=tr d a b hd ha hb
    have x2:=tr b d a hb hd ha
    have x3:=tr a b d ha hb hd
    have x4:=tr d b a hd hb ha
    rcases k1 with k1 | ⟨⟨k1,k1'⟩,k3⟩
    · left;intro hda
      rcases k2 with k2 | ⟨⟨k2,k2'⟩,k4⟩
      · rcases tbd with h | h
        · exact k1 (x2 h hda)
        · exact k2 h
      · exact k1 (x2 k2 hda)
    · rcases k2 with k2 | ⟨⟨k2,k2'⟩,k4⟩
      · left;intro hda
        exact k2 (x1 hda k1)
      · right;exact ⟨⟨x3 k1 k2,x4 k2' k1'⟩,o.tr a b d ha hb hd k3 k4⟩
  tri a b ha hb k1 k2:=by
    simp only [Bool.or_eq_false_iff,Bool.and_eq_false_iff,decide_eq_false_iff_not] at k1 k2
    rw [h1 a b ha hb,h0 a b ha hb] at k1
    rw [h1 b a hb ha,h0 b a hb ha] at k2
    have q1:le b a:=Classical.not_not.1 k1.1
    have q2:le a b:=Classical.not_not.1 k2.1
    rcases k1.2 with h | h
    · exact absurd ⟨q2,q1⟩ h
    · rcases k2.2 with h' | h'
      · exact absurd ⟨q1,q2⟩ h'
      · exact o.tri a b ha hb h h'
structure Win (b lo:Int) (x:It):Prop where
  isin:x.In
  right:x.right=true
  low:lo≤sn x.p.t b
  high:sn x.p.t b+sn x.d.t x.p.t≤lo+4611686018427387904
theorem iright_all {x:It} (hx:x.In) (h:x.right=true):x.p.right=true∧x.d.right=true∧x.p.w=x.d.w∧0 < x.id∧0≤sn x.d.t x.p.t∧sn x.d.t x.p.t≤1152921504606846976∧(1≤x.p.w∧x.p.w≤1048576∧0≤x.p.r∧x.p.r < x.p.w)∧0≤x.d.r∧x.d.r < x.p.w:=by
  unfold It.right at h
  simp only [Bool.and_eq_true,decide_eq_true_eq] at h
  obtain ⟨⟨⟨⟨⟨h1,h2⟩,h3⟩,h4⟩,h5⟩,h6⟩:=h
  have a1:=pright_all hx.1 h1
  have a2:=pright_all hx.2.2 h2
  exact ⟨h1,h2,h3,h4,h5,h6,a1,a2.2.2.1,by omega⟩
def Mid (lo:Int):Prop:=-4611686018427387904≤lo∧lo≤0
theorem Win.dead {b lo:Int} {x:It} (h:Win b lo x) (hm:Mid lo):sn x.d.t b=sn x.p.t b+sn x.d.t x.p.t∧0≤sn x.d.t x.p.t∧sn x.p.t b≤lo+4611686018427387904:=by
  obtain ⟨_,_,_,_,h5,h6,_⟩:=iright_all h.isin h.right
  have h1:=h.low
  have h2:=h.high
  unfold Mid at hm
  refine ⟨?_,h5,by omega⟩
  unfold sn at *;omega
theorem Win.move {b lo c:Int} {x:It} (h:Win b lo x) (hm:Mid lo) (h0:lo≤sn c b) (h1:sn c b≤lo+4611686018427387904):Win c (lo - sn c b) x∧sn x.p.t c=sn x.p.t b - sn c b:=by
  have d:=h.dead hm
  have k1:=h.low
  have k2:=h.high
  unfold Mid at hm
  have e:sn x.p.t c=sn x.p.t b - sn c b:=sn_tri (by omega) (by omega)
  exact ⟨⟨h.isin,h.right,by omega,by omega⟩,e⟩
theorem dist_move {p:Pt} {b c k:Int} (e:sn p.t c=sn p.t b - k):dist p c=dist p b - p.w*k:=by
  unfold dist;rw [e,Int.mul_sub];omega
def leP (b:Int) (p q:Pt):Prop:=dist p b*q.w≤dist q b*p.w
theorem cmp_le {p q:Pt} {b:Int} (e:cmpP p q=cmpI (dist p b*q.w) (dist q b*p.w)):(cmpP p q < 0↔¬ leP b q p)∧(cmpP p q=0↔leP b p q∧leP b q p):=by
  rw [e];unfold leP cmpI
  split
  · constructor <;> constructor <;> intro <;> first | omega | skip
  · split
    · constructor <;> constructor <;> intro <;> first | omega | skip
    · constructor <;> constructor <;> intro <;> first | omega | skip
theorem ahead_ord {b lo:Int} (hm:Mid lo) {S:It→Prop} (hS:∀ x,S x→Win b lo x) (hi:∀ x y,S x→S y→x.id=y.id→x=y):OrdOn ahead S:=by
  have hc:∀ x y,S x→S y→cmpP x.p y.p=cmpI (dist x.p b*y.p.w) (dist y.p b*x.p.w):=fun x y hx hy=>by
    have a1:=hS x hx
    have a2:=hS y hy
    have d1:=a1.dead hm
    have d2:=a2.dead hm
    have l1:=a1.low
    have l2:=a2.low
    exact cmpP_frac a1.isin.1 a2.isin.1 (iright_all a1.isin a1.right).1 (iright_all a2.isin a2.right).1 (by unfold Near;unfold Mid at hm;omega)
  have hw:∀ x,S x→0 < x.p.w:=fun x hx=>by have:=(iright_all (hS x hx).isin (hS x hx).right).2.2.2.2.2.2.1;omega
  have oid:OrdOn (fun x y:It=>decide (x.id < y.id)) S:=by
    constructor
    · intro a _;simp
    · intro a b c _ _ _ h1 h2;simp only [decide_eq_true_eq] at *;omega
    · intro a b ha hb h1 h2;simp only [decide_eq_false_iff_not] at *;exact hi a b ha hb (by omega)
  exact lex_ord (c:=fun x y:It=>cmpP x.p y.p) (fun x y=>leP b x.p y.p) (fun x y hx hy=>(cmp_le (hc x y hx hy)).1) (fun x y hx hy=>(cmp_le (hc x y hx hy)).2) (fun x y _ _=>Int.le_total _ _) (fun x y z hx hy hz h1 h2=>fr_trans (hw x hx) (hw y hy) (hw z hz) h1 h2) oid
theorem due_ord {b lo:Int} (hm:Mid lo) {S:It→Prop} (hS:∀ x,S x→Win b lo x) (hi:∀ x y,S x→S y→x.id=y.id→x=y):OrdOn due S:=by
  have hc:∀ x y,S x→S y→cmpP x.d y.d=cmpI (dist x.d b*y.d.w) (dist y.d b*x.d.w):=fun x y hx hy=>by
    have a1:=hS x hx
    have a2:=hS y hy
    have d1:=a1.dead hm
    have d2:=a2.dead hm
    have l1:=a1.low
    have l2:=a2.low
    have r1:=iright_all a1.isin a1.right
    have r2:=iright_all a2.isin a2.right
    have u1:=a1.high
    have u2:=a2.high
    exact cmpP_frac a1.isin.2.2 a2.isin.2.2 r1.2.1 r2.2.1 (by unfold Near;unfold Mid at hm;omega)
  have hw:∀ x,S x→0 < x.d.w:=fun x hx=>by
    have:=iright_all (hS x hx).isin (hS x hx).right
    have h3:=this.2.2.1
    have h4:=this.2.2.2.2.2.2.1
    omega
  exact lex_ord (c:=fun x y:It=>cmpP x.d y.d) (fun x y=>leP b x.d y.d) (fun x y hx hy=>(cmp_le (hc x y hx hy)).1) (fun x y hx hy=>(cmp_le (hc x y hx hy)).2) (fun x y _ _=>Int.le_total _ _) (fun x y z hx hy hz h1 h2=>fr_trans (hw x hx) (hw y hy) (hw z hz) h1 h2) (ahead_ord hm hS hi)
end Go.Proofs.YtalffooghioekaaGreatDoorX

namespace Go.Proofs.YtalffooghioekaaGreatDoorX
open Go Go.RowKit
section
variable {P : Program} {ops : Array Oper} {QE : Exit → Env → World → Prop} {n : Nat} {rest : List Oper} {env : Env} {w wb : World} {D : Ctx} {H : List Ent} {T : Tab}
  {d:Option Nat} {ty:Nat} {pos:String} {aft:Array Edge} {g:Option (Nat × Bool)}
theorem append_many {t e size bytes:Nat} (hu:P.underlying t=some (.slice e)) {i:TypeInfo} (hi:P.info? e=some i) (hs1:i.size=size) (hs2:i.bytes=bytes) {z:Value} (hz:i.zero=some z) (hzc:z.cells.size=size)
    {v:Value} {k:Nat} {xs news:List Value} {a:Addr} {c m:Nat} (hO:OwnS wb D H e size v k xs w) (hl:news.length=c*size) (hc0:0 < c) (hcs:∀ (j:Nat) u,news[j]?=some u→w.cell? (a.add j)=some u) (h1:∀ u∈news,u.oneCell'=true)
    (hk:(k+c)*bytes≤140737488355328) (hk':k+c≤9223372036854775807) :
    ∃ v' w',(Builtin.append_ #[t,t] ty #[v,.slice (some a) c m]).run P w = .ok v' w'∧OwnS wb D H e size v' (k+c) (xs ++ news) w'∧v' ≠ .slice none 0 0:=by
  subst hs1 hs2
  have hcb:c*i.bytes≤281474976710656:=by
    have:=Nat.mul_le_mul_right i.bytes (show c≤k+c by omega)
    omega
  rcases hO with ⟨rfl,rfl,rfl,hs⟩ | ⟨g,cap,cur,rfl,hc,hcl,hxl,htk,hs⟩
  · have hr:=run_append_nil (P:=P) w t ty e i z hu hi hz a c m news hl hcs hc0 (by omega) hcb
    refine ⟨_,_,hr,.inr ⟨w.heap.size,grownCap w c 0 e,(news.toArray ++ Builtin.zeroCells z.cells (grownCap w c 0 e - c)).toList,by rw [Nat.zero_add],by rw [Nat.zero_add];exact grownCap_ge w c 0 e,?_,?_,?_,hs.drew'.alloc _⟩,by simp⟩
    · have:=grownCap_ge w c 0 e
      simp only [Array.toList_append,List.length_append,zero_list,hzc,hl]
      rw [← Nat.add_mul];congr 1;omega
    · rw [Nat.zero_add,List.nil_append,hl]
    · rw [List.nil_append,Nat.zero_add,Array.toList_append,List.take_append_of_le_length (by simp [hl])]
      exact List.take_of_length_le (by simp [hl])
  · have hg:=hs.get At.head
    by_cases hroom:k+c≤cap
    · have hfit:k*i.size+news.length≤cur.toArray.size:=by
        rw [hl,List.size_toArray,hcl,← Nat.add_mul];exact Nat.mul_le_mul_right _ hroom
      have hr:=run_append_room (P:=P) w t ty e i hu hi g k cap cur.toArray hg a c m news hl hcs h1 hroom hfit
      simp only [List.size_toArray] at hfit
      refine ⟨_,_,hr,.inr ⟨g,cap,(cur.take (k*i.size) ++ news ++ cur.drop (k*i.size+news.length)),rfl,hroom,?_,?_,?_,hs.row At.head _⟩,by simp⟩
      · simp only [List.length_append,List.length_take,List.length_drop]
        omega
      · rw [List.length_append,hxl,hl,Nat.add_mul]
      · rw [List.append_assoc,← List.append_assoc,htk,List.take_append_of_le_length (by rw [List.length_append,hxl,hl,Nat.add_mul];exact Nat.le_refl _)]
        exact List.take_of_length_le (by rw [List.length_append,hxl,hl,Nat.add_mul];exact Nat.le_refl _)
    · have hold:∀ (j:Nat) u,xs[j]?=some u→w.cell? ((⟨g,0,none⟩:Addr).add j)=some u:=fun j u hj=>by
        rw [add_addr]
        rw [← htk,List.getElem?_take] at hj
        split at hj
        · simp [World.cell?,hg,hj]
        · cases hj
      have hr:=run_append_grow (P:=P) w t ty e i z hu hi hz ⟨g,0,none⟩ k cap xs hxl hold a c m news hl hcs (by omega) (by omega) (growslice_fits (by omega) hk)
      have hge:=grownCap_ge w (k+c) cap e
      refine ⟨_,_,hr,.inr ⟨w.heap.size,grownCap w (k+c) cap e,(xs.toArray ++ news.toArray ++ Builtin.zeroCells z.cells (grownCap w (k+c) cap e - (k+c))).toList,rfl,hge,?_,?_,?_,(hs.drew'.alloc _).swap.forgetNew⟩,by simp⟩
      · simp only [Array.toList_append,List.length_append,zero_list,hzc,hl,hxl]
        rw [← Nat.add_mul,← Nat.add_mul];congr 1;omega
      · rw [List.length_append,hxl,hl,Nat.add_mul]
      · rw [Array.toList_append,Array.toList_append,List.take_append_of_le_length (by simp [hxl,hl,Nat.add_mul])]
        exact List.take_of_length_le (by simp [hxl,hl,Nat.add_mul])
theorem xs_appendS (hT:TabOk P T) {t e size bytes:Nat} {zs news:List Value} {x y:Operand} {v:Value} {k c m:Nat} {a:Addr} {xs:List Value} (hw:wantedE ops env g=true) (hsl:look t T.sls=some (e,size,bytes)) (hz:look e T.zs=some zs) (hzl:Nat.beq zs.length size=true)
    (hx:ev env x=v) (hy:ev env y = .slice (some a) c m) (hl:news.length=c*size) (hc0:0 < c) (hcs:∀ (j:Nat) u,news[j]?=some u→w.cell? (a.add j)=some u) (h1:∀ u∈news,u.oneCell'=true) (hO:OwnS wb D H e size v k xs w)
    (hk:(k+c)*bytes≤140737488355328) (hk':k+c≤9223372036854775807) (kk:∀ v' w',OwnS wb D H e size v' (k+c) (xs ++ news) w'→v' ≠ .slice none 0 0→XS P ops QE n rest (updO env d v') w') :
    XS P ops QE n (⟨d,.call { callee := .builtin .append,args:=#[x,y],argTypes:=#[t,t] },ty,pos,aft,g⟩ :: rest) env w:=by
  obtain ⟨hu,i,hi,hs1,hs2⟩:=sl_parts (hT.sl hsl)
  obtain ⟨i',z,hi',hz',hzc⟩:=z_parts (hT.z hz)
  rw [hi] at hi';cases hi'
  obtain ⟨v',w',hr,h2,h3⟩:=append_many (P:=P) (ty:=ty) (m:=m) hu hi hs1 hs2 hz' (by rw [hzc];simpa using Nat.eq_of_beq_eq_true hzl) hO hl hc0 hcs h1 hk hk'
  refine XS.value hw (v:=v') (w':=w') ?_ (kk v' w' h2 h3)
  simp [execOp,resolve,Sem.run_bind,invoke,builtin,hx,hy,hr]
theorem xs_buildSlice0 (hT:TabOk P T) {t e size bytes:Nat} (hw:wantedE ops env g=true) (hsl:look t T.sls=some (e,size,bytes)) (hs:St wb D H w)
    (k:∀ v w',OwnS wb D H e size v 0 [] w'→v ≠ .slice none 0 0→XS P ops QE n rest (updO env d v) w') :
    XS P ops QE n (⟨d,.buildSlice t 0 #[],ty,pos,aft,g⟩ :: rest) env w:=by
  obtain ⟨hu,i,hi,hs1,hs2⟩:=sl_parts (hT.sl hsl)
  refine XS.value hw (w':={ w with heap:=w.heap.push (.cells #[] e) }) (v := .slice (some ⟨w.heap.size,0,none⟩) 0 0) ?_ (k _ _ (.inr ⟨w.heap.size,0,[],rfl,Nat.le_refl _,by simp,by simp,by simp,hs.alloc _⟩) (by simp))
  simp only [execOp,Sem.run_bind,Instr.buildSlice,run_underlying' hu,Result.andThen_ok,sizeOf,run_typeInfo' hi,Sem.run_pure]
  simp [Instr.fill,newRow,newObj,Sem.run,Sem.run_bind]
  rw [show (Array.range 0).map (fun _=>(default:Value))=#[] by simp [Array.range]]
theorem St.rebase (hs:St wb D H w):St w D0 (H.map fun e=>(e.1,e.2.1,false)) w where
  at_:=fun e he=>by
    obtain ⟨e',he',rfl⟩:=List.mem_map.1 he
    exact hs.at_ e' he'
  nd:=by rw [List.map_map];exact hs.nd
  new:=fun p hp h=>by
    obtain ⟨e,he,rfl⟩:=List.mem_map.1 hp
    obtain ⟨e',he',rfl⟩:=List.mem_map.1 he
    cases h
  os:=rfl
  tape:=rfl
  output:=rfl
  size:=Nat.le_refl _
  frame:=fun _ _ _ _=>rfl
  ro:=by simp [D0]
  ap:=by simp [D0]
end
theorem St.onlyF {wb w:World} {D:Ctx} {H:List Ent} (hs:St wb D H w) (F:List Nat) (hF:∀ e∈H,e.2.2=true∨e.1∈F∨wb.heap[e.1]?=some e.2.1) (hD:∀ k∈D.dirty,k∈F):Only F wb w :=
  ⟨hs.os,hs.tape,hs.output,hs.size,fun k hk hn=>by
    by_cases h1:k∈H.map (·.1)
    · obtain ⟨e,he,rfl⟩:=List.mem_map.1 h1
      rcases hF e he with h | h | h
      · exact absurd hk (Nat.not_lt.2 (hs.new (e.1,e.2.2) (List.mem_map.2 ⟨e,he,rfl⟩) h))
      · exact absurd h hn
      · rw [hs.at_ e he,h]
    · exact hs.frame k hk (fun h=>hn (hD k h)) h1⟩
theorem Only.step {w0 w1 w2:World} {F G:List Nat} (h:Only F w0 w1) (k:Only G w1 w2) (hG:∀ k∈G,k∈F∨w0.heap.size≤k):Only F w0 w2 :=
  (h.trans k).mono fun k hk hm=>by
    rcases List.mem_append.1 hm with hm | hm
    · exact hm
    · rcases hG k hm with h | h
      · exact h
      · omega
theorem blocks_ne {w:World} {a b:Nat} {ca cb:Array Value} {ta tb:TypeId} {fa fb:Nat × Nat} (h:w.heap[a]?=some (.cells ca ta fa)) (k:w.heap[b]?=some (.cells cb tb fb)) (hne:ta≠tb):a≠b:=fun e=>by
  subst e
  rw [h] at k
  cases k
  exact hne rfl
end Go.Proofs.YtalffooghioekaaGreatDoorX

namespace Go.Proofs.YtalffooghioekaaGreatDoorX
open Go Go.RowKit
def SlV (w:World) (e k:Nat) (v:Value) (n:Nat) (xs:List Value) (G:List Nat):Prop :=
  (v = .slice none 0 0∧n=0∧xs=[]∧G=[]) ∨
  ∃ (g cap:Nat) (cur:List Value),v = .slice (some ⟨g,0,none⟩) n cap∧G=[g]∧n≤cap∧cur.length=cap*k∧xs.length=n*k∧cur.take (n*k)=xs∧w.heap[g]?=some (.cells cur.toArray e (0,0))
section
variable {P : Program} {ops : Array Oper} {QE : Exit → Env → World → Prop} {n : Nat} {rest : List Oper} {env : Env} {w wb : World} {D : Ctx} {H : List Ent} {T : Tab}
  {d:Option Nat} {ty:Nat} {pos:String} {aft:Array Edge} {g:Option (Nat × Bool)}
theorem append_w {t e size bytes:Nat} (hu:P.underlying t=some (.slice e)) {i:TypeInfo} (hi:P.info? e=some i) (hs1:i.size=size) (hs2:i.bytes=bytes) {z:Value} (hz:i.zero=some z) (hzc:z.cells.size=size)
    {v:Value} {k:Nat} {xs news:List Value} {a:Addr} {c m:Nat} {G:List Nat} (hO:SlV w e size v k xs G) (hl:news.length=c*size) (hc0:0 < c) (hcs:∀ (j:Nat) u,news[j]?=some u→w.cell? (a.add j)=some u) (h1:∀ u∈news,u.oneCell'=true)
    (hk:(k+c)*bytes≤140737488355328) (hk':k+c≤9223372036854775807) :
    ∃ v' w',(Builtin.append_ #[t,t] ty #[v,.slice (some a) c m]).run P w = .ok v' w'∧(∃ G',SlV w' e size v' (k+c) (xs ++ news) G'∧∀ i∈G',i∈G∨w.heap.size≤i)∧Only G w w':=by
  subst hs1 hs2
  have hcb:c*i.bytes≤281474976710656:=by
    have:=Nat.mul_le_mul_right i.bytes (show c≤k+c by omega)
    omega
  rcases hO with ⟨rfl,rfl,rfl,rfl⟩ | ⟨g,cap,cur,rfl,rfl,hc,hcl,hxl,htk,hg⟩
  · have hr:=run_append_nil (P:=P) w t ty e i z hu hi hz a c m news hl hcs hc0 (by omega) hcb
    have hs:=(St.nil w).drew'.alloc (.cells (news.toArray ++ Builtin.zeroCells z.cells (grownCap w c 0 e - c)) e)
    refine ⟨_,_,hr,⟨[w.heap.size],.inr ⟨w.heap.size,grownCap w c 0 e,(news.toArray ++ Builtin.zeroCells z.cells (grownCap w c 0 e - c)).toList,by rw [Nat.zero_add],rfl,by rw [Nat.zero_add];exact grownCap_ge w c 0 e,?_,?_,?_,hs.get At.head⟩,by simp⟩,hs.only0 rfl⟩
    · have:=grownCap_ge w c 0 e
      simp only [Array.toList_append,List.length_append,zero_list,hzc,hl]
      rw [← Nat.add_mul];congr 1;omega
    · rw [Nat.zero_add,List.nil_append,hl]
    · rw [List.nil_append,Nat.zero_add,Array.toList_append,List.take_append_of_le_length (by simp [hl])]
      exact List.take_of_length_le (by simp [hl])
  · have hs0:=(St.nil w).track hg (by simp)
    by_cases hroom:k+c≤cap
    · have hfit:k*i.size+news.length≤cur.toArray.size:=by
        rw [hl,List.size_toArray,hcl,← Nat.add_mul];exact Nat.mul_le_mul_right _ hroom
      have hr:=run_append_room (P:=P) w t ty e i hu hi g k cap cur.toArray hg a c m news hl hcs h1 hroom hfit
      simp only [List.size_toArray] at hfit
      have hs:=hs0.row At.head (cur.take (k*i.size) ++ news ++ cur.drop (k*i.size+news.length)).toArray
      refine ⟨_,_,hr,⟨[g],.inr ⟨g,cap,(cur.take (k*i.size) ++ news ++ cur.drop (k*i.size+news.length)),rfl,rfl,hroom,?_,?_,?_,hs.get At.head⟩,by simp⟩,hs.onlyF [g] (by simp) (by simp [D0])⟩
      · simp only [List.length_append,List.length_take,List.length_drop]
        omega
      · rw [List.length_append,hxl,hl,Nat.add_mul]
      · rw [List.append_assoc,← List.append_assoc,htk,List.take_append_of_le_length (by rw [List.length_append,hxl,hl,Nat.add_mul];exact Nat.le_refl _)]
        exact List.take_of_length_le (by rw [List.length_append,hxl,hl,Nat.add_mul];exact Nat.le_refl _)
    · have hold:∀ (j:Nat) u,xs[j]?=some u→w.cell? ((⟨g,0,none⟩:Addr).add j)=some u:=fun j u hj=>by
        rw [add_addr]
        rw [← htk,List.getElem?_take] at hj
        split at hj
        · simp [World.cell?,hg,hj]
        · cases hj
      have hr:=run_append_grow (P:=P) w t ty e i z hu hi hz ⟨g,0,none⟩ k cap xs hxl hold a c m news hl hcs (by omega) (by omega) (growslice_fits (by omega) hk)
      have hge:=grownCap_ge w (k+c) cap e
      have hs:=hs0.drew'.alloc (.cells (xs.toArray ++ news.toArray ++ Builtin.zeroCells z.cells (grownCap w (k+c) cap e - (k+c))) e)
      refine ⟨_,_,hr,⟨[w.heap.size],.inr ⟨w.heap.size,grownCap w (k+c) cap e,(xs.toArray ++ news.toArray ++ Builtin.zeroCells z.cells (grownCap w (k+c) cap e - (k+c))).toList,rfl,rfl,hge,?_,?_,?_,hs.get At.head⟩,by simp⟩,hs.onlyF [g] (by simp) (by simp [D0])⟩
      · simp only [Array.toList_append,List.length_append,zero_list,hzc,hl,hxl]
        rw [← Nat.add_mul,← Nat.add_mul];congr 1;omega
      · rw [List.length_append,hxl,hl,Nat.add_mul]
      · rw [Array.toList_append,Array.toList_append,List.take_append_of_le_length (by simp [hxl,hl,Nat.add_mul])]
        exact List.take_of_length_le (by simp [hxl,hl,Nat.add_mul])
theorem xs_appendW (hT:TabOk P T) {t e size bytes:Nat} {zs news:List Value} {x y:Operand} {v:Value} {k c m:Nat} {a:Addr} {xs:List Value} {G:List Nat} (hw:wantedE ops env g=true) (hsl:look t T.sls=some (e,size,bytes)) (hz:look e T.zs=some zs) (hzl:Nat.beq zs.length size=true)
    (hx:ev env x=v) (hy:ev env y = .slice (some a) c m) (hl:news.length=c*size) (hc0:0 < c) (hcs:∀ (j:Nat) u,news[j]?=some u→w.cell? (a.add j)=some u) (h1:∀ u∈news,u.oneCell'=true) (hO:SlV w e size v k xs G)
    (hk:(k+c)*bytes≤140737488355328) (hk':k+c≤9223372036854775807) (kk:∀ v' w',(∃ G',SlV w' e size v' (k+c) (xs ++ news) G'∧∀ i∈G',i∈G∨w.heap.size≤i)→Only G w w'→XS P ops QE n rest (updO env d v') w') :
    XS P ops QE n (⟨d,.call { callee := .builtin .append,args:=#[x,y],argTypes:=#[t,t] },ty,pos,aft,g⟩ :: rest) env w:=by
  obtain ⟨hu,i,hi,hs1,hs2⟩:=sl_parts (hT.sl hsl)
  obtain ⟨i',z,hi',hz',hzc⟩:=z_parts (hT.z hz)
  rw [hi] at hi';cases hi'
  obtain ⟨v',w',hr,h2,h3⟩:=append_w (P:=P) (ty:=ty) (m:=m) hu hi hs1 hs2 hz' (by rw [hzc];simpa using Nat.eq_of_beq_eq_true hzl) hO hl hc0 hcs h1 hk hk'
  refine XS.value hw (v:=v') (w':=w') ?_ (kk v' w' h2 h3)
  simp [execOp,resolve,Sem.run_bind,invoke,builtin,hx,hy,hr]
end
theorem SlV.lt {w:World} {e k n:Nat} {v:Value} {xs:List Value} {G:List Nat} (h:SlV w e k v n xs G):∀ b∈G,b < w.heap.size:=by
  rcases h with ⟨_,_,_,rfl⟩ | ⟨g,cap,cur,_,rfl,_,_,_,_,hg⟩
  · intro b hb;cases hb
  · intro b hb
    obtain rfl:=List.mem_singleton.1 hb
    exact lt_of_block hg
theorem SlV.keep {w w':World} {e k n:Nat} {v:Value} {xs:List Value} {G F:List Nat} (h:SlV w e k v n xs G) (ho:Only F w w') (hd:∀ b∈G,b∉F):SlV w' e k v n xs G:=by
  rcases h with ⟨h1,h2,h3,h4⟩ | ⟨g,cap,cur,h1,rfl,h3,h4,h5,h6,hg⟩
  · exact .inl ⟨h1,h2,h3,h4⟩
  · exact .inr ⟨g,cap,cur,h1,rfl,h3,h4,h5,h6,ho.block hg (hd g List.mem_cons_self)⟩
end Go.Proofs.YtalffooghioekaaGreatDoorX

namespace Go.Proofs.YtalffooghioekaaGreatDoorX
open Go Go.RowKit
def LsAt (w:World) (E k:Nat) (v:Value) (xs:List (List Value)):Prop :=
  ∃ ad cap,v = .slice ad xs.length cap∧(xs≠[]→∃ (b off:Nat) (cs:List Value) (fz:Nat × Nat),ad=some ⟨b,off,none⟩∧xs.length≤cap∧w.heap[b]?=some (.cells cs.toArray E fz)∧∀ (i:Nat) x,xs[i]?=some x→Pick cs (off+i*k) k x)
theorem LsAt.nil (w:World) (E k:Nat):LsAt w E k (.slice none 0 0) []:=⟨none,0,rfl,fun h=>absurd rfl h⟩
theorem LsAt.keep {w w':World} {E k:Nat} {v:Value} {xs:List (List Value)} {F:List Nat} (h:LsAt w E k v xs) (ho:Only F w w') (hF:∀ b∈F,∀ cs fz,w.heap[b]?≠some (.cells cs E fz)):LsAt w' E k v xs:=by
  obtain ⟨ad,cap,rfl,h⟩:=h
  refine ⟨ad,cap,rfl,fun hn=>?_⟩
  obtain ⟨b,off,cs,fz,h1,h2,h3,h4⟩:=h hn
  exact ⟨b,off,cs,fz,h1,h2,ho.block h3 (fun hm=>hF b hm _ _ h3),h4⟩
theorem LsAt.only {w w':World} {E k:Nat} {v:Value} {xs:List (List Value)} (h:LsAt w E k v xs) (ho:Only [] w w'):LsAt w' E k v xs:=h.keep ho (by simp)
theorem pick_of {cs:List Value}:∀ {vs:List Value} {off m:Nat},vs.length=m→(cs.drop off).take m=vs→Pick cs off m vs
  | [],off,m,hm,h=>by subst hm;exact .nil
  | v :: vs,off,m,hm,h=>by
    subst hm
    have hlt:off < cs.length:=by
      rcases Nat.lt_or_ge off cs.length with h' | h'
      · exact h'
      · rw [List.drop_eq_nil_of_le h'] at h;simp at h
    rw [List.drop_eq_getElem_cons hlt] at h
    simp only [List.length_cons,List.take_succ_cons,List.cons.injEq] at h
    exact .cons (by rw [List.getElem?_eq_getElem hlt,h.1]) (pick_of rfl h.2)
theorem flat_row {k:Nat}:∀ {xs:List (List Value)} {i:Nat} {x:List Value},(∀ y∈xs,y.length=k)→xs[i]?=some x→(xs.flatten.drop (i*k)).take k=x
  | [],i,x,_,h=>by simp at h
  | y :: xs,0,x,hk,h=>by
    have h1:=hk y (by simp)
    simp only [List.getElem?_cons_zero,Option.some.injEq] at h
    subst h;subst h1
    simp
  | y :: xs,i+1,x,hk,h=>by
    have h1:=hk y (by simp)
    simp only [List.getElem?_cons_succ] at h
    have ih:=flat_row (fun z hz=>hk z (List.mem_cons_of_mem _ hz)) h
    rw [List.flatten_cons,List.drop_append,List.drop_eq_nil_of_le (by rw [h1,Nat.succ_mul];omega),List.nil_append,h1,Nat.succ_mul,Nat.add_sub_cancel]
    exact ih
theorem SlV.ls {w:World} {E k n:Nat} {v:Value} {flat:List Value} {G:List Nat} (h:SlV w E k v n flat G) {xs:List (List Value)} (hf:flat=xs.flatten) (hn:n=xs.length) (hk:∀ x∈xs,x.length=k):LsAt w E k v xs:=by
  subst hn
  rcases h with ⟨rfl,h0,hx,_⟩ | ⟨g,cap,cur,rfl,_,hc,hl,hxl,ht,hg⟩
  · have:xs=[]:=by simpa using h0
    subst this
    exact LsAt.nil w E k
  · refine ⟨_,cap,rfl,fun _=>⟨g,0,cur,(0,0),rfl,hc,hg,fun i x hi=>?_⟩⟩
    have hi':i < xs.length:=by
      rcases Nat.lt_or_ge i xs.length with h | h
      · exact h
      · rw [List.getElem?_eq_none h] at hi;cases hi
    have hxk:=hk x (List.mem_of_getElem? hi)
    refine pick_of hxk ?_
    have e:=flat_row hk hi
    rw [← hf,← ht,List.drop_take,List.take_take,Nat.min_eq_left] at e
    · rw [Nat.zero_add];exact e
    · rw [← Nat.sub_mul]
      exact Nat.le_mul_of_pos_left k (by omega)
def minL:List Int→Int
  | []=>0
  | d :: l=>l.foldl (fun a b=>if b < a then b else a) d
def maxL:List Int→Int
  | []=>0
  | d :: l=>l.foldl (fun a b=>if b > a then b else a) d
theorem minL_snoc (l:List Int) (d:Int):minL (l ++ [d])=if l=[] then d else if d < minL l then d else minL l:=by
  cases l with
  | nil=>rfl
  | cons a l=>exact (List.foldl_append ..)
theorem maxL_snoc (l:List Int) (d:Int):maxL (l ++ [d])=if l=[] then d else if d > maxL l then d else maxL l:=by
  cases l with
  | nil=>rfl
  | cons a l=>exact (List.foldl_append ..)
section
variable {ops : Array Oper} {QE : Exit → Env → World → Prop} {n : Nat} {rest : List Oper} {env : Env} {w wb : World} {d : Option Nat} {ty : Nat} {pos : String} {aft : Array Edge} {g : Option (Nat × Bool)}
theorem lhK {t b off m:Nat} {x:Operand} {cs vs:List Value} {E:TypeId} {fr:Nat × Nat} (hb:w.heap[b]?=some (.cells cs.toArray E fr)) (hc:Pick cs off (m+1) vs) (hw:wantedE ops env g=true:=by exact rfl) (ht:look t tab.tks=some (true,m+1):=by exact rfl)
    (hp:ev env x = .pointer (some ⟨b,off,none⟩):=by exact rfl)
    (k:XS Tryz.prog ops QE n rest (updO env d (.agg vs.toArray)) w):XS Tryz.prog ops QE n (⟨d,.load t x,ty,pos,aft,g⟩ :: rest) env w :=
  xs_val hw (by simp [execOp,hp,Instr.loadAt,Instr.sureAddr,Sem.run_bind,run_loadVar_agg (tabOk.tk ht) hb hc.le,hc.eq.2]) k
end
end Go.Proofs.YtalffooghioekaaGreatDoorX

namespace Go.Proofs.YtalffooghioekaaGreatDoorX
open Go Go.RowKit
attribute [local irreducible] XS XC XA thenE blockE retE loopE loopS cutB cutN doneE SE
theorem nx64 {i m:Nat} (h:i < m) (hm:m≤9223372036854775807):IntKind.i64.wrap ((i:Int)+1)=((i+1:Nat):Int):=by
  rw [wrap_i64];omega
def PsAt (w:World) (v:Value) (ps:List Pt):Prop:=LsAt w 62 3 v (ps.map Pt.cells)
def ItsAt (w:World) (v:Value) (l:List It):Prop:=LsAt w 64 7 v (l.map It.cells)
def sinces (base:Int) (ps:List Pt):List Int:=ps.map fun p=>sn p.t base
theorem minL_in {l:List Int} (h:∀ d∈l,In64 d):In64 (minL l):=by
  cases l with
  | nil=>decide
  | cons d l =>
    have:∀ (l:List Int) (a:Int),In64 a→(∀ d∈l,In64 d)→In64 (l.foldl (fun a b=>if b < a then b else a) a):=by
      intro l
      induction l with
      | nil=>intro a ha _;exact ha
      | cons b l ih =>
        intro a ha hl
        refine ih _ ?_ (fun d hd=>hl d (List.mem_cons_of_mem _ hd))
        show In64 (if b < a then b else a)
        split
        · exact hl b List.mem_cons_self
        · exact ha
    exact this l d (h d List.mem_cons_self) fun x hx=>h x (List.mem_cons_of_mem _ hx)
theorem maxL_in {l:List Int} (h:∀ d∈l,In64 d):In64 (maxL l):=by
  cases l with
  | nil=>decide
  | cons d l =>
    have:∀ (l:List Int) (a:Int),In64 a→(∀ d∈l,In64 d)→In64 (l.foldl (fun a b=>if b > a then b else a) a):=by
      intro l
      induction l with
      | nil=>intro a ha _;exact ha
      | cons b l ih =>
        intro a ha hl
        refine ih _ ?_ (fun d hd=>hl d (List.mem_cons_of_mem _ hd))
        show In64 (if b > a then b else a)
        split
        · exact hl b List.mem_cons_self
        · exact ha
    exact this l d (h d List.mem_cons_self) fun x hx=>h x (List.mem_cons_of_mem _ hx)
theorem take_next {α:Type} {l:List α} {i:Nat} (h:i < l.length):l.take (i+1)=l.take i ++ [l[i]]:=by simp
set_option maxHeartbeats 2000000 in
theorem floors_ret (base:Int) (ps:List Pt) (sl:Value) (hm:ps.length≤9223372036854775807) (w0:World) (hP:PsAt w0 sl ps) :
    Ret Tryz.prog 255 #[.int .u64 base,sl] w0 fun v w'=>v = .tuple #[.int .i64 (minL (sinces base ps)),.int .i64 (maxL (sinces base ps))]∧Only [] w0 w':=by
  obtain ⟨ad,cap,rfl,hD⟩:=hP
  rw [List.length_map] at *
  have hs:=St.nil w0
  refine ret_of_xc Tryz.func255 (by kernel_rfl) rfl Tryz.ntmps255 rfl rfl rfl ?_
  repeat' (first|refine vs (k:=?_)|refine qRg ?_|refine Nx.h ?_|fail)
  refine xc_cutB (fun (_:Unit)=>[(4,.int .i64 (minL (sinces base ps))),(5,.int .i64 (maxL (sinces base ps)))]) (fun _ w=>St w0 D0 [] w) ?_ ?_
  · refine xc_loopS (fun (i:Nat)=>[(0,.int .u64 base),(4,.int .i64 (minL (sinces base (ps.take i)))),(5,.int .i64 (maxL (sinces base (ps.take i)))),(9,.slice ad ps.length cap),(10,.int .i64 (ps.length:Nat)),(11,.int .i64 (i:Nat))])
      (fun i w=>i≤ps.length∧St w0 D0 [] w) (fun i=>ps.length - i) 0 (by (repeat (first | exact agree_nil | (apply agree_cons;exact rfl)))) ⟨Nat.zero_le _,hs⟩ fun i env w ⟨hi,hs⟩=>?_
    repeat' (first|refine vs (k:=?_)|refine qRg ?_|refine Nx.h ?_|(refine xc_if rfl (fun hc=>?_) (fun hc=>?_))|fail)
    · have hlt:i < ps.length:=by omega
      obtain ⟨b,off,cs,fz,rfl,_,hb,hcs⟩:=hD (fun h=>by simp at h;subst h;cases hlt)
      have hpk:=hcs i (Pt.cells ps[i]) (by rw [List.getElem?_map,List.getElem?_eq_getElem hlt];rfl)
      have hnx:sinces base (ps.take (i+1))=sinces base (ps.take i) ++ [sn ps[i].t base]:=by rw [take_next hlt];unfold sinces;rw [List.map_append];rfl
      have h0:sinces base (ps.take i)=[]↔i=0:=by
        unfold sinces
        rw [List.map_eq_nil_iff,List.take_eq_nil_iff]
        constructor
        · rintro (h | h)
          · exact h
          · subst h;simp at hlt
        · exact .inl
      have emin:=minL_snoc (sinces base (ps.take i)) (sn ps[i].t base)
      have emax:=maxL_snoc (sinces base (ps.take i)) (sn ps[i].t base)
      rw [← hnx] at emin emax
      have ei:=nx64 hlt hm
      generalize ps[i]=p at *
      refine ix (h0:=(by omega)) (h1:=(by omega)) (k:=?_)
      refine lhK ((hs.only0 rfl).block hb (by simp)) hpk (k:=?_)
      refine al hs (k:=?_);intro b7 w hz hs
      repeat' (first|refine vs (k:=?_)|(refine stA hs (k:=?_);intro w hs)|refine qRg ?_|refine Nx.h ?_|fail)
      (with_reducible apply xs_call);exact rfl;exact rfl;exact since_ret p.t base _
      rintro v w' ⟨rfl,ho⟩;replace hs:=hs.call0 ho;repeat' (first|refine vs (k:=?_)|refine qRg ?_|refine Nx.h ?_|(refine xc_if rfl (fun hc=>?_) (fun hc=>?_))|fail)
      · have hi0:i=0:=by omega
        rw [if_pos (h0.2 hi0)] at emin emax
        have e1:(if sn p.t base < sn p.t base then sn p.t base else sn p.t base)=minL (sinces base (ps.take (i+1))):=by rw [emin];split <;> rfl
        have e2:(if sn p.t base > sn p.t base then sn p.t base else sn p.t base)=maxL (sinces base (ps.take (i+1))):=by rw [emax];split <;> rfl
        exact loopS_next (i+1) (by omega) (by (repeat (first | exact agree_nil | (apply agree_cons;first | exact rfl | exact congrArg (Value.int .i64) e1 | exact congrArg (Value.int .i64) e2 | exact congrArg (Value.int .i64) ei)))) ⟨by omega,hs.forgetNew⟩
      · have hi0:¬ i=0:=by omega
        rw [if_neg (fun h=>hi0 (h0.1 h))] at emin emax
        exact loopS_next (i+1) (by omega) (by (repeat (first | exact agree_nil | (apply agree_cons;first | exact rfl | exact congrArg (Value.int .i64) emin.symm | exact congrArg (Value.int .i64) emax.symm | exact congrArg (Value.int .i64) ei)))) ⟨by omega,hs.forgetNew⟩
    · have e:i=ps.length:=by omega
      rw [e,List.take_length]
      exact cutB_exit () (by (repeat (first | exact agree_nil | (apply agree_cons;exact rfl)))) hs
  · rintro _ env w hs
    repeat' (first|refine vs (k:=?_)|refine qRg ?_|refine Nx.h ?_|fail)
    first | refine rt (hq:=?_) | refine rt' (hq:=?_)
    exact ⟨rfl,hs.only0 rfl⟩
def soonest (a:It) (l:List It):It:=l.foldl (fun a b=>bif due b a then b else a) a
theorem soonest_snoc (a:It) (l:List It) (b:It):soonest a (l ++ [b])=bif due b (soonest a l) then b else soonest a l:=by unfold soonest;rw [List.foldl_append];rfl
theorem soonest_in {a:It} (ha:a.In):∀ {l:List It},(∀ b∈l,b.In)→(soonest a l).In:=by
  intro l
  unfold soonest
  induction l generalizing a with
  | nil=>intro _;exact ha
  | cons b l ih =>
    intro hl
    refine ih ?_ (fun c hc=>hl c (List.mem_cons_of_mem _ hc))
    show (bif due b a then b else a).In
    cases due b a
    · exact ha
    · exact hl b List.mem_cons_self
set_option maxHeartbeats 2000000 in
theorem soonest_ret (x:It) (l:List It) (sl:Value) (hx:x.In) (hl:∀ b∈l,b.In) (hm:l.length≤9223372036854775807) (w0:World) (hP:ItsAt w0 sl l) :
    Ret Tryz.prog 245 #[iv x,sl] w0 fun v w'=>v=iv (soonest x l)∧Only [] w0 w':=by
  obtain ⟨ad,cap,rfl,hD⟩:=hP
  rw [List.length_map] at *
  have hs:=St.nil w0
  refine ret_of_xc Tryz.func245 (by kernel_rfl) rfl Tryz.ntmps245 rfl rfl rfl ?_
  refine xc_seq ?_
  refine xc_region ?_ ?_;exact rfl
  refine bx hs (k:=?_);intro b2 w hz hs
  refine al hs (k:=?_);intro b4 w hz hs
  repeat' (first|refine vs (k:=?_)|refine qRg ?_|refine Nx.h ?_|fail)
  refine xc_cutB (fun (_:Unit)=>[(2,.pointer (some ⟨b2,0,none⟩)),(4,.pointer (some ⟨b4,0,none⟩))]) (fun _ w=>St w0 D0 [(b4,.cells It.zero.cells.toArray 64,true),(b2,.cells (soonest x l).cells.toArray 64,true)] w) ?_ ?_
  · refine xc_loopS (fun (i:Nat)=>[(2,.pointer (some ⟨b2,0,none⟩)),(4,.pointer (some ⟨b4,0,none⟩)),(7,.slice ad l.length cap),(8,.int .i64 (l.length:Nat)),(9,.int .i64 (i:Nat))])
      (fun i w=>i≤l.length∧St w0 D0 [(b4,.cells It.zero.cells.toArray 64,true),(b2,.cells (soonest x (l.take i)).cells.toArray 64,true)] w) (fun i=>l.length - i) 0 (by (repeat (first | exact agree_nil | (apply agree_cons;exact rfl)))) ⟨Nat.zero_le _,hs⟩ fun i env w ⟨hi,hs⟩=>?_
    repeat' (first|refine vs (k:=?_)|refine qRg ?_|refine Nx.h ?_|(refine xc_if rfl (fun hc=>?_) (fun hc=>?_))|fail)
    · have hlt:i < l.length:=by omega
      obtain ⟨b,off,cs,fz,rfl,_,hb,hcs⟩:=hD (fun h=>by simp at h;subst h;cases hlt)
      have hpk:=hcs i (It.cells l[i]) (by rw [List.getElem?_map,List.getElem?_eq_getElem hlt];rfl)
      have hsn:=soonest_snoc x (l.take i) l[i]
      rw [← take_next hlt] at hsn
      have hin:=hl l[i] (List.getElem_mem hlt)
      have hin2:=soonest_in hx (l:=l.take i) (fun c hc=>hl c (List.mem_of_mem_take hc))
      have ei:=nx64 hlt hm
      generalize l[i]=q at *
      generalize soonest x (l.take i)=y at *
      refine ix (h0:=(by omega)) (h1:=(by omega)) (k:=?_)
      refine lhK ((hs.only0 rfl).block hb (by simp)) hpk (k:=?_)
      refine al hs (k:=?_);intro b6 w hz hs
      repeat' (first|refine vs (k:=?_)|(refine stA hs (k:=?_);intro w hs)|refine qRg ?_|refine Nx.h ?_|fail)
      (with_reducible apply xs_call);exact rfl;exact rfl;exact due_ret q y hin hin2 _
      rintro v w' ⟨rfl,ho⟩;replace hs:=hs.call0 ho;repeat' (first|refine vs (k:=?_)|(refine stA hs (k:=?_);intro w hs)|refine qRg ?_|refine Nx.h ?_|(refine xc_cond rfl (fun hc=>?_) (fun hc=>?_))|fail)
      · rw [hc,cond_true] at hsn
        exact loopS_next (i+1) (by omega) (by (repeat (first | exact agree_nil | (apply agree_cons;first | exact rfl | exact congrArg (Value.int .i64) ei)))) ⟨by omega,by rw [hsn];exact hs.forgetNew⟩
      · rw [hc,cond_false] at hsn
        exact loopS_next (i+1) (by omega) (by (repeat (first | exact agree_nil | (apply agree_cons;first | exact rfl | exact congrArg (Value.int .i64) ei)))) ⟨by omega,by rw [hsn];exact hs.forgetNew⟩
    · have e:i=l.length:=by omega
      rw [e,List.take_length] at hs
      exact cutB_exit () (by (repeat (first | exact agree_nil | (apply agree_cons;exact rfl)))) hs
  · rintro _ env w hs
    repeat' (first|refine vs (k:=?_)|(refine stA hs (k:=?_);intro w hs)|refine qRg ?_|refine Nx.h ?_|fail)
    first | refine rt (hq:=?_) | refine rt' (hq:=?_)
    exact ⟨rfl,hs.only0 rfl⟩
end Go.Proofs.YtalffooghioekaaGreatDoorX

namespace Go.Proofs.YtalffooghioekaaGreatDoorX
open Go Go.RowKit
attribute [local irreducible] XS XC XA thenE blockE retE loopE loopS cutB cutN doneE SE
structure Mn where
  b:Int
  a:Int
  w:Int
  n:Int
deriving DecidableEq
abbrev Mn.cells (m:Mn):List Value:=[.int .u64 m.b,.int .i64 (m.a / 18446744073709551616),.int .u64 (m.a % 18446744073709551616),.int .u64 m.w,.int .i64 m.n]
def mv (m:Mn):Value := .agg #[.int .u64 m.b,.int .i64 (m.a / 18446744073709551616),.int .u64 (m.a % 18446744073709551616),.int .u64 m.w,.int .i64 m.n]
def Mn.In (m:Mn):Prop:=U64 m.b∧InW m.a∧U64 m.w∧In64 m.n
instance (m:Mn):Decidable m.In:=by unfold Mn.In;infer_instance
def Mn.zero:Mn:=⟨0,0,0,0⟩
def Mn.right (m:Mn):Bool:=bif decide (m.n=0) then decide (m.w=0) && decide (m.a=0) else decide (0 < m.n) && decide (m.n≤32) && decide (m.n≤m.w) && decide (m.w≤m.n*1048576)
theorem eqW0 (x:Int):(cellEq (.int .i64 (x / 18446744073709551616)) (.int .i64 0) && cellEq (.int .u64 (x % 18446744073709551616)) (.int .u64 0))=decide (x=0):=by
  show ((x / 18446744073709551616 == 0) && (x % 18446744073709551616 == 0))=_
  by_cases h:x=0
  · subst h;decide
  · rw [decide_eq_false h]
    cases h1:(x / 18446744073709551616 == 0)
    · rfl
    · cases h2:(x % 18446744073709551616 == 0)
      · rfl
      · simp only [beq_iff_eq] at h1 h2
        omega
set_option maxHeartbeats 2000000 in
theorem mright_ret (m:Mn) (w0:World):Ret Tryz.prog 119 #[mv m] w0 fun v w'=>v = .bool m.right∧Only [] w0 w':=by
  have hs:=St.nil w0
  refine ret_of_xc Tryz.func119 (by kernel_rfl) rfl Tryz.ntmps119 rfl rfl rfl ?_
  repeat' (first|refine vs (k:=?_)|refine ps (k:=?_)|(refine bx hs (k:=?_);intro b w hz hs)|refine qRg ?_|refine Nx.h ?_|((with_reducible apply xs_guard);exact rfl;exact rfl;intro c hc;(fail_if_success have:true=c:=hc);(fail_if_success have:false=c:=hc);cases c)|(refine xc_if rfl (fun hc=>?_) (fun hc=>?_))|fail)
  all_goals (first | refine rt (hq:=?_) | refine rt' (hq:=?_))
  all_goals refine ⟨?_,hs.only0 rfl⟩
  all_goals clear hs
  all_goals unfold Mn.right packed
  all_goals try rw [eqW0]
  all_goals simp only [wrap_u64] at *
  · rw [decide_eq_true ‹m.n=0›,cond_true];simp only [beq_eq_false_iff_ne,ne_eq] at hc;rw [decide_eq_false hc];rfl
  · rw [decide_eq_true ‹m.n=0›,cond_true];simp only [beq_iff_eq] at hc;rw [decide_eq_true hc];rfl
  · rw [decide_eq_false ‹¬ m.n=0›,cond_false,hc];rfl
  · rw [decide_eq_false ‹¬ m.n=0›,cond_false,‹decide (0 < m.n)=true›,hc];rfl
  · have h1:=of_decide_eq_true ‹decide (0 < m.n)=true›
    have h2:=of_decide_eq_true ‹decide (m.n≤32)=true›
    rw [show m.n % 18446744073709551616=m.n by omega] at hc
    rw [decide_eq_false ‹¬ m.n=0›,cond_false,‹decide (0 < m.n)=true›,‹decide (m.n≤32)=true›,hc];rfl
  · have h1:=of_decide_eq_true ‹decide (0 < m.n)=true›
    have h2:=of_decide_eq_true ‹decide (m.n≤32)=true›
    rw [show m.n % 18446744073709551616=m.n by omega] at hc
    rw [decide_eq_false ‹¬ m.n=0›,cond_false,‹decide (0 < m.n)=true›,‹decide (m.n≤32)=true›,hc,show m.n % 18446744073709551616*1048576 % 18446744073709551616=m.n*1048576 by omega];rfl
theorem mright_iff {m:Mn}:m.right=true↔(m.n=0∧m.w=0∧m.a=0)∨(0 < m.n∧m.n≤32∧m.n≤m.w∧m.w≤m.n*1048576):=by
  unfold Mn.right
  by_cases h:m.n=0
  · rw [decide_eq_true h,cond_true];simp;omega
  · rw [decide_eq_false h,cond_false];simp;omega
def mnV (o:Option Mn):Value := .tuple #[mv (o.getD .zero),.bool o.isSome]
theorem pright_iff {p:Pt}:p.right=true↔1≤p.w∧p.w≤1048576∧p.r < p.w:=by
  unfold Pt.right;rw [Bool.and_eq_true,mayW_iff,decide_eq_true_eq,and_assoc]
def addM (m:Mn) (p:Pt):Option Mn:=if m.right=true∧p.right=true∧m.n≠32∧InW (m.a+dist p m.b) then some ⟨m.b,m.a+dist p m.b,m.w+p.w,m.n+1⟩ else none
theorem addM_in {m:Mn} {p:Pt} {o:Mn} (hm:m.In) (h:addM m p=some o):o.In:=by
  unfold addM at h
  split at h
  · rename_i hc
    cases h
    obtain ⟨h1,h2,h3,h4⟩:=hc
    have h1:=mright_iff.1 h1
    have h2:=pright_iff.1 h2
    refine ⟨hm.1,h4,?_,?_⟩
    · show 0≤m.w+p.w∧m.w+p.w < 18446744073709551616;omega
    · show -9223372036854775808≤m.n+1∧m.n+1 < 9223372036854775808;omega
  · cases h
set_option maxHeartbeats 2000000 in
theorem madd_ret (m:Mn) (p:Pt) (hm:m.In) (hp':p.In) (w0:World):Ret Tryz.prog 242 #[mv m,pv p] w0 fun v w'=>v=mnV (addM m p)∧Only [] w0 w':=by
  have hs:=St.nil w0
  refine ret_of_xc Tryz.func242 (by kernel_rfl) rfl Tryz.ntmps242 rfl rfl rfl ?_
  repeat' (first|refine vs (k:=?_)|(refine al hs (k:=?_);intro b w hz hs)|(refine bx hs (k:=?_);intro b w hz hs)|refine qRg ?_|refine Nx.h ?_|fail)
  (with_reducible apply xs_call);exact rfl;exact rfl;exact mright_ret m _
  rintro v w' ⟨rfl,ho⟩;replace hs:=hs.call0 ho;repeat' (first|refine vs (k:=?_)|refine ps (k:=?_)|(refine stA hs (k:=?_);intro w hs)|refine qRg ?_|refine Nx.h ?_|refine qCt ?_|((with_reducible apply xs_guard);exact rfl;exact rfl;intro c hc;(fail_if_success have:true=c:=hc);(fail_if_success have:false=c:=hc);cases c)|fail)
  · (with_reducible apply xs_call);exact rfl;exact rfl;exact pright_ret p _
    rintro v w' ⟨rfl,ho⟩;replace hs:=hs.call0 ho;repeat' (first|refine vs (k:=?_)|refine ps (k:=?_)|(refine stA hs (k:=?_);intro w hs)|refine qRg ?_|refine Nx.h ?_|refine qCt ?_|((with_reducible apply xs_guard);exact rfl;exact rfl;intro c hc;(fail_if_success have:true=c:=hc);(fail_if_success have:false=c:=hc);cases c)|(refine xc_if rfl (fun hc=>?_) (fun hc=>?_))|fail)
    · first | refine rt (hq:=?_) | refine rt' (hq:=?_)
      refine ⟨?_,hs.only0 rfl⟩
      have:addM m p=none:=by unfold addM;rw [if_neg (fun h=>h.2.2.1 ‹_›)]
      rw [this];rfl
    · refine dr [] hs (k:=?_);intro hX w hs
      refine tk 0 hX (k:=?_)
      refine tk 1 hX (k:=?_)
      refine tk 2 hX (k:=?_)
      refine tk 3 hX (k:=?_)
      refine tk 4 hX (k:=?_)
      refine pd0 10 6 hs (k:=?_);intro f X w hp;have hs:=hp.st
      apply xa_pend 5 10 (f:=f) (X:=X) hX hp;exact rfl;exact rfl;(apply makes_alloc tabOk;exact rfl);kernel_rfl;kernel_rfl;kernel_rfl;kernel_rfl;(intro X Y;(repeat (first | exact pgg_base | refine pgg_step ?_ (by exact rfl))));(intro w' hs;first|exact se_hold hs.hold|exact se_hold hs.hold.tail|exact se_done rfl);intro f X w hp;have hs:=hp.st
      (with_reducible apply xs_call);exact rfl;exact rfl;exact dist_ret p m.b hp' _
      rintro v w' ⟨rfl,ho⟩;replace hp:=hp.only ho;replace hs:=hp.st;repeat' (first|refine Nx.h ?_|fail)
      refine dn (k:=?_)
      apply xa_pend 6 10 (f:=f) (X:=X) hX hp;exact rfl;exact rfl;(apply makes_alloc tabOk;exact rfl);kernel_rfl;kernel_rfl;kernel_rfl;kernel_rfl;(intro X Y;(repeat (first | exact pgg_base | refine pgg_step ?_ (by exact rfl))));(intro w' hs;first|exact se_hold hs.hold|exact se_hold hs.hold.tail|exact se_done rfl);intro f X w hp;have hs:=hp.st
      (with_reducible apply xs_call);exact rfl;exact rfl;exact add_t m.a (dist p m.b) hm.2.1 (dist_in hp' _) _
      rintro v w' ⟨rfl,ho⟩;replace hp:=hp.only ho;replace hs:=hp.st;repeat' (first|refine Nx.h ?_|fail)
      refine dn (k:=?_)
      refine tk 7 hX (hc:=by cases f <;> kernel_rfl) (k:=?_)
      refine tk 8 hX (hc:=by cases f <;> kernel_rfl) (k:=?_)
      refine tk 9 hX (hc:=by cases f <;> kernel_rfl) (k:=?_)
      apply xa_pendE 10 (f:=f) (X:=X) hX hp;exact rfl;(apply makes_alloc tabOk;exact rfl);kernel_rfl;kernel_rfl;(intro X Y;(repeat (first | exact pgg_base | refine pgg_step ?_ (by exact rfl))));(intro w' hs;first|exact se_hold hs.hold|exact se_hold hs.hold.tail|exact se_done rfl);intro b w hI hs
      refine dt 11 hX (k:=?_)
      repeat' (first|(refine stA hs (k:=?_);intro w hs)|refine Nx.h ?_|fail)
      refine dn (k:=?_)
      refine tk 12 hX (k:=?_)
      refine en (k:=?_)
      repeat' (first|refine vs (k:=?_)|(refine stA hs (k:=?_);intro w hs)|refine qRg ?_|refine Nx.h ?_|(refine xc_cond rfl (fun hc=>?_) (fun hc=>?_))|fail)
      · first | refine rt (hq:=?_) | refine rt' (hq:=?_)
        refine ⟨?_,hs.only0 rfl⟩
        have h4:¬ InW (m.a+dist p m.b):=by simpa using hc
        have:addM m p=none:=by unfold addM;rw [if_neg (fun h=>h4 h.2.2.2)]
        rw [this];rfl
      · first | refine rt (hq:=?_) | refine rt' (hq:=?_)
        refine ⟨?_,hs.only0 rfl⟩
        have h4:InW (m.a+dist p m.b):=by simpa using hc
        have h1:m.right=true:=by simpa using ‹(!m.right)=false›
        have h2:p.right=true:=by simpa using ‹(!p.right)=false›
        have:addM m p=some ⟨m.b,m.a+dist p m.b,m.w+p.w,m.n+1⟩:=by unfold addM;rw [if_pos ⟨h1,h2,‹_›,h4⟩]
        have h5:=mright_iff.1 h1
        have h6:=pright_iff.1 h2
        have e1:tot (m.a+dist p m.b)=m.a+dist p m.b:=if_pos h4
        have e2:IntKind.u64.wrap (m.w+IntKind.u64.wrap p.w)=m.w+p.w:=by simp only [wrap_u64];omega
        have e3:IntKind.i64.wrap (m.n+1)=m.n+1:=by simp only [wrap_i64];omega
        rw [this,e1,e2,e3];rfl
    · first | refine rt (hq:=?_) | refine rt' (hq:=?_)
      refine ⟨?_,hs.only0 rfl⟩
      have h2:p.right=false:=by simpa using hc
      have:addM m p=none:=by unfold addM;rw [if_neg (fun h=>by rw [h2] at h;cases h.2.1)]
      rw [this];rfl
  · first | refine rt (hq:=?_) | refine rt' (hq:=?_)
    refine ⟨?_,hs.only0 rfl⟩
    have h2:m.right=false:=by simpa using hc
    have:addM m p=none:=by unfold addM;rw [if_neg (fun h=>by rw [h2] at h;cases h.1)]
    rw [this];rfl
end Go.Proofs.YtalffooghioekaaGreatDoorX

namespace Go.Proofs.YtalffooghioekaaGreatDoorX
open Go Go.RowKit
attribute [local irreducible] XS XC XA thenE blockE retE loopE loopS cutB cutN doneE SE
def lessM (m:Mn) (p:Pt):Mn:=⟨m.b,m.a - dist p m.b,m.w - p.w,m.n - 1⟩
def takM (m:Mn) (p:Pt):Option Mn:=if m.right=true∧p.right=true∧m.n≠0∧p.w≤m.w∧InW (m.a - dist p m.b)∧(lessM m p).right=true then some (lessM m p) else none
theorem takM_in {m:Mn} {p:Pt} {o:Mn} (hm:m.In) (h:takM m p=some o):o.In:=by
  unfold takM at h
  split at h
  · rename_i hc
    cases h
    obtain ⟨h1,h2,h3,h4,h5,h6⟩:=hc
    have h1:=mright_iff.1 h1
    have h2:=pright_iff.1 h2
    refine ⟨hm.1,h5,?_,?_⟩
    · show 0≤m.w - p.w∧m.w - p.w < 18446744073709551616;omega
    · show -9223372036854775808≤m.n - 1∧m.n - 1 < 9223372036854775808;omega
  · cases h
set_option maxHeartbeats 4000000 in
theorem mtake_ret (m:Mn) (p:Pt) (hm:m.In) (hp':p.In) (w0:World):Ret Tryz.prog 239 #[mv m,pv p] w0 fun v w'=>v=mnV (takM m p)∧Only [] w0 w':=by
  have hs:=St.nil w0
  refine ret_of_xc Tryz.func239 (by kernel_rfl) rfl Tryz.ntmps239 rfl rfl rfl ?_
  repeat' (first|refine vs (k:=?_)|(refine al hs (k:=?_);intro b w hz hs)|(refine bx hs (k:=?_);intro b w hz hs)|refine qRg ?_|refine Nx.h ?_|fail)
  (with_reducible apply xs_call);exact rfl;exact rfl;exact mright_ret m _
  rintro v w' ⟨rfl,ho⟩;replace hs:=hs.call0 ho;repeat' (first|refine vs (k:=?_)|refine ps (k:=?_)|(refine stA hs (k:=?_);intro w hs)|refine qRg ?_|refine Nx.h ?_|refine qCt ?_|((with_reducible apply xs_guard);exact rfl;exact rfl;intro c hc;(fail_if_success have:true=c:=hc);(fail_if_success have:false=c:=hc);cases c)|fail)
  · (with_reducible apply xs_call);exact rfl;exact rfl;exact pright_ret p _
    rintro v w' ⟨rfl,ho⟩;replace hs:=hs.call0 ho;repeat' (first|refine vs (k:=?_)|refine ps (k:=?_)|(refine stA hs (k:=?_);intro w hs)|refine qRg ?_|refine Nx.h ?_|refine qCt ?_|((with_reducible apply xs_guard);exact rfl;exact rfl;intro c hc;(fail_if_success have:true=c:=hc);(fail_if_success have:false=c:=hc);cases c)|(refine xc_if rfl (fun hc=>?_) (fun hc=>?_))|fail)
    · simp only [wrap_u64] at hc
      have hU:=hp'.2.2
      unfold U32 at hU
      first | refine rt (hq:=?_) | refine rt' (hq:=?_)
      refine ⟨?_,hs.only0 rfl⟩
      have:takM m p=none:=by unfold takM;rw [if_neg (fun h=>by have:=h.2.2.2.1;omega)]
      rw [this];rfl
    · have h1:m.right=true:=by simpa using ‹(!m.right)=false›
      have h2:p.right=true:=by simpa using ‹(!p.right)=false›
      have h3:m.n≠0:=by simpa using ‹(m.n == 0)=false›
      have hU:=hp'.2.2
      have e0:=u64_of32 hU
      have hc':p.w≤m.w:=by rw [e0] at hc;omega
      have h5:=mright_iff.1 h1
      have h6:=pright_iff.1 h2
      refine dr [] hs (k:=?_);intro hX w hs
      refine tk 0 hX (k:=?_)
      refine tk 1 hX (k:=?_)
      refine tk 2 hX (k:=?_)
      refine tk 3 hX (k:=?_)
      refine tk 4 hX (k:=?_)
      refine pd0 10 6 hs (k:=?_);intro f X w hp;have hs:=hp.st
      apply xa_pend 5 10 (f:=f) (X:=X) hX hp;exact rfl;exact rfl;(apply makes_alloc tabOk;exact rfl);kernel_rfl;kernel_rfl;kernel_rfl;kernel_rfl;(intro X Y;(repeat (first | exact pgg_base | refine pgg_step ?_ (by exact rfl))));(intro w' hs;first|exact se_hold hs.hold|exact se_hold hs.hold.tail|exact se_done rfl);intro f X w hp;have hs:=hp.st
      (with_reducible apply xs_call);exact rfl;exact rfl;exact dist_ret p m.b hp' _
      rintro v w' ⟨rfl,ho⟩;replace hp:=hp.only ho;replace hs:=hp.st;repeat' (first|refine Nx.h ?_|fail)
      refine dn (k:=?_)
      apply xa_pend 6 10 (f:=f) (X:=X) hX hp;exact rfl;exact rfl;(apply makes_alloc tabOk;exact rfl);kernel_rfl;kernel_rfl;kernel_rfl;kernel_rfl;(intro X Y;(repeat (first | exact pgg_base | refine pgg_step ?_ (by exact rfl))));(intro w' hs;first|exact se_hold hs.hold|exact se_hold hs.hold.tail|exact se_done rfl);intro f X w hp;have hs:=hp.st
      (with_reducible apply xs_call);exact rfl;exact rfl;exact sub_t m.a (dist p m.b) hm.2.1 (dist_in hp' _) _
      rintro v w' ⟨rfl,ho⟩;replace hp:=hp.only ho;replace hs:=hp.st;repeat' (first|refine Nx.h ?_|fail)
      refine dn (k:=?_)
      refine tk 7 hX (hc:=by cases f <;> kernel_rfl) (k:=?_)
      refine tk 8 hX (hc:=by cases f <;> kernel_rfl) (k:=?_)
      refine tk 9 hX (hc:=by cases f <;> kernel_rfl) (k:=?_)
      apply xa_pendE 10 (f:=f) (X:=X) hX hp;exact rfl;(apply makes_alloc tabOk;exact rfl);kernel_rfl;kernel_rfl;(intro X Y;(repeat (first | exact pgg_base | refine pgg_step ?_ (by exact rfl))));(intro w' hs;first|exact se_hold hs.hold|exact se_hold hs.hold.tail|exact se_done rfl);intro b w hI hs
      refine dt 11 hX (k:=?_)
      repeat' (first|(refine stA hs (k:=?_);intro w hs)|refine Nx.h ?_|fail)
      refine dn (k:=?_)
      refine tk 12 hX (k:=?_)
      refine en (k:=?_)
      repeat' (first|refine vs (k:=?_)|refine ps (k:=?_)|(refine stA hs (k:=?_);intro w hs)|(refine al hs (k:=?_);intro b w hz hs)|refine qRg ?_|refine Nx.h ?_|refine qCt ?_|((with_reducible apply xs_guard);exact rfl;exact rfl;intro c hc;(fail_if_success have:true=c:=hc);(fail_if_success have:false=c:=hc);cases c)|fail)
      · have h4:InW (m.a - dist p m.b):=by simpa using hc
        have e1:tot (m.a - dist p m.b)=m.a - dist p m.b:=if_pos h4
        have e2:IntKind.u64.wrap (m.w - IntKind.u64.wrap p.w)=m.w - p.w:=by simp only [wrap_u64];omega
        have e3:IntKind.i64.wrap (m.n - 1)=m.n - 1:=by simp only [wrap_i64];omega
        (with_reducible apply xs_call);exact rfl;exact rfl;exact mright_ret ⟨m.b,tot (m.a - dist p m.b),IntKind.u64.wrap (m.w - IntKind.u64.wrap p.w),IntKind.i64.wrap (m.n - 1)⟩ _
        rw [show (⟨m.b,tot (m.a - dist p m.b),IntKind.u64.wrap (m.w - IntKind.u64.wrap p.w),IntKind.i64.wrap (m.n - 1)⟩:Mn)=lessM m p by rw [e1,e2,e3];rfl]
        rintro v w' ⟨rfl,ho⟩;replace hs:=hs.call0 ho;repeat' (first|refine vs (k:=?_)|(refine stA hs (k:=?_);intro w hs)|refine qRg ?_|refine Nx.h ?_|(refine xc_cond rfl (fun hc=>?_) (fun hc=>?_))|fail)
        · first | refine rt (hq:=?_) | refine rt' (hq:=?_)
          refine ⟨?_,hs.only0 rfl⟩
          have h7:(lessM m p).right=false:=by simpa using hc
          have:takM m p=none:=by unfold takM;rw [if_neg (fun h=>by rw [h7] at h;cases h.2.2.2.2.2)]
          rw [this];rfl
        · first | refine rt (hq:=?_) | refine rt' (hq:=?_)
          refine ⟨?_,hs.only0 rfl⟩
          have h7:(lessM m p).right=true:=by simpa using hc
          have:takM m p=some (lessM m p):=by unfold takM;rw [if_pos ⟨h1,h2,h3,hc',h4,h7⟩]
          rw [this,e1,e2,e3];rfl
      · first | refine rt (hq:=?_) | refine rt' (hq:=?_)
        refine ⟨?_,hs.only0 rfl⟩
        have h4:¬ InW (m.a - dist p m.b):=by simpa using hc
        have:takM m p=none:=by unfold takM;rw [if_neg (fun h=>h4 h.2.2.2.2.1)]
        rw [this];rfl
    · first | refine rt (hq:=?_) | refine rt' (hq:=?_)
      refine ⟨?_,hs.only0 rfl⟩
      have:takM m p=none:=by unfold takM;rw [if_neg (fun h=>h.2.2.1 (by simpa using hc))]
      rw [this];rfl
    · first | refine rt (hq:=?_) | refine rt' (hq:=?_)
      refine ⟨?_,hs.only0 rfl⟩
      have:takM m p=none:=by unfold takM;rw [if_neg (fun h=>absurd h.2.1 (by simpa using hc))]
      rw [this];rfl
  · first | refine rt (hq:=?_) | refine rt' (hq:=?_)
    refine ⟨?_,hs.only0 rfl⟩
    have h2:m.right=false:=by simpa using hc
    have:takM m p=none:=by unfold takM;rw [if_neg (fun h=>by rw [h2] at h;cases h.1)]
    rw [this];rfl
def rebM (m:Mn) (t:Int):Option Mn:=if m.right=true∧InW (m.a - m.w*sn t m.b) then some ⟨t,m.a - m.w*sn t m.b,m.w,m.n⟩ else none
theorem rebM_in {m:Mn} {t:Int} {o:Mn} (hm:m.In) (ht:U64 t) (h:rebM m t=some o):o.In:=by
  unfold rebM at h
  split at h
  · rename_i hc
    cases h
    exact ⟨ht,hc.2,hm.2.2⟩
  · cases h
set_option maxHeartbeats 4000000 in
theorem rebase_ret (m:Mn) (t:Int) (hm:m.In) (w0:World):Ret Tryz.prog 258 #[mv m,.int .u64 t] w0 fun v w'=>v=mnV (rebM m t)∧Only [] w0 w':=by
  have hs:=St.nil w0
  refine ret_of_xc Tryz.func258 (by kernel_rfl) rfl Tryz.ntmps258 rfl rfl rfl ?_
  repeat' (first|refine vs (k:=?_)|(refine al hs (k:=?_);intro b w hz hs)|(refine bx hs (k:=?_);intro b w hz hs)|refine qRg ?_|refine Nx.h ?_|fail)
  (with_reducible apply xs_call);exact rfl;exact rfl;exact mright_ret m _
  rintro v w' ⟨rfl,ho⟩;replace hs:=hs.call0 ho;repeat' (first|refine vs (k:=?_)|(refine stA hs (k:=?_);intro w hs)|refine qRg ?_|refine Nx.h ?_|(refine xc_cond rfl (fun hc=>?_) (fun hc=>?_))|fail)
  · first | refine rt (hq:=?_) | refine rt' (hq:=?_)
    refine ⟨?_,hs.only0 rfl⟩
    have h2:m.right=false:=by simpa using hc
    have:rebM m t=none:=by unfold rebM;rw [if_neg (fun h=>by rw [h2] at h;cases h.1)]
    rw [this];rfl
  · have h1:m.right=true:=by simpa using hc
    have h5:=mright_iff.1 h1
    have h6:=sn_rng t m.b
    have h7:=mul_rng (w:=m.w) (s:=sn t m.b) (W:=33554432) (S:=9223372036854775808) hm.2.2.1.1 (by omega) (by omega) (by omega)
    have hU:=hm.2.2.1
    refine dr [] hs (k:=?_);intro hX w hs
    refine tk 0 hX (k:=?_)
    refine tk 1 hX (k:=?_)
    refine tk 3 hX (k:=?_)
    refine tk 4 hX (k:=?_)
    refine tk 5 hX (k:=?_)
    refine pd0 11 6 hs (k:=?_);intro f X w hp;have hs:=hp.st
    apply xa_pend 2 11 (f:=f) (X:=X) hX hp;exact rfl;exact rfl;(apply makes_alloc tabOk;exact rfl);kernel_rfl;kernel_rfl;kernel_rfl;kernel_rfl;(intro X Y;(repeat (first | exact pgg_base | refine pgg_step ?_ (by exact rfl))));(intro w' hs;first|exact se_hold hs.hold|exact se_hold hs.hold.tail|exact se_done rfl);intro f X w hp;have hs:=hp.st
    (with_reducible apply xs_call);exact rfl;exact rfl;exact ofU_ret m.w hU.1 hU.2 _
    rintro v w' ⟨rfl,ho⟩;replace hp:=hp.only ho;replace hs:=hp.st;repeat' (first|refine Nx.h ?_|fail)
    refine dn (k:=?_)
    apply xa_pend 6 11 (f:=f) (X:=X) hX hp;exact rfl;exact rfl;(apply makes_alloc tabOk;exact rfl);kernel_rfl;kernel_rfl;kernel_rfl;kernel_rfl;(intro X Y;(repeat (first | exact pgg_base | refine pgg_step ?_ (by exact rfl))));(intro w' hs;first|exact se_hold hs.hold|exact se_hold hs.hold.tail|exact se_done rfl);intro f X w hp;have hs:=hp.st
    (with_reducible apply xs_call);exact rfl;exact rfl;exact since_ret t m.b _
    rintro v w' ⟨rfl,ho⟩;replace hp:=hp.only ho;replace hs:=hp.st;repeat' (first|refine Nx.h ?_|fail)
    refine dn (k:=?_)
    apply xa_pend 7 11 (f:=f) (X:=X) hX hp;exact rfl;exact rfl;(apply makes_alloc tabOk;exact rfl);kernel_rfl;kernel_rfl;kernel_rfl;kernel_rfl;(intro X Y;(repeat (first | exact pgg_base | refine pgg_step ?_ (by exact rfl))));(intro w' hs;first|exact se_hold hs.hold|exact se_hold hs.hold.tail|exact se_done rfl);intro f X w hp;have hs:=hp.st
    (with_reducible apply xs_call);exact rfl;exact rfl;exact mul_ok m.w (sn t m.b) (by unfold InW;omega) (by omega) (by omega) (by unfold InW;omega) _
    rintro v w' ⟨rfl,ho⟩;replace hp:=hp.only ho;replace hs:=hp.st;repeat' (first|refine Nx.h ?_|fail)
    refine dn (k:=?_)
    refine tk 8 hX (hc:=by cases f <;> kernel_rfl) (k:=?_)
    refine tk 9 hX (hc:=by cases f <;> kernel_rfl) (k:=?_)
    refine tk 10 hX (hc:=by cases f <;> kernel_rfl) (k:=?_)
    apply xa_pendE 11 (f:=f) (X:=X) hX hp;exact rfl;(apply makes_alloc tabOk;exact rfl);kernel_rfl;kernel_rfl;(intro X Y;(repeat (first | exact pgg_base | refine pgg_step ?_ (by exact rfl))));(intro w' hs;first|exact se_hold hs.hold|exact se_hold hs.hold.tail|exact se_done rfl);intro b w hI hs
    refine dt 12 hX (k:=?_)
    repeat' (first|(refine stA hs (k:=?_);intro w hs)|refine Nx.h ?_|fail)
    refine dn (k:=?_)
    refine tk 13 hX (k:=?_)
    refine en (k:=?_)
    repeat' (first|refine vs (k:=?_)|refine qRg ?_|refine Nx.h ?_|fail)
    (with_reducible apply xs_call);exact rfl;exact rfl;exact sub_t m.a (m.w*sn t m.b) hm.2.1 (by unfold InW;omega) _
    rintro v w' ⟨rfl,ho⟩;replace hs:=hs.call0 ho;repeat' (first|refine vs (k:=?_)|(refine stA hs (k:=?_);intro w hs)|(refine al hs (k:=?_);intro b w hz hs)|refine qRg ?_|refine Nx.h ?_|(refine xc_cond rfl (fun hc=>?_) (fun hc=>?_))|fail)
    · first | refine rt (hq:=?_) | refine rt' (hq:=?_)
      refine ⟨?_,hs.only0 rfl⟩
      have h4:¬ InW (m.a - m.w*sn t m.b):=by simpa using hc
      have:rebM m t=none:=by unfold rebM;rw [if_neg (fun h=>h4 h.2)]
      rw [this];rfl
    · first | refine rt (hq:=?_) | refine rt' (hq:=?_)
      refine ⟨?_,hs.only0 rfl⟩
      have h4:InW (m.a - m.w*sn t m.b):=by simpa using hc
      have:rebM m t=some ⟨t,m.a - m.w*sn t m.b,m.w,m.n⟩:=by unfold rebM;rw [if_pos ⟨h1,h4⟩]
      have e1:tot (m.a - m.w*sn t m.b)=m.a - m.w*sn t m.b:=if_pos h4
      rw [this,e1];rfl
def flM (m:Mn):Option Int:=if m.right=true∧m.n≠0∧In64 (m.a / m.w) then some (lat m.b (m.a / m.w)) else none
def tmV (o:Option Int):Value := .tuple #[.int .u64 (o.getD 0),.bool o.isSome]
set_option maxHeartbeats 2000000 in
theorem floor_ret (m:Mn) (hm:m.In) (w0:World):Ret Tryz.prog 68 #[mv m] w0 fun v w'=>v=tmV (flM m)∧Only [] w0 w':=by
  have hs:=St.nil w0
  refine ret_of_xc Tryz.func68 (by kernel_rfl) rfl Tryz.ntmps68 rfl rfl rfl ?_
  repeat' (first|refine vs (k:=?_)|(refine bx hs (k:=?_);intro b w hz hs)|refine qRg ?_|refine Nx.h ?_|fail)
  (with_reducible apply xs_call);exact rfl;exact rfl;exact mright_ret m _
  rintro v w' ⟨rfl,ho⟩;replace hs:=hs.call0 ho;repeat' (first|refine vs (k:=?_)|refine ps (k:=?_)|refine qRg ?_|refine Nx.h ?_|refine qCt ?_|((with_reducible apply xs_guard);exact rfl;exact rfl;intro c hc;(fail_if_success have:true=c:=hc);(fail_if_success have:false=c:=hc);cases c)|(refine xc_if rfl (fun hc=>?_) (fun hc=>?_))|fail)
  · first | refine rt (hq:=?_) | refine rt' (hq:=?_)
    refine ⟨?_,hs.only0 rfl⟩
    have:flM m=none:=by unfold flM;rw [if_neg (fun h=>h.2.1 ‹_›)]
    rw [this];rfl
  · have h1:m.right=true:=by simpa using ‹(!m.right)=false›
    have h5:=mright_iff.1 h1
    have hU:=hm.2.2.1
    (with_reducible apply xs_call);exact rfl;exact rfl;exact div_ok m.a m.w hm.2.1 (by omega) hU.2 _
    rintro v w' ⟨rfl,ho⟩;replace hs:=hs.call0 ho;repeat' (first|refine vs (k:=?_)|(refine stA hs (k:=?_);intro w hs)|(refine al hs (k:=?_);intro b w hz hs)|refine qRg ?_|refine Nx.h ?_|fail)
    (with_reducible apply xs_call);exact rfl;exact rfl;exact small_t (m.a / m.w) (div_in hm.2.1 (by omega)) _
    rintro v w' ⟨rfl,ho⟩;replace hs:=hs.call0 ho;repeat' (first|refine vs (k:=?_)|refine qRg ?_|refine Nx.h ?_|(refine xc_cond rfl (fun hc=>?_) (fun hc=>?_))|fail)
    · first | refine rt (hq:=?_) | refine rt' (hq:=?_)
      refine ⟨?_,hs.only0 rfl⟩
      have h4:¬ In64 (m.a / m.w):=by simpa using hc
      have:flM m=none:=by unfold flM;rw [if_neg (fun h=>h4 h.2.2)]
      rw [this];rfl
    · have h4:In64 (m.a / m.w):=by simpa using hc
      (with_reducible apply xs_call);exact rfl;exact rfl;exact vadd_ret m.b (sml (m.a / m.w)) _
      rintro v w' ⟨rfl,ho⟩;replace hs:=hs.call0 ho;repeat' (first|refine vs (k:=?_)|refine Nx.h ?_|fail)
      first | refine rt (hq:=?_) | refine rt' (hq:=?_)
      refine ⟨?_,hs.only0 rfl⟩
      have:flM m=some (lat m.b (m.a / m.w)):=by unfold flM;rw [if_pos ⟨h1,‹_›,h4⟩]
      have e1:sml (m.a / m.w)=m.a / m.w:=if_pos h4
      rw [this,e1];rfl
  · first | refine rt (hq:=?_) | refine rt' (hq:=?_)
    refine ⟨?_,hs.only0 rfl⟩
    have h2:m.right=false:=by simpa using hc
    have:flM m=none:=by unfold flM;rw [if_neg (fun h=>by rw [h2] at h;cases h.1)]
    rw [this];rfl
theorem inW0:InW 0:=by decide
theorem u640:U64 0:=by decide
theorem in640:In64 0:=by decide
def ofL:Mn→List Pt→Option Mn
  | m,[]=>some m
  | m,p :: ps=>(addM m p).bind fun m=>ofL m ps
def ofM (base:Int) (ps:List Pt):Option Mn:=ofL ⟨base,0,0,0⟩ ps
theorem ofL_snoc:∀ (l:List Pt) (m:Mn) (p:Pt),ofL m (l ++ [p])=(ofL m l).bind fun m=>addM m p
  | [],m,p=>by
    simp only [List.nil_append,ofL,Option.bind_some]
    cases addM m p <;> rfl
  | q :: l,m,p=>by
    simp only [List.cons_append,ofL]
    cases addM m q with
    | none=>rfl
    | some m'=>exact ofL_snoc l m' p
theorem ofL_none:∀ (l r:List Pt) (m:Mn),ofL m l=none→ofL m (l ++ r)=none
  | [],r,m,h=>by simp [ofL] at h
  | q :: l,r,m,h=>by
    simp only [List.cons_append,ofL] at h ⊢
    cases h1:addM m q with
    | none=>rfl
    | some m'=>rw [h1] at h;exact ofL_none l r m' h
set_option maxHeartbeats 4000000 in
theorem of_mean_ret (base:Int) (ps:List Pt) (sl:Value) (hbase:U64 base) (hps:∀ p∈ps,p.In) (hlen:ps.length≤9223372036854775807) (w0:World) (hP:PsAt w0 sl ps) :
    Ret Tryz.prog 237 #[.int .u64 base,sl] w0 fun v w'=>v=mnV (ofM base ps)∧Only [] w0 w':=by
  obtain ⟨ad,cap,rfl,hD⟩:=hP
  rw [List.length_map] at *
  have hs:=St.nil w0
  refine ret_of_xc Tryz.func237 (by kernel_rfl) rfl Tryz.ntmps237 rfl rfl rfl ?_
  refine xc_seq ?_
  refine xc_region ?_ ?_;exact rfl
  refine al hs (k:=?_);intro b4 w hz hs
  repeat' (first|refine vs (k:=?_)|refine Nx.h ?_|fail)
  refine xc_region ?_ ?_;exact rfl
  refine vs (k:=?_)
  refine vs (k:=?_)
  refine al hs (k:=?_);intro b6 w hz hs
  repeat' (first|refine vs (k:=?_)|(refine stA hs (k:=?_);intro w hs)|refine qRg ?_|refine Nx.h ?_|fail)
  refine xc_cutB (fun (_:Mn)=>[(4,.pointer (some ⟨b4,0,none⟩)),(6,.pointer (some ⟨b6,0,none⟩))]) (fun m w=>ofM base ps=some m∧St w0 D0 [(b6,.cells m.cells.toArray 126,true),(b4,.cells Mn.zero.cells.toArray 126,true)] w) ?_ ?_
  · refine xc_loopS (fun (s:Nat × Mn)=>[(4,.pointer (some ⟨b4,0,none⟩)),(6,.pointer (some ⟨b6,0,none⟩)),(13,.slice ad ps.length cap),(14,.int .i64 (ps.length:Nat)),(15,.int .i64 (s.1:Nat))])
      (fun s w=>s.1≤ps.length∧ofM base (ps.take s.1)=some s.2∧s.2.In∧St w0 D0 [(b6,.cells s.2.cells.toArray 126,true),(b4,.cells Mn.zero.cells.toArray 126,true)] w)
      (fun s=>ps.length - s.1) (0,⟨base,0,0,0⟩) (by (repeat (first | exact agree_nil | (apply agree_cons;exact rfl)))) ⟨Nat.zero_le _,rfl,⟨hbase,inW0,u640,in640⟩,hs⟩ fun s env w ⟨hi,ho,hin,hs⟩=>?_
    obtain ⟨i,m⟩:=s
    simp only at hi ho hin
    repeat' (first|refine vs (k:=?_)|refine qRg ?_|refine Nx.h ?_|(refine xc_if rfl (fun hc=>?_) (fun hc=>?_))|fail)
    · have hlt:i < ps.length:=by omega
      obtain ⟨b,off,cs,fz,rfl,_,hb,hcs⟩:=hD (fun h=>by have:=congrArg List.length h;rw [List.length_map,List.length_nil] at this;omega)
      have hpk:=hcs i (Pt.cells ps[i]) (by rw [List.getElem?_map,List.getElem?_eq_getElem hlt];rfl)
      have hpin:=hps ps[i] (List.getElem_mem hlt)
      have ei:=nx64 hlt hlen
      have hsn:ofM base (ps.take (i+1))=addM m ps[i]:=by rw [take_next hlt];unfold ofM at ho ⊢;rw [ofL_snoc,ho];rfl
      have hno:addM m ps[i]=none→ofM base ps=none:=fun h=>by
        have:=ofL_none (ps.take (i+1)) (ps.drop (i+1)) ⟨base,0,0,0⟩ (by rw [show ofL ⟨base,0,0,0⟩ (ps.take (i+1))=ofM base (ps.take (i+1)) from rfl,hsn,h])
        rwa [List.take_append_drop] at this
      generalize ps[i]=p at *
      refine ix (h0:=(by omega)) (h1:=(by omega)) (k:=?_)
      refine lhK ((hs.only0 rfl).block hb (by simp)) hpk (k:=?_)
      refine al hs (k:=?_);intro b8 w hz hs
      repeat' (first|refine vs (k:=?_)|(refine stA hs (k:=?_);intro w hs)|refine qRg ?_|refine Nx.h ?_|fail)
      (with_reducible apply xs_call);exact rfl;exact rfl;exact madd_ret m p hin hpin _
      cases ha:addM m p with
      | none =>
        rintro v w' ⟨rfl,ho⟩;replace hs:=hs.call0 ho;repeat' (first|refine vs (k:=?_)|(refine stA hs (k:=?_);intro w hs)|(refine al hs (k:=?_);intro b w hz hs)|refine qRg ?_|refine Nx.h ?_|refine qCt ?_|fail)
        first | refine rt (hq:=?_) | refine rt' (hq:=?_)
        refine ⟨?_,hs.only0 rfl⟩
        rw [hno ha];rfl
      | some m' =>
        rintro v w' ⟨rfl,ho⟩;replace hs:=hs.call0 ho;repeat' (first|refine vs (k:=?_)|(refine stA hs (k:=?_);intro w hs)|(refine al hs (k:=?_);intro b w hz hs)|refine qRg ?_|refine Nx.h ?_|refine qCf ?_|fail)
        rw [ha] at hsn
        exact loopS_next (i+1,m') (by show ps.length - (i+1) < ps.length - i;omega) (by (repeat (first | exact agree_nil | (apply agree_cons;first | exact rfl | exact congrArg (Value.int .i64) ei)))) ⟨by show i+1≤ps.length;omega,hsn,addM_in hin ha,hs.forgetNew.forgetNew⟩
    · have hc':¬ ((i:Int) < ps.length):=hc
      have e:i=ps.length:=by omega
      rw [e,List.take_length] at ho
      exact cutB_exit m (by (repeat (first | exact agree_nil | (apply agree_cons;exact rfl)))) ⟨ho,hs⟩
  · rintro m env w ⟨ho,hs⟩
    repeat' (first|refine vs (k:=?_)|(refine stA hs (k:=?_);intro w hs)|refine qRg ?_|refine Nx.h ?_|fail)
    first | refine rt (hq:=?_) | refine rt' (hq:=?_)
    refine ⟨?_,hs.only0 rfl⟩
    rw [ho];rfl
end Go.Proofs.YtalffooghioekaaGreatDoorX

namespace Go.Proofs.YtalffooghioekaaGreatDoorX
def sumD (b:Int):List It→Int
  | []=>0
  | a :: l=>dist a.p b+sumD b l
def sumW:List It→Int
  | []=>0
  | a :: l=>a.p.w+sumW l
theorem sumD_perm {b:Int} {l l':List It} (h:l.Perm l'):sumD b l=sumD b l':=by
  induction h with
  | nil=>rfl
  | cons _ _ ih=>simp only [sumD,ih]
  | swap _ _ _=>simp only [sumD];omega
  | trans _ _ h1 h2=>rw [h1,h2]
theorem sumW_perm {l l':List It} (h:l.Perm l'):sumW l=sumW l':=by
  induction h with
  | nil=>rfl
  | cons _ _ ih=>simp only [sumW,ih]
  | swap _ _ _=>simp only [sumW];omega
  | trans _ _ h1 h2=>rw [h1,h2]
theorem sum_rng {b lo hi:Int}:∀ {l:List It},(∀ x∈l,x.In∧x.right=true∧lo≤sn x.p.t b∧sn x.p.t b≤hi)→sumW l*lo≤sumD b l∧sumD b l+l.length≤sumW l*(hi+1)∧(l.length:Int)≤sumW l∧sumW l≤l.length*1048576
  | [],_=>by simp [sumD,sumW]
  | a :: l,h=>by
    obtain ⟨h1,h2,h3,h4⟩:=sum_rng fun x hx=>h x (List.mem_cons_of_mem _ hx)
    obtain ⟨k1,k2,k3,k4⟩:=h a List.mem_cons_self
    obtain ⟨_,_,_,_,_,_,⟨w1,w2,w3,w4⟩,_⟩:=iright_all k1 k2
    have m1:a.p.w*lo≤a.p.w*sn a.p.t b:=Int.mul_le_mul_of_nonneg_left k3 (by omega)
    have m2:a.p.w*sn a.p.t b≤a.p.w*hi:=Int.mul_le_mul_of_nonneg_left k4 (by omega)
    simp only [sumD,sumW,dist,List.length_cons,Int.add_mul,Int.mul_add,Int.mul_one] at *
    omega
theorem Win.rng {b lo:Int} {x:It} (h:Win b lo x) (hm:Mid lo):x.In∧x.right=true∧lo≤sn x.p.t b∧sn x.p.t b≤lo+4611686018427387904:=⟨h.isin,h.right,h.low,(h.dead hm).2.2⟩
structure IsM (m:Mn) (l:List It):Prop where
  a:m.a=sumD m.b l
  w:m.w=sumW l
  n:m.n=l.length
theorem IsM.perm {m:Mn} {l l':List It} (h:IsM m l) (p:l.Perm l'):IsM m l':=⟨h.a.trans (sumD_perm p),h.w.trans (sumW_perm p),by rw [h.n,p.length_eq]⟩
def AllW (b lo:Int) (l:List It):Prop:=Mid lo∧l.length≤32∧∀ x∈l,Win b lo x
theorem AllW.sum {b lo:Int} {l:List It} (h:AllW b lo l):sumW l*lo≤sumD b l∧sumD b l+l.length≤sumW l*(lo+4611686018427387904+1)∧(l.length:Int)≤sumW l∧sumW l≤l.length*1048576:=sum_rng fun x hx=>(h.2.2 x hx).rng h.1
theorem AllW.inW {b lo:Int} {l:List It} (h:AllW b lo l):InW (sumD b l):=by
  obtain ⟨h1,h2,h3,h4⟩:=h.sum
  obtain ⟨⟨m1,m2⟩,hl,_⟩:=h
  have k1:sumW l*(-4611686018427387904)≤sumW l*lo:=Int.mul_le_mul_of_nonneg_left m1 (by omega)
  have k2:sumW l*(lo+4611686018427387904+1)≤sumW l*4611686018427387905:=Int.mul_le_mul_of_nonneg_left (by omega) (by omega)
  unfold InW;omega
theorem AllW.right {m:Mn} {lo:Int} {l:List It} (h:AllW m.b lo l) (k:IsM m l):m.right=true:=by
  obtain ⟨h1,h2,h3,h4⟩:=h.sum
  have hl:=h.2.1
  rw [mright_iff]
  have e1:=k.a
  have e2:=k.w
  have e3:=k.n
  cases l with
  | nil=>left;simp only [sumD,sumW,List.length_nil] at *;omega
  | cons x l=>right;simp only [List.length_cons] at *;omega
theorem AllW.perm {b lo:Int} {l l':List It} (h:AllW b lo l) (p:l.Perm l'):AllW b lo l':=⟨h.1,by rw [← p.length_eq];exact h.2.1,fun x hx=>h.2.2 x (p.mem_iff.2 hx)⟩
theorem AllW.tail {b lo:Int} {a:It} {l:List It} (h:AllW b lo (a :: l)):AllW b lo l:=⟨h.1,by have:=h.2.1;simp only [List.length_cons] at this;omega,fun x hx=>h.2.2 x (List.mem_cons_of_mem _ hx)⟩
theorem AllW.head {b lo:Int} {a:It} {l:List It} (h:AllW b lo (a :: l)):Win b lo a:=h.2.2 a List.mem_cons_self
theorem add_is {m:Mn} {lo:Int} {a:It} {l:List It} (h:AllW m.b lo (a :: l)) (k:IsM m l):∃ m',addM m a.p=some m'∧m'.b=m.b∧IsM m' (a :: l):=by
  have hr:=h.tail.right k
  have hp:=(iright_all h.head.isin h.head.right).1
  have hw:=h.inW
  have hl:=h.2.1
  have e1:=k.a
  have e2:=k.w
  have e3:=k.n
  simp only [List.length_cons] at hl
  simp only [sumD] at hw
  refine ⟨_,if_pos ⟨hr,hp,by omega,by rw [e1,Int.add_comm];exact hw⟩,rfl,?_⟩
  constructor
  · simp only [sumD];omega
  · simp only [sumW];omega
  · simp only [List.length_cons];omega
theorem take_is {m:Mn} {lo:Int} {a:It} {l:List It} (h:AllW m.b lo (a :: l)) (k:IsM m (a :: l)):takM m a.p=some (lessM m a.p)∧IsM (lessM m a.p) l:=by
  have hr:=h.right k
  have hp:=(iright_all h.head.isin h.head.right).1
  have hw:=h.tail.inW
  have e1:=k.a
  have e2:=k.w
  have e3:=k.n
  have hs:=h.tail.sum.2.2.1
  simp only [sumD,sumW,List.length_cons] at e1 e2 e3
  have i:IsM (lessM m a.p) l:=⟨by simp only [lessM];omega,by simp only [lessM];omega,by simp only [lessM];omega⟩
  refine ⟨if_pos ⟨hr,hp,by omega,by omega,?_,(show AllW (lessM m a.p).b lo l from h.tail).right i⟩,i⟩
  rw [show m.a - dist a.p m.b=sumD m.b l by omega];exact hw
theorem AllW.mid {b lo:Int} {l:List It} (h:AllW b lo l) (hl:l≠[]):0 < sumW l∧lo≤sumD b l / sumW l∧sumD b l / sumW l≤lo+4611686018427387904:=by
  obtain ⟨h1,h2,h3,h4⟩:=h.sum
  have hp:0 < l.length:=List.length_pos_iff.2 hl
  refine ⟨by omega,Int.le_ediv_of_mul_le (by omega) (by rw [Int.mul_comm];exact h1),?_⟩
  have:=Int.ediv_lt_of_lt_mul (a:=sumD b l) (b:=lo+4611686018427387904+1) (c:=sumW l) (by omega) (by rw [Int.mul_comm];omega)
  omega
theorem floor_is {m:Mn} {lo:Int} {l:List It} (h:AllW m.b lo l) (k:IsM m l) (hl:l≠[]):flM m=some (lat m.b (sumD m.b l / sumW l)):=by
  obtain ⟨h1,h2,h3⟩:=h.mid hl
  have hm:=h.1
  unfold Mid at hm
  have hn:m.n≠0:=by rw [k.n];have:=List.length_pos_iff.2 hl;omega
  unfold flM
  rw [← k.a,← k.w] at *
  exact if_pos ⟨h.right k,hn,by unfold In64;omega⟩
theorem sumD_move {b c k:Int}:∀ {l:List It},(∀ x∈l,sn x.p.t c=sn x.p.t b - k)→sumD c l=sumD b l - sumW l*k
  | [],_=>by simp [sumD,sumW]
  | a :: l,h=>by
    simp only [sumD,sumW]
    rw [sumD_move fun x hx=>h x (List.mem_cons_of_mem _ hx),dist_move (h a List.mem_cons_self),Int.add_mul];omega
structure Cen (m:Mn) (l:List It):Prop where
  is:IsM m l
  u:U64 m.b
  a0:0≤m.a
  a1:m.a < m.w
  all:∃ lo,AllW m.b lo l
theorem AllW.move {b lo c:Int} {l:List It} (h:AllW b lo l) (h0:lo≤sn c b) (h1:sn c b≤lo+4611686018427387904):AllW c (lo - sn c b) l∧∀ x∈l,sn x.p.t c=sn x.p.t b - sn c b:=by
  have hm:=h.1
  unfold Mid at hm
  exact ⟨⟨by unfold Mid;omega,h.2.1,fun x hx=>((h.2.2 x hx).move h.1 h0 h1).1⟩,fun x hx=>((h.2.2 x hx).move h.1 h0 h1).2⟩
theorem centre_is {m:Mn} {lo:Int} {l:List It} (h:AllW m.b lo l) (k:IsM m l) (hl:l≠[]):∃ m',rebM m ((flM m).getD 0)=some m'∧Cen m' l:=by
  obtain ⟨h1,h2,h3⟩:=h.mid hl
  have hm:=h.1
  have hf:=floor_is h k hl
  rw [hf,Option.getD_some]
  unfold Mid at hm
  have e:sn (lat m.b (sumD m.b l / sumW l)) m.b=sumD m.b l / sumW l:=sn_lat (by unfold In64;omega)
  have hM:=h.move (c:=lat m.b (sumD m.b l / sumW l)) (by rw [e];exact h2) (by rw [e];exact h3)
  rw [e] at hM
  have hs:=sumD_move hM.2
  have ea:=k.a
  have ew:=k.w
  have em:m.a - m.w*(sumD m.b l / sumW l)=sumD m.b l % sumW l:=by rw [ea,ew];have:=Int.mul_ediv_add_emod (sumD m.b l) (sumW l);omega
  have n0:=Int.emod_nonneg (sumD m.b l) (show sumW l≠0 by omega)
  have n1:=Int.emod_lt_of_pos (sumD m.b l) h1
  have hi:InW (sumD m.b l % sumW l):=by
    have:=h.sum.2.2.2
    have:=h.2.1
    unfold InW;omega
  refine ⟨_,if_pos ⟨h.right k,by rw [e,em];exact hi⟩,⟨⟨?_,ew,k.n⟩,lat_in _ _,?_,?_,_,hM.1⟩⟩
  · show m.a - m.w*sn _ m.b=sumD _ l
    rw [e,hs,ea,ew]
  · show 0≤m.a - m.w*sn _ m.b
    rw [e,em];exact n0
  · show m.a - m.w*sn _ m.b < m.w
    rw [e,em,ew];exact n1
theorem Cen.now {m:Mn} {l:List It} (h:Cen m l) (hl:l≠[]):flM m=some m.b:=by
  obtain ⟨lo,k⟩:=h.all
  rw [floor_is k h.is hl,← h.is.a,← h.is.w,Int.ediv_eq_zero_of_lt h.a0 h.a1,lat_zero h.u]
def meanL:List It→Mn
  | [] => .zero
  | x :: l=>⟨lat x.p.t (sumD x.p.t (x :: l) / sumW (x :: l)),sumD x.p.t (x :: l) % sumW (x :: l),sumW (x :: l),(x :: l).length⟩
theorem Cen.perm {m:Mn} {l l':List It} (h:Cen m l) (p:l.Perm l'):Cen m l':=by
  obtain ⟨lo,k⟩:=h.all
  exact ⟨h.is.perm p,h.u,h.a0,h.a1,lo,k.perm p⟩
theorem Cen.eq {m:Mn}:∀ {l:List It},Cen m l→l≠[]→m=meanL l
  | [],_,h=>absurd rfl h
  | x :: l,h,_=>by
    obtain ⟨lo,k⟩:=h.all
    have d:=k.head.dead k.1
    have hM:=k.move (c:=x.p.t) k.head.low d.2.2
    have hs:=sumD_move hM.2
    have e:=lat_sn (b:=m.b) k.head.isin.1.1
    show m=⟨lat x.p.t (sumD x.p.t (x :: l) / sumW (x :: l)),sumD x.p.t (x :: l) % sumW (x :: l),sumW (x :: l),(x :: l).length⟩
    rw [hs,← h.is.a,← h.is.w,← h.is.n]
    have hw:0 < m.w:=by have:=h.a0;have:=h.a1;omega
    have q:(m.a - m.w*sn x.p.t m.b) / m.w=- sn x.p.t m.b:=by
      rw [Int.sub_eq_add_neg,← Int.mul_neg,Int.add_mul_ediv_left _ _ (by omega),Int.ediv_eq_zero_of_lt h.a0 h.a1];omega
    have r:(m.a - m.w*sn x.p.t m.b) % m.w=m.a:=by
      rw [Int.sub_eq_add_neg,← Int.mul_neg,Int.add_mul_emod_self_left,Int.emod_eq_of_lt h.a0 h.a1]
    rw [q,r]
    have:lat x.p.t (- sn x.p.t m.b)=m.b:=by
      have hu:=h.u
      have:=e
      unfold U64 at hu
      unfold lat at *;omega
    rw [this]
end Go.Proofs.YtalffooghioekaaGreatDoorX

namespace Go.Proofs.YtalffooghioekaaGreatDoorX
namespace RB
variable {α : Type}
def isNil:RB α→Bool
  | nil=>true
  | node _ _ _ _=>false
def both:RB α→Bool
  | node (node _ _ _ _) _ (node _ _ _ _) _=>true
  | _=>false
def setR:RB α→RB α→RB α
  | nil,_=>nil
  | node l x _ c,r=>node l x r c
def redLeft (t:RB α):RB α:=bif (flip t).right.left.red then flip (toLeft (setR (flip t) (toRight (flip t).right))) else flip t
def redRight (t:RB α):RB α:=bif (flip t).left.left.red then flip (toRight (flip t)) else flip t
def downL (t:RB α):Option (RB α):=bif !t.left.red && !t.left.left.red then (bif both t then some (redLeft t) else none) else some t
def downR (t:RB α):Option (RB α):=bif !t.right.red && !t.right.left.red then (bif both t then some (redRight t) else none) else some t
def least:RB α→Option α
  | nil=>none
  | node nil x _ _=>some x
  | node (node a y b c) _ _ _=>least (node a y b c)
def cutMin:Nat→RB α→Option (RB α)
  | 0,_=>none
  | k+1,t=>bif t.isNil then none else bif t.left.isNil then some nil else
    match downL t with
    | some (node l x r c)=>(cutMin k l).map fun l'=>mend (node l' x r c)
    | _=>none
def cut (lt:α→α→Bool) (x:α):Nat→RB α→Option (RB α)
  | 0,_=>none
  | _+1,nil=>none
  | k+1,node l y r c=>bif lt x y then
      (bif l.isNil then none else
        match downL (node l y r c) with
        | some (node l1 y1 r1 c1)=>(cut lt x k l1).map fun l'=>mend (node l' y1 r1 c1)
        | _=>none)
    else bif (bif l.red then toRight (node l y r c) else node l y r c).right.isNil then some nil else
      match downR (bif l.red then toRight (node l y r c) else node l y r c) with
      | some (node l2 y2 r2 c2)=>bif lt y2 x then (cut lt x k r2).map fun r'=>mend (node l2 y2 r' c2)
          else match least r2 with
            | some m=>(cutMin k r2).map fun r'=>mend (node l2 m r' c2)
            | none=>none
      | _=>none
theorem list_setR:∀ (t r:RB α),t.right.list=r.list→(setR t r).list=t.list
  | nil,r,h=>rfl
  | node l x r' c,r,h=>by simp only [setR,list];rw [← h];rfl
theorem list_redLeft (t:RB α):(redLeft t).list=t.list:=by
  unfold redLeft
  cases (flip t).right.left.red
  · rw [cond_false,list_flip]
  · rw [cond_true,list_flip,list_toLeft,list_setR _ _ (list_toRight _).symm,list_flip]
theorem list_redRight (t:RB α):(redRight t).list=t.list:=by
  unfold redRight
  cases (flip t).left.left.red
  · rw [cond_false,list_flip]
  · rw [cond_true,list_flip,list_toRight,list_flip]
theorem least_list:∀ t:RB α,least t=t.list.head?
  | nil=>rfl
  | node nil x _ _=>rfl
  | node (node a y b c) x r d=>by
    have:=least_list (node a y b c)
    simp only [least,list] at *
    rw [this]
    cases h:a.list with
    | nil=>simp
    | cons u v=>simp
theorem least_cons {t:RB α} (h:t.isNil=false):∃ m,least t=some m∧t.list=m :: t.list.tail:=by
  rw [least_list]
  cases hl:t.list with
  | nil=>cases t with
    | nil=>cases h
    | node l x r c=>simp [list] at hl
  | cons m l=>exact ⟨m,rfl,rfl⟩
theorem mend_id {l r:RB α} {x:α} {c:Bool} (h1:l.red=false) (h2:r.red=false):mend (node l x r c)=node l x r c:=by
  simp [mend,mend1,mend2,mend3,left_node,right_node,red_node,h1,h2]
theorem mendL_id {l r:RB α} {x:α} {c:Bool} {h:Nat} (hl:Ok l h) (h2:r.red=false):mend (node l x r c)=node l x r c:=by
  have hlr:(l.red && l.left.red)=false:=by
    cases hc:l.red
    · rfl
    · rw [red_left_false hl hc];rfl
  simp [mend,mend1,mend2,mend3,left_node,right_node,red_node,h2,hlr]
theorem mendR_stays {l r:RB α} {y:α} {h:Nat} (hr:Ok r h) (hl:l.red=false):(mend (node l y r false)).red=false:=by
  cases hc:r.red
  · rw [mend_id hl hc];rfl
  · obtain ⟨rl,z,rr,rfl⟩:=red_true hc
    obtain ⟨p1,p2,p3,p4⟩:=hr.inv_red
    have:mend (node l y (node rl z rr true) false)=node (node l y rl true) z rr false:=by
      simp [mend,mend1,mend2,mend3,left_node,right_node,red_node,toLeft,hl,p4]
    rw [this];rfl
theorem black_zero {t:RB α} (k:Ok t 0) (h:t.red=false):t=nil:=by
  cases k with
  | nil=>rfl
  | red a b c d=>cases h
theorem black_succ {t:RB α} {h:Nat} (k:Ok t (h+1)) (hr:t.red=false):∃ l x r,t=node l x r false∧Ok l h∧Ok r h∧r.red=false:=by
  cases k with
  | black a b c=>exact ⟨_,_,_,rfl,a,b,c⟩
  | red a b c d=>cases hr
theorem tail_mid (A B C:List α) (y:α):((A ++ y :: B) ++ C).tail=(A ++ y :: B).tail ++ C:=by cases A <;> simp
theorem list_ne {t:RB α} (h:t.isNil=false):t.list≠[]:=by
  cases t with
  | nil=>cases h
  | node l x r c=>simp [list]
structure Cut (t t':RB α) (h:Nat) (L:List α):Prop where
  ok:Ok t' h
  black:t.red=false→t'.red=false
  list:t'.list=L
theorem cutMin_ok:∀ (k:Nat) (t:RB α) (h:Nat),Ok t h→t.isNil=false→(t.red=true∨t.left.red=true)→t.list.length≤k→∃ t',cutMin k t=some t'∧Cut t t' h t.list.tail
  | 0,t,h,hk,hn,_,hl=>by
    have:=list_ne hn
    cases ht:t.list with
    | nil=>exact absurd ht this
    | cons a b=>rw [ht] at hl;simp at hl
  | k+1,nil,h,hk,hn,_,hl=>by cases hn
  | k+1,node l x r true,h,hk,hn,_,hl=>by
    obtain ⟨a,b,c,d⟩:=hk.inv_red
    simp only [list,List.length_append,List.length_cons] at hl
    cases h with
    | zero =>
      obtain rfl:=black_zero a c
      obtain rfl:=black_zero b d
      exact ⟨nil,rfl,.nil,(fun h=>by cases h),rfl⟩
    | succ h =>
      obtain ⟨ll,y,lr,rfl,a1,a2,a3⟩:=black_succ a c
      obtain ⟨rl,z,rr,rfl,b1,b2,b3⟩:=black_succ b d
      simp only [list,List.length_append,List.length_cons] at hl
      cases hc:ll.red
      · cases hd:rl.red
        · obtain ⟨t',e,q⟩:=cutMin_ok k (node ll y lr true) h (.red a1 a2 hc a3) rfl (.inl rfl) (by simp only [list,List.length_append,List.length_cons];omega)
          refine ⟨mend (node t' x (node rl z rr true) false),?_,mendR_black q.ok (.red b1 b2 hd b3),(fun h=>by cases h),?_⟩
          · simp [cutMin,isNil,downL,both,redLeft,flip,left_node,right_node,red_node,hc,hd,e]
          · rw [list_mend]
            simp only [list,q.list]
            rw [tail_mid]
        · obtain ⟨rll,u,rlr,rfl⟩:=red_true hd
          obtain ⟨e1,e2,e3,e4⟩:=b1.inv_red
          obtain ⟨t',e,q⟩:=cutMin_ok k (node (node ll y lr true) x rll false) (h+1) (.black (.red a1 a2 hc a3) e1 e3) rfl (.inr rfl) (by simp only [list,List.length_append,List.length_cons] at *;omega)
          have q2:=q.black rfl
          refine ⟨node t' u (node rlr z rr false) true,?_,.red q.ok (.black e2 b2 b3) q2 rfl,(fun h=>by cases h),?_⟩
          · have:=mend_id (l:=t') (r:=node rlr z rr false) (x:=u) (c:=true) q2 rfl
            simp [cutMin,isNil,downL,both,redLeft,flip,toLeft,toRight,setR,left_node,right_node,red_node,hc,e,this]
          · simp only [list,q.list]
            rw [tail_mid,tail_mid]
            simp
      · obtain ⟨t',e,q⟩:=cutMin_ok k (node ll y lr false) (h+1) (.black a1 a2 a3) rfl (.inr hc) (by simp only [list,List.length_append,List.length_cons];omega)
        have q2:=q.black rfl
        refine ⟨node t' x (node rl z rr false) true,?_,.red q.ok (.black b1 b2 b3) q2 rfl,(fun h=>by cases h),?_⟩
        · have:=mend_id (l:=t') (r:=node rl z rr false) (x:=x) (c:=true) q2 rfl
          simp [cutMin,isNil,downL,left_node,right_node,red_node,hc,e,this]
        · simp only [list,q.list]
          rw [tail_mid]
  | k+1,node l x r false,h,hk,hn,hc,hl=>by
    obtain ⟨h,rfl,a,b,c⟩:=hk.inv_black
    have hlr:l.red=true:=by rcases hc with hc | hc;cases hc;exact hc
    simp only [list,List.length_append,List.length_cons] at hl
    obtain ⟨ll,y,lr,rfl⟩:=red_true hlr
    obtain ⟨t',e,q⟩:=cutMin_ok k (node ll y lr true) h a rfl (.inl rfl) (by omega)
    have e2:=mendL_id (x:=x) (c:=false) q.ok c
    refine ⟨node t' x r false,?_,.black q.ok b c,fun _=>rfl,?_⟩
    · simp [cutMin,isNil,downL,left_node,right_node,red_node,e,e2]
    · simp only [list,q.list]
      rw [tail_mid]
end RB
end Go.Proofs.YtalffooghioekaaGreatDoorX

set_option linter.unusedSectionVars false
namespace Go.Proofs.YtalffooghioekaaGreatDoorX
namespace RB
variable {α : Type} [DecidableEq α]
def sans (x:α) (l:List α):List α:=l.filter fun z=>!decide (z=x)
theorem sans_append (x:α) (A B:List α):sans x (A ++ B)=sans x A ++ sans x B:=List.filter_append ..
theorem sans_none {x:α} {l:List α} (h:∀ z∈l,z≠x):sans x l=l:=List.filter_eq_self.2 fun z hz=>by simp [h z hz]
theorem sans_cons {x y:α} (h:y≠x) (l:List α):sans x (y :: l)=y :: sans x l:=by simp [sans,h]
theorem sans_self (x:α) (l:List α):sans x (x :: l)=sans x l:=by simp [sans]
structure In (lt:α→α→Bool) (S:α→Prop) (x:α) (l:List α):Prop where
  srt:Srt lt l
  s:∀ z∈l,S z
  mem:x∈l
variable {lt : α → α → Bool} {S : α → Prop} {x : α}
theorem lt_ne (ho:OrdOn lt S) {a b:α} (ha:S a) (h:lt a b=true):a≠b:=fun e=>by
  subst e
  rw [ho.irr a ha] at h
  cases h
theorem In.left (ho:OrdOn lt S) {L R:List α} {y:α} (h:In lt S x (L ++ y :: R)) (hxy:lt x y=true):In lt S x L∧sans x (L ++ y :: R)=sans x L ++ y :: R:=by
  obtain ⟨h1,h2,h3,h4,h5⟩:=srt_node h.srt
  have hx:=h.s x h.mem
  have hy:=h.s y (by simp)
  have hR:∀ z∈y :: R,z≠x:=fun z hz e=>by
    subst e
    rcases List.mem_cons.1 hz with rfl | hz
    · rw [ho.irr _ hx] at hxy;cases hxy
    · have:=asym ho hy hx (h4 z hz);rw [hxy] at this;cases this
  have hm:x∈L:=by
    rcases List.mem_append.1 h.mem with hm | hm
    · exact hm
    · exact absurd rfl (hR x hm)
  exact ⟨⟨h1,fun z hz=>h.s z (List.mem_append_left _ hz),hm⟩,by rw [sans_append,sans_none hR]⟩
theorem In.right (ho:OrdOn lt S) {L R:List α} {y:α} (h:In lt S x (L ++ y :: R)) (hxy:lt y x=true):In lt S x R∧sans x (L ++ y :: R)=L ++ y :: sans x R:=by
  obtain ⟨h1,h2,h3,h4,h5⟩:=srt_node h.srt
  have hx:=h.s x h.mem
  have hy:=h.s y (by simp)
  have hL:∀ z∈L,z≠x:=fun z hz e=>by
    subst e
    have:=asym ho hx hy (h3 z hz);rw [hxy] at this;cases this
  have hyx:=lt_ne ho hy hxy
  have hm:x∈R:=by
    rcases List.mem_append.1 h.mem with hm | hm
    · exact absurd rfl (hL x hm)
    · rcases List.mem_cons.1 hm with rfl | hm
      · exact absurd rfl hyx
      · exact hm
  exact ⟨⟨h2,fun z hz=>h.s z (by simp [hz]),hm⟩,by rw [sans_append,sans_none hL,sans_cons hyx]⟩
theorem In.eq (ho:OrdOn lt S) {L R:List α} {y:α} (h:In lt S x (L ++ y :: R)) (h6:lt x y=false) (h7:lt y x=false):sans x (L ++ y :: R)=L ++ R:=by
  obtain ⟨h1,h2,h3,h4,h5⟩:=srt_node h.srt
  have hx:=h.s x h.mem
  have hy:=h.s y (by simp)
  obtain rfl:=ho.tri x y hx hy h6 h7
  rw [sans_append,sans_self,sans_none,sans_none]
  · intro z hz e;subst e;have:=h4 _ hz;rw [ho.irr _ hx] at this;cases this
  · intro z hz e;subst e;have:=h3 _ hz;rw [ho.irr _ hx] at this;cases this
theorem In.up (ho:OrdOn lt S) {L R:List α} {y u:α} (h:In lt S x (L ++ y :: R)) (hu:u∈R) (hxy:lt x y=true):lt x u=true:=by
  obtain ⟨h1,h2,h3,h4,h5⟩:=srt_node h.srt
  exact ho.tr x y u (h.s x h.mem) (h.s y (by simp)) (h.s u (by simp [hu])) hxy (h4 u hu)
theorem In.down (ho:OrdOn lt S) {L R:List α} {y u:α} (h:In lt S x (L ++ y :: R)) (hu:u∈L) (hxy:lt x y=false):lt u x=true:=by
  obtain ⟨h1,h2,h3,h4,h5⟩:=srt_node h.srt
  have hx:=h.s x h.mem
  have hy:=h.s y (by simp)
  have hus:=h.s u (by simp [hu])
  have huy:=h3 u hu
  cases hyx:lt y x
  · rw [ho.tri x y hx hy hxy hyx];exact huy
  · exact ho.tr u y x hus hy hx huy hyx
def CutAt (lt:α→α→Bool) (S:α→Prop) (x:α) (k:Nat):Prop :=
  ∀ (t:RB α) (h:Nat),Ok t h→t.isNil=false→(t.red=true∨t.left.red=true)→t.list.length≤k→In lt S x t.list→∃ t',cut lt x k t=some t'∧Cut t t' h (sans x t.list)
theorem right_step (ho:OrdOn lt S) {k:Nat} (ih:CutAt lt S x k) {l r:RB α} {y:α} {c:Bool} {h:Nat} (hr:Ok r h) (hn:r.isNil=false) (hc:r.red=true∨r.left.red=true) (hl:r.list.length≤k) (hI:In lt S x (l.list ++ y :: r.list)) (hxy:lt x y=false) :
    ∃ m r',(bif lt y x then (cut lt x k r).map fun r'=>mend (node l y r' c) else match least r with
      | some m=>(cutMin k r).map fun r'=>mend (node l m r' c)
      | none=>none)=some (mend (node l m r' c))∧Ok r' h∧(r.red=false→r'.red=false)∧l.list ++ m :: r'.list=sans x (l.list ++ y :: r.list):=by
  cases hyx:lt y x
  · obtain ⟨m,hm,hm2⟩:=least_cons hn
    obtain ⟨r',e,q⟩:=cutMin_ok k r h hr hn hc hl
    refine ⟨m,r',by simp [hm,e],q.ok,q.black,?_⟩
    rw [hI.eq ho hxy hyx,q.list,← hm2]
  · obtain ⟨hI',e1⟩:=hI.right ho hyx
    obtain ⟨r',e,q⟩:=ih r h hr hn hc hl hI'
    exact ⟨y,r',by simp [e],q.ok,q.black,by rw [e1,q.list]⟩
theorem cut_pre (ho:OrdOn lt S) {k:Nat} (ih:CutAt lt S x k) {l r:RB α} {y:α} {h:Nat} (hl:Ok l h) (hr:Ok r h) (h1:l.red=false) (h2:r.red=true) (hxy:lt x y=false) (hlen:(node l y r false).list.length≤k+1) (hI:In lt S x (l.list ++ y :: r.list)) :
    ∃ t',cut lt x (k+1) (node l y r false)=some t'∧Cut (node l y r false) t' (h+1) (sans x (l.list ++ y :: r.list)):=by
  have hn:r.isNil=false:=by
    obtain ⟨a,b,c,rfl⟩:=red_true h2
    rfl
  simp only [list,List.length_append,List.length_cons] at hlen
  obtain ⟨m,r',e,e1,e2,e3⟩:=right_step ho ih (c:=false) hr hn (.inl h2) (by omega) hI hxy
  refine ⟨_,?_,mendR_black (y:=m) hl e1,fun _=>mendR_stays e1 h1,by rw [list_mend];exact e3⟩
  simp only [cut,hxy,h1,cond_false,downR,right_node,hn,h2,Bool.not_true,Bool.false_and]
  exact e
theorem cut_ok (ho:OrdOn lt S):∀ k,CutAt lt S x k
  | 0=>fun t h hk hn _ hl hI=>by
    have:=hI.mem
    cases ht:t.list with
    | nil=>rw [ht] at this;cases this
    | cons a b=>rw [ht] at hl;simp at hl
  | k+1=>fun t h hk hn hc hl hI=>by
    have ih:=cut_ok ho k
    cases t with
    | nil=>cases hn
    | node l y r c =>
    simp only [list,List.length_append,List.length_cons] at hl
    simp only [list] at hI
    cases hxy:lt x y
    · -- to the right
      cases c with
      | false =>
        obtain ⟨h,rfl,a,b,c⟩:=hk.inv_black
        have hlr:l.red=true:=by rcases hc with hc | hc;cases hc;exact hc
        obtain ⟨ll,z,lr,rfl⟩:=red_true hlr
        obtain ⟨a1,a2,a3,a4⟩:=a.inv_red
        simp only [list,List.length_append,List.length_cons] at hl
        have hzx:lt z x=true:=hI.down ho (by simp [list]) hxy
        have hI2:In lt S x (ll.list ++ z :: (node lr y r true).list):=by simpa [list] using hI
        obtain ⟨hI3,e1⟩:=hI2.right ho hzx
        obtain ⟨t',e,q⟩:=ih (node lr y r true) h (.red a2 b a4 c) rfl (.inl rfl) (by simp only [list,List.length_append,List.length_cons];omega) hI3
        refine ⟨mend (node ll z t' false),?_,mendR_black a1 q.ok,fun _=>mendR_stays q.ok a3,?_⟩
        · simp only [cut,hxy,cond_false,red_node,cond_true,toRight,right_node,isNil,downR,Bool.not_true,Bool.false_and,hzx]
          simp [e]
        · rw [list_mend]
          simp only [list]
          rw [q.list,← e1]
          simp [list]
      | true =>
        obtain ⟨a,b,c,d⟩:=hk.inv_red
        cases h with
        | zero =>
          obtain rfl:=black_zero a c
          obtain rfl:=black_zero b d
          refine ⟨nil,by simp [cut,hxy,red,right,isNil],.nil,(fun h=>by cases h),?_⟩
          have hm:=hI.mem
          simp [list] at hm
          subst hm
          simp [list,sans]
        | succ h =>
          obtain ⟨ll,u,lr,rfl,a1,a2,a3⟩:=black_succ a c
          obtain ⟨rl,z,rr,rfl,b1,b2,b3⟩:=black_succ b d
          simp only [list,List.length_append,List.length_cons] at hl
          cases hd:rl.red
          · cases he:ll.red
            · obtain ⟨m,r',e,e1,e2,e3⟩:=right_step ho ih (l:=node ll u lr true) (c:=false) (Ok.red (x:=z) b1 b2 hd b3) rfl (.inl rfl) (by simp only [list,List.length_append,List.length_cons];omega) (y:=y) (by simpa [list] using hI) hxy
              refine ⟨_,?_,mendR_black (y:=m) (.red a1 a2 he a3) e1,(fun h=>by cases h),by rw [list_mend];rw [show (node (node ll u lr true) m r' false).list=(node ll u lr true).list ++ m :: r'.list from rfl,e3];rfl⟩
              simp only [cut,hxy,cond_false,red_node,right_node,left_node,isNil,downR,hd,Bool.not_false,Bool.and_self,both,cond_true,redRight,flip,Bool.not_true,he]
              exact e
            · obtain ⟨p,v,s,rfl⟩:=red_true he
              obtain ⟨c1,c2,c3,c4⟩:=a1.inv_red
              have hux:lt u x=true:=hI.down ho (by simp [list]) hxy
              have hI2:In lt S x ((node p v s false).list ++ u :: (lr.list ++ y :: (node rl z rr true).list)):=by simpa [list] using hI
              obtain ⟨hI3,e1⟩:=hI2.right ho hux
              cases k with
              | zero=>omega
              | succ k =>
              have ih':=cut_ok ho k
              obtain ⟨t',e,q⟩:=cut_pre ho ih' a2 (Ok.red (x:=z) b1 b2 hd b3) a3 rfl hxy (by simp only [list,List.length_append,List.length_cons] at *;omega) hI3
              have q2:=q.black rfl
              have e5:=mend_id (l:=node p v s false) (r:=t') (x:=u) (c:=true) rfl q2
              refine ⟨node (node p v s false) u t' true,?_,.red (.black c1 c2 c4) q.ok rfl q2,(fun h=>by cases h),?_⟩
              · rw [cut]
                simp only [hxy,cond_false,red_node,right_node,left_node,isNil,downR,hd,Bool.not_false,Bool.and_self,both,cond_true,redRight,flip,toRight,Bool.not_true,hux]
                rw [← e5,e]
                rfl
              · simp only [list] at *
                rw [q.list,← e1]
                simp
          · obtain ⟨m,r',e,e1,e2,e3⟩:=right_step ho ih (l:=node ll u lr false) (c:=true) b rfl (.inr hd) (by simp only [list,List.length_append,List.length_cons];omega) (y:=y) (by simpa [list] using hI) hxy
            have q2:=e2 rfl
            have e5:=mend_id (l:=node ll u lr false) (r:=r') (x:=m) (c:=true) rfl q2
            refine ⟨node (node ll u lr false) m r' true,?_,.red a e1 rfl q2,(fun h=>by cases h),e3⟩
            rw [← e5]
            simp only [cut,hxy,cond_false,red_node,right_node,left_node,isNil,downR,hd,Bool.not_false,Bool.not_true,Bool.and_false,cond_true]
            exact e
    · -- to the left
      obtain ⟨hI1,eF⟩:=hI.left ho hxy
      cases c with
      | false =>
        obtain ⟨h,rfl,a,b,c⟩:=hk.inv_black
        have hlr:l.red=true:=by rcases hc with hc | hc;cases hc;exact hc
        obtain ⟨ll,z,lr,rfl⟩:=red_true hlr
        obtain ⟨t',e,q⟩:=ih _ h a rfl (.inl rfl) (by omega) hI1
        have e2:=mendL_id (x:=y) (c:=false) q.ok c
        refine ⟨node t' y r false,?_,.black q.ok b c,fun _=>rfl,?_⟩
        · simp [cut,hxy,isNil,downL,left_node,right_node,red_node,e,e2]
        · simp only [list] at *
          rw [q.list,eF]
      | true =>
        obtain ⟨a,b,c,d⟩:=hk.inv_red
        cases h with
        | zero =>
          obtain rfl:=black_zero a c
          have:=hI1.mem
          cases this
        | succ h =>
          obtain ⟨ll,u,lr,rfl,a1,a2,a3⟩:=black_succ a c
          obtain ⟨rl,z,rr,rfl,b1,b2,b3⟩:=black_succ b d
          simp only [list,List.length_append,List.length_cons] at hl
          cases he:ll.red
          · cases hd:rl.red
            · obtain ⟨t',e,q⟩:=ih (node ll u lr true) h (.red a1 a2 he a3) rfl (.inl rfl) (by simp only [list,List.length_append,List.length_cons];omega) hI1
              refine ⟨mend (node t' y (node rl z rr true) false),?_,mendR_black q.ok (.red b1 b2 hd b3),(fun h=>by cases h),?_⟩
              · simp [cut,hxy,isNil,downL,both,redLeft,flip,left_node,right_node,red_node,he,hd,e]
              · rw [list_mend]
                simp only [list] at *
                rw [q.list,eF]
            · obtain ⟨rll,v,rlr,rfl⟩:=red_true hd
              obtain ⟨c1,c2,c3,c4⟩:=b1.inv_red
              have hxv:lt x v=true:=hI.up ho (by simp [list]) hxy
              have hI2:In lt S x ((node (node ll u lr true) y rll false).list ++ v :: (node rlr z rr false).list):=by simpa [list] using hI
              obtain ⟨hI3,eF2⟩:=hI2.left ho hxv
              obtain ⟨t',e,q⟩:=ih (node (node ll u lr true) y rll false) (h+1) (.black (.red a1 a2 he a3) c1 c3) rfl (.inr rfl) (by simp only [list,List.length_append,List.length_cons] at *;omega) hI3
              have q2:=q.black rfl
              have e5:=mend_id (l:=t') (r:=node rlr z rr false) (x:=v) (c:=true) q2 rfl
              refine ⟨node t' v (node rlr z rr false) true,?_,.red q.ok (.black c2 b2 b3) q2 rfl,(fun h=>by cases h),?_⟩
              · simp [cut,hxy,isNil,downL,both,redLeft,flip,toLeft,toRight,setR,left_node,right_node,red_node,he,e,e5]
              · simp only [list] at *
                rw [q.list,← eF2]
                simp
          · obtain ⟨t',e,q⟩:=ih (node ll u lr false) (h+1) a rfl (.inr he) (by simp only [list,List.length_append,List.length_cons];omega) hI1
            have q2:=q.black rfl
            have e5:=mend_id (l:=t') (r:=node rl z rr false) (x:=y) (c:=true) q2 rfl
            refine ⟨node t' y (node rl z rr false) true,?_,.red q.ok b q2 rfl,(fun h=>by cases h),?_⟩
            · simp [cut,hxy,isNil,downL,left_node,right_node,red_node,he,e,e5]
            · simp only [list] at *
              rw [q.list,eF]
end RB
end Go.Proofs.YtalffooghioekaaGreatDoorX

namespace Go.Proofs.YtalffooghioekaaGreatDoorX
def dig (ds:List Int) (i:Nat):Int:=ds.getD i 0
end Go.Proofs.YtalffooghioekaaGreatDoorX

namespace Go.Proofs.YtalffooghioekaaGreatDoorX
open Go Go.RowKit
attribute [local irreducible] XS XC XA thenE blockE retE loopE loopS cutB cutN doneE SE
def DAt (w:World) (sl:Value) (ds:List Int):Prop :=
  ∃ ad cap,sl = .slice ad ds.length cap∧(ds≠[]→∃ (b off:Nat) (cs:List Value) (fz:Nat × Nat),ad=some ⟨b,off,none⟩∧ds.length≤cap∧w.heap[b]?=some (.cells cs.toArray 3 fz)∧∀ i d,ds[i]?=some d→cs[off+i]?=some (.int .i64 d))
theorem DAt.only {w w':World} {sl:Value} {ds:List Int} (h:DAt w sl ds) (ho:Only [] w w'):DAt w' sl ds:=by
  obtain ⟨ad,cap,rfl,h⟩:=h
  refine ⟨ad,cap,rfl,fun hn=>?_⟩
  obtain ⟨b,off,cs,fz,h1,h2,h3,h4⟩:=h hn
  exact ⟨b,off,cs,fz,h1,h2,ho.block h3 (by simp),h4⟩
theorem i64_small {n:Int} (h0:-9223372036854775808≤n) (h1:n < 9223372036854775808):IntKind.i64.wrap n=n:=by rw [wrap_i64];omega
end Go.Proofs.YtalffooghioekaaGreatDoorX

namespace Go.Proofs.YtalffooghioekaaGreatDoorX
open Go Go.RowKit
attribute [local irreducible] XS XC XA thenE blockE retE loopE loopS cutB cutN doneE SE
def ints (xs:List Int):List Value:=xs.map (Value.int .i64)
theorem ints_snoc (xs:List Int) (d:Int):ints xs ++ [.int .i64 d]=ints (xs ++ [d]):=by simp [ints]
theorem own_dat {wb:World} {v:Value} {n:Nat} {xs:List Int} {H:List Ent} {w:World} {D:Ctx} (h:OwnS wb D H 3 1 v n (ints xs) w) (hn:n=xs.length):DAt w v xs:=by
  subst hn
  rcases h with ⟨rfl,h0,hx,hs⟩ | ⟨g,cap,cur,rfl,hc,hl,hxl,ht,hs⟩
  · have:xs=[]:=by simpa using h0
    subst this
    exact ⟨none,0,rfl,fun h=>absurd rfl h⟩
  · refine ⟨_,cap,rfl,fun _=>⟨g,0,cur,(0,0),rfl,hc,hs.get At.head,fun i d hi=>?_⟩⟩
    have h1:(ints xs)[i]?=some (.int .i64 d):=by simp [ints,hi]
    rw [← ht,List.getElem?_take] at h1
    split at h1
    · simpa using h1
    · cases h1
theorem OwnS.st {wb:World} {v:Value} {n k e:Nat} {xs:List Value} {H:List Ent} {w:World} {D:Ctx} (h:OwnS wb D H e k v n xs w):St wb D H w:=by
  rcases h with ⟨_,_,_,hs⟩ | ⟨g,cap,cur,_,_,_,_,_,hs⟩
  · exact hs
  · exact hs.forgetNew
end Go.Proofs.YtalffooghioekaaGreatDoorX

namespace Go.Proofs.YtalffooghioekaaGreatDoorX
open Go Go.RowKit
abbrev nodeO (x:Int) (av:Value) (pl pr:Option Addr) (c:Bool):Obj := .cells #[.int .i64 x,av,.pointer pl,.pointer pr,.bool c] 336 (0,0)
abbrev treeO (p:Option Addr) (n:Int):Obj := .cells #[.pointer p,.int .i64 n,.func (.func 319) #[] #[],.func (.func 320) #[] #[],.func (.func 321) #[] #[]] 334 (0,0)
def TreeAt (w:World):RB Int→Option Addr→List Nat→Prop
  | .nil,p,fp=>p=none∧fp=[]
  | .node l x r c,p,fp=>∃ b av pl pr fl fr,p=some ⟨b,0,none⟩∧fp=b :: (fl ++ fr)∧w.heap[b]?=some (nodeO x av pl pr c)∧DAt w av (l.list ++ x :: r.list)∧TreeAt w l pl fl∧TreeAt w r pr fr
def StaleAt (w:World) (l:RB Int) (x:Int) (r:RB Int) (c:Bool) (p:Option Addr) (fp:List Nat):Prop :=
  ∃ b av pl pr fl fr,p=some ⟨b,0,none⟩∧fp=b :: (fl ++ fr)∧w.heap[b]?=some (nodeO x av pl pr c)∧TreeAt w l pl fl∧TreeAt w r pr fr
theorem TreeAt.stale {w:World} {l:RB Int} {x:Int} {r:RB Int} {c:Bool} {p:Option Addr} {fp:List Nat} (h:TreeAt w (.node l x r c) p fp):StaleAt w l x r c p fp:=by
  obtain ⟨b,av,pl,pr,fl,fr,h1,h2,h3,h4,h5,h6⟩:=h
  exact ⟨b,av,pl,pr,fl,fr,h1,h2,h3,h5,h6⟩
def Nodes (w:World) (F:List Nat):Prop:=∀ b∈F,∃ cs fz,w.heap[b]?=some (.cells cs 336 fz)
theorem Nodes.nil (w:World):Nodes w []:=fun b h=>by cases h
theorem Nodes.append {w:World} {F G:List Nat} (h:Nodes w F) (k:Nodes w G):Nodes w (F ++ G):=fun b hb=>by
  rcases List.mem_append.1 hb with hb | hb
  · exact h b hb
  · exact k b hb
theorem Nodes.cons {w:World} {F:List Nat} {b:Nat} {cs:Array Value} {fz:Nat × Nat} (h:w.heap[b]?=some (.cells cs 336 fz)) (k:Nodes w F):Nodes w (b :: F):=fun b' hb=>by
  rcases List.mem_cons.1 hb with rfl | hb
  · exact ⟨_,_,h⟩
  · exact k b' hb
theorem TreeAt.nodes {w:World}:∀ {t:RB Int} {p:Option Addr} {fp:List Nat},TreeAt w t p fp→Nodes w fp
  | .nil,p,fp,⟨_,h⟩=>by subst h;exact Nodes.nil w
  | .node l x r c,p,fp,⟨b,av,pl,pr,fl,fr,h1,h2,h3,h4,h5,h6⟩=>by
    subst h2
    exact .cons h3 (h5.nodes.append h6.nodes)
theorem StaleAt.nodes {w:World} {l:RB Int} {x:Int} {r:RB Int} {c:Bool} {p:Option Addr} {fp:List Nat} (h:StaleAt w l x r c p fp):Nodes w fp:=by
  obtain ⟨b,av,pl,pr,fl,fr,h1,h2,h3,h5,h6⟩:=h
  subst h2
  exact .cons h3 (h5.nodes.append h6.nodes)
theorem DAt.keep {w w':World} {v:Value} {xs:List Int} {F:List Nat} (h:DAt w v xs) (ho:Only F w w') (hF:Nodes w F):DAt w' v xs:=by
  obtain ⟨ad,cap,rfl,h⟩:=h
  refine ⟨ad,cap,rfl,fun hn=>?_⟩
  obtain ⟨b,off,cs,fz,h1,h2,h3,h4⟩:=h hn
  refine ⟨b,off,cs,fz,h1,h2,ho.block h3 fun hb=>?_,h4⟩
  obtain ⟨cs',fz',h5⟩:=hF b hb
  rw [h3] at h5
  cases h5
theorem TreeAt.keep {w w':World} {F:List Nat} (ho:Only F w w') (hF:Nodes w F):∀ {t:RB Int} {p:Option Addr} {fp:List Nat},TreeAt w t p fp→(∀ b∈fp,b∉F)→TreeAt w' t p fp
  | .nil,p,fp,h,_=>h
  | .node l x r c,p,fp,⟨b,av,pl,pr,fl,fr,h1,h2,h3,h4,h5,h6⟩,hd=>by
    subst h2
    exact ⟨b,av,pl,pr,fl,fr,h1,rfl,ho.block h3 (hd b List.mem_cons_self),h4.keep ho hF,TreeAt.keep ho hF h5 fun k hk=>hd k (List.mem_cons_of_mem _ (List.mem_append_left _ hk)),
      TreeAt.keep ho hF h6 fun k hk=>hd k (List.mem_cons_of_mem _ (List.mem_append_right _ hk))⟩
theorem head_keep {w w':World} {F:List Nat} {tb:Nat} {p:Option Addr} {n:Int} (h:w.heap[tb]?=some (treeO p n)) (ho:Only F w w') (hF:Nodes w F):w'.heap[tb]?=some (treeO p n) :=
  ho.block h fun hb=>by
    obtain ⟨cs',fz',h5⟩:=hF tb hb
    rw [h] at h5
    cases h5
end Go.Proofs.YtalffooghioekaaGreatDoorX

namespace Go.Proofs.YtalffooghioekaaGreatDoorX
open Go Go.RowKit
attribute [local irreducible] XS XC XA thenE blockE retE loopE loopS cutB cutN doneE SE
theorem less_ret (a b:Int) (w0:World):Ret Tryz.prog 319 #[.int .i64 a,.int .i64 b] w0 fun v w'=>v = .bool (decide (a < b))∧Only [] w0 w':=by
  have hs:=St.nil w0
  refine ret_of_xc Tryz.func319 (by kernel_rfl) rfl Tryz.ntmps319 rfl rfl rfl ?_
  repeat' (first|refine vs (k:=?_)|refine qRg ?_|refine Nx.h ?_|fail)
  first | refine rt (hq:=?_) | refine rt' (hq:=?_)
  exact ⟨rfl,hs.only0 rfl⟩
theorem one_ret (a:Int) (w0:World):Ret Tryz.prog 320 #[.int .i64 a] w0 fun v w'=>DAt w' v [a]∧Only [] w0 w':=by
  have hs:=St.nil w0
  refine ret_of_xc Tryz.func320 (by kernel_rfl) rfl Tryz.ntmps320 rfl rfl rfl ?_
  repeat' (first|refine vs (k:=?_)|(refine bs hs (k:=?_);intro b w hz hs)|refine qRg ?_|refine Nx.h ?_|fail)
  first | refine rt (hq:=?_) | refine rt' (hq:=?_)
  refine ⟨⟨_,_,rfl,fun _=>⟨_,0,[.int .i64 a],(0,0),rfl,Nat.le_refl _,hs.get At.head,fun i d h=>?_⟩⟩,hs.only0 rfl⟩
  cases i with
  | zero=>simpa using h
  | succ i=>simp at h
theorem ints_one (xs:List Int):(xs.map (Value.int .i64)).all Value.oneCell'=true:=by simp [Value.oneCell']
theorem DAt.cells {w:World} {ad:Option Addr} {cap n:Nat} {xs:List Int} (h:DAt w (.slice ad n cap) xs) (hn:xs≠[]):∃ b off,ad=some ⟨b,off,none⟩∧n=xs.length∧n≤cap∧∀ (j:Nat) u,(ints xs)[j]?=some u→w.cell? ((⟨b,off,none⟩:Addr).add j)=some u:=by
  obtain ⟨ad',cap',e,h⟩:=h
  cases e
  obtain ⟨b,off,cs,fz,rfl,h2,h3,h4⟩:=h hn
  refine ⟨b,off,rfl,rfl,h2,fun j u hj=>?_⟩
  rw [add_addr]
  unfold ints at hj
  rw [List.getElem?_map] at hj
  obtain ⟨d,hd,rfl⟩:=Option.map_eq_some_iff.1 hj
  simp [World.cell?,h3,h4 j d hd]
theorem both_ret (va vb:Value) (A B:List Int) (hA0:A≠[]) (hB0:B≠[]) (hlen:A.length+B.length≤1000000) (w0:World) (hA:DAt w0 va A) (hB:DAt w0 vb B) :
    Ret Tryz.prog 321 #[va,vb] w0 fun v w'=>DAt w' v (A ++ B)∧Only [] w0 w':=by
  obtain ⟨aa,ca,rfl,_⟩:=id hA
  obtain ⟨ab,cb,rfl,_⟩:=id hB
  have hs:=St.nil w0
  refine ret_of_xc Tryz.func321 (by kernel_rfl) rfl Tryz.ntmps321 rfl rfl rfl ?_
  refine xc_seq ?_
  refine xc_region ?_ ?_;exact rfl
  refine vs (k:=?_)
  refine XS.nil ?_
  refine then_of ?_
  refine xc_seq ?_
  refine xc_region ?_ ?_;exact rfl
  refine xs_buildSlice0 tabOk rfl rfl hs ?_
  intro v1 w1 hO hv1
  refine vs (k:=?_)
  have ho1:=hO.st.only0 rfl
  obtain ⟨b,off,rfl,_,_,hc⟩:=(hA.only ho1).cells hA0
  refine xs_appendS tabOk rfl rfl rfl rfl rfl rfl (by simp [ints]) (List.length_pos_iff.2 hA0) hc (List.all_eq_true.1 (ints_one A)) hO (by omega) (by omega) ?_
  intro v2 w2 hO hv2
  refine vs (k:=?_)
  have ho2:=hO.st.only0 rfl
  obtain ⟨b',off',rfl,_,_,hc'⟩:=(hB.only ho2).cells hB0
  refine xs_appendS tabOk rfl rfl rfl rfl rfl rfl (by simp [ints]) (List.length_pos_iff.2 hB0) hc' (List.all_eq_true.1 (ints_one B)) hO (by omega) (by omega) ?_
  intro v3 w3 hO hv3
  have hs:=hO.st
  repeat' (first|refine vs (k:=?_)|refine Nx.h ?_|fail)
  first | refine rt (hq:=?_) | refine rt' (hq:=?_)
  refine ⟨?_,hs.only0 rfl⟩
  have e:ints A ++ ints B=ints (A ++ B):=by simp [ints]
  simp only [List.nil_append] at hO
  rw [e] at hO
  exact own_dat hO (by simp)
theorem isRed_ret (t:RB Int) (p:Option Addr) (fp:List Nat) (w0:World) (h:TreeAt w0 t p fp):Ret Tryz.prog 334 #[.pointer p] w0 fun v w'=>v = .bool t.red∧Only [] w0 w':=by
  have hs:=St.nil w0
  cases t with
  | nil =>
    obtain ⟨rfl,rfl⟩:=h
    refine ret_of_xc Tryz.func334 (by kernel_rfl) rfl Tryz.ntmps334 rfl rfl rfl ?_
    repeat' (first|refine vs (k:=?_)|refine ps (k:=?_)|refine qRg ?_|refine Nx.h ?_|fail)
    first | refine rt (hq:=?_) | refine rt' (hq:=?_)
    exact ⟨rfl,hs.only0 rfl⟩
  | node l x r c =>
    obtain ⟨b,av,pl,pr,fl,fr,rfl,h2,h3,h4,h5,h6⟩:=h
    replace hs:=hs.track h3 (by simp)
    refine ret_of_xc Tryz.func334 (by kernel_rfl) rfl Tryz.ntmps334 rfl rfl rfl ?_
    repeat' (first|refine vs (k:=?_)|refine qRg ?_|refine Nx.h ?_|fail)
    first | refine rt (hq:=?_) | refine rt' (hq:=?_)
    exact ⟨rfl,hs.onlyF [] (by simp [h3]) (by simp [D0])⟩
end Go.Proofs.YtalffooghioekaaGreatDoorX

namespace Go.Proofs.YtalffooghioekaaGreatDoorX
open Go Go.RowKit
attribute [local irreducible] XS XC XA thenE blockE retE loopE loopS cutB cutN doneE SE
end Go.Proofs.YtalffooghioekaaGreatDoorX

namespace Go.Proofs.YtalffooghioekaaGreatDoorX
open Go Go.RowKit
attribute [local irreducible] XS XC XA thenE blockE retE loopE loopS cutB cutN doneE SE
def notInt (e:Ent):Bool:=match e.2.1 with
  | .cells _ t _=>!(Nat.beq t 3)
  | _=>true
end Go.Proofs.YtalffooghioekaaGreatDoorX

namespace Go.Proofs.YtalffooghioekaaGreatDoorX
open Go Go.RowKit
attribute [local irreducible] XS XC XA thenE blockE retE loopE loopS cutB cutN doneE SE
theorem DAt.read {w wb:World} {D:Ctx} {H:List Ent} {v:Value} {ds:List Int} (hB:DAt w v ds) (hs:St wb D H w) (hH:H.all notInt=true) :
    ∃ R,St wb ⟨D.dirty,R ++ D.ro⟩ H w∧∀ w',(∀ e∈R,w'.heap[e.1]?=some e.2)→DAt w' v ds:=by
  obtain ⟨ad,cap,rfl,hD⟩:=hB
  by_cases hn:ds=[]
  · exact ⟨[],hs,fun w' _=>⟨ad,cap,rfl,fun h=>absurd hn h⟩⟩
  · obtain ⟨b,off,cs,fz,rfl,h1,h2,h3⟩:=hD hn
    refine ⟨[(b,.cells cs.toArray 3 fz)],hs.read h2 ?_,fun w' hw=>⟨_,cap,rfl,fun _=>⟨b,off,cs,fz,rfl,h1,hw _ List.mem_cons_self,h3⟩⟩⟩
    intro hm
    obtain ⟨e,he,hb⟩:=List.mem_map.1 hm
    have h4:=hs.at_ e he
    rw [hb,h2] at h4
    have h5:=List.all_eq_true.1 hH e he
    unfold notInt at h5
    cases h4':e.2.1 with
    | cells a t f =>
      rw [h4'] at h4 h5
      cases h4
      simp at h5
    | _=>rw [h4'] at h4;cases h4
theorem head_ne {w:World} {tb b:Nat} {p:Option Addr} {n:Int} {cs:Array Value} {fz:Nat × Nat} (h:w.heap[tb]?=some (treeO p n)) (k:w.heap[b]?=some (.cells cs 336 fz)):b≠tb:=fun e=>by
  subst e
  rw [h] at k
  cases k
set_option maxHeartbeats 1000000 in
theorem rbSum_ret (tb:Nat) (p0:Option Addr) (n0:Int) (l:RB Int) (x:Int) (r:RB Int) (c:Bool) (p:Option Addr) (fp:List Nat) (w0:World) (hT:w0.heap[tb]?=some (treeO p0 n0)) (h:StaleAt w0 l x r c p fp) (hnd:fp.Nodup) (hlen:(l.list ++ x :: r.list).length≤1000000) :
    Ret Tryz.prog 333 #[.pointer (some ⟨tb,0,none⟩),.pointer p] w0 fun v w'=>TreeAt w' (.node l x r c) p fp∧Only fp w0 w':=by
  obtain ⟨b,av,pl,pr,fl,fr,rfl,rfl,hb,hl,hr⟩:=h
  have hbt:=head_ne hT hb
  obtain ⟨hnb,hnd2⟩:=List.nodup_cons.1 hnd
  have hnl:∀ k∈fl,k∉[b]:=fun k hk hm=>by
    obtain rfl:=List.mem_singleton.1 hm
    exact hnb (List.mem_append_left _ hk)
  have hnr:∀ k∈fr,k∉[b]:=fun k hk hm=>by
    obtain rfl:=List.mem_singleton.1 hm
    exact hnb (List.mem_append_right _ hk)
  have hlr:∀ k∈fl,k∉fr:=fun k hk hm=>(List.nodup_append.1 hnd2).2.2 k hk k hm rfl
  have hNb:Nodes w0 [b]:=Nodes.cons hb (Nodes.nil w0)
  have fin:∀ (w':World) (av':Value),w'.heap[b]?=some (nodeO x av' pl pr c)→DAt w' av' (l.list ++ x :: r.list)→Only [b] w0 w'→TreeAt w' (.node l x r c) (some ⟨b,0,none⟩) (b :: (fl ++ fr))∧Only (b :: (fl ++ fr)) w0 w':=fun w' av' h1 h2 ho =>
    ⟨⟨b,av',pl,pr,fl,fr,rfl,rfl,h1,h2,hl.keep ho hNb hnl,hr.keep ho hNb hnr⟩,ho.weaken fun k hk=>by obtain rfl:=List.mem_singleton.1 hk;exact List.mem_cons_self⟩
  clear hnd
  have hs:=St.nil w0
  replace hs:=hs.track hT (by simp)
  replace hs:=hs.track hb (by simpa using hbt)
  cases l with
  | nil =>
    cases r with
    | nil =>
      obtain ⟨rfl,rfl⟩:=hl
      obtain ⟨rfl,rfl⟩:=hr
      refine ret_of_xc Tryz.func333 (by kernel_rfl) rfl Tryz.ntmps333 rfl rfl rfl ?_
      repeat' (first|refine Nx.h ?_|fail)
      refine dr [12] hs (k:=?_);intro hX w hs
      refine tk 0 hX (k:=?_)
      refine tk 1 hX (k:=?_)
      refine tk 2 hX (k:=?_)
      refine tk 3 hX (k:=?_)
      refine tk 4 hX (k:=?_)
      refine tk 5 hX (k:=?_)
      refine tk 6 hX (k:=?_)
      refine tk 7 hX (k:=?_)
      refine tk 8 hX (k:=?_)
      refine dt 9 hX (k:=?_)
      (with_reducible apply xs_call);exact rfl;exact rfl;exact one_ret x _
      rintro v w' ⟨h1,ho⟩;replace hs:=hs.call0 ho;obtain ⟨ad1,cp1,rfl,_⟩:=id h1;obtain ⟨R1,hs,h1⟩:=(h1).read hs rfl
      repeat' (first|refine Nx.h ?_|fail)
      refine dn (k:=?_)
      refine tk 10 hX (k:=?_)
      refine tk 11 hX (k:=?_)
      refine dt 12 hX (k:=?_)
      repeat' (first|(refine st hs (k:=?_);intro w hs)|refine Nx.h ?_|fail)
      refine dn (k:=?_)
      refine en (k:=?_)
      repeat' (first|refine vs (k:=?_)|refine qRg ?_|refine Nx.h ?_|refine qCf ?_|fail)
      first | refine rt' (vs:=[]) (hr:=resOk_nil) (hq:=?_) | refine rt (vs:=[]) (hr:=resOk_nil) (hq:=?_)
      have hav:=(h1 _ (fun e he=>hs.ro e (by simp [he])))
      refine fin _ _ (hs.get At.head) (by simpa [RB.list] using hav) (hs.onlyF [b] (by simp [hT]) (by simp [D0]))
    | node rl rx rr rc =>
      obtain ⟨rfl,rfl⟩:=hl
      have hr0:=hr
      obtain ⟨rb,rav,rpl,rpr,rfl',rfr,rfl,rfl,hrb,hrav,hrl,hrr'⟩:=hr
      have hrt:=head_ne hT hrb
      have hbrb:rb≠b:=fun e=>by subst e;exact hnr _ List.mem_cons_self List.mem_cons_self
      replace hs:=hs.track hrb (by simp [hrt,hbrb])
      obtain ⟨adR,cpR,rfl,_⟩:=id hrav
      obtain ⟨RR,hs,hrav⟩:=(hrav).read hs rfl
      refine ret_of_xc Tryz.func333 (by kernel_rfl) rfl Tryz.ntmps333 rfl rfl rfl ?_
      repeat' (first|refine Nx.h ?_|fail)
      refine dr [12] hs (k:=?_);intro hX w hs
      refine tk 0 hX (k:=?_)
      refine tk 1 hX (k:=?_)
      refine tk 2 hX (k:=?_)
      refine tk 3 hX (k:=?_)
      refine tk 4 hX (k:=?_)
      refine tk 5 hX (k:=?_)
      refine tk 6 hX (k:=?_)
      refine tk 7 hX (k:=?_)
      refine tk 8 hX (k:=?_)
      refine dt 9 hX (k:=?_)
      (with_reducible apply xs_call);exact rfl;exact rfl;exact one_ret x _
      rintro v w' ⟨h1,ho⟩;replace hs:=hs.call0 ho;obtain ⟨ad1,cp1,rfl,_⟩:=id h1;obtain ⟨R1,hs,h1⟩:=(h1).read hs rfl
      repeat' (first|refine Nx.h ?_|fail)
      refine dn (k:=?_)
      refine tk 10 hX (k:=?_)
      refine tk 11 hX (k:=?_)
      refine dt 12 hX (k:=?_)
      repeat' (first|(refine st hs (k:=?_);intro w hs)|refine Nx.h ?_|fail)
      refine dn (k:=?_)
      refine en (k:=?_)
      repeat' (first|refine vs (k:=?_)|refine qRg ?_|refine Nx.h ?_|refine qCt ?_|refine qCf ?_|fail)
      refine dr [19] hs (k:=?_);intro hX w hs
      refine tk 0 hX (k:=?_)
      refine tk 1 hX (k:=?_)
      refine tk 2 hX (k:=?_)
      refine tk 3 hX (k:=?_)
      refine tk 4 hX (k:=?_)
      refine tk 5 hX (k:=?_)
      refine tk 6 hX (k:=?_)
      refine tk 7 hX (k:=?_)
      refine tk 8 hX (k:=?_)
      refine tk 9 hX (k:=?_)
      refine tk 10 hX (k:=?_)
      refine tk 11 hX (k:=?_)
      refine tk 12 hX (k:=?_)
      refine tk 13 hX (k:=?_)
      refine tk 14 hX (k:=?_)
      refine tk 15 hX (k:=?_)
      refine dt 16 hX (k:=?_)
      (with_reducible apply xs_call);exact rfl;exact rfl;exact both_ret _ _ _ _ (by simp) (by simp [RB.list]) (by simp only [RB.list,List.length_append,List.length_cons,List.length_nil] at hlen ⊢;omega) _ (h1 _ (fun e he=>hs.ro e (by simp [he]))) (hrav _ (fun e he=>hs.ro e (by simp [he])))
      rintro v w' ⟨h3,ho⟩;replace hs:=hs.call0 ho;obtain ⟨ad3,cp3,rfl,_⟩:=id h3;obtain ⟨R3,hs,h3⟩:=(h3).read hs rfl
      repeat' (first|refine Nx.h ?_|fail)
      refine dn (k:=?_)
      refine tk 17 hX (k:=?_)
      refine tk 18 hX (k:=?_)
      refine dt 19 hX (k:=?_)
      repeat' (first|(refine st hs (k:=?_);intro w hs)|refine Nx.h ?_|fail)
      refine dn (k:=?_)
      refine en (k:=?_)
      skip
      first | refine rt' (vs:=[]) (hr:=resOk_nil) (hq:=?_) | refine rt (vs:=[]) (hr:=resOk_nil) (hq:=?_)
      have hav:=(h3 _ (fun e he=>hs.ro e (by simp [he])))
      refine fin _ _ (hs.get (At.tail At.head)) (by simpa [RB.list] using hav) (hs.onlyF [b] (by simp [hT,hrb]) (by simp [D0]))
  | node ll lx lr lc =>
    cases r with
    | nil =>
      have hl0:=hl
      obtain ⟨lb,lav,lpl,lpr,lfl,lfr,rfl,rfl,hlb,hlav,hll,hlr'⟩:=hl
      have hlt:=head_ne hT hlb
      have hblb:lb≠b:=fun e=>by subst e;exact hnl _ List.mem_cons_self List.mem_cons_self
      replace hs:=hs.track hlb (by simp [hlt,hblb])
      obtain ⟨adL,cpL,rfl,_⟩:=id hlav
      obtain ⟨rfl,rfl⟩:=hr
      obtain ⟨RL,hs,hlav⟩:=(hlav).read hs rfl
      refine ret_of_xc Tryz.func333 (by kernel_rfl) rfl Tryz.ntmps333 rfl rfl rfl ?_
      repeat' (first|refine Nx.h ?_|fail)
      refine dr [12] hs (k:=?_);intro hX w hs
      refine tk 0 hX (k:=?_)
      refine tk 1 hX (k:=?_)
      refine tk 2 hX (k:=?_)
      refine tk 3 hX (k:=?_)
      refine tk 4 hX (k:=?_)
      refine tk 5 hX (k:=?_)
      refine tk 6 hX (k:=?_)
      refine tk 7 hX (k:=?_)
      refine tk 8 hX (k:=?_)
      refine dt 9 hX (k:=?_)
      (with_reducible apply xs_call);exact rfl;exact rfl;exact one_ret x _
      rintro v w' ⟨h1,ho⟩;replace hs:=hs.call0 ho;obtain ⟨ad1,cp1,rfl,_⟩:=id h1;obtain ⟨R1,hs,h1⟩:=(h1).read hs rfl
      repeat' (first|refine Nx.h ?_|fail)
      refine dn (k:=?_)
      refine tk 10 hX (k:=?_)
      refine tk 11 hX (k:=?_)
      refine dt 12 hX (k:=?_)
      repeat' (first|(refine st hs (k:=?_);intro w hs)|refine Nx.h ?_|fail)
      refine dn (k:=?_)
      refine en (k:=?_)
      repeat' (first|refine vs (k:=?_)|refine qRg ?_|refine Nx.h ?_|refine qCt ?_|fail)
      refine dr [19] hs (k:=?_);intro hX w hs
      refine tk 0 hX (k:=?_)
      refine tk 1 hX (k:=?_)
      refine tk 2 hX (k:=?_)
      refine tk 3 hX (k:=?_)
      refine tk 4 hX (k:=?_)
      refine tk 5 hX (k:=?_)
      refine tk 6 hX (k:=?_)
      refine tk 7 hX (k:=?_)
      refine tk 8 hX (k:=?_)
      refine tk 9 hX (k:=?_)
      refine tk 10 hX (k:=?_)
      refine tk 11 hX (k:=?_)
      refine tk 12 hX (k:=?_)
      refine tk 13 hX (k:=?_)
      refine tk 14 hX (k:=?_)
      refine tk 15 hX (k:=?_)
      refine dt 16 hX (k:=?_)
      (with_reducible apply xs_call);exact rfl;exact rfl;exact both_ret _ _ _ _ (by simp [RB.list]) (by simp) (by simp only [RB.list,List.length_append,List.length_cons,List.length_nil] at hlen ⊢;omega) _ (hlav _ (fun e he=>hs.ro e (by simp [he]))) (h1 _ (fun e he=>hs.ro e (by simp [he])))
      rintro v w' ⟨h2,ho⟩;replace hs:=hs.call0 ho;obtain ⟨ad2,cp2,rfl,_⟩:=id h2;obtain ⟨R2,hs,h2⟩:=(h2).read hs rfl
      repeat' (first|refine Nx.h ?_|fail)
      refine dn (k:=?_)
      refine tk 17 hX (k:=?_)
      refine tk 18 hX (k:=?_)
      refine dt 19 hX (k:=?_)
      repeat' (first|(refine st hs (k:=?_);intro w hs)|refine Nx.h ?_|fail)
      refine dn (k:=?_)
      refine en (k:=?_)
      repeat' (first|refine vs (k:=?_)|refine qRg ?_|refine Nx.h ?_|refine qCf ?_|fail)
      first | refine rt' (vs:=[]) (hr:=resOk_nil) (hq:=?_) | refine rt (vs:=[]) (hr:=resOk_nil) (hq:=?_)
      have hav:=(h2 _ (fun e he=>hs.ro e (by simp [he])))
      refine fin _ _ (hs.get (At.tail At.head)) (by simpa [RB.list] using hav) (hs.onlyF [b] (by simp [hT,hlb]) (by simp [D0]))
    | node rl rx rr rc =>
      have hl0:=hl
      obtain ⟨lb,lav,lpl,lpr,lfl,lfr,rfl,rfl,hlb,hlav,hll,hlr'⟩:=hl
      have hlt:=head_ne hT hlb
      have hblb:lb≠b:=fun e=>by subst e;exact hnl _ List.mem_cons_self List.mem_cons_self
      replace hs:=hs.track hlb (by simp [hlt,hblb])
      obtain ⟨adL,cpL,rfl,_⟩:=id hlav
      have hr0:=hr
      obtain ⟨rb,rav,rpl,rpr,rfl',rfr,rfl,rfl,hrb,hrav,hrl,hrr'⟩:=hr
      have hrt:=head_ne hT hrb
      have hbrb:rb≠b:=fun e=>by subst e;exact hnr _ List.mem_cons_self List.mem_cons_self
      have hrlb:rb≠lb:=fun e=>by subst e;exact hlr _ List.mem_cons_self List.mem_cons_self
      replace hs:=hs.track hrb (by simp [hrt,hbrb,hrlb])
      obtain ⟨adR,cpR,rfl,_⟩:=id hrav
      obtain ⟨RL,hs,hlav⟩:=(hlav).read hs rfl
      obtain ⟨RR,hs,hrav⟩:=(hrav).read hs rfl
      refine ret_of_xc Tryz.func333 (by kernel_rfl) rfl Tryz.ntmps333 rfl rfl rfl ?_
      repeat' (first|refine Nx.h ?_|fail)
      refine dr [12] hs (k:=?_);intro hX w hs
      refine tk 0 hX (k:=?_)
      refine tk 1 hX (k:=?_)
      refine tk 2 hX (k:=?_)
      refine tk 3 hX (k:=?_)
      refine tk 4 hX (k:=?_)
      refine tk 5 hX (k:=?_)
      refine tk 6 hX (k:=?_)
      refine tk 7 hX (k:=?_)
      refine tk 8 hX (k:=?_)
      refine dt 9 hX (k:=?_)
      (with_reducible apply xs_call);exact rfl;exact rfl;exact one_ret x _
      rintro v w' ⟨h1,ho⟩;replace hs:=hs.call0 ho;obtain ⟨ad1,cp1,rfl,_⟩:=id h1;obtain ⟨R1,hs,h1⟩:=(h1).read hs rfl
      repeat' (first|refine Nx.h ?_|fail)
      refine dn (k:=?_)
      refine tk 10 hX (k:=?_)
      refine tk 11 hX (k:=?_)
      refine dt 12 hX (k:=?_)
      repeat' (first|(refine st hs (k:=?_);intro w hs)|refine Nx.h ?_|fail)
      refine dn (k:=?_)
      refine en (k:=?_)
      repeat' (first|refine vs (k:=?_)|refine qRg ?_|refine Nx.h ?_|refine qCt ?_|fail)
      refine dr [19] hs (k:=?_);intro hX w hs
      refine tk 0 hX (k:=?_)
      refine tk 1 hX (k:=?_)
      refine tk 2 hX (k:=?_)
      refine tk 3 hX (k:=?_)
      refine tk 4 hX (k:=?_)
      refine tk 5 hX (k:=?_)
      refine tk 6 hX (k:=?_)
      refine tk 7 hX (k:=?_)
      refine tk 8 hX (k:=?_)
      refine tk 9 hX (k:=?_)
      refine tk 10 hX (k:=?_)
      refine tk 11 hX (k:=?_)
      refine tk 12 hX (k:=?_)
      refine tk 13 hX (k:=?_)
      refine tk 14 hX (k:=?_)
      refine tk 15 hX (k:=?_)
      refine dt 16 hX (k:=?_)
      (with_reducible apply xs_call);exact rfl;exact rfl;exact both_ret _ _ _ _ (by simp [RB.list]) (by simp) (by simp only [RB.list,List.length_append,List.length_cons,List.length_nil] at hlen ⊢;omega) _ (hlav _ (fun e he=>hs.ro e (by simp [he]))) (h1 _ (fun e he=>hs.ro e (by simp [he])))
      rintro v w' ⟨h2,ho⟩;replace hs:=hs.call0 ho;obtain ⟨ad2,cp2,rfl,_⟩:=id h2;obtain ⟨R2,hs,h2⟩:=(h2).read hs rfl
      repeat' (first|refine Nx.h ?_|fail)
      refine dn (k:=?_)
      refine tk 17 hX (k:=?_)
      refine tk 18 hX (k:=?_)
      refine dt 19 hX (k:=?_)
      repeat' (first|(refine st hs (k:=?_);intro w hs)|refine Nx.h ?_|fail)
      refine dn (k:=?_)
      refine en (k:=?_)
      repeat' (first|refine vs (k:=?_)|refine qRg ?_|refine Nx.h ?_|refine qCt ?_|fail)
      refine dr [19] hs (k:=?_);intro hX w hs
      refine tk 0 hX (k:=?_)
      refine tk 1 hX (k:=?_)
      refine tk 2 hX (k:=?_)
      refine tk 3 hX (k:=?_)
      refine tk 4 hX (k:=?_)
      refine tk 5 hX (k:=?_)
      refine tk 6 hX (k:=?_)
      refine tk 7 hX (k:=?_)
      refine tk 8 hX (k:=?_)
      refine tk 9 hX (k:=?_)
      refine tk 10 hX (k:=?_)
      refine tk 11 hX (k:=?_)
      refine tk 12 hX (k:=?_)
      refine tk 13 hX (k:=?_)
      refine tk 14 hX (k:=?_)
      refine tk 15 hX (k:=?_)
      refine dt 16 hX (k:=?_)
      (with_reducible apply xs_call);exact rfl;exact rfl;exact both_ret _ _ _ _ (by simp) (by simp [RB.list]) (by simp only [RB.list,List.length_append,List.length_cons,List.length_nil] at hlen ⊢;omega) _ (h2 _ (fun e he=>hs.ro e (by simp [he]))) (hrav _ (fun e he=>hs.ro e (by simp [he])))
      rintro v w' ⟨h3,ho⟩;replace hs:=hs.call0 ho;obtain ⟨ad3,cp3,rfl,_⟩:=id h3;obtain ⟨R3,hs,h3⟩:=(h3).read hs rfl
      repeat' (first|refine Nx.h ?_|fail)
      refine dn (k:=?_)
      refine tk 17 hX (k:=?_)
      refine tk 18 hX (k:=?_)
      refine dt 19 hX (k:=?_)
      repeat' (first|(refine st hs (k:=?_);intro w hs)|refine Nx.h ?_|fail)
      refine dn (k:=?_)
      refine en (k:=?_)
      skip
      first | refine rt' (vs:=[]) (hr:=resOk_nil) (hq:=?_) | refine rt (vs:=[]) (hr:=resOk_nil) (hq:=?_)
      have hav:=(h3 _ (fun e he=>hs.ro e (by simp [he])))
      refine fin _ _ (hs.get (At.tail (At.tail At.head))) (by simpa [RB.list] using hav) (hs.onlyF [b] (by simp [hT,hlb,hrb]) (by simp [D0]))
end Go.Proofs.YtalffooghioekaaGreatDoorX

namespace Go.Proofs.YtalffooghioekaaGreatDoorX
open Go Go.RowKit
attribute [local irreducible] XS XC XA thenE blockE retE loopE loopS cutB cutN doneE SE
theorem perm_turn (b u:Nat) (A B C:List Nat):(u :: ((b :: (A ++ B)) ++ C)).Perm (b :: (A ++ (u :: (B ++ C)))):=by
  have h1:(u :: b :: (A ++ (B ++ C))).Perm (b :: u :: (A ++ (B ++ C))):=List.Perm.swap _ _ _
  have h2:(b :: u :: (A ++ (B ++ C))).Perm (b :: (A ++ (u :: (B ++ C)))):=List.Perm.cons _ List.perm_middle.symm
  have:=h1.trans h2
  simpa using this
theorem Nodes.lt {w:World} {F:List Nat} (h:Nodes w F):∀ k∈F,k < w.heap.size:=fun k hk=>by
  obtain ⟨cs,fz,h⟩:=h k hk
  exact lt_of_block h
def Turned (w0:World) (fp:List Nat) (t':RB Int) (v:Value) (w':World):Prop :=
  ∃ p' fp',v = .pointer p'∧TreeAt w' t' p' fp'∧fp'.Nodup∧(∀ k∈fp',k∈fp∨w0.heap.size≤k)∧Only fp w0 w'
theorem toLeft_ret (tb:Nat) (p0:Option Addr) (n0:Int) (l:RB Int) (x:Int) (rl:RB Int) (y:Int) (rr:RB Int) (c c2:Bool) (p:Option Addr) (fp:List Nat) (w0:World) (hT:w0.heap[tb]?=some (treeO p0 n0)) (h:StaleAt w0 l x (.node rl y rr c2) c p fp) (hnd:fp.Nodup) (hlen:(l.list ++ x :: (rl.list ++ y :: rr.list)).length≤1000000) :
    Ret Tryz.prog 335 #[.pointer (some ⟨tb,0,none⟩),.pointer p] w0 fun v w'=>Turned w0 fp (.node (.node l x rl true) y rr c) v w':=by
  obtain ⟨b,av,pl,pr,fl,fr,rfl,rfl,hb,hl,u,avu,prl,prr,frl,frr,rfl,rfl,hu,_,hrl,hrr⟩:=h
  have hp:=perm_turn b u fl frl frr
  have hnd':=hp.nodup_iff.2 hnd
  have hNb:Nodes w0 [u,b]:=Nodes.cons hu (Nodes.cons hb (Nodes.nil w0))
  simp only [List.length_append,List.length_cons] at hlen
  obtain ⟨d1,d2,d3,d4,d5,d6,d7,d8⟩:u≠b∧(∀ k∈fl,k∉[u,b])∧(∀ k∈frl,k∉[u,b])∧(∀ k∈frr,k∉[u,b])∧(b :: (fl ++ frl)).Nodup∧u∉b :: (fl ++ frl)∧(∀ k∈frr,k∉b :: (fl ++ frl))∧(u :: ((b :: (fl ++ frl)) ++ frr)).Nodup:=by
    simp only [List.cons_append,List.append_assoc,List.nodup_cons,List.nodup_append,List.mem_append,List.mem_cons,List.not_mem_nil,or_false] at hnd' ⊢
    grind
  have hs:=St.nil w0
  replace hs:=hs.track hb (by simp)
  replace hs:=hs.track hu (by simpa using d1)
  refine ret_of_xc Tryz.func335 (by kernel_rfl) rfl Tryz.ntmps335 rfl rfl rfl ?_
  repeat' (first|refine vs (k:=?_)|(refine st hs (k:=?_);intro w hs)|refine qRg ?_|refine Nx.h ?_|fail)
  have ho1:Only [u,b] w0 _:=hs.onlyF [u,b] (by simp) (by simp [D0])
  have hbw:=hs.get (At.tail At.head)
  have huw:=hs.get At.head
  have hlw:=hl.keep ho1 hNb d2
  have hrlw:=hrl.keep ho1 hNb d3
  have hrrw:=hrr.keep ho1 hNb d4
  have hTw:=head_keep hT ho1 hNb
  clear hs
  (with_reducible apply xs_call);exact rfl;exact rfl;exact rbSum_ret tb p0 n0 l x rl true _ _ _ hTw ⟨b,av,pl,prl,fl,frl,rfl,rfl,hbw,hlw,hrlw⟩ d5 (by simp only [List.length_append,List.length_cons];omega)
  rintro v w' ⟨hT1,ho2⟩
  have hN2:Nodes _ (b :: (fl ++ frl)):=StaleAt.nodes ⟨b,av,pl,prl,fl,frl,rfl,rfl,hbw,hlw,hrlw⟩
  have hu2:=ho2.block huw d6
  have hrr2:=hrrw.keep ho2 hN2 d7
  have hT2:=head_keep hTw ho2 hN2
  have hs:=St.nil w'
  repeat' (first|refine vs (k:=?_)|refine qRg ?_|refine Nx.h ?_|fail)
  (with_reducible apply xs_call);exact rfl;exact rfl;exact rbSum_ret tb p0 n0 (.node l x rl true) y rr c _ _ _ hT2 ⟨u,avu,_,prr,_,frr,rfl,rfl,hu2,hT1,hrr2⟩ d8 (by simp only [RB.list,List.length_append,List.length_cons];omega)
  rintro v w'' ⟨hT3,ho3⟩
  have hs:=St.nil w''
  repeat' (first|refine vs (k:=?_)|refine qRg ?_|refine Nx.h ?_|fail)
  first | refine rt (hq:=?_) | refine rt' (hq:=?_)
  have e:∀ k,k∈u :: ((b :: (fl ++ frl)) ++ frr)→k∈b :: (fl ++ (u :: (frl ++ frr))):=fun k hk=>hp.mem_iff.1 hk
  have o1:Only (b :: (fl ++ (u :: (frl ++ frr)))) w0 _:=ho1.weaken (by simp)
  have o2:=o1.step ho2 (fun k hk => .inl (e k (List.mem_cons_of_mem _ (List.mem_append_left _ hk))))
  exact ⟨_,_,rfl,hT3,d8,fun k hk => .inl (e k hk),o2.step ho3 (fun k hk => .inl (e k hk))⟩
theorem toRight_ret (tb:Nat) (p0:Option Addr) (n0:Int) (ll:RB Int) (y:Int) (lr:RB Int) (x:Int) (r:RB Int) (c c2:Bool) (p:Option Addr) (fp:List Nat) (w0:World) (hT:w0.heap[tb]?=some (treeO p0 n0)) (h:StaleAt w0 (.node ll y lr c2) x r c p fp) (hnd:fp.Nodup) (hlen:(ll.list ++ y :: (lr.list ++ x :: r.list)).length≤1000000) :
    Ret Tryz.prog 336 #[.pointer (some ⟨tb,0,none⟩),.pointer p] w0 fun v w'=>Turned w0 fp (.node ll y (.node lr x r true) c) v w':=by
  obtain ⟨b,av,pl,pr,fl,fr,rfl,rfl,hb,⟨u,avu,pll,plr,fll,flr,rfl,rfl,hu,_,hll,hlr⟩,hr⟩:=h
  have hp:=(perm_turn u b fll flr fr).symm
  have hnd':=hp.nodup_iff.2 hnd
  have hNb:Nodes w0 [u,b]:=Nodes.cons hu (Nodes.cons hb (Nodes.nil w0))
  simp only [List.length_append,List.length_cons] at hlen
  obtain ⟨d1,d2,d3,d4,d5,d6,d7,d8⟩:u≠b∧(∀ k∈fr,k∉[u,b])∧(∀ k∈flr,k∉[u,b])∧(∀ k∈fll,k∉[u,b])∧(b :: (flr ++ fr)).Nodup∧u∉b :: (flr ++ fr)∧(∀ k∈fll,k∉b :: (flr ++ fr))∧(u :: (fll ++ (b :: (flr ++ fr)))).Nodup:=by
    simp only [List.cons_append,List.append_assoc,List.nodup_cons,List.nodup_append,List.mem_append,List.mem_cons,List.not_mem_nil,or_false] at hnd' ⊢
    grind
  have hs:=St.nil w0
  replace hs:=hs.track hb (by simp)
  replace hs:=hs.track hu (by simpa using d1)
  refine ret_of_xc Tryz.func336 (by kernel_rfl) rfl Tryz.ntmps336 rfl rfl rfl ?_
  repeat' (first|refine vs (k:=?_)|(refine st hs (k:=?_);intro w hs)|refine qRg ?_|refine Nx.h ?_|fail)
  have ho1:Only [u,b] w0 _:=hs.onlyF [u,b] (by simp) (by simp [D0])
  have hbw:=hs.get (At.tail At.head)
  have huw:=hs.get At.head
  have hrw:=hr.keep ho1 hNb d2
  have hlrw:=hlr.keep ho1 hNb d3
  have hllw:=hll.keep ho1 hNb d4
  have hTw:=head_keep hT ho1 hNb
  clear hs
  (with_reducible apply xs_call);exact rfl;exact rfl;exact rbSum_ret tb p0 n0 lr x r true _ _ _ hTw ⟨b,av,plr,pr,flr,fr,rfl,rfl,hbw,hlrw,hrw⟩ d5 (by simp only [List.length_append,List.length_cons];omega)
  rintro v w' ⟨hT1,ho2⟩
  have hN2:Nodes _ (b :: (flr ++ fr)):=StaleAt.nodes ⟨b,av,plr,pr,flr,fr,rfl,rfl,hbw,hlrw,hrw⟩
  have hu2:=ho2.block huw d6
  have hll2:=hllw.keep ho2 hN2 d7
  have hT2:=head_keep hTw ho2 hN2
  have hs:=St.nil w'
  repeat' (first|refine vs (k:=?_)|refine qRg ?_|refine Nx.h ?_|fail)
  (with_reducible apply xs_call);exact rfl;exact rfl;exact rbSum_ret tb p0 n0 ll y (.node lr x r true) c _ _ _ hT2 ⟨u,avu,pll,_,fll,_,rfl,rfl,hu2,hll2,hT1⟩ d8 (by simp only [RB.list,List.length_append,List.length_cons];omega)
  rintro v w'' ⟨hT3,ho3⟩
  have hs:=St.nil w''
  repeat' (first|refine vs (k:=?_)|refine qRg ?_|refine Nx.h ?_|fail)
  first | refine rt (hq:=?_) | refine rt' (hq:=?_)
  have e:∀ k,k∈u :: (fll ++ (b :: (flr ++ fr)))→k∈b :: ((u :: (fll ++ flr)) ++ fr):=fun k hk=>hp.mem_iff.1 hk
  have o1:Only (b :: ((u :: (fll ++ flr)) ++ fr)) w0 _:=ho1.weaken (by simp)
  have o2:=o1.step ho2 (fun k hk => .inl (e k (List.mem_cons_of_mem _ (List.mem_append_right _ hk))))
  exact ⟨_,_,rfl,hT3,d8,fun k hk => .inl (e k hk),o2.step ho3 (fun k hk => .inl (e k hk))⟩
theorem rbFlip_ret (a:RB Int) (x:Int) (b:RB Int) (c1:Bool) (y:Int) (d:RB Int) (z:Int) (e:RB Int) (c2 c:Bool) (p:Option Addr) (fp:List Nat) (w0:World) (h:TreeAt w0 (.node (.node a x b c1) y (.node d z e c2) c) p fp) (hnd:fp.Nodup) :
    Ret Tryz.prog 337 #[.pointer p] w0 fun v w'=>TreeAt w' (.node (.node a x b !c1) y (.node d z e !c2) !c) p fp∧Only fp w0 w':=by
  obtain ⟨m,av,_,_,_,_,rfl,rfl,hm,hav,⟨u,avu,pa,pb,fa,fb,rfl,rfl,hu,hau,ha,hb⟩,⟨v,avv,pd,pe,fd,fe,rfl,rfl,hv,hav2,hd,he⟩⟩:=h
  have hNb:Nodes w0 [v,u,m]:=Nodes.cons hv (Nodes.cons hu (Nodes.cons hm (Nodes.nil w0)))
  obtain ⟨d1,d2,d3,d4,d5,d6,d7⟩:u≠m∧v≠m∧v≠u∧(∀ k∈fa,k∉[v,u,m])∧(∀ k∈fb,k∉[v,u,m])∧(∀ k∈fd,k∉[v,u,m])∧(∀ k∈fe,k∉[v,u,m]):=by
    simp only [List.cons_append,List.append_assoc,List.nodup_cons,List.nodup_append,List.mem_append,List.mem_cons,List.not_mem_nil,or_false] at hnd ⊢
    grind
  have hs:=St.nil w0
  replace hs:=hs.track hm (by simp)
  replace hs:=hs.track hu (by simpa using d1)
  replace hs:=hs.track hv (by simp [d2,d3])
  refine ret_of_xc Tryz.func337 (by kernel_rfl) rfl Tryz.ntmps337 rfl rfl rfl ?_
  repeat' (first|refine vs (k:=?_)|(refine st hs (k:=?_);intro w hs)|refine qRg ?_|refine Nx.h ?_|fail)
  refine dr [14] hs (k:=?_);intro hX w hs
  refine tk 0 hX (k:=?_)
  refine tk 1 hX (k:=?_)
  refine tk 2 hX (k:=?_)
  refine tk 3 hX (k:=?_)
  refine tk 4 hX (k:=?_)
  refine tk 5 hX (k:=?_)
  refine tk 6 hX (k:=?_)
  refine tk 7 hX (k:=?_)
  refine tk 8 hX (k:=?_)
  refine tk 9 hX (k:=?_)
  refine tk 10 hX (k:=?_)
  refine tk 11 hX (k:=?_)
  refine tk 12 hX (k:=?_)
  refine tk 13 hX (k:=?_)
  refine dt 14 hX (k:=?_)
  repeat' (first|(refine st hs (k:=?_);intro w hs)|refine Nx.h ?_|fail)
  refine dn (k:=?_)
  refine en (k:=?_)
  repeat' (first|refine Nx.h ?_|fail)
  refine dr [14] hs (k:=?_);intro hX w hs
  refine tk 0 hX (k:=?_)
  refine tk 1 hX (k:=?_)
  refine tk 2 hX (k:=?_)
  refine tk 3 hX (k:=?_)
  refine tk 4 hX (k:=?_)
  refine tk 5 hX (k:=?_)
  refine tk 6 hX (k:=?_)
  refine tk 7 hX (k:=?_)
  refine tk 8 hX (k:=?_)
  refine tk 9 hX (k:=?_)
  refine tk 10 hX (k:=?_)
  refine tk 11 hX (k:=?_)
  refine tk 12 hX (k:=?_)
  refine tk 13 hX (k:=?_)
  refine dt 14 hX (k:=?_)
  repeat' (first|(refine st hs (k:=?_);intro w hs)|refine Nx.h ?_|fail)
  refine dn (k:=?_)
  refine en (k:=?_)
  skip
  first | refine rt' (vs:=[]) (hr:=resOk_nil) (hq:=?_) | refine rt (vs:=[]) (hr:=resOk_nil) (hq:=?_)
  have ho1:Only [v,u,m] w0 _:=hs.onlyF [v,u,m] (by simp) (by simp [D0])
  refine ⟨⟨m,av,_,_,_,_,rfl,rfl,hs.get (At.tail (At.tail At.head)),hav.keep ho1 hNb,⟨u,avu,pa,pb,fa,fb,rfl,rfl,hs.get (At.tail At.head),hau.keep ho1 hNb,ha.keep ho1 hNb d4,hb.keep ho1 hNb d5⟩,⟨v,avv,pd,pe,fd,fe,rfl,rfl,hs.get At.head,hav2.keep ho1 hNb,hd.keep ho1 hNb d6,he.keep ho1 hNb d7⟩⟩,ho1.weaken (by simp)⟩
end Go.Proofs.YtalffooghioekaaGreatDoorX
