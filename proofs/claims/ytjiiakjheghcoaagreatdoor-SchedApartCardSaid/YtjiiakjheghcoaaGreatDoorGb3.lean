/- A part of the proof: what its functions compute. -/
import Derived.Test.YtjiiakjheghcoaaGreatDoorGb2
set_option linter.unusedVariables false
set_option linter.unusedSimpArgs false
set_option maxRecDepth 100000
set_option maxHeartbeats 64000000
set_option linter.unusedSectionVars false
namespace Go.Proofs.Q0
structure Cp {α:Type} (lt:α→α→Bool) (S:α→Prop):Prop where
 irr:∀ a,S a→lt a a=false
 tr:∀ a b c,S a→S b→S c→lt a b=true→lt b c=true→lt a c=true
 tri:∀ a b,S a→S b→lt a b=false→lt b a=false→a=b
inductive RB (α:Type) where
 | nil
 | node (l:RB α) (x:α) (r:RB α) (c:Bool)
namespace RB
variable {α : Type}
def red:RB α→Bool
 | nil=>false
 | node _ _ _ c=>c
def left:RB α→RB α
 | nil=>nil
 | node l _ _ _=>l
def right:RB α→RB α
 | nil=>nil
 | node _ _ r _=>r
def list:RB α→List α
 | nil=>[]
 | node l x r _=>l.list ++ x :: r.list
def depth:RB α→Nat
 | nil=>0
 | node l _ r _=>1+max l.depth r.depth
def GQ:RB α→RB α
 | node l x (node rl y rr _) c=>node (node l x rl true) y rr c
 | t=>t
def Cy:RB α→RB α
 | node (node ll y lr _) x r c=>node ll y (node lr x r true) c
 | t=>t
def flip:RB α→RB α
 | node (node a x b c1) y (node d z e c2) c=>node (node a x b !c1) y (node d z e !c2) !c
 | t=>t
def DU (t:RB α):RB α:=bif t.right.red && !t.left.red then GQ t else t
def ED (t:RB α):RB α:=bif t.left.red && t.left.left.red then Cy t else t
def EE (t:RB α):RB α:=bif t.left.red && t.right.red then flip t else t
def mend (t:RB α):RB α:=EE (ED (DU t))
def ins (lt:α→α→Bool):RB α→α→RB α
 | nil,x=>node nil x nil true
 | node l y r c,x=>bif lt x y then mend (node (ins lt l x) y r c) else mend (node l y (ins lt r x) c)
def blacken:RB α→RB α
 | nil=>nil
 | node l x r _=>node l x r false
theorem Ap (l:RB α) (x:α) (r:RB α) (c:Bool):(node l x r c).left=l:=rfl
theorem Ay (l:RB α) (x:α) (r:RB α) (c:Bool):(node l x r c).right=r:=rfl
theorem BL (l:RB α) (x:α) (r:RB α) (c:Bool):(node l x r c).red=c:=rfl
theorem Jo:∀ t:RB α,(GQ t).list=t.list
 | nil=>rfl
 | node l x nil c=>rfl
 | node l x (node rl y rr _) c=>by simp [GQ,list]
theorem HM:∀ t:RB α,(Cy t).list=t.list
 | nil=>rfl
 | node nil x r c=>rfl
 | node (node ll y lr _) x r c=>by simp [Cy,list]
theorem Gs:∀ t:RB α,(flip t).list=t.list
 | nil=>rfl
 | node nil x r c=>rfl
 | node (node a x b _) y nil c=>rfl
 | node (node a x b _) y (node d z e _) c=>by simp [flip,list]
theorem DC (t:RB α):(mend t).list=t.list:=by
 unfold mend EE ED DU
 repeat' (cases (_ && _) <;> simp only [cond_true,cond_false])
 all_goals simp only [Jo,HM,Gs]
theorem Ii:∀ t:RB α,(blacken t).list=t.list
 | nil=>rfl
 | node l x r c=>rfl
def IM (lt:α→α→Bool) (x:α):List α→List α
 | []=>[x]
 | y :: l=>bif lt x y then x :: y :: l else y :: IM lt x l
theorem Ts {lt:α→α→Bool} {x y:α} (h:lt x y=true) (R:List α):∀ L:List α,IM lt x (L ++ y :: R)=IM lt x L ++ y :: R
 | []=>by simp [IM,h]
 | z :: L=>by
   simp only [List.cons_append,IM]
   cases lt x z <;> simp [Ts h R L]
theorem R9 {lt:α→α→Bool} {x:α} (R:List α):∀ L:List α,(∀ z∈L,lt x z=false)→IM lt x (L ++ R)=L ++ IM lt x R
 | [],_=>rfl
 | z :: L,h=>by
   simp only [List.cons_append,IM,h z List.mem_cons_self,cond_false]
   rw [R9 R L fun z hz=>h z (List.mem_cons_of_mem _ hz)]
def K0 (lt:α→α→Bool) (l:List α):Prop:=l.Pairwise fun a b=>lt a b=true
theorem IK {lt:α→α→Bool} {L R:List α} {y:α} (h:K0 lt (L ++ y :: R)):K0 lt L∧K0 lt R∧(∀ z∈L,lt z y=true)∧(∀ z∈R,lt y z=true)∧∀ a∈L,∀ b∈R,lt a b=true:=by
 unfold K0 at *
 rw [List.pairwise_append,List.pairwise_cons] at h
 obtain ⟨h1,⟨h2,h3⟩,h4⟩:=h
 exact ⟨h1,h3,fun z hz=>h4 z hz y List.mem_cons_self,h2,fun a ha b hb=>h4 a ha b (List.mem_cons_of_mem _ hb)⟩
theorem asym {lt:α→α→Bool} {S:α→Prop} (ho:Cp lt S) {a b:α} (ha:S a) (hb:S b) (h:lt a b=true):lt b a=false:=by
 cases h2:lt b a
 ·rfl
 ·have h3:=ho.tr a b a ha hb ha h h2
  rw [ho.irr a ha] at h3
  cases h3
theorem QS {lt:α→α→Bool} {S:α→Prop} (ho:Cp lt S) {x:α} (hx:S x):∀ t:RB α,K0 lt t.list→(∀ z∈t.list,S z)→(ins lt t x).list=IM lt x t.list
 | nil,_,_=>rfl
 | node l y r c,hs,hS=>by
   obtain ⟨h1,h2,h3,h4,h5⟩:=IK hs
   simp only [list,List.mem_append,List.mem_cons] at hS
   have hl:=QS ho hx l h1 fun z hz=>hS z (.inl hz)
   have hr:=QS ho hx r h2 fun z hz=>hS z (.inr (.inr hz))
   have hy:=hS y (.inr (.inl rfl))
   simp only [ins,list]
   cases hxy:lt x y
   ·rw [cond_false,DC]
    simp only [list,hr]
    rw [R9 _ l.list fun z hz=>?_]
    ·simp [IM,hxy]
    ·have R7:=hS z (.inl hz)
     cases hxz:lt x z
     ·rfl
     ·rw [ho.tr x z y hx R7 hy hxz (h3 z hz)] at hxy;cases hxy
   ·rw [cond_true,DC]
    simp only [list,hl]
    rw [Ts hxy]
inductive Ok:RB α→Nat→Prop
 | nil:Ok nil 0
 | black {l r:RB α} {x:α} {h:Nat}:Ok l h→Ok r h→r.red=false→Ok (node l x r false) (h+1)
 | red {l r:RB α} {x:α} {h:Nat}:Ok l h→Ok r h→l.red=false→r.red=false→Ok (node l x r true) h
inductive Yi:RB α→Nat→Prop
 | ok {t:RB α} {h:Nat}:Ok t h→Yi t h
 | rr {l r:RB α} {x:α} {h:Nat}:Ok l h→Ok r h→l.red=true→r.red=false→Yi (node l x r true) h
theorem Ok.blacken {t:RB α} {h:Nat} (k:Ok t h):∃ h',Ok (blacken t) h':=by
 cases k with
 | nil=>exact ⟨_,.nil⟩
 | black a b c=>exact ⟨_,.black a b c⟩
 | red a b c d=>exact ⟨_,.black a b d⟩
theorem Bo {t:RB α} (h:t.red=true):∃ l x r,t=node l x r true:=by
 cases t with
 | nil=>cases h
 | node l x r c=>exact ⟨l,x,r,by rw [show c=true from h]⟩
theorem Ok.Eg {l r:RB α} {x:α} {h:Nat} (k:Ok (node l x r true) h):Ok l h∧Ok r h∧l.red=false∧r.red=false:=by
 cases k with
 | red a b c d=>exact ⟨a,b,c,d⟩
theorem Ok.L1 {l r:RB α} {x:α} {h:Nat} (k:Ok (node l x r false) h):∃ h',h=h'+1∧Ok l h'∧Ok r h'∧r.red=false:=by
 cases k with
 | black a b c=>exact ⟨_,rfl,a,b,c⟩
theorem J3 {t:RB α} {h:Nat} (k:Ok t h) (hr:t.red=true):t.left.red=false:=by
 obtain ⟨l,x,r,rfl⟩:=Bo hr
 exact k.Eg.2.2.1
theorem Pq {l r:RB α} {y:α} {h:Nat} (hl:Yi l h) (hr:Ok r h) (h1:r.red=false):Ok (mend (node l y r false)) (h+1):=by
 cases hl with
 | ok hl =>
   have hlr:(l.red && l.left.red)=false:=by
    cases hc:l.red
    ·rfl
    ·rw [J3 hl hc];rfl
   have:mend (node l y r false)=node l y r false:=by
    simp [mend,DU,ED,EE,Ap,Ay,BL,h1,hlr]
   rw [this]
   exact .black hl hr h1
 | rr a b c d =>
   obtain ⟨ll,z,lr,rfl⟩:=Bo c
   obtain ⟨p1,p2,p3,p4⟩:=a.Eg
   simp [mend,DU,ED,EE,Ap,Ay,BL,h1,Cy,flip]
   exact .red (.black p1 p2 p4) (.black b hr h1) rfl rfl
theorem UL {l r:RB α} {y:α} {h:Nat} (hl:Ok l h) (hr:Ok r h) (h1:r.red=false):Yi (mend (node l y r true)) h:=by
 have hlr:(l.red && l.left.red)=false:=by
  cases hc:l.red
  ·rfl
  ·rw [J3 hl hc];rfl
 have:mend (node l y r true)=node l y r true:=by
  simp [mend,DU,ED,EE,Ap,Ay,BL,h1,hlr]
 rw [this]
 cases hc:l.red
 ·exact .ok (.red hl hr hc h1)
 ·exact .rr hl hr hc h1
theorem GW {l r:RB α} {y:α} {h:Nat} (hl:Ok l h) (hr:Ok r h):Ok (mend (node l y r false)) (h+1):=by
 cases hc:r.red
 ·exact Pq (.ok hl) hr hc
 ·obtain ⟨rl,z,rr,rfl⟩:=Bo hc
  obtain ⟨p1,p2,p3,p4⟩:=hr.Eg
  cases hd:l.red
  ·have:mend (node l y (node rl z rr true) false)=node (node l y rl true) z rr false:=by
    simp [mend,DU,ED,EE,Ap,Ay,BL,GQ,hd,p4]
   rw [this]
   exact .black (.red hl p1 hd p3) p2 p4
  ·obtain ⟨ll,u,lr,rfl⟩:=Bo hd
   obtain ⟨q1,q2,q3,q4⟩:=hl.Eg
   have:mend (node (node ll u lr true) y (node rl z rr true) false)=node (node ll u lr false) y (node rl z rr false) true:=by
    simp [mend,DU,ED,EE,Ap,Ay,BL,flip,q3]
   rw [this]
   exact .red (.black q1 q2 q4) (.black p1 p2 p4) rfl rfl
theorem fQ {l r:RB α} {y:α} {h:Nat} (hl:Ok l h) (hr:Ok r h) (h1:l.red=false):Yi (mend (node l y r true)) h:=by
 cases hc:r.red
 ·exact UL hl hr hc
 ·obtain ⟨rl,z,rr,rfl⟩:=Bo hc
  obtain ⟨p1,p2,p3,p4⟩:=hr.Eg
  have:mend (node l y (node rl z rr true) true)=node (node l y rl true) z rr true:=by
   simp [mend,DU,ED,EE,Ap,Ay,BL,GQ,h1,p4]
  rw [this]
  exact .rr (.red hl p1 h1 p3) p2 rfl p4
theorem ok_ins (lt:α→α→Bool) (x:α):∀ {t:RB α} {h:Nat},Ok t h→Yi (ins lt t x) h∧(t.red=false→Ok (ins lt t x) h):=by
 intro t h k
 induction k with
 | nil=>exact ⟨.ok (.red .nil .nil rfl rfl),fun _ => .red .nil .nil rfl rfl⟩
 | @black l r y h a b c ia ib =>
   have key:Ok (ins lt (node l y r false) x) (h+1):=by
    simp only [ins]
    cases lt x y
    ·exact GW a (ib.2 c)
    ·exact Pq ia.1 b c
   exact ⟨.ok key,fun _=>key⟩
 | @red l r y h a b c d ia ib =>
   refine ⟨?_,fun h=>by cases h⟩
   simp only [ins]
   cases lt x y
   ·exact fQ a (ib.2 d) c
   ·exact UL (ia.2 c) b d
def Good (t:RB α):Prop:=t.red=false∧∃ h,Ok t h
theorem Good.nil:Good (nil:RB α):=⟨rfl,0,.nil⟩
theorem Ph (t:RB α):(blacken t).red=false:=by cases t <;> rfl
theorem Good.ins {lt:α→α→Bool} {x:α} {t:RB α} (k:Good t):Good (blacken (ins lt t x)):=by
 obtain ⟨hr,h,k⟩:=k
 exact ⟨Ph _,((ok_ins lt x k).2 hr).blacken⟩
end RB
end Go.Proofs.Q0
namespace Go.Proofs.Q0
theorem cH {a b c:Int} (h0:-9223372036854775808≤sn a b - sn c b) (h1:sn a b - sn c b < 9223372036854775808):sn a c=sn a b - sn c b:=by unfold sn at *;omega
theorem xU {b k:Int} (h:In64 k):sn (lat b k) b=k:=by unfold sn lat;unfold In64 at h;omega
theorem tK {t b:Int} (h:BV t):lat b (sn t b)=t:=by unfold sn lat;unfold BV at h;omega
theorem lR {b:Int} (h:BV b):lat b 0=b:=by unfold lat;unfold BV at h;omega
theorem PL (b:Int):sn b b=0:=by unfold sn;omega
def Vs (x y:Int):Prop:=-9223372036854775808≤x - y∧x - y < 9223372036854775808
theorem sW {a c b:Int} (h:Vs (sn a b) (sn c b)):sn a c=sn a b - sn c b:=cH h.1 h.2
theorem Uf {c a b:Int} (hc:0 < c) (h:c*a≤c*b):a≤b:=Int.le_of_mul_le_mul_left h hc
theorem Qz {a b c p q r:Int} (hp:0 < p) (hq:0 < q) (hr:0 < r) (h1:a*q≤b*p) (h2:b*r≤c*q):a*r≤c*p:=by
 have k1:=Int.mul_le_mul_of_nonneg_right h1 (Int.le_of_lt hr)
 have k2:=Int.mul_le_mul_of_nonneg_right h2 (Int.le_of_lt hp)
 refine Uf hq ?_
 have e1:q*(a*r)=a*q*r:=by grind
 have e2:b*p*r=b*r*p:=by grind
 have e3:c*q*p=q*(c*p):=by grind
 omega
theorem Kh {p:Pt} (hp:p.In) (h:p.right=true):1≤p.w∧p.w≤1048576∧0≤p.r∧p.r < p.w:=by
 unfold Pt.right at h
 simp only [Bool.and_eq_true,decide_eq_true_eq] at h
 have:=Ej.1 h.1
 exact ⟨this.1,this.2,hp.2.1.1,h.2⟩
theorem OY {p q:Pt} (hp:p.In) (hq:q.In) (h1:p.right=true) (h2:q.right=true) {b:Int} (hn:Vs (sn q.t b) (sn p.t b)):JI p q=CX (dist p b*q.w) (dist q b*p.w):=by
 have a1:=Kh hp h1
 have a2:=Kh hq h2
 unfold JI
 rw [sW hn]
 have d1:dist p b=p.w*sn p.t b+p.r:=rfl
 have d2:dist q b=q.w*sn q.t b+q.r:=rfl
 generalize sn p.t b=x at *
 generalize sn q.t b=y at *
 have e1:dist p b*q.w=p.w*q.w*x+p.r*q.w:=by rw [d1];grind
 have e2:dist q b*p.w=p.w*q.w*y+q.r*p.w:=by rw [d2];grind
 have m0:0 < p.w*q.w:=Int.mul_pos om om
 have m1:0≤p.r*q.w:=Int.mul_nonneg om om
 have m2:0≤q.r*p.w:=Int.mul_nonneg om om
 have m3:p.r*q.w < p.w*q.w:=Int.mul_lt_mul_of_pos_right om om
 have m4:q.r*p.w < p.w*q.w:=by rw [Int.mul_comm p.w];exact Int.mul_lt_mul_of_pos_right om om
 rw [e1,e2]
 generalize p.w*q.w=W at *
 generalize p.r*q.w=u at *
 generalize q.r*p.w=v at *
 rcases Int.lt_trichotomy x y with h | h | h
 ·have:W*x+W≤W*y:=by have:=Int.mul_le_mul_of_nonneg_left (show x+1≤y by omega) (Int.le_of_lt m0);rwa [Int.mul_add,Int.mul_one] at this
  have c1:CX 0 (y - x)=-1:=by unfold CX;rw [if_pos om]
  rw [c1,if_neg (by decide)]
  unfold CX;rw [if_pos om]
 ·subst h
  have c1:CX 0 (x - x)=0:=by unfold CX;rw [if_neg om,if_neg om]
  rw [if_pos c1]
  unfold CX
  by_cases k:u < v
  ·rw [if_pos k,if_pos om]
  ·rw [if_neg k,if_neg (show ¬ W*x+u < W*x+v by omega)]
   by_cases k':v < u
   ·rw [if_pos k',if_pos om]
   ·rw [if_neg k',if_neg om]
 ·have:W*y+W≤W*x:=by have:=Int.mul_le_mul_of_nonneg_left (show y+1≤x by omega) (Int.le_of_lt m0);rwa [Int.mul_add,Int.mul_one] at this
  have c1:CX 0 (y - x)=1:=by unfold CX;rw [if_neg om,if_pos om]
  rw [c1,if_neg (by decide)]
  unfold CX;rw [if_neg om,if_pos om]
theorem Y9 {α:Type} {c:α→α→Int} {oV:α→α→Bool} {S:α→Prop} (le:α→α→Prop) (h1:∀ a b,S a→S b→(c a b < 0↔¬ le b a)) (h0:∀ a b,S a→S b→(c a b=0↔le a b∧le b a)) (tot:∀ a b,S a→S b→le a b∨le b a)
 (tr:∀ a b d,S a→S b→S d→le a b→le b d→le a d) (o:Cp oV S):Cp (fun a b=>decide (c a b < 0) || (decide (c a b=0) && oV a b)) S where
 irr a ha:=by
  have k1:=h1 a a ha ha
  have:=tot a a ha ha
  simp only [o.irr a ha,Bool.and_false,Bool.or_false,decide_eq_false_iff_not,k1]
  rcases this with h | h <;> exact fun k=>k h
 tr a b d ha hb hd k1 k2:=by
  simp only [Bool.or_eq_true,Bool.and_eq_true,decide_eq_true_eq] at k1 k2 ⊢
  rw [h1 a b ha hb,h0 a b ha hb] at k1
  rw [h1 b d hb hd,h0 b d hb hd] at k2
  rw [h1 a d ha hd,h0 a d ha hd]
  have Gq:=tot a b ha hb
  have tbd:=tot b d hb hd
  have x1:=tr d a b hd ha hb
  have x2:=tr b d a hb hd ha
  have x3:=tr a b d ha hb hd
  have x4:=tr d b a hd hb ha
  rcases k1 with k1 | ⟨⟨k1,k1'⟩,k3⟩
  ·left;intro hda
   rcases k2 with k2 | ⟨⟨k2,k2'⟩,k4⟩
   ·rcases tbd with h | h
    ·exact k1 (x2 h hda)
    ·exact k2 h
   ·exact k1 (x2 k2 hda)
  ·rcases k2 with k2 | ⟨⟨k2,k2'⟩,k4⟩
   ·left;intro hda
    exact k2 (x1 hda k1)
   ·right;exact ⟨⟨x3 k1 k2,x4 k2' k1'⟩,o.tr a b d ha hb hd k3 k4⟩
 tri a b ha hb k1 k2:=by
  simp only [Bool.or_eq_false_iff,Bool.and_eq_false_iff,decide_eq_false_iff_not] at k1 k2
  rw [h1 a b ha hb,h0 a b ha hb] at k1
  rw [h1 b a hb ha,h0 b a hb ha] at k2
  have q1:le b a:=Classical.not_not.1 k1.1
  have q2:le a b:=Classical.not_not.1 k2.1
  rcases k1.2 with h | h
  ·exact absurd ⟨q2,q1⟩ h
  ·rcases k2.2 with h' | h'
   ·exact absurd ⟨q1,q2⟩ h'
   ·exact o.tri a b ha hb h h'
structure K3 (b lo:Int) (x:It):Prop where
 isin:x.In
 right:x.right=true
 low:lo≤sn x.p.t b
 high:sn x.p.t b+sn x.d.t x.p.t≤lo+4611686018427387904
theorem iright_all {x:It} (hx:x.In) (h:x.right=true):x.p.right=true∧x.d.right=true∧x.p.w=x.d.w∧0 < x.id∧0≤sn x.d.t x.p.t∧sn x.d.t x.p.t≤1152921504606846976∧(1≤x.p.w∧x.p.w≤1048576∧0≤x.p.r∧x.p.r < x.p.w)∧0≤x.d.r∧x.d.r < x.p.w:=by
 unfold It.right at h
 simp only [Bool.and_eq_true,decide_eq_true_eq] at h
 obtain ⟨⟨⟨⟨⟨h1,h2⟩,h3⟩,h4⟩,h5⟩,h6⟩:=h
 have a1:=Kh hx.1 h1
 have a2:=Kh hx.2.2 h2
 exact ⟨h1,h2,h3,h4,h5,h6,a1,a2.2.2.1,by omega⟩
def I2 (lo:Int):Prop:=-4611686018427387904≤lo∧lo≤0
theorem K3.dead {b lo:Int} {x:It} (h:K3 b lo x) (hm:I2 lo):sn x.d.t b=sn x.p.t b+sn x.d.t x.p.t∧0≤sn x.d.t x.p.t∧sn x.p.t b≤lo+4611686018427387904:=by
 obtain ⟨_,_,_,_,h5,h6,_⟩:=iright_all h.isin h.right
 have h1:=h.low
 have h2:=h.high
 unfold I2 at hm
 refine ⟨?_,h5,by omega⟩
 unfold sn at *;omega
theorem K3.move {b lo c:Int} {x:It} (h:K3 b lo x) (hm:I2 lo) (h0:lo≤sn c b) (h1:sn c b≤lo+4611686018427387904):K3 c (lo - sn c b) x∧sn x.p.t c=sn x.p.t b - sn c b:=by
 have d:=h.dead hm
 have k1:=h.low
 have k2:=h.high
 unfold I2 at hm
 have e:sn x.p.t c=sn x.p.t b - sn c b:=cH om om
 exact ⟨⟨h.isin,h.right,by omega,by omega⟩,e⟩
theorem dN {p:Pt} {b c k:Int} (e:sn p.t c=sn p.t b - k):dist p c=dist p b - p.w*k:=by
 unfold dist;rw [e,Int.mul_sub];omega
def U3 (b:Int) (p q:Pt):Prop:=dist p b*q.w≤dist q b*p.w
theorem cmp_le {p q:Pt} {b:Int} (e:JI p q=CX (dist p b*q.w) (dist q b*p.w)):(JI p q < 0↔¬ U3 b q p)∧(JI p q=0↔U3 b p q∧U3 b q p):=by
 rw [e];unfold U3 CX
 split
 ·constructor <;> constructor <;> intro <;> first | omega | skip
 ·split
  ·constructor <;> constructor <;> intro <;> first | omega | skip
  ·constructor <;> constructor <;> intro <;> first | omega | skip
theorem ahead_ord {b lo:Int} (hm:I2 lo) {S:It→Prop} (hS:∀ x,S x→K3 b lo x) (hi:∀ x y,S x→S y→x.id=y.id→x=y):Cp ahead S:=by
 have hc:∀ x y,S x→S y→JI x.p y.p=CX (dist x.p b*y.p.w) (dist y.p b*x.p.w):=fun x y hx hy=>by
  have a1:=hS x hx
  have a2:=hS y hy
  have d1:=a1.dead hm
  have d2:=a2.dead hm
  have l1:=a1.low
  have l2:=a2.low
  exact OY a1.isin.1 a2.isin.1 (iright_all a1.isin a1.right).1 (iright_all a2.isin a2.right).1 (by unfold Vs;unfold I2 at hm;omega)
 have hw:∀ x,S x→0 < x.p.w:=fun x hx=>by have:=(iright_all (hS x hx).isin (hS x hx).right).2.2.2.2.2.2.1;omega
 have oid:Cp (fun x y:It=>decide (x.id < y.id)) S:=by
  constructor
  ·intro a _;simp
  ·intro a b c _ _ _ h1 h2;simp only [decide_eq_true_eq] at *;omega
  ·intro a b ha hb h1 h2;simp only [decide_eq_false_iff_not] at *;exact hi a b ha hb om
 exact Y9 (c:=fun x y:It=>JI x.p y.p) (fun x y=>U3 b x.p y.p) (fun x y hx hy=>(cmp_le (hc x y hx hy)).1) (fun x y hx hy=>(cmp_le (hc x y hx hy)).2) (fun x y _ _=>Int.le_total _ _) (fun x y z hx hy hz h1 h2=>Qz (hw x hx) (hw y hy) (hw z hz) h1 h2) oid
theorem rI {b lo:Int} (hm:I2 lo) {S:It→Prop} (hS:∀ x,S x→K3 b lo x) (hi:∀ x y,S x→S y→x.id=y.id→x=y):Cp due S:=by
 have hc:∀ x y,S x→S y→JI x.d y.d=CX (dist x.d b*y.d.w) (dist y.d b*x.d.w):=fun x y hx hy=>by
  have a1:=hS x hx
  have a2:=hS y hy
  have d1:=a1.dead hm
  have d2:=a2.dead hm
  have l1:=a1.low
  have l2:=a2.low
  have r1:=iright_all a1.isin a1.right
  have r2:=iright_all a2.isin a2.right
  have u1:=a1.high
  have u2:=a2.high
  exact OY a1.isin.2.2 a2.isin.2.2 r1.2.1 r2.2.1 (by unfold Vs;unfold I2 at hm;omega)
 have hw:∀ x,S x→0 < x.d.w:=fun x hx=>by
  have:=iright_all (hS x hx).isin (hS x hx).right
  have h3:=this.2.2.1
  have h4:=this.2.2.2.2.2.2.1
  omega
 exact Y9 (c:=fun x y:It=>JI x.d y.d) (fun x y=>U3 b x.d y.d) (fun x y hx hy=>(cmp_le (hc x y hx hy)).1) (fun x y hx hy=>(cmp_le (hc x y hx hy)).2) (fun x y _ _=>Int.le_total _ _) (fun x y z hx hy hz h1 h2=>Qz (hw x hx) (hw y hy) (hw z hz) h1 h2) (ahead_ord hm hS hi)
end Go.Proofs.Q0
namespace Go.Proofs.Q0
open Go Go.RowKit
attribute [local irreducible] XS XC XA AX AO A7 A0 AZ A8 Aa AV SE
structure Mn where
 b:Int
 a:Int
 w:Int
 n:Int
deriving DecidableEq
abbrev Mn.cells (m:Mn):List Value:=[.int .u64 m.b,.int .i64 (m.a / 18446744073709551616),.int .u64 (m.a % 18446744073709551616),.int .u64 m.w,.int .i64 m.n]
def mv (m:Mn):Value := .agg #[.int .u64 m.b,.int .i64 (m.a / 18446744073709551616),.int .u64 (m.a % 18446744073709551616),.int .u64 m.w,.int .i64 m.n]
def Mn.In (m:Mn):Prop:=BV m.b∧A9 m.a∧BV m.w∧In64 m.n
instance (m:Mn):Decidable m.In:=by unfold Mn.In;infer_instance
def Mn.zero:Mn:=⟨0,0,0,0⟩
def Mn.right (m:Mn):Bool:=bif decide (m.n=0) then decide (m.w=0) && decide (m.a=0) else decide (0 < m.n) && decide (m.n≤32) && decide (m.n≤m.w) && decide (m.w≤m.n*1048576)
theorem aAl (x:Int):(By (.int .i64 (x / 18446744073709551616)) (.int .i64 0) && By (.int .u64 (x % 18446744073709551616)) (.int .u64 0))=decide (x=0):=by
 show ((x / 18446744073709551616 == 0) && (x % 18446744073709551616 == 0))=_
 by_cases h:x=0
 ·subst h;decide
 ·rw [decide_eq_false h]
  cases h1:(x / 18446744073709551616 == 0)
  ·rfl
  ·cases h2:(x % 18446744073709551616 == 0)
   ·rfl
   ·simp only [beq_iff_eq] at h1 h2
    omega
theorem FH (m:Mn) (w0:World):AM Tryz.prog 85 #[mv m] w0 fun v w'=>v = .bool m.right∧AA [] w0 w':=by
 have hs:=St.nil w0
 refine AQ Tryz.func85 Tryz.ntmps85 (k:=?_)
 repeat' (first|refine Sf ?_|(refine bx hs (k:=?_);intro b w hz hs)|((with_reducible apply BM);exact rfl;exact rfl;intro c hc;(fail_if_success have:true=c:=hc);(fail_if_success have:false=c:=hc);cases c)|refine Au rfl (fun hc=>?_) fun hc=>?_|fail)
 all_goals (refine AF ?_)
 all_goals refine ⟨?_,hs.AD rfl⟩
 all_goals clear hs
 all_goals unfold Mn.right packed
 all_goals try rw [aAl]
 all_goals simp only [wrap_u64] at *
 ·rw [decide_eq_true ‹m.n=0›,cond_true];simp only [beq_eq_false_iff_ne,ne_eq] at hc;rw [decide_eq_false hc];rfl
 ·rw [decide_eq_true ‹m.n=0›,cond_true];simp only [beq_iff_eq] at hc;rw [decide_eq_true hc];rfl
 ·rw [decide_eq_false ‹¬ m.n=0›,cond_false,hc];rfl
 ·rw [decide_eq_false ‹¬ m.n=0›,cond_false,‹decide (0 < m.n)=true›,hc];rfl
 ·have h1:=of_decide_eq_true ‹decide (0 < m.n)=true›
  have h2:=of_decide_eq_true ‹decide (m.n≤32)=true›
  rw [show m.n % 18446744073709551616=m.n by omega] at hc
  rw [decide_eq_false ‹¬ m.n=0›,cond_false,‹decide (0 < m.n)=true›,‹decide (m.n≤32)=true›,hc];rfl
 ·have h1:=of_decide_eq_true ‹decide (0 < m.n)=true›
  have h2:=of_decide_eq_true ‹decide (m.n≤32)=true›
  rw [show m.n % 18446744073709551616=m.n by omega] at hc
  rw [decide_eq_false ‹¬ m.n=0›,cond_false,‹decide (0 < m.n)=true›,‹decide (m.n≤32)=true›,hc,show m.n % 18446744073709551616*1048576 % 18446744073709551616=m.n*1048576 by omega];rfl
theorem Cd {m:Mn}:m.right=true↔(m.n=0∧m.w=0∧m.a=0)∨(0 < m.n∧m.n≤32∧m.n≤m.w∧m.w≤m.n*1048576):=by
 unfold Mn.right
 by_cases h:m.n=0
 ·rw [decide_eq_true h,cond_true];simp;omega
 ·rw [decide_eq_false h,cond_false];simp;omega
def oL (o:Option Mn):Value := .tuple #[mv (o.getD .zero),.bool o.isSome]
theorem E6 {p:Pt}:p.right=true↔1≤p.w∧p.w≤1048576∧p.r < p.w:=by
 unfold Pt.right;rw [Bool.and_eq_true,Ej,decide_eq_true_eq,and_assoc]
def EJ (m:Mn) (p:Pt):Option Mn:=if m.right=true∧p.right=true∧m.n≠32∧A9 (m.a+dist p m.b) then some ⟨m.b,m.a+dist p m.b,m.w+p.w,m.n+1⟩ else none
theorem Sh {m:Mn} {p:Pt} {o:Mn} (hm:m.In) (h:EJ m p=some o):o.In:=by
 unfold EJ at h
 split at h
 ·rename_i hc
  cases h
  obtain ⟨h1,h2,h3,h4⟩:=hc
  have h1:=Cd.1 h1
  have h2:=E6.1 h2
  refine ⟨hm.1,h4,?_,?_⟩
  ·show 0≤m.w+p.w∧m.w+p.w < 18446744073709551616;omega
  ·show -9223372036854775808≤m.n+1∧m.n+1 < 9223372036854775808;omega
 ·cases h
theorem WV (m:Mn) (p:Pt) (hm:m.In) (hp':p.In) (w0:World):AM Tryz.prog 223 #[mv m,pv p] w0 fun v w'=>v=oL (EJ m p)∧AA [] w0 w':=by
 have hs:=St.nil w0
 refine AQ Tryz.func223 Tryz.ntmps223 (k:=?_)
 repeat' (first|refine Sa ?_|(refine al hs (k:=?_);intro b w hz hs)|(refine bx hs (k:=?_);intro b w hz hs)|fail)
 refine AY hs (h:=by exact FH m _) (k:=?_);intro w' ho hs;repeat' (first|refine Se ?_|(refine AU hs (k:=?_);intro w hs)|((with_reducible apply BM);exact rfl;exact rfl;intro c hc;(fail_if_success have:true=c:=hc);(fail_if_success have:false=c:=hc);cases c)|fail)
 ·refine AY hs (h:=by exact FI p _) (k:=?_);intro w' ho hs;repeat' (first|refine Se ?_|(refine AU hs (k:=?_);intro w hs)|((with_reducible apply BM);exact rfl;exact rfl;intro c hc;(fail_if_success have:true=c:=hc);(fail_if_success have:false=c:=hc);cases c)|refine Au rfl (fun hc=>?_) fun hc=>?_|fail)
  ·refine AF ?_
   refine ⟨?_,hs.AD rfl⟩
   have:EJ m p=none:=by unfold EJ;rw [if_neg (fun h=>h.2.2.1 ‹_›)]
   rw [this];rfl
  ·refine dr [] hs (k:=?_);intro hX w hs
   refine tks 0 5 ?_
   refine GS 10 6 hs (k:=?_);intro f X w hp;have hs:=hp.st
   apply BH 5 10 (f:=f) (X:=X) hX hp;exact rfl;exact rfl;(apply AR AI;exact rfl);kernel_rfl;kernel_rfl;kernel_rfl;kernel_rfl;(intro X Y;(repeat (first | exact A4 | refine A3 ?_ (by exact rfl))));(intro w' hs;first|exact AH hs.hold|exact AH hs.hold.tail|exact A6 rfl);intro f X w hp;have hs:=hp.st
   refine cl (h:=by exact Mi p m.b hp' _) (k:=?_)
   rintro v w' ⟨rfl,ho⟩;replace hp:=hp.only ho;replace hs:=hp.st;refine Jb ?_
   refine dn (k:=?_)
   apply BH 6 10 (f:=f) (X:=X) hX hp;exact rfl;exact rfl;(apply AR AI;exact rfl);kernel_rfl;kernel_rfl;kernel_rfl;kernel_rfl;(intro X Y;(repeat (first | exact A4 | refine A3 ?_ (by exact rfl))));(intro w' hs;first|exact AH hs.hold|exact AH hs.hold.tail|exact A6 rfl);intro f X w hp;have hs:=hp.st
   refine cl (h:=by exact Za m.a (dist p m.b) hm.2.1 (dist_in hp' _) _) (k:=?_)
   rintro v w' ⟨rfl,ho⟩;replace hp:=hp.only ho;replace hs:=hp.st;refine Jb ?_
   refine dn (k:=?_)
   refine tk 7 hX (hc:=by cases f <;> kernel_rfl) (k:=?_)
   refine tk 8 hX (hc:=by cases f <;> kernel_rfl) (k:=?_)
   refine tk 9 hX (hc:=by cases f <;> kernel_rfl) (k:=?_)
   apply B9 10 (f:=f) (X:=X) hX hp;exact rfl;(apply AR AI;exact rfl);kernel_rfl;kernel_rfl;(intro X Y;(repeat (first | exact A4 | refine A3 ?_ (by exact rfl))));(intro w' hs;first|exact AH hs.hold|exact AH hs.hold.tail|exact A6 rfl);intro b w hI hs
   refine dt 11 hX (k:=?_)
   repeat' (first|refine Nx.h ?_|(refine AU hs (k:=?_);intro w hs)|fail)
   refine dn (k:=?_)
   refine tk 12 hX (k:=?_)
   refine en (k:=?_)
   repeat' (first|refine Sa ?_|(refine AU hs (k:=?_);intro w hs)|refine xc_cond rfl (fun hc=>?_) fun hc=>?_|fail)
   ·refine AF ?_
    refine ⟨?_,hs.AD rfl⟩
    have h4:¬ A9 (m.a+dist p m.b):=by simpa using hc
    have:EJ m p=none:=by unfold EJ;rw [if_neg (fun h=>h4 h.2.2.2)]
    rw [this];rfl
   ·refine AF ?_
    refine ⟨?_,hs.AD rfl⟩
    have h4:A9 (m.a+dist p m.b):=by simpa using hc
    have h1:m.right=true:=by simpa using ‹(!m.right)=false›
    have h2:p.right=true:=by simpa using ‹(!p.right)=false›
    have:EJ m p=some ⟨m.b,m.a+dist p m.b,m.w+p.w,m.n+1⟩:=by unfold EJ;rw [if_pos ⟨h1,h2,‹_›,h4⟩]
    have h5:=Cd.1 h1
    have h6:=E6.1 h2
    have e1:tot (m.a+dist p m.b)=m.a+dist p m.b:=if_pos h4
    have e2:IntKind.u64.wrap (m.w+IntKind.u64.wrap p.w)=m.w+p.w:=by simp only [wrap_u64];omega
    have e3:IntKind.i64.wrap (m.n+1)=m.n+1:=by simp only [wrap_i64];omega
    rw [this,e1,e2,e3];rfl
  ·refine AF ?_
   refine ⟨?_,hs.AD rfl⟩
   have h2:p.right=false:=by simpa using hc
   have:EJ m p=none:=by unfold EJ;rw [if_neg (fun h=>by rw [h2] at h;cases h.2.1)]
   rw [this];rfl
 ·refine AF ?_
  refine ⟨?_,hs.AD rfl⟩
  have h2:m.right=false:=by simpa using hc
  have:EJ m p=none:=by unfold EJ;rw [if_neg (fun h=>by rw [h2] at h;cases h.1)]
  rw [this];rfl
def Fe (m:Mn) (p:Pt):Mn:=⟨m.b,m.a - dist p m.b,m.w - p.w,m.n - 1⟩
def Fg (m:Mn) (p:Pt):Option Mn:=if m.right=true∧p.right=true∧m.n≠0∧p.w≤m.w∧A9 (m.a - dist p m.b)∧(Fe m p).right=true then some (Fe m p) else none
theorem sU {m:Mn} {p:Pt} {o:Mn} (hm:m.In) (h:Fg m p=some o):o.In:=by
 unfold Fg at h
 split at h
 ·rename_i hc
  cases h
  obtain ⟨h1,h2,h3,h4,h5,h6⟩:=hc
  have h1:=Cd.1 h1
  have h2:=E6.1 h2
  refine ⟨hm.1,h5,?_,?_⟩
  ·show 0≤m.w - p.w∧m.w - p.w < 18446744073709551616;omega
  ·show -9223372036854775808≤m.n - 1∧m.n - 1 < 9223372036854775808;omega
 ·cases h
theorem fI (m:Mn) (p:Pt) (hm:m.In) (hp':p.In) (w0:World):AM Tryz.prog 220 #[mv m,pv p] w0 fun v w'=>v=oL (Fg m p)∧AA [] w0 w':=by
 have hs:=St.nil w0
 refine AQ Tryz.func220 Tryz.ntmps220 (k:=?_)
 repeat' (first|refine Sa ?_|(refine al hs (k:=?_);intro b w hz hs)|(refine bx hs (k:=?_);intro b w hz hs)|fail)
 refine AY hs (h:=by exact FH m _) (k:=?_);intro w' ho hs;repeat' (first|refine Se ?_|(refine AU hs (k:=?_);intro w hs)|((with_reducible apply BM);exact rfl;exact rfl;intro c hc;(fail_if_success have:true=c:=hc);(fail_if_success have:false=c:=hc);cases c)|fail)
 ·refine AY hs (h:=by exact FI p _) (k:=?_);intro w' ho hs;repeat' (first|refine Se ?_|(refine AU hs (k:=?_);intro w hs)|((with_reducible apply BM);exact rfl;exact rfl;intro c hc;(fail_if_success have:true=c:=hc);(fail_if_success have:false=c:=hc);cases c)|refine Au rfl (fun hc=>?_) fun hc=>?_|fail)
  ·simp only [wrap_u64] at hc
   have hU:=hp'.2.2
   unfold F7 at hU
   refine AF ?_
   refine ⟨?_,hs.AD rfl⟩
   have:Fg m p=none:=by unfold Fg;rw [if_neg (fun h=>by have:=h.2.2.2.1;omega)]
   rw [this];rfl
  ·have h1:m.right=true:=by simpa using ‹(!m.right)=false›
   have h2:p.right=true:=by simpa using ‹(!p.right)=false›
   have h3:m.n≠0:=by simpa using ‹(m.n == 0)=false›
   have hU:=hp'.2.2
   have e0:=LJ hU
   have M0:p.w≤m.w:=by rw [e0] at hc;omega
   have h5:=Cd.1 h1
   have h6:=E6.1 h2
   refine dr [] hs (k:=?_);intro hX w hs
   refine tks 0 5 ?_
   refine GS 10 6 hs (k:=?_);intro f X w hp;have hs:=hp.st
   apply BH 5 10 (f:=f) (X:=X) hX hp;exact rfl;exact rfl;(apply AR AI;exact rfl);kernel_rfl;kernel_rfl;kernel_rfl;kernel_rfl;(intro X Y;(repeat (first | exact A4 | refine A3 ?_ (by exact rfl))));(intro w' hs;first|exact AH hs.hold|exact AH hs.hold.tail|exact A6 rfl);intro f X w hp;have hs:=hp.st
   refine cl (h:=by exact Mi p m.b hp' _) (k:=?_)
   rintro v w' ⟨rfl,ho⟩;replace hp:=hp.only ho;replace hs:=hp.st;refine Jb ?_
   refine dn (k:=?_)
   apply BH 6 10 (f:=f) (X:=X) hX hp;exact rfl;exact rfl;(apply AR AI;exact rfl);kernel_rfl;kernel_rfl;kernel_rfl;kernel_rfl;(intro X Y;(repeat (first | exact A4 | refine A3 ?_ (by exact rfl))));(intro w' hs;first|exact AH hs.hold|exact AH hs.hold.tail|exact A6 rfl);intro f X w hp;have hs:=hp.st
   refine cl (h:=by exact Uj m.a (dist p m.b) hm.2.1 (dist_in hp' _) _) (k:=?_)
   rintro v w' ⟨rfl,ho⟩;replace hp:=hp.only ho;replace hs:=hp.st;refine Jb ?_
   refine dn (k:=?_)
   refine tk 7 hX (hc:=by cases f <;> kernel_rfl) (k:=?_)
   refine tk 8 hX (hc:=by cases f <;> kernel_rfl) (k:=?_)
   refine tk 9 hX (hc:=by cases f <;> kernel_rfl) (k:=?_)
   apply B9 10 (f:=f) (X:=X) hX hp;exact rfl;(apply AR AI;exact rfl);kernel_rfl;kernel_rfl;(intro X Y;(repeat (first | exact A4 | refine A3 ?_ (by exact rfl))));(intro w' hs;first|exact AH hs.hold|exact AH hs.hold.tail|exact A6 rfl);intro b w hI hs
   refine dt 11 hX (k:=?_)
   repeat' (first|refine Nx.h ?_|(refine AU hs (k:=?_);intro w hs)|fail)
   refine dn (k:=?_)
   refine tk 12 hX (k:=?_)
   refine en (k:=?_)
   repeat' (first|refine Se ?_|(refine AU hs (k:=?_);intro w hs)|(refine al hs (k:=?_);intro b w hz hs)|((with_reducible apply BM);exact rfl;exact rfl;intro c hc;(fail_if_success have:true=c:=hc);(fail_if_success have:false=c:=hc);cases c)|fail)
   ·have h4:A9 (m.a - dist p m.b):=by simpa using hc
    have e1:tot (m.a - dist p m.b)=m.a - dist p m.b:=if_pos h4
    have e2:IntKind.u64.wrap (m.w - IntKind.u64.wrap p.w)=m.w - p.w:=by simp only [wrap_u64];omega
    have e3:IntKind.i64.wrap (m.n - 1)=m.n - 1:=by simp only [wrap_i64];omega
    refine cl (h:=by exact FH ⟨m.b,tot (m.a - dist p m.b),IntKind.u64.wrap (m.w - IntKind.u64.wrap p.w),IntKind.i64.wrap (m.n - 1)⟩ _) (k:=?_)
    rw [show (⟨m.b,tot (m.a - dist p m.b),IntKind.u64.wrap (m.w - IntKind.u64.wrap p.w),IntKind.i64.wrap (m.n - 1)⟩:Mn)=Fe m p by rw [e1,e2,e3];rfl]
    rintro v w' ⟨rfl,ho⟩;replace hs:=hs.AK ho;repeat' (first|refine Sa ?_|(refine AU hs (k:=?_);intro w hs)|refine xc_cond rfl (fun hc=>?_) fun hc=>?_|fail)
    ·refine AF ?_
     refine ⟨?_,hs.AD rfl⟩
     have h7:(Fe m p).right=false:=by simpa using hc
     have:Fg m p=none:=by unfold Fg;rw [if_neg (fun h=>by rw [h7] at h;cases h.2.2.2.2.2)]
     rw [this];rfl
    ·refine AF ?_
     refine ⟨?_,hs.AD rfl⟩
     have h7:(Fe m p).right=true:=by simpa using hc
     have:Fg m p=some (Fe m p):=by unfold Fg;rw [if_pos ⟨h1,h2,h3,M0,h4,h7⟩]
     rw [this,e1,e2,e3];rfl
   ·refine AF ?_
    refine ⟨?_,hs.AD rfl⟩
    have h4:¬ A9 (m.a - dist p m.b):=by simpa using hc
    have:Fg m p=none:=by unfold Fg;rw [if_neg (fun h=>h4 h.2.2.2.2.1)]
    rw [this];rfl
  ·refine AF ?_
   refine ⟨?_,hs.AD rfl⟩
   have:Fg m p=none:=by unfold Fg;rw [if_neg (fun h=>h.2.2.1 (by simpa using hc))]
   rw [this];rfl
  ·refine AF ?_
   refine ⟨?_,hs.AD rfl⟩
   have:Fg m p=none:=by unfold Fg;rw [if_neg (fun h=>absurd h.2.1 (by simpa using hc))]
   rw [this];rfl
 ·refine AF ?_
  refine ⟨?_,hs.AD rfl⟩
  have h2:m.right=false:=by simpa using hc
  have:Fg m p=none:=by unfold Fg;rw [if_neg (fun h=>by rw [h2] at h;cases h.1)]
  rw [this];rfl
def Ic (m:Mn) (t:Int):Option Mn:=if m.right=true∧A9 (m.a - m.w*sn t m.b) then some ⟨t,m.a - m.w*sn t m.b,m.w,m.n⟩ else none
theorem rR {m:Mn} {t:Int} {o:Mn} (hm:m.In) (ht:BV t) (h:Ic m t=some o):o.In:=by
 unfold Ic at h
 split at h
 ·rename_i hc
  cases h
  exact ⟨ht,hc.2,hm.2.2⟩
 ·cases h
theorem ZL (m:Mn) (t:Int) (hm:m.In) (w0:World):AM Tryz.prog 238 #[mv m,.int .u64 t] w0 fun v w'=>v=oL (Ic m t)∧AA [] w0 w':=by
 have hs:=St.nil w0
 refine AQ Tryz.func238 Tryz.ntmps238 (k:=?_)
 repeat' (first|refine Sa ?_|(refine al hs (k:=?_);intro b w hz hs)|(refine bx hs (k:=?_);intro b w hz hs)|fail)
 refine AY hs (h:=by exact FH m _) (k:=?_);intro w' ho hs;repeat' (first|refine Sa ?_|(refine AU hs (k:=?_);intro w hs)|refine xc_cond rfl (fun hc=>?_) fun hc=>?_|fail)
 ·refine AF ?_
  refine ⟨?_,hs.AD rfl⟩
  have h2:m.right=false:=by simpa using hc
  have:Ic m t=none:=by unfold Ic;rw [if_neg (fun h=>by rw [h2] at h;cases h.1)]
  rw [this];rfl
 ·have h1:m.right=true:=by simpa using hc
  have h5:=Cd.1 h1
  have h6:=sn_rng t m.b
  have h7:=mul_rng (w:=m.w) (s:=sn t m.b) (W:=33554432) (S:=9223372036854775808) hm.2.2.1.1 om om om
  have hU:=hm.2.2.1
  refine dr [] hs (k:=?_);intro hX w hs
  refine tks 0 2 ?_
  refine tks 3 3 ?_
  refine GS 11 6 hs (k:=?_);intro f X w hp;have hs:=hp.st
  apply BH 2 11 (f:=f) (X:=X) hX hp;exact rfl;exact rfl;(apply AR AI;exact rfl);kernel_rfl;kernel_rfl;kernel_rfl;kernel_rfl;(intro X Y;(repeat (first | exact A4 | refine A3 ?_ (by exact rfl))));(intro w' hs;first|exact AH hs.hold|exact AH hs.hold.tail|exact A6 rfl);intro f X w hp;have hs:=hp.st
  refine cl (h:=by exact Oy m.w hU.1 hU.2 _) (k:=?_)
  rintro v w' ⟨rfl,ho⟩;replace hp:=hp.only ho;replace hs:=hp.st;refine Jb ?_
  refine dn (k:=?_)
  apply BH 6 11 (f:=f) (X:=X) hX hp;exact rfl;exact rfl;(apply AR AI;exact rfl);kernel_rfl;kernel_rfl;kernel_rfl;kernel_rfl;(intro X Y;(repeat (first | exact A4 | refine A3 ?_ (by exact rfl))));(intro w' hs;first|exact AH hs.hold|exact AH hs.hold.tail|exact A6 rfl);intro f X w hp;have hs:=hp.st
  refine cl (h:=by exact IU t m.b _) (k:=?_)
  rintro v w' ⟨rfl,ho⟩;replace hp:=hp.only ho;replace hs:=hp.st;refine Jb ?_
  refine dn (k:=?_)
  apply BH 7 11 (f:=f) (X:=X) hX hp;exact rfl;exact rfl;(apply AR AI;exact rfl);kernel_rfl;kernel_rfl;kernel_rfl;kernel_rfl;(intro X Y;(repeat (first | exact A4 | refine A3 ?_ (by exact rfl))));(intro w' hs;first|exact AH hs.hold|exact AH hs.hold.tail|exact A6 rfl);intro f X w hp;have hs:=hp.st
  refine cl (h:=by exact W6 m.w (sn t m.b) (by unfold A9;omega) om om (by unfold A9;omega) _) (k:=?_)
  rintro v w' ⟨rfl,ho⟩;replace hp:=hp.only ho;replace hs:=hp.st;refine Jb ?_
  refine dn (k:=?_)
  refine tk 8 hX (hc:=by cases f <;> kernel_rfl) (k:=?_)
  refine tk 9 hX (hc:=by cases f <;> kernel_rfl) (k:=?_)
  refine tk 10 hX (hc:=by cases f <;> kernel_rfl) (k:=?_)
  apply B9 11 (f:=f) (X:=X) hX hp;exact rfl;(apply AR AI;exact rfl);kernel_rfl;kernel_rfl;(intro X Y;(repeat (first | exact A4 | refine A3 ?_ (by exact rfl))));(intro w' hs;first|exact AH hs.hold|exact AH hs.hold.tail|exact A6 rfl);intro b w hI hs
  refine dt 12 hX (k:=?_)
  repeat' (first|refine Nx.h ?_|(refine AU hs (k:=?_);intro w hs)|fail)
  refine dn (k:=?_)
  refine tk 13 hX (k:=?_)
  refine en (k:=?_)
  refine Ja ?_
  refine AY hs (h:=by exact Uj m.a (m.w*sn t m.b) hm.2.1 (by unfold A9;omega) _) (k:=?_);intro w' ho hs;repeat' (first|refine Sa ?_|(refine AU hs (k:=?_);intro w hs)|(refine al hs (k:=?_);intro b w hz hs)|refine xc_cond rfl (fun hc=>?_) fun hc=>?_|fail)
  ·refine AF ?_
   refine ⟨?_,hs.AD rfl⟩
   have h4:¬ A9 (m.a - m.w*sn t m.b):=by simpa using hc
   have:Ic m t=none:=by unfold Ic;rw [if_neg (fun h=>h4 h.2)]
   rw [this];rfl
  ·refine AF ?_
   refine ⟨?_,hs.AD rfl⟩
   have h4:A9 (m.a - m.w*sn t m.b):=by simpa using hc
   have:Ic m t=some ⟨t,m.a - m.w*sn t m.b,m.w,m.n⟩:=by unfold Ic;rw [if_pos ⟨h1,h4⟩]
   have e1:tot (m.a - m.w*sn t m.b)=m.a - m.w*sn t m.b:=if_pos h4
   rw [this,e1];rfl
def IW (m:Mn):Option Int:=if m.right=true∧m.n≠0∧In64 (m.a / m.w) then some (lat m.b (m.a / m.w)) else none
def tmV (o:Option Int):Value := .tuple #[.int .u64 (o.getD 0),.bool o.isSome]
theorem Ng (m:Mn) (hm:m.In) (w0:World):AM Tryz.prog 45 #[mv m] w0 fun v w'=>v=tmV (IW m)∧AA [] w0 w':=by
 have hs:=St.nil w0
 refine AQ Tryz.func45 Tryz.ntmps45 (k:=?_)
 repeat' (first|refine Sa ?_|(refine bx hs (k:=?_);intro b w hz hs)|fail)
 refine AY hs (h:=by exact FH m _) (k:=?_);intro w' ho hs;repeat' (first|refine Se ?_|((with_reducible apply BM);exact rfl;exact rfl;intro c hc;(fail_if_success have:true=c:=hc);(fail_if_success have:false=c:=hc);cases c)|refine Au rfl (fun hc=>?_) fun hc=>?_|fail)
 ·refine AF ?_
  refine ⟨?_,hs.AD rfl⟩
  have:IW m=none:=by unfold IW;rw [if_neg (fun h=>h.2.1 ‹_›)]
  rw [this];rfl
 ·have h1:m.right=true:=by simpa using ‹(!m.right)=false›
  have h5:=Cd.1 h1
  have hU:=hm.2.2.1
  refine AY hs (h:=by exact Nf m.a m.w hm.2.1 om hU.2 _) (k:=?_);intro w' ho hs;repeat' (first|refine Sa ?_|(refine AU hs (k:=?_);intro w hs)|(refine al hs (k:=?_);intro b w hz hs)|fail)
  refine AY hs (h:=by exact rC (m.a / m.w) (div_in hm.2.1 om) _) (k:=?_);intro w' ho hs;repeat' (first|refine Sa ?_|refine xc_cond rfl (fun hc=>?_) fun hc=>?_|fail)
  ·refine AF ?_
   refine ⟨?_,hs.AD rfl⟩
   have h4:¬ In64 (m.a / m.w):=by simpa using hc
   have:IW m=none:=by unfold IW;rw [if_neg (fun h=>h4 h.2.2)]
   rw [this];rfl
  ·have h4:In64 (m.a / m.w):=by simpa using hc
   refine AY hs (h:=by exact VT m.b (sml (m.a / m.w)) _) (k:=?_);intro w' ho hs;refine Jc ?_
   refine AF ?_
   refine ⟨?_,hs.AD rfl⟩
   have:IW m=some (lat m.b (m.a / m.w)):=by unfold IW;rw [if_pos ⟨h1,‹_›,h4⟩]
   have e1:sml (m.a / m.w)=m.a / m.w:=if_pos h4
   rw [this,e1];rfl
 ·refine AF ?_
  refine ⟨?_,hs.AD rfl⟩
  have h2:m.right=false:=by simpa using hc
  have:IW m=none:=by unfold IW;rw [if_neg (fun h=>by rw [h2] at h;cases h.1)]
  rw [this];rfl
theorem Nv:A9 0:=by decide
theorem nS:BV 0:=by decide
theorem SA:In64 0:=by decide
def LL:Mn→List Pt→Option Mn
 | m,[]=>some m
 | m,p :: ps=>(EJ m p).bind fun m=>LL m ps
def ofM (base:Int) (ps:List Pt):Option Mn:=LL ⟨base,0,0,0⟩ ps
theorem Wl:∀ (l:List Pt) (m:Mn) (p:Pt),LL m (l ++ [p])=(LL m l).bind fun m=>EJ m p
 | [],m,p=>by
   simp only [List.nil_append,LL,Option.bind_some]
   cases EJ m p <;> rfl
 | q :: l,m,p=>by
   simp only [List.cons_append,LL]
   cases EJ m q with
   | none=>rfl
   | some m'=>exact Wl l m' p
theorem Ve:∀ (l r:List Pt) (m:Mn),LL m l=none→LL m (l ++ r)=none
 | [],r,m,h=>by simp [LL] at h
 | q :: l,r,m,h=>by
   simp only [List.cons_append,LL] at h ⊢
   cases h1:EJ m q with
   | none=>rfl
   | some m'=>rw [h1] at h;exact Ve l r m' h
theorem Hh (base:Int) (ps:List Pt) (sl:Value) (hbase:BV base) (hps:∀ p∈ps,p.In) (hlen:ps.length≤9223372036854775807) (w0:World) (hP:WJ w0 sl ps) :
 AM Tryz.prog 218 #[.int .u64 base,sl] w0 fun v w'=>v=oL (ofM base ps)∧AA [] w0 w':=by
 obtain ⟨ad,cap,rfl,hD⟩:=hP
 rw [List.length_map] at *
 have hs:=St.nil w0
 refine AQ Tryz.func218 Tryz.ntmps218 (k:=?_)
 refine Ag ?_
 refine Al ?_
 refine al hs (k:=?_);intro b4 w hz hs
 refine Jc ?_
 refine Al ?_
 refine vs (k:=?_)
 refine vs (k:=?_)
 refine al hs (k:=?_);intro b6 w hz hs
 repeat' (first|refine Sa ?_|(refine AU hs (k:=?_);intro w hs)|fail)
 refine BN (fun (_:Mn)=>[(4,.pointer (some ⟨b4,0,none⟩)),(6,.pointer (some ⟨b6,0,none⟩))]) (fun m w=>ofM base ps=some m∧St w0 D0 [(b6,.cells m.cells.toArray 108,true),(b4,.cells Mn.zero.cells.toArray 108,true)] w) ?_ ?_
 ·refine BD (fun (s:Nat × Mn)=>[(4,.pointer (some ⟨b4,0,none⟩)),(6,.pointer (some ⟨b6,0,none⟩)),(13,.slice ad ps.length cap),(14,.int .i64 (ps.length:Nat)),(15,.int .i64 (s.1:Nat))])
   (fun s w=>s.1≤ps.length∧ofM base (ps.take s.1)=some s.2∧s.2.In∧St w0 D0 [(b6,.cells s.2.cells.toArray 108,true),(b4,.cells Mn.zero.cells.toArray 108,true)] w)
   (fun s=>ps.length - s.1) (0,⟨base,0,0,0⟩) Ab ⟨Nat.zero_le _,rfl,⟨hbase,Nv,nS,SA⟩,hs⟩ fun s env w ⟨hi,ho,hin,hs⟩=>?_
  obtain ⟨i,m⟩:=s
  simp only at hi ho hin
  repeat' (first|refine Sa ?_|refine Au rfl (fun hc=>?_) fun hc=>?_|fail)
  ·have hlt:i < ps.length:=by omega
   obtain ⟨b,off,cs,fz,rfl,_,hb,hcs⟩:=hD (fun h=>by have:=congrArg List.length h;rw [List.length_map,List.length_nil] at this;omega)
   have hpk:=hcs i (Pt.cells ps[i]) (by rw [List.getElem?_map,List.getElem?_eq_getElem hlt];rfl)
   have ND:=hps ps[i] (List.getElem_mem hlt)
   have ei:=D2 hlt hlen
   have N7:ofM base (ps.take (i+1))=EJ m ps[i]:=by rw [C4 hlt];unfold ofM at ho ⊢;rw [Wl,ho];rfl
   have hno:EJ m ps[i]=none→ofM base ps=none:=fun h=>by
    have:=Ve (ps.take (i+1)) (ps.drop (i+1)) ⟨base,0,0,0⟩ (by rw [show LL ⟨base,0,0,0⟩ (ps.take (i+1))=ofM base (ps.take (i+1)) from rfl,N7,h])
    rwa [List.take_append_drop] at this
   generalize ps[i]=p at *
   refine ix (h0:=(by omega)) (h1:=(by omega)) (k:=?_)
   refine KH ((hs.AD rfl).block hb (by simp)) hpk (k:=?_)
   refine al hs (k:=?_);intro b8 w hz hs
   repeat' (first|refine Sa ?_|(refine AU hs (k:=?_);intro w hs)|fail)
   refine cl (h:=by exact WV m p hin ND _) (k:=?_)
   cases ha:EJ m p with
   | none =>
     rintro v w' ⟨rfl,ho⟩;replace hs:=hs.AK ho;repeat' (first|refine Sc ?_|(refine AU hs (k:=?_);intro w hs)|(refine al hs (k:=?_);intro b w hz hs)|fail)
     refine AF ?_
     refine ⟨?_,hs.AD rfl⟩
     rw [hno ha];rfl
   | some m' =>
     rintro v w' ⟨rfl,ho⟩;replace hs:=hs.AK ho;repeat' (first|refine Sd ?_|(refine AU hs (k:=?_);intro w hs)|(refine al hs (k:=?_);intro b w hz hs)|fail)
     rw [ha] at N7
     exact A2 (i+1,m') (by show ps.length - (i+1) < ps.length - i;omega) (by (repeat (first | exact Ac | (apply A5;first | exact rfl | exact congrArg (Value.int .i64) ei)))) ⟨by show i+1≤ps.length;omega,N7,Sh hin ha,hs.Bt.Bt⟩
  ·have M0:¬ ((i:Int) < ps.length):=hc
   have e:i=ps.length:=by omega
   rw [e,List.take_length] at ho
   exact Ar m Ab ⟨ho,hs⟩
 ·rintro m env w ⟨ho,hs⟩
  repeat' (first|refine Sa ?_|(refine AU hs (k:=?_);intro w hs)|fail)
  refine AF ?_
  refine ⟨?_,hs.AD rfl⟩
  rw [ho];rfl
end Go.Proofs.Q0
namespace Go.Proofs.Q0
def CY (b:Int):List It→Int
 | []=>0
 | a :: l=>dist a.p b+CY b l
def CH:List It→Int
 | []=>0
 | a :: l=>a.p.w+CH l
theorem gA {b:Int} {l l':List It} (h:l.Perm l'):CY b l=CY b l':=by
 induction h with
 | nil=>rfl
 | cons _ _ ih=>simp only [CY,ih]
 | swap _ _ _=>simp only [CY];omega
 | trans _ _ h1 h2=>rw [h1,h2]
theorem dU {l l':List It} (h:l.Perm l'):CH l=CH l':=by
 induction h with
 | nil=>rfl
 | cons _ _ ih=>simp only [CH,ih]
 | swap _ _ _=>simp only [CH];omega
 | trans _ _ h1 h2=>rw [h1,h2]
theorem sum_rng {b lo hi:Int}:∀ {l:List It},(∀ x∈l,x.In∧x.right=true∧lo≤sn x.p.t b∧sn x.p.t b≤hi)→CH l*lo≤CY b l∧CY b l+l.length≤CH l*(hi+1)∧(l.length:Int)≤CH l∧CH l≤l.length*1048576
 | [],_=>by simp [CY,CH]
 | a :: l,h=>by
   obtain ⟨h1,h2,h3,h4⟩:=sum_rng fun x hx=>h x (List.mem_cons_of_mem _ hx)
   obtain ⟨k1,k2,k3,k4⟩:=h a List.mem_cons_self
   obtain ⟨_,_,_,_,_,_,⟨w1,w2,w3,w4⟩,_⟩:=iright_all k1 k2
   have m1:a.p.w*lo≤a.p.w*sn a.p.t b:=Int.mul_le_mul_of_nonneg_left k3 om
   have m2:a.p.w*sn a.p.t b≤a.p.w*hi:=Int.mul_le_mul_of_nonneg_left k4 om
   simp only [CY,CH,dist,List.length_cons,Int.add_mul,Int.mul_add,Int.mul_one] at *
   omega
theorem K3.wT {b lo:Int} {x:It} (h:K3 b lo x) (hm:I2 lo):x.In∧x.right=true∧lo≤sn x.p.t b∧sn x.p.t b≤lo+4611686018427387904:=⟨h.isin,h.right,h.low,(h.dead hm).2.2⟩
structure K2 (m:Mn) (l:List It):Prop where
 a:m.a=CY m.b l
 w:m.w=CH l
 n:m.n=l.length
theorem K2.perm {m:Mn} {l l':List It} (h:K2 m l) (p:l.Perm l'):K2 m l':=⟨h.a.trans (gA p),h.w.trans (dU p),by rw [h.n,p.length_eq]⟩
def C7 (b lo:Int) (l:List It):Prop:=I2 lo∧l.length≤32∧∀ x∈l,K3 b lo x
theorem C7.sum {b lo:Int} {l:List It} (h:C7 b lo l):CH l*lo≤CY b l∧CY b l+l.length≤CH l*(lo+4611686018427387904+1)∧(l.length:Int)≤CH l∧CH l≤l.length*1048576:=sum_rng fun x hx=>(h.2.2 x hx).wT h.1
theorem C7.inW {b lo:Int} {l:List It} (h:C7 b lo l):A9 (CY b l):=by
 obtain ⟨h1,h2,h3,h4⟩:=h.sum
 obtain ⟨⟨m1,m2⟩,hl,_⟩:=h
 have k1:CH l*(-4611686018427387904)≤CH l*lo:=Int.mul_le_mul_of_nonneg_left m1 om
 have k2:CH l*(lo+4611686018427387904+1)≤CH l*4611686018427387905:=Int.mul_le_mul_of_nonneg_left om om
 unfold A9;omega
theorem C7.right {m:Mn} {lo:Int} {l:List It} (h:C7 m.b lo l) (k:K2 m l):m.right=true:=by
 obtain ⟨h1,h2,h3,h4⟩:=h.sum
 have hl:=h.2.1
 rw [Cd]
 have e1:=k.a
 have e2:=k.w
 have e3:=k.n
 cases l with
 | nil=>left;simp only [CY,CH,List.length_nil] at *;omega
 | cons x l=>right;simp only [List.length_cons] at *;omega
theorem C7.perm {b lo:Int} {l l':List It} (h:C7 b lo l) (p:l.Perm l'):C7 b lo l':=⟨h.1,by rw [← p.length_eq];exact h.2.1,fun x hx=>h.2.2 x (p.mem_iff.2 hx)⟩
theorem C7.tail {b lo:Int} {a:It} {l:List It} (h:C7 b lo (a :: l)):C7 b lo l:=⟨h.1,by have:=h.2.1;simp only [List.length_cons] at this;omega,fun x hx=>h.2.2 x (List.mem_cons_of_mem _ hx)⟩
theorem C7.head {b lo:Int} {a:It} {l:List It} (h:C7 b lo (a :: l)):K3 b lo a:=h.2.2 a List.mem_cons_self
theorem jB {m:Mn} {lo:Int} {a:It} {l:List It} (h:C7 m.b lo (a :: l)) (k:K2 m l):∃ m',EJ m a.p=some m'∧m'.b=m.b∧K2 m' (a :: l):=by
 have hr:=h.tail.right k
 have hp:=(iright_all h.head.isin h.head.right).1
 have hw:=h.inW
 have hl:=h.2.1
 have e1:=k.a
 have e2:=k.w
 have e3:=k.n
 simp only [List.length_cons] at hl
 simp only [CY] at hw
 refine ⟨_,if_pos ⟨hr,hp,by omega,by rw [e1,Int.add_comm];exact hw⟩,rfl,?_⟩
 constructor
 ·simp only [CY];omega
 ·simp only [CH];omega
 ·simp only [List.length_cons];omega
theorem rG {m:Mn} {lo:Int} {a:It} {l:List It} (h:C7 m.b lo (a :: l)) (k:K2 m (a :: l)):Fg m a.p=some (Fe m a.p)∧K2 (Fe m a.p) l:=by
 have hr:=h.right k
 have hp:=(iright_all h.head.isin h.head.right).1
 have hw:=h.tail.inW
 have e1:=k.a
 have e2:=k.w
 have e3:=k.n
 have hs:=h.tail.sum.2.2.1
 simp only [CY,CH,List.length_cons] at e1 e2 e3
 have i:K2 (Fe m a.p) l:=⟨by simp only [Fe];omega,by simp only [Fe];omega,by simp only [Fe];omega⟩
 refine ⟨if_pos ⟨hr,hp,by omega,by omega,?_,(show C7 (Fe m a.p).b lo l from h.tail).right i⟩,i⟩
 rw [show m.a - dist a.p m.b=CY m.b l by omega];exact hw
theorem C7.mid {b lo:Int} {l:List It} (h:C7 b lo l) (hl:l≠[]):0 < CH l∧lo≤CY b l / CH l∧CY b l / CH l≤lo+4611686018427387904:=by
 obtain ⟨h1,h2,h3,h4⟩:=h.sum
 have hp:0 < l.length:=List.length_pos_iff.2 hl
 refine ⟨by omega,Int.le_ediv_of_mul_le om (by rw [Int.mul_comm];exact h1),?_⟩
 have:=Int.ediv_lt_of_lt_mul (a:=CY b l) (b:=lo+4611686018427387904+1) (c:=CH l) om (by rw [Int.mul_comm];omega)
 omega
theorem QT {m:Mn} {lo:Int} {l:List It} (h:C7 m.b lo l) (k:K2 m l) (hl:l≠[]):IW m=some (lat m.b (CY m.b l / CH l)):=by
 obtain ⟨h1,h2,h3⟩:=h.mid hl
 have hm:=h.1
 unfold I2 at hm
 have hn:m.n≠0:=by rw [k.n];have:=List.length_pos_iff.2 hl;omega
 unfold IW
 rw [← k.a,← k.w] at *
 exact if_pos ⟨h.right k,hn,by unfold In64;omega⟩
theorem OW {b c k:Int}:∀ {l:List It},(∀ x∈l,sn x.p.t c=sn x.p.t b - k)→CY c l=CY b l - CH l*k
 | [],_=>by simp [CY,CH]
 | a :: l,h=>by
   simp only [CY,CH]
   rw [OW fun x hx=>h x (List.mem_cons_of_mem _ hx),dN (h a List.mem_cons_self),Int.add_mul];omega
structure LO (m:Mn) (l:List It):Prop where
 is:K2 m l
 u:BV m.b
 a0:0≤m.a
 a1:m.a < m.w
 all:∃ lo,C7 m.b lo l
theorem C7.move {b lo c:Int} {l:List It} (h:C7 b lo l) (h0:lo≤sn c b) (h1:sn c b≤lo+4611686018427387904):C7 c (lo - sn c b) l∧∀ x∈l,sn x.p.t c=sn x.p.t b - sn c b:=by
 have hm:=h.1
 unfold I2 at hm
 exact ⟨⟨by unfold I2;omega,h.2.1,fun x hx=>((h.2.2 x hx).move h.1 h0 h1).1⟩,fun x hx=>((h.2.2 x hx).move h.1 h0 h1).2⟩
theorem OK {m:Mn} {lo:Int} {l:List It} (h:C7 m.b lo l) (k:K2 m l) (hl:l≠[]):∃ m',Ic m ((IW m).getD 0)=some m'∧LO m' l:=by
 obtain ⟨h1,h2,h3⟩:=h.mid hl
 have hm:=h.1
 have hf:=QT h k hl
 rw [hf,Option.getD_some]
 unfold I2 at hm
 have e:sn (lat m.b (CY m.b l / CH l)) m.b=CY m.b l / CH l:=xU (by unfold In64;omega)
 have hM:=h.move (c:=lat m.b (CY m.b l / CH l)) (by rw [e];exact h2) (by rw [e];exact h3)
 rw [e] at hM
 have hs:=OW hM.2
 have ea:=k.a
 have ew:=k.w
 have em:m.a - m.w*(CY m.b l / CH l)=CY m.b l % CH l:=by rw [ea,ew];have:=Int.mul_ediv_add_emod (CY m.b l) (CH l);omega
 have n0:=Int.emod_nonneg (CY m.b l) (show CH l≠0 by omega)
 have n1:=Int.emod_lt_of_pos (CY m.b l) h1
 have hi:A9 (CY m.b l % CH l):=by
  have:=h.sum.2.2.2
  have:=h.2.1
  unfold A9;omega
 refine ⟨_,if_pos ⟨h.right k,by rw [e,em];exact hi⟩,⟨⟨?_,ew,k.n⟩,VA _ _,?_,?_,_,hM.1⟩⟩
 ·show m.a - m.w*sn _ m.b=CY _ l
  rw [e,hs,ea,ew]
 ·show 0≤m.a - m.w*sn _ m.b
  rw [e,em];exact n0
 ·show m.a - m.w*sn _ m.b < m.w
  rw [e,em,ew];exact n1
theorem LO.now {m:Mn} {l:List It} (h:LO m l) (hl:l≠[]):IW m=some m.b:=by
 obtain ⟨lo,k⟩:=h.all
 rw [QT k h.is hl,← h.is.a,← h.is.w,Int.ediv_eq_zero_of_lt h.a0 h.a1,lR h.u]
def Ix:List It→Mn
 | [] => .zero
 | x :: l=>⟨lat x.p.t (CY x.p.t (x :: l) / CH (x :: l)),CY x.p.t (x :: l) % CH (x :: l),CH (x :: l),(x :: l).length⟩
theorem LO.perm {m:Mn} {l l':List It} (h:LO m l) (p:l.Perm l'):LO m l':=by
 obtain ⟨lo,k⟩:=h.all
 exact ⟨h.is.perm p,h.u,h.a0,h.a1,lo,k.perm p⟩
theorem LO.eq {m:Mn}:∀ {l:List It},LO m l→l≠[]→m=Ix l
 | [],_,h=>absurd rfl h
 | x :: l,h,_=>by
   obtain ⟨lo,k⟩:=h.all
   have d:=k.head.dead k.1
   have hM:=k.move (c:=x.p.t) k.head.low d.2.2
   have hs:=OW hM.2
   have e:=tK (b:=m.b) k.head.isin.1.1
   show m=⟨lat x.p.t (CY x.p.t (x :: l) / CH (x :: l)),CY x.p.t (x :: l) % CH (x :: l),CH (x :: l),(x :: l).length⟩
   rw [hs,← h.is.a,← h.is.w,← h.is.n]
   have hw:0 < m.w:=by have:=h.a0;have:=h.a1;omega
   have q:(m.a - m.w*sn x.p.t m.b) / m.w=- sn x.p.t m.b:=by
    rw [Int.sub_eq_add_neg,← Int.mul_neg,Int.add_mul_ediv_left _ _ om,Int.ediv_eq_zero_of_lt h.a0 h.a1];omega
   have r:(m.a - m.w*sn x.p.t m.b) % m.w=m.a:=by
    rw [Int.sub_eq_add_neg,← Int.mul_neg,Int.add_mul_emod_self_left,Int.emod_eq_of_lt h.a0 h.a1]
   rw [q,r]
   have:lat x.p.t (- sn x.p.t m.b)=m.b:=by
    have hu:=h.u
    have:=e
    unfold BV at hu
    unfold lat at *;omega
   rw [this]
namespace RB
variable {α : Type}
def isNil:RB α→Bool
 | nil=>true
 | node _ _ _ _=>false
def both:RB α→Bool
 | node (node _ _ _ _) _ (node _ _ _ _) _=>true
 | _=>false
def CK:RB α→RB α→RB α
 | nil,_=>nil
 | node l x _ c,r=>node l x r c
def Ef (t:RB α):RB α:=bif (flip t).right.left.red then flip (GQ (CK (flip t) (Cy (flip t).right))) else flip t
def Ei (t:RB α):RB α:=bif (flip t).left.left.red then flip (Cy (flip t)) else flip t
def ER (t:RB α):Option (RB α):=bif !t.left.red && !t.left.left.red then (bif both t then some (Ef t) else none) else some t
def Hx (t:RB α):Option (RB α):=bif !t.right.red && !t.right.left.red then (bif both t then some (Ei t) else none) else some t
def least:RB α→Option α
 | nil=>none
 | node nil x _ _=>some x
 | node (node a y b c) _ _ _=>least (node a y b c)
def FE:Nat→RB α→Option (RB α)
 | 0,_=>none
 | k+1,t=>bif t.isNil then none else bif t.left.isNil then some nil else
   match ER t with
   | some (node l x r c)=>(FE k l).map fun l'=>mend (node l' x r c)
   | _=>none
def cut (lt:α→α→Bool) (x:α):Nat→RB α→Option (RB α)
 | 0,_=>none
 | _+1,nil=>none
 | k+1,node l y r c=>bif lt x y then
  (bif l.isNil then none else
   match ER (node l y r c) with
   | some (node l1 y1 r1 c1)=>(cut lt x k l1).map fun l'=>mend (node l' y1 r1 c1)
   | _=>none)
   else bif (bif l.red then Cy (node l y r c) else node l y r c).right.isNil then some nil else
    match Hx (bif l.red then Cy (node l y r c) else node l y r c) with
    | some (node l2 y2 r2 c2)=>bif lt y2 x then (cut lt x k r2).map fun r'=>mend (node l2 y2 r' c2)
     else match least r2 with
      | some m=>(FE k r2).map fun r'=>mend (node l2 m r' c2)
      | none=>none
    | _=>none
theorem fM:∀ (t r:RB α),t.right.list=r.list→(CK t r).list=t.list
 | nil,r,h=>rfl
 | node l x r' c,r,h=>by simp only [CK,list];rw [← h];rfl
theorem Wr (t:RB α):(Ef t).list=t.list:=by
 unfold Ef
 cases (flip t).right.left.red
 ·rw [cond_false,Gs]
 ·rw [cond_true,Gs,Jo,fM _ _ (HM _).symm,Gs]
theorem Uh (t:RB α):(Ei t).list=t.list:=by
 unfold Ei
 cases (flip t).left.left.red
 ·rw [cond_false,Gs]
 ·rw [cond_true,Gs,HM,Gs]
theorem Rc:∀ t:RB α,least t=t.list.head?
 | nil=>rfl
 | node nil x _ _=>rfl
 | node (node a y b c) x r d=>by
   have:=Rc (node a y b c)
   simp only [least,list] at *
   rw [this]
   cases h:a.list with
   | nil=>simp
   | cons u v=>simp
theorem Z9 {t:RB α} (h:t.isNil=false):∃ m,least t=some m∧t.list=m :: t.list.tail:=by
 rw [Rc]
 cases hl:t.list with
 | nil=>cases t with
   | nil=>cases h
   | node l x r c=>simp [list] at hl
 | cons m l=>exact ⟨m,rfl,rfl⟩
theorem J6 {l r:RB α} {x:α} {c:Bool} (h1:l.red=false) (h2:r.red=false):mend (node l x r c)=node l x r c:=by
 simp [mend,DU,ED,EE,Ap,Ay,BL,h1,h2]
theorem XI {l r:RB α} {x:α} {c:Bool} {h:Nat} (hl:Ok l h) (h2:r.red=false):mend (node l x r c)=node l x r c:=by
 have hlr:(l.red && l.left.red)=false:=by
  cases hc:l.red
  ·rfl
  ·rw [J3 hl hc];rfl
 simp [mend,DU,ED,EE,Ap,Ay,BL,h2,hlr]
theorem Pp {l r:RB α} {y:α} {h:Nat} (hr:Ok r h) (hl:l.red=false):(mend (node l y r false)).red=false:=by
 cases hc:r.red
 ·rw [J6 hl hc];rfl
 ·obtain ⟨rl,z,rr,rfl⟩:=Bo hc
  obtain ⟨p1,p2,p3,p4⟩:=hr.Eg
  have:mend (node l y (node rl z rr true) false)=node (node l y rl true) z rr false:=by
   simp [mend,DU,ED,EE,Ap,Ay,BL,GQ,hl,p4]
  rw [this];rfl
theorem Ie {t:RB α} (k:Ok t 0) (h:t.red=false):t=nil:=by
 cases k with
 | nil=>rfl
 | red a b c d=>cases h
theorem HN {t:RB α} {h:Nat} (k:Ok t (h+1)) (hr:t.red=false):∃ l x r,t=node l x r false∧Ok l h∧Ok r h∧r.red=false:=by
 cases k with
 | black a b c=>exact ⟨_,_,_,rfl,a,b,c⟩
 | red a b c d=>cases hr
theorem Ks (A B C:List α) (y:α):((A ++ y :: B) ++ C).tail=(A ++ y :: B).tail ++ C:=by cases A <;> simp
theorem rK {t:RB α} (h:t.isNil=false):t.list≠[]:=by
 cases t with
 | nil=>cases h
 | node l x r c=>simp [list]
structure Cut (t t':RB α) (h:Nat) (L:List α):Prop where
 ok:Ok t' h
 black:t.red=false→t'.red=false
 list:t'.list=L
theorem Jt:∀ (k:Nat) (t:RB α) (h:Nat),Ok t h→t.isNil=false→(t.red=true∨t.left.red=true)→t.list.length≤k→∃ t',FE k t=some t'∧Cut t t' h t.list.tail
 | 0,t,h,hk,hn,_,hl=>by
   have:=rK hn
   cases ht:t.list with
   | nil=>exact absurd ht this
   | cons a b=>rw [ht] at hl;simp at hl
 | k+1,nil,h,hk,hn,_,hl=>by cases hn
 | k+1,node l x r true,h,hk,hn,_,hl=>by
   obtain ⟨a,b,c,d⟩:=hk.Eg
   simp only [list,List.length_append,List.length_cons] at hl
   cases h with
   | zero =>
     obtain rfl:=Ie a c
     obtain rfl:=Ie b d
     exact ⟨nil,rfl,.nil,(fun h=>by cases h),rfl⟩
   | succ h =>
     obtain ⟨ll,y,lr,rfl,a1,a2,a3⟩:=HN a c
     obtain ⟨rl,z,rr,rfl,b1,b2,b3⟩:=HN b d
     simp only [list,List.length_append,List.length_cons] at hl
     cases hc:ll.red
     ·cases hd:rl.red
      ·obtain ⟨t',e,q⟩:=Jt k (node ll y lr true) h (.red a1 a2 hc a3) rfl (.inl rfl) (by simp only [list,List.length_append,List.length_cons];omega)
       refine ⟨mend (node t' x (node rl z rr true) false),?_,GW q.ok (.red b1 b2 hd b3),(fun h=>by cases h),?_⟩
       ·simp [FE,isNil,ER,both,Ef,flip,Ap,Ay,BL,hc,hd,e]
       ·rw [DC]
        simp only [list,q.list]
        rw [Ks]
      ·obtain ⟨rll,u,rlr,rfl⟩:=Bo hd
       obtain ⟨e1,e2,e3,e4⟩:=b1.Eg
       obtain ⟨t',e,q⟩:=Jt k (node (node ll y lr true) x rll false) (h+1) (.black (.red a1 a2 hc a3) e1 e3) rfl (.inr rfl) (by simp only [list,List.length_append,List.length_cons] at *;omega)
       have q2:=q.black rfl
       refine ⟨node t' u (node rlr z rr false) true,?_,.red q.ok (.black e2 b2 b3) q2 rfl,(fun h=>by cases h),?_⟩
       ·have:=J6 (l:=t') (r:=node rlr z rr false) (x:=u) (c:=true) q2 rfl
        simp [FE,isNil,ER,both,Ef,flip,GQ,Cy,CK,Ap,Ay,BL,hc,e,this]
       ·simp only [list,q.list]
        rw [Ks,Ks]
        simp
     ·obtain ⟨t',e,q⟩:=Jt k (node ll y lr false) (h+1) (.black a1 a2 a3) rfl (.inr hc) (by simp only [list,List.length_append,List.length_cons];omega)
      have q2:=q.black rfl
      refine ⟨node t' x (node rl z rr false) true,?_,.red q.ok (.black b1 b2 b3) q2 rfl,(fun h=>by cases h),?_⟩
      ·have:=J6 (l:=t') (r:=node rl z rr false) (x:=x) (c:=true) q2 rfl
       simp [FE,isNil,ER,Ap,Ay,BL,hc,e,this]
      ·simp only [list,q.list]
       rw [Ks]
 | k+1,node l x r false,h,hk,hn,hc,hl=>by
   obtain ⟨h,rfl,a,b,c⟩:=hk.L1
   have hlr:l.red=true:=by rcases hc with hc | hc;cases hc;exact hc
   simp only [list,List.length_append,List.length_cons] at hl
   obtain ⟨ll,y,lr,rfl⟩:=Bo hlr
   obtain ⟨t',e,q⟩:=Jt k (node ll y lr true) h a rfl (.inl rfl) om
   have e2:=XI (x:=x) (c:=false) q.ok c
   refine ⟨node t' x r false,?_,.black q.ok b c,fun _=>rfl,?_⟩
   ·simp [FE,isNil,ER,Ap,Ay,BL,e,e2]
   ·simp only [list,q.list]
    rw [Ks]
end RB
end Go.Proofs.Q0
namespace Go.Proofs.Q0
namespace RB
variable {α : Type} [DecidableEq α]
def sans (x:α) (l:List α):List α:=l.filter fun z=>!decide (z=x)
theorem Lw (x:α) (A B:List α):sans x (A ++ B)=sans x A ++ sans x B:=List.filter_append ..
theorem KF {x:α} {l:List α} (h:∀ z∈l,z≠x):sans x l=l:=List.filter_eq_self.2 fun z hz=>by simp [h z hz]
theorem U0 {x y:α} (h:y≠x) (l:List α):sans x (y :: l)=y :: sans x l:=by simp [sans,h]
theorem Tf (x:α) (l:List α):sans x (x :: l)=sans x l:=by simp [sans]
structure In (lt:α→α→Bool) (S:α→Prop) (x:α) (l:List α):Prop where
 srt:K0 lt l
 s:∀ z∈l,S z
 mem:x∈l
variable {lt : α → α → Bool} {S : α → Prop} {x : α}
theorem yY (ho:Cp lt S) {a b:α} (ha:S a) (h:lt a b=true):a≠b:=fun e=>by
 subst e
 rw [ho.irr a ha] at h
 cases h
theorem In.left (ho:Cp lt S) {L R:List α} {y:α} (h:In lt S x (L ++ y :: R)) (hxy:lt x y=true):In lt S x L∧sans x (L ++ y :: R)=sans x L ++ y :: R:=by
 obtain ⟨h1,h2,h3,h4,h5⟩:=IK h.srt
 have hx:=h.s x h.mem
 have hy:=h.s y (by simp)
 have hR:∀ z∈y :: R,z≠x:=fun z hz e=>by
  subst e
  rcases List.mem_cons.1 hz with rfl | hz
  ·rw [ho.irr _ hx] at hxy;cases hxy
  ·have:=asym ho hy hx (h4 z hz);rw [hxy] at this;cases this
 have hm:x∈L:=by
  rcases List.mem_append.1 h.mem with hm | hm
  ·exact hm
  ·exact absurd rfl (hR x hm)
 exact ⟨⟨h1,fun z hz=>h.s z (List.mem_append_left _ hz),hm⟩,by rw [Lw,KF hR]⟩
theorem In.right (ho:Cp lt S) {L R:List α} {y:α} (h:In lt S x (L ++ y :: R)) (hxy:lt y x=true):In lt S x R∧sans x (L ++ y :: R)=L ++ y :: sans x R:=by
 obtain ⟨h1,h2,h3,h4,h5⟩:=IK h.srt
 have hx:=h.s x h.mem
 have hy:=h.s y (by simp)
 have hL:∀ z∈L,z≠x:=fun z hz e=>by
  subst e
  have:=asym ho hx hy (h3 z hz);rw [hxy] at this;cases this
 have LM:=yY ho hy hxy
 have hm:x∈R:=by
  rcases List.mem_append.1 h.mem with hm | hm
  ·exact absurd rfl (hL x hm)
  ·rcases List.mem_cons.1 hm with rfl | hm
   ·exact absurd rfl LM
   ·exact hm
 exact ⟨⟨h2,fun z hz=>h.s z (by simp [hz]),hm⟩,by rw [Lw,KF hL,U0 LM]⟩
theorem In.eq (ho:Cp lt S) {L R:List α} {y:α} (h:In lt S x (L ++ y :: R)) (h6:lt x y=false) (h7:lt y x=false):sans x (L ++ y :: R)=L ++ R:=by
 obtain ⟨h1,h2,h3,h4,h5⟩:=IK h.srt
 have hx:=h.s x h.mem
 have hy:=h.s y (by simp)
 obtain rfl:=ho.tri x y hx hy h6 h7
 rw [Lw,Tf,KF,KF]
 ·intro z hz e;subst e;have:=h4 _ hz;rw [ho.irr _ hx] at this;cases this
 ·intro z hz e;subst e;have:=h3 _ hz;rw [ho.irr _ hx] at this;cases this
theorem In.up (ho:Cp lt S) {L R:List α} {y u:α} (h:In lt S x (L ++ y :: R)) (hu:u∈R) (hxy:lt x y=true):lt x u=true:=by
 obtain ⟨h1,h2,h3,h4,h5⟩:=IK h.srt
 exact ho.tr x y u (h.s x h.mem) (h.s y (by simp)) (h.s u (by simp [hu])) hxy (h4 u hu)
theorem In.down (ho:Cp lt S) {L R:List α} {y u:α} (h:In lt S x (L ++ y :: R)) (hu:u∈L) (hxy:lt x y=false):lt u x=true:=by
 obtain ⟨h1,h2,h3,h4,h5⟩:=IK h.srt
 have hx:=h.s x h.mem
 have hy:=h.s y (by simp)
 have hus:=h.s u (by simp [hu])
 have huy:=h3 u hu
 cases LM:lt y x
 ·rw [ho.tri x y hx hy hxy LM];exact huy
 ·exact ho.tr u y x hus hy hx huy LM
def bX (lt:α→α→Bool) (S:α→Prop) (x:α) (k:Nat):Prop :=
 ∀ (t:RB α) (h:Nat),Ok t h→t.isNil=false→(t.red=true∨t.left.red=true)→t.list.length≤k→In lt S x t.list→∃ t',cut lt x k t=some t'∧Cut t t' h (sans x t.list)
theorem NG (ho:Cp lt S) {k:Nat} (ih:bX lt S x k) {l r:RB α} {y:α} {c:Bool} {h:Nat} (hr:Ok r h) (hn:r.isNil=false) (hc:r.red=true∨r.left.red=true) (hl:r.list.length≤k) (hI:In lt S x (l.list ++ y :: r.list)) (hxy:lt x y=false) :
 ∃ m r',(bif lt y x then (cut lt x k r).map fun r'=>mend (node l y r' c) else match least r with
  | some m=>(FE k r).map fun r'=>mend (node l m r' c)
  | none=>none)=some (mend (node l m r' c))∧Ok r' h∧(r.red=false→r'.red=false)∧l.list ++ m :: r'.list=sans x (l.list ++ y :: r.list):=by
 cases LM:lt y x
 ·obtain ⟨m,hm,hm2⟩:=Z9 hn
  obtain ⟨r',e,q⟩:=Jt k r h hr hn hc hl
  refine ⟨m,r',by simp [hm,e],q.ok,q.black,?_⟩
  rw [hI.eq ho hxy LM,q.list,← hm2]
 ·obtain ⟨cA,e1⟩:=hI.right ho LM
  obtain ⟨r',e,q⟩:=ih r h hr hn hc hl cA
  exact ⟨y,r',by simp [e],q.ok,q.black,by rw [e1,q.list]⟩
theorem sF (ho:Cp lt S) {k:Nat} (ih:bX lt S x k) {l r:RB α} {y:α} {h:Nat} (hl:Ok l h) (hr:Ok r h) (h1:l.red=false) (h2:r.red=true) (hxy:lt x y=false) (hlen:(node l y r false).list.length≤k+1) (hI:In lt S x (l.list ++ y :: r.list)) :
 ∃ t',cut lt x (k+1) (node l y r false)=some t'∧Cut (node l y r false) t' (h+1) (sans x (l.list ++ y :: r.list)):=by
 have hn:r.isNil=false:=by
  obtain ⟨a,b,c,rfl⟩:=Bo h2
  rfl
 simp only [list,List.length_append,List.length_cons] at hlen
 obtain ⟨m,r',e,e1,e2,e3⟩:=NG ho ih (c:=false) hr hn (.inl h2) om hI hxy
 refine ⟨_,?_,GW (y:=m) hl e1,fun _=>Pp e1 h1,by rw [DC];exact e3⟩
 simp only [cut,hxy,h1,cond_false,Hx,Ay,hn,h2,Bool.not_true,Bool.false_and]
 exact e
theorem WN (ho:Cp lt S):∀ k,bX lt S x k
 | 0=>fun t h hk hn _ hl hI=>by
   have:=hI.mem
   cases ht:t.list with
   | nil=>rw [ht] at this;cases this
   | cons a b=>rw [ht] at hl;simp at hl
 | k+1=>fun t h hk hn hc hl hI=>by
   have ih:=WN ho k
   cases t with
   | nil=>cases hn
   | node l y r c =>
   simp only [list,List.length_append,List.length_cons] at hl
   simp only [list] at hI
   cases hxy:lt x y
   ·-- to the right
    cases c with
    | false =>
      obtain ⟨h,rfl,a,b,c⟩:=hk.L1
      have hlr:l.red=true:=by rcases hc with hc | hc;cases hc;exact hc
      obtain ⟨ll,z,lr,rfl⟩:=Bo hlr
      obtain ⟨a1,a2,a3,a4⟩:=a.Eg
      simp only [list,List.length_append,List.length_cons] at hl
      have oC:lt z x=true:=hI.down ho (by simp [list]) hxy
      have dY:In lt S x (ll.list ++ z :: (node lr y r true).list):=by simpa [list] using hI
      obtain ⟨gF,e1⟩:=dY.right ho oC
      obtain ⟨t',e,q⟩:=ih (node lr y r true) h (.red a2 b a4 c) rfl (.inl rfl) (by simp only [list,List.length_append,List.length_cons];omega) gF
      refine ⟨mend (node ll z t' false),?_,GW a1 q.ok,fun _=>Pp q.ok a3,?_⟩
      ·simp only [cut,hxy,cond_false,BL,cond_true,Cy,Ay,isNil,Hx,Bool.not_true,Bool.false_and,oC]
       simp [e]
      ·rw [DC]
       simp only [list]
       rw [q.list,← e1]
       simp [list]
    | true =>
      obtain ⟨a,b,c,d⟩:=hk.Eg
      cases h with
      | zero =>
        obtain rfl:=Ie a c
        obtain rfl:=Ie b d
        refine ⟨nil,by simp [cut,hxy,red,right,isNil],.nil,(fun h=>by cases h),?_⟩
        have hm:=hI.mem
        simp [list] at hm
        subst hm
        simp [list,sans]
      | succ h =>
        obtain ⟨ll,u,lr,rfl,a1,a2,a3⟩:=HN a c
        obtain ⟨rl,z,rr,rfl,b1,b2,b3⟩:=HN b d
        simp only [list,List.length_append,List.length_cons] at hl
        cases hd:rl.red
        ·cases he:ll.red
         ·obtain ⟨m,r',e,e1,e2,e3⟩:=NG ho ih (l:=node ll u lr true) (c:=false) (Ok.red (x:=z) b1 b2 hd b3) rfl (.inl rfl) (by simp only [list,List.length_append,List.length_cons];omega) (y:=y) (by simpa [list] using hI) hxy
          refine ⟨_,?_,GW (y:=m) (.red a1 a2 he a3) e1,(fun h=>by cases h),by rw [DC];rw [show (node (node ll u lr true) m r' false).list=(node ll u lr true).list ++ m :: r'.list from rfl,e3];rfl⟩
          simp only [cut,hxy,cond_false,BL,Ay,Ap,isNil,Hx,hd,Bool.not_false,Bool.and_self,both,cond_true,Ei,flip,Bool.not_true,he]
          exact e
         ·obtain ⟨p,v,s,rfl⟩:=Bo he
          obtain ⟨c1,c2,c3,c4⟩:=a1.Eg
          have hux:lt u x=true:=hI.down ho (by simp [list]) hxy
          have dY:In lt S x ((node p v s false).list ++ u :: (lr.list ++ y :: (node rl z rr true).list)):=by simpa [list] using hI
          obtain ⟨gF,e1⟩:=dY.right ho hux
          cases k with
          | zero=>omega
          | succ k =>
          have ih':=WN ho k
          obtain ⟨t',e,q⟩:=sF ho ih' a2 (Ok.red (x:=z) b1 b2 hd b3) a3 rfl hxy (by simp only [list,List.length_append,List.length_cons] at *;omega) gF
          have q2:=q.black rfl
          have e5:=J6 (l:=node p v s false) (r:=t') (x:=u) (c:=true) rfl q2
          refine ⟨node (node p v s false) u t' true,?_,.red (.black c1 c2 c4) q.ok rfl q2,(fun h=>by cases h),?_⟩
          ·rw [cut]
           simp only [hxy,cond_false,BL,Ay,Ap,isNil,Hx,hd,Bool.not_false,Bool.and_self,both,cond_true,Ei,flip,Cy,Bool.not_true,hux]
           rw [← e5,e]
           rfl
          ·simp only [list] at *
           rw [q.list,← e1]
           simp
        ·obtain ⟨m,r',e,e1,e2,e3⟩:=NG ho ih (l:=node ll u lr false) (c:=true) b rfl (.inr hd) (by simp only [list,List.length_append,List.length_cons];omega) (y:=y) (by simpa [list] using hI) hxy
         have q2:=e2 rfl
         have e5:=J6 (l:=node ll u lr false) (r:=r') (x:=m) (c:=true) rfl q2
         refine ⟨node (node ll u lr false) m r' true,?_,.red a e1 rfl q2,(fun h=>by cases h),e3⟩
         rw [← e5]
         simp only [cut,hxy,cond_false,BL,Ay,Ap,isNil,Hx,hd,Bool.not_false,Bool.not_true,Bool.and_false,cond_true]
         exact e
   ·-- to the left
    obtain ⟨UT,eF⟩:=hI.left ho hxy
    cases c with
    | false =>
      obtain ⟨h,rfl,a,b,c⟩:=hk.L1
      have hlr:l.red=true:=by rcases hc with hc | hc;cases hc;exact hc
      obtain ⟨ll,z,lr,rfl⟩:=Bo hlr
      obtain ⟨t',e,q⟩:=ih _ h a rfl (.inl rfl) om UT
      have e2:=XI (x:=y) (c:=false) q.ok c
      refine ⟨node t' y r false,?_,.black q.ok b c,fun _=>rfl,?_⟩
      ·simp [cut,hxy,isNil,ER,Ap,Ay,BL,e,e2]
      ·simp only [list] at *
       rw [q.list,eF]
    | true =>
      obtain ⟨a,b,c,d⟩:=hk.Eg
      cases h with
      | zero =>
        obtain rfl:=Ie a c
        have:=UT.mem
        cases this
      | succ h =>
        obtain ⟨ll,u,lr,rfl,a1,a2,a3⟩:=HN a c
        obtain ⟨rl,z,rr,rfl,b1,b2,b3⟩:=HN b d
        simp only [list,List.length_append,List.length_cons] at hl
        cases he:ll.red
        ·cases hd:rl.red
         ·obtain ⟨t',e,q⟩:=ih (node ll u lr true) h (.red a1 a2 he a3) rfl (.inl rfl) (by simp only [list,List.length_append,List.length_cons];omega) UT
          refine ⟨mend (node t' y (node rl z rr true) false),?_,GW q.ok (.red b1 b2 hd b3),(fun h=>by cases h),?_⟩
          ·simp [cut,hxy,isNil,ER,both,Ef,flip,Ap,Ay,BL,he,hd,e]
          ·rw [DC]
           simp only [list] at *
           rw [q.list,eF]
         ·obtain ⟨rll,v,rlr,rfl⟩:=Bo hd
          obtain ⟨c1,c2,c3,c4⟩:=b1.Eg
          have hxv:lt x v=true:=hI.up ho (by simp [list]) hxy
          have dY:In lt S x ((node (node ll u lr true) y rll false).list ++ v :: (node rlr z rr false).list):=by simpa [list] using hI
          obtain ⟨gF,eF2⟩:=dY.left ho hxv
          obtain ⟨t',e,q⟩:=ih (node (node ll u lr true) y rll false) (h+1) (.black (.red a1 a2 he a3) c1 c3) rfl (.inr rfl) (by simp only [list,List.length_append,List.length_cons] at *;omega) gF
          have q2:=q.black rfl
          have e5:=J6 (l:=t') (r:=node rlr z rr false) (x:=v) (c:=true) q2 rfl
          refine ⟨node t' v (node rlr z rr false) true,?_,.red q.ok (.black c2 b2 b3) q2 rfl,(fun h=>by cases h),?_⟩
          ·simp [cut,hxy,isNil,ER,both,Ef,flip,GQ,Cy,CK,Ap,Ay,BL,he,e,e5]
          ·simp only [list] at *
           rw [q.list,← eF2]
           simp
        ·obtain ⟨t',e,q⟩:=ih (node ll u lr false) (h+1) a rfl (.inr he) (by simp only [list,List.length_append,List.length_cons];omega) UT
         have q2:=q.black rfl
         have e5:=J6 (l:=t') (r:=node rl z rr false) (x:=y) (c:=true) q2 rfl
         refine ⟨node t' y (node rl z rr false) true,?_,.red q.ok b q2 rfl,(fun h=>by cases h),?_⟩
         ·simp [cut,hxy,isNil,ER,Ap,Ay,BL,he,e,e5]
         ·simp only [list] at *
          rw [q.list,eF]
end RB
end Go.Proofs.Q0
namespace Go.Proofs.Q0
def dig (ds:List Int) (i:Nat):Int:=ds.getD i 0
end Go.Proofs.Q0
namespace Go.Proofs.Q0
open Go Go.RowKit
attribute [local irreducible] XS XC XA AX AO A7 A0 AZ A8 Aa AV SE
def HC (w:World) (sl:Value) (ds:List Int):Prop :=
 ∃ ad cap,sl = .slice ad ds.length cap∧(ds≠[]→∃ (b off:Nat) (cs:List Value) (fz:Nat × Nat),ad=some ⟨b,off,none⟩∧ds.length≤cap∧w.heap[b]?=some (.cells cs.toArray 3 fz)∧∀ i d,ds[i]?=some d→cs[off+i]?=some (.int .i64 d))
theorem HC.only {w w':World} {sl:Value} {ds:List Int} (h:HC w sl ds) (ho:AA [] w w'):HC w' sl ds:=by
 obtain ⟨ad,cap,rfl,h⟩:=h
 refine ⟨ad,cap,rfl,fun hn=>?_⟩
 obtain ⟨b,off,cs,fz,h1,h2,h3,h4⟩:=h hn
 exact ⟨b,off,cs,fz,h1,h2,ho.block h3 (by simp),h4⟩
theorem KB {n:Int} (h0:-9223372036854775808≤n) (h1:n < 9223372036854775808):IntKind.i64.wrap n=n:=by rw [wrap_i64];omega
def ints (xs:List Int):List Value:=xs.map (Value.int .i64)
theorem jW (xs:List Int) (d:Int):ints xs ++ [.int .i64 d]=ints (xs ++ [d]):=by simp [ints]
theorem rZ {wb:World} {v:Value} {n:Nat} {xs:List Int} {H:List Bn} {w:World} {D:Ctx} (h:O0 wb D H 3 1 v n (ints xs) w) (hn:n=xs.length):HC w v xs:=by
 subst hn
 rcases h with ⟨rfl,h0,hx,hs⟩ | ⟨g,cap,cur,rfl,hc,hl,hxl,ht,hs⟩
 ·have:xs=[]:=by simpa using h0
  subst this
  exact ⟨none,0,rfl,fun h=>absurd rfl h⟩
 ·refine ⟨_,cap,rfl,fun _=>⟨g,0,cur,(0,0),rfl,hc,hs.get At.head,fun i d hi=>?_⟩⟩
  have h1:(ints xs)[i]?=some (.int .i64 d):=by simp [ints,hi]
  rw [← ht,List.getElem?_take] at h1
  split at h1
  ·simpa using h1
  ·cases h1
theorem O0.st {wb:World} {v:Value} {n k e:Nat} {xs:List Value} {H:List Bn} {w:World} {D:Ctx} (h:O0 wb D H e k v n xs w):St wb D H w:=by
 rcases h with ⟨_,_,_,hs⟩ | ⟨g,cap,cur,_,_,_,_,_,hs⟩
 ·exact hs
 ·exact hs.Bt
end Go.Proofs.Q0
namespace Go.Proofs.Q0
open Go Go.RowKit
abbrev EO (x:Int) (av:Value) (pl pr:Option Addr) (c:Bool):Obj := .cells #[.int .i64 x,av,.pointer pl,.pointer pr,.bool c] 325 (0,0)
abbrev C0 (p:Option Addr) (n:Int):Obj := .cells #[.pointer p,.int .i64 n,.func (.func 299) #[] #[],.func (.func 300) #[] #[],.func (.func 301) #[] #[]] 323 (0,0)
def Ad (w:World):RB Int→Option Addr→List Nat→Prop
 | .nil,p,fp=>p=none∧fp=[]
 | .node l x r c,p,fp=>∃ b av pl pr fl fr,p=some ⟨b,0,none⟩∧fp=b :: (fl ++ fr)∧w.heap[b]?=some (EO x av pl pr c)∧HC w av (l.list ++ x :: r.list)∧Ad w l pl fl∧Ad w r pr fr
def C8 (w:World) (l:RB Int) (x:Int) (r:RB Int) (c:Bool) (p:Option Addr) (fp:List Nat):Prop :=
 ∃ b av pl pr fl fr,p=some ⟨b,0,none⟩∧fp=b :: (fl ++ fr)∧w.heap[b]?=some (EO x av pl pr c)∧Ad w l pl fl∧Ad w r pr fr
theorem Ad.Ld {w:World} {l:RB Int} {x:Int} {r:RB Int} {c:Bool} {p:Option Addr} {fp:List Nat} (h:Ad w (.node l x r c) p fp):C8 w l x r c p fp:=by
 obtain ⟨b,av,pl,pr,fl,fr,h1,h2,h3,h4,h5,h6⟩:=h
 exact ⟨b,av,pl,pr,fl,fr,h1,h2,h3,h5,h6⟩
def AL (w:World) (F:List Nat):Prop:=∀ b∈F,∃ cs fz,w.heap[b]?=some (.cells cs 325 fz)
theorem AL.nil (w:World):AL w []:=fun b h=>by cases h
theorem AL.append {w:World} {F G:List Nat} (h:AL w F) (k:AL w G):AL w (F ++ G):=fun b hb=>by
 rcases List.mem_append.1 hb with hb | hb
 ·exact h b hb
 ·exact k b hb
theorem AL.cons {w:World} {F:List Nat} {b:Nat} {cs:Array Value} {fz:Nat × Nat} (h:w.heap[b]?=some (.cells cs 325 fz)) (k:AL w F):AL w (b :: F):=fun b' hb=>by
 rcases List.mem_cons.1 hb with rfl | hb
 ·exact ⟨_,_,h⟩
 ·exact k b' hb
theorem Ad.nodes {w:World}:∀ {t:RB Int} {p:Option Addr} {fp:List Nat},Ad w t p fp→AL w fp
 | .nil,p,fp,⟨_,h⟩=>by subst h;exact AL.nil w
 | .node l x r c,p,fp,⟨b,av,pl,pr,fl,fr,h1,h2,h3,h4,h5,h6⟩=>by
   subst h2
   exact .cons h3 (h5.nodes.append h6.nodes)
theorem C8.nodes {w:World} {l:RB Int} {x:Int} {r:RB Int} {c:Bool} {p:Option Addr} {fp:List Nat} (h:C8 w l x r c p fp):AL w fp:=by
 obtain ⟨b,av,pl,pr,fl,fr,h1,h2,h3,h5,h6⟩:=h
 subst h2
 exact .cons h3 (h5.nodes.append h6.nodes)
theorem HC.keep {w w':World} {v:Value} {xs:List Int} {F:List Nat} (h:HC w v xs) (ho:AA F w w') (hF:AL w F):HC w' v xs:=by
 obtain ⟨ad,cap,rfl,h⟩:=h
 refine ⟨ad,cap,rfl,fun hn=>?_⟩
 obtain ⟨b,off,cs,fz,h1,h2,h3,h4⟩:=h hn
 refine ⟨b,off,cs,fz,h1,h2,ho.block h3 fun hb=>?_,h4⟩
 obtain ⟨cs',gV,h5⟩:=hF b hb
 rw [h3] at h5
 cases h5
theorem Ad.keep {w w':World} {F:List Nat} (ho:AA F w w') (hF:AL w F):∀ {t:RB Int} {p:Option Addr} {fp:List Nat},Ad w t p fp→(∀ b∈fp,b∉F)→Ad w' t p fp
 | .nil,p,fp,h,_=>h
 | .node l x r c,p,fp,⟨b,av,pl,pr,fl,fr,h1,h2,h3,h4,h5,h6⟩,hd=>by
   subst h2
   exact ⟨b,av,pl,pr,fl,fr,h1,rfl,ho.block h3 (hd b List.mem_cons_self),h4.keep ho hF,Ad.keep ho hF h5 fun k hk=>hd k (List.mem_cons_of_mem _ (List.mem_append_left _ hk)),
    Ad.keep ho hF h6 fun k hk=>hd k (List.mem_cons_of_mem _ (List.mem_append_right _ hk))⟩
theorem head_keep {w w':World} {F:List Nat} {tb:Nat} {p:Option Addr} {n:Int} (h:w.heap[tb]?=some (C0 p n)) (ho:AA F w w') (hF:AL w F):w'.heap[tb]?=some (C0 p n) :=
 ho.block h fun hb=>by
  obtain ⟨cs',gV,h5⟩:=hF tb hb
  rw [h] at h5
  cases h5
end Go.Proofs.Q0
namespace Go.Proofs.Q0
open Go Go.RowKit
attribute [local irreducible] XS XC XA AX AO A7 A0 AZ A8 Aa AV SE
theorem RA (a b:Int) (w0:World):AM Tryz.prog 299 #[.int .i64 a,.int .i64 b] w0 fun v w'=>v = .bool (decide (a < b))∧AA [] w0 w':=by
 have hs:=St.nil w0
 refine AQ Tryz.func299 Tryz.ntmps299 (k:=?_)
 refine Ja ?_
 refine AF ?_
 exact ⟨rfl,hs.AD rfl⟩
theorem Md (a:Int) (w0:World):AM Tryz.prog 300 #[.int .i64 a] w0 fun v w'=>HC w' v [a]∧AA [] w0 w':=by
 have hs:=St.nil w0
 refine AQ Tryz.func300 Tryz.ntmps300 (k:=?_)
 repeat' (first|refine Sa ?_|(refine bs hs (k:=?_);intro b w hz hs)|fail)
 refine AF ?_
 refine ⟨⟨_,_,rfl,fun _=>⟨_,0,[.int .i64 a],(0,0),rfl,Nat.le_refl _,hs.get At.head,fun i d h=>?_⟩⟩,hs.AD rfl⟩
 cases i with
 | zero=>simpa using h
 | succ i=>simp at h
theorem ints_one (xs:List Int):(xs.map (Value.int .i64)).all Value.oneCell'=true:=by simp [Value.oneCell']
theorem HC.cells {w:World} {ad:Option Addr} {cap n:Nat} {xs:List Int} (h:HC w (.slice ad n cap) xs) (hn:xs≠[]):∃ b off,ad=some ⟨b,off,none⟩∧n=xs.length∧n≤cap∧∀ (j:Nat) u,(ints xs)[j]?=some u→w.cell? ((⟨b,off,none⟩:Addr).add j)=some u:=by
 obtain ⟨ad',cap',e,h⟩:=h
 cases e
 obtain ⟨b,off,cs,fz,rfl,h2,h3,h4⟩:=h hn
 refine ⟨b,off,rfl,rfl,h2,fun j u hj=>?_⟩
 rw [El]
 unfold ints at hj
 rw [List.getElem?_map] at hj
 obtain ⟨d,hd,rfl⟩:=Option.map_eq_some_iff.1 hj
 simp [World.cell?,h3,h4 j d hd]
theorem Ms (va vb:Value) (A B:List Int) (gM:A≠[]) (hB0:B≠[]) (hlen:A.length+B.length≤1000000) (w0:World) (hA:HC w0 va A) (hB:HC w0 vb B) :
 AM Tryz.prog 301 #[va,vb] w0 fun v w'=>HC w' v (A ++ B)∧AA [] w0 w':=by
 obtain ⟨aa,ca,rfl,_⟩:=id hA
 obtain ⟨ab,cb,rfl,_⟩:=id hB
 have hs:=St.nil w0
 refine AQ Tryz.func301 Tryz.ntmps301 (k:=?_)
 refine Ag ?_
 refine Al ?_
 refine vs (k:=?_)
 refine XS.nil ?_
 refine Dw ?_
 refine Ag ?_
 refine Al ?_
 refine M3 AI rfl rfl hs ?_
 intro v1 w1 hO hv1
 refine vs (k:=?_)
 have AJ:=hO.st.AD rfl
 obtain ⟨b,off,rfl,_,_,hc⟩:=(hA.only AJ).cells gM
 refine RK AI rfl rfl rfl rfl rfl rfl (by simp [ints]) (List.length_pos_iff.2 gM) hc (List.all_eq_true.1 (ints_one A)) hO om om ?_
 intro v2 w2 hO hv2
 refine vs (k:=?_)
 have AN:=hO.st.AD rfl
 obtain ⟨b',off',rfl,_,_,M0⟩:=(hB.only AN).cells hB0
 refine RK AI rfl rfl rfl rfl rfl rfl (by simp [ints]) (List.length_pos_iff.2 hB0) M0 (List.all_eq_true.1 (ints_one B)) hO om om ?_
 intro v3 w3 hO hv3
 have hs:=hO.st
 refine Jc ?_
 refine AF ?_
 refine ⟨?_,hs.AD rfl⟩
 have e:ints A ++ ints B=ints (A ++ B):=by simp [ints]
 simp only [List.nil_append] at hO
 rw [e] at hO
 exact rZ hO (by simp)
theorem Bd (t:RB Int) (p:Option Addr) (fp:List Nat) (w0:World) (h:Ad w0 t p fp):AM Tryz.prog 314 #[.pointer p] w0 fun v w'=>v = .bool t.red∧AA [] w0 w':=by
 have hs:=St.nil w0
 cases t with
 | nil =>
   obtain ⟨rfl,rfl⟩:=h
   refine AQ Tryz.func314 Tryz.ntmps314 (k:=?_)
   repeat' (first|refine vs (k:=?_)|refine ps (k:=?_)|refine Al ?_|refine Nx.h ?_|fail)
   refine AF ?_
   exact ⟨rfl,hs.AD rfl⟩
 | node l x r c =>
   obtain ⟨b,av,pl,pr,fl,fr,rfl,h2,h3,h4,h5,h6⟩:=h
   replace hs:=hs.AG h3 (by simp)
   refine AQ Tryz.func314 Tryz.ntmps314 (k:=?_)
   refine Ja ?_
   refine AF ?_
   exact ⟨rfl,hs.AB [] (by simp [h3]) (by simp [D0])⟩
def dJ (e:Bn):Bool:=match e.2.1 with
 | .cells _ t _=>!(Nat.beq t 3)
 | _=>true
theorem HC.read {w wb:World} {D:Ctx} {H:List Bn} {v:Value} {ds:List Int} (hB:HC w v ds) (hs:St wb D H w) (hH:H.all dJ=true) :
 ∃ R,St wb ⟨D.dirty,R ++ D.ro⟩ H w∧∀ w',(∀ e∈R,w'.heap[e.1]?=some e.2)→HC w' v ds:=by
 obtain ⟨ad,cap,rfl,hD⟩:=hB
 by_cases hn:ds=[]
 ·exact ⟨[],hs,fun w' _=>⟨ad,cap,rfl,fun h=>absurd hn h⟩⟩
 ·obtain ⟨b,off,cs,fz,rfl,h1,h2,h3⟩:=hD hn
  refine ⟨[(b,.cells cs.toArray 3 fz)],hs.read h2 ?_,fun w' hw=>⟨_,cap,rfl,fun _=>⟨b,off,cs,fz,rfl,h1,hw _ List.mem_cons_self,h3⟩⟩⟩
  intro hm
  obtain ⟨e,he,hb⟩:=List.mem_map.1 hm
  have h4:=hs.at_ e he
  rw [hb,h2] at h4
  have h5:=List.all_eq_true.1 hH e he
  unfold dJ at h5
  cases pH:e.2.1 with
  | cells a t f =>
    rw [pH] at h4 h5
    cases h4
    simp at h5
  | _=>rw [pH] at h4;cases h4
theorem CZ {w:World} {tb b:Nat} {p:Option Addr} {n:Int} {cs:Array Value} {fz:Nat × Nat} (h:w.heap[tb]?=some (C0 p n)) (k:w.heap[b]?=some (.cells cs 325 fz)):b≠tb:=fun e=>by
 subst e
 rw [h] at k
 cases k
theorem EI (tb:Nat) (p0:Option Addr) (n0:Int) (l:RB Int) (x:Int) (r:RB Int) (c:Bool) (p:Option Addr) (fp:List Nat) (w0:World) (hT:w0.heap[tb]?=some (C0 p0 n0)) (h:C8 w0 l x r c p fp) (hnd:fp.Nodup) (hlen:(l.list ++ x :: r.list).length≤1000000) :
 AM Tryz.prog 313 #[.pointer (some ⟨tb,0,none⟩),.pointer p] w0 fun v w'=>Ad w' (.node l x r c) p fp∧AA fp w0 w':=by
 obtain ⟨b,av,pl,pr,fl,fr,rfl,rfl,hb,hl,hr⟩:=h
 have Dz:=CZ hT hb
 obtain ⟨hnb,kG⟩:=List.nodup_cons.1 hnd
 have hnl:∀ k∈fl,k∉[b]:=fun k hk hm=>by
  obtain rfl:=List.mem_singleton.1 hm
  exact hnb (List.mem_append_left _ hk)
 have Pk:∀ k∈fr,k∉[b]:=fun k hk hm=>by
  obtain rfl:=List.mem_singleton.1 hm
  exact hnb (List.mem_append_right _ hk)
 have hlr:∀ k∈fl,k∉fr:=fun k hk hm=>(List.nodup_append.1 kG).2.2 k hk k hm rfl
 have hNb:AL w0 [b]:=AL.cons hb (AL.nil w0)
 have fin:∀ (w':World) (LZ:Value),w'.heap[b]?=some (EO x LZ pl pr c)→HC w' LZ (l.list ++ x :: r.list)→AA [b] w0 w'→Ad w' (.node l x r c) (some ⟨b,0,none⟩) (b :: (fl ++ fr))∧AA (b :: (fl ++ fr)) w0 w':=fun w' LZ h1 h2 ho =>
  ⟨⟨b,LZ,pl,pr,fl,fr,rfl,rfl,h1,h2,hl.keep ho hNb hnl,hr.keep ho hNb Pk⟩,ho.weaken fun k hk=>by obtain rfl:=List.mem_singleton.1 hk;exact List.mem_cons_self⟩
 clear hnd
 have hs:=St.nil w0
 replace hs:=hs.AG hT (by simp)
 replace hs:=hs.AG hb (by simpa using Dz)
 cases l with
 | nil =>
   cases r with
   | nil =>
     obtain ⟨rfl,rfl⟩:=hl
     obtain ⟨rfl,rfl⟩:=hr
     refine AQ Tryz.func313 Tryz.ntmps313 (k:=?_)
     refine Jb ?_
     refine dr [12] hs (k:=?_);intro hX w hs
     refine tks 0 9 ?_
     refine dt 9 hX (k:=?_)
     refine cl (h:=by exact Md x _) (k:=?_)
     rintro v w' ⟨h1,ho⟩;replace hs:=hs.AK ho;obtain ⟨qH,o7,rfl,_⟩:=id h1;obtain ⟨R1,hs,h1⟩:=(h1).read hs rfl
     refine Jb ?_
     refine dn (k:=?_)
     refine tks 10 2 ?_
     refine dt 12 hX (k:=?_)
     repeat' (first|refine Nx.h ?_|(refine st hs (k:=?_);intro w hs)|fail)
     refine dn (k:=?_)
     refine en (k:=?_)
     refine Jd ?_
     refine JG ?_
     have Ci:=(h1 _ (fun e he=>hs.ro e (by simp [he])))
     refine fin _ _ (hs.get At.head) (by simpa [RB.list] using Ci) (hs.AB [b] (by simp [hT]) (by simp [D0]))
   | node rl rx rr rc =>
     obtain ⟨rfl,rfl⟩:=hl
     have LK:=hr
     obtain ⟨rb,fY,wI,uG,rfl',tZ,rfl,rfl,hrb,hrav,hrl,lD⟩:=hr
     have Vh:=CZ hT hrb
     have QL:rb≠b:=fun e=>by subst e;exact Pk _ List.mem_cons_self List.mem_cons_self
     replace hs:=hs.AG hrb (by simp [Vh,QL])
     obtain ⟨adR,cpR,rfl,_⟩:=id hrav
     obtain ⟨RR,hs,hrav⟩:=(hrav).read hs rfl
     refine AQ Tryz.func313 Tryz.ntmps313 (k:=?_)
     refine Jb ?_
     refine dr [12] hs (k:=?_);intro hX w hs
     refine tks 0 9 ?_
     refine dt 9 hX (k:=?_)
     refine cl (h:=by exact Md x _) (k:=?_)
     rintro v w' ⟨h1,ho⟩;replace hs:=hs.AK ho;obtain ⟨qH,o7,rfl,_⟩:=id h1;obtain ⟨R1,hs,h1⟩:=(h1).read hs rfl
     refine Jb ?_
     refine dn (k:=?_)
     refine tks 10 2 ?_
     refine dt 12 hX (k:=?_)
     repeat' (first|refine Nx.h ?_|(refine st hs (k:=?_);intro w hs)|fail)
     refine dn (k:=?_)
     refine en (k:=?_)
     repeat' (first|refine vs (k:=?_)|refine Al ?_|refine Nx.h ?_|refine Ew ?_|refine ES ?_|fail)
     refine dr [19] hs (k:=?_);intro hX w hs
     refine tks 0 16 ?_
     refine dt 16 hX (k:=?_)
     refine cl (h:=by exact Ms _ _ _ _ (by simp) (by simp [RB.list]) (by simp only [RB.list,List.length_append,List.length_cons,List.length_nil] at hlen ⊢;omega) _ (h1 _ (fun e he=>hs.ro e (by simp [he]))) (hrav _ (fun e he=>hs.ro e (by simp [he])))) (k:=?_)
     rintro v w' ⟨h3,ho⟩;replace hs:=hs.AK ho;obtain ⟨vZ,qQ,rfl,_⟩:=id h3;obtain ⟨R3,hs,h3⟩:=(h3).read hs rfl
     refine Jb ?_
     refine dn (k:=?_)
     refine tks 17 2 ?_
     refine dt 19 hX (k:=?_)
     repeat' (first|refine Nx.h ?_|(refine st hs (k:=?_);intro w hs)|fail)
     refine dn (k:=?_)
     refine en (k:=?_)
     skip
     refine JG ?_
     have Ci:=(h3 _ (fun e he=>hs.ro e (by simp [he])))
     refine fin _ _ (hs.get (At.tail At.head)) (by simpa [RB.list] using Ci) (hs.AB [b] (by simp [hT,hrb]) (by simp [D0]))
 | node ll lx lr lc =>
   cases r with
   | nil =>
     have hl0:=hl
     obtain ⟨lb,VP,gB,pG,qD,pP,rfl,rfl,hlb,hlav,G9,lX⟩:=hl
     have hlt:=CZ hT hlb
     have Qy:lb≠b:=fun e=>by subst e;exact hnl _ List.mem_cons_self List.mem_cons_self
     replace hs:=hs.AG hlb (by simp [hlt,Qy])
     obtain ⟨adL,cpL,rfl,_⟩:=id hlav
     obtain ⟨rfl,rfl⟩:=hr
     obtain ⟨RL,hs,hlav⟩:=(hlav).read hs rfl
     refine AQ Tryz.func313 Tryz.ntmps313 (k:=?_)
     refine Jb ?_
     refine dr [12] hs (k:=?_);intro hX w hs
     refine tks 0 9 ?_
     refine dt 9 hX (k:=?_)
     refine cl (h:=by exact Md x _) (k:=?_)
     rintro v w' ⟨h1,ho⟩;replace hs:=hs.AK ho;obtain ⟨qH,o7,rfl,_⟩:=id h1;obtain ⟨R1,hs,h1⟩:=(h1).read hs rfl
     refine Jb ?_
     refine dn (k:=?_)
     refine tks 10 2 ?_
     refine dt 12 hX (k:=?_)
     repeat' (first|refine Nx.h ?_|(refine st hs (k:=?_);intro w hs)|fail)
     refine dn (k:=?_)
     refine en (k:=?_)
     refine Je ?_
     refine dr [19] hs (k:=?_);intro hX w hs
     refine tks 0 16 ?_
     refine dt 16 hX (k:=?_)
     refine cl (h:=by exact Ms _ _ _ _ (by simp [RB.list]) (by simp) (by simp only [RB.list,List.length_append,List.length_cons,List.length_nil] at hlen ⊢;omega) _ (hlav _ (fun e he=>hs.ro e (by simp [he]))) (h1 _ (fun e he=>hs.ro e (by simp [he])))) (k:=?_)
     rintro v w' ⟨h2,ho⟩;replace hs:=hs.AK ho;obtain ⟨ad2,xB,rfl,_⟩:=id h2;obtain ⟨R2,hs,h2⟩:=(h2).read hs rfl
     refine Jb ?_
     refine dn (k:=?_)
     refine tks 17 2 ?_
     refine dt 19 hX (k:=?_)
     repeat' (first|refine Nx.h ?_|(refine st hs (k:=?_);intro w hs)|fail)
     refine dn (k:=?_)
     refine en (k:=?_)
     refine Jd ?_
     refine JG ?_
     have Ci:=(h2 _ (fun e he=>hs.ro e (by simp [he])))
     refine fin _ _ (hs.get (At.tail At.head)) (by simpa [RB.list] using Ci) (hs.AB [b] (by simp [hT,hlb]) (by simp [D0]))
   | node rl rx rr rc =>
     have hl0:=hl
     obtain ⟨lb,VP,gB,pG,qD,pP,rfl,rfl,hlb,hlav,G9,lX⟩:=hl
     have hlt:=CZ hT hlb
     have Qy:lb≠b:=fun e=>by subst e;exact hnl _ List.mem_cons_self List.mem_cons_self
     replace hs:=hs.AG hlb (by simp [hlt,Qy])
     obtain ⟨adL,cpL,rfl,_⟩:=id hlav
     have LK:=hr
     obtain ⟨rb,fY,wI,uG,rfl',tZ,rfl,rfl,hrb,hrav,hrl,lD⟩:=hr
     have Vh:=CZ hT hrb
     have QL:rb≠b:=fun e=>by subst e;exact Pk _ List.mem_cons_self List.mem_cons_self
     have lN:rb≠lb:=fun e=>by subst e;exact hlr _ List.mem_cons_self List.mem_cons_self
     replace hs:=hs.AG hrb (by simp [Vh,QL,lN])
     obtain ⟨adR,cpR,rfl,_⟩:=id hrav
     obtain ⟨RL,hs,hlav⟩:=(hlav).read hs rfl
     obtain ⟨RR,hs,hrav⟩:=(hrav).read hs rfl
     refine AQ Tryz.func313 Tryz.ntmps313 (k:=?_)
     refine Jb ?_
     refine dr [12] hs (k:=?_);intro hX w hs
     refine tks 0 9 ?_
     refine dt 9 hX (k:=?_)
     refine cl (h:=by exact Md x _) (k:=?_)
     rintro v w' ⟨h1,ho⟩;replace hs:=hs.AK ho;obtain ⟨qH,o7,rfl,_⟩:=id h1;obtain ⟨R1,hs,h1⟩:=(h1).read hs rfl
     refine Jb ?_
     refine dn (k:=?_)
     refine tks 10 2 ?_
     refine dt 12 hX (k:=?_)
     repeat' (first|refine Nx.h ?_|(refine st hs (k:=?_);intro w hs)|fail)
     refine dn (k:=?_)
     refine en (k:=?_)
     refine Je ?_
     refine dr [19] hs (k:=?_);intro hX w hs
     refine tks 0 16 ?_
     refine dt 16 hX (k:=?_)
     refine cl (h:=by exact Ms _ _ _ _ (by simp [RB.list]) (by simp) (by simp only [RB.list,List.length_append,List.length_cons,List.length_nil] at hlen ⊢;omega) _ (hlav _ (fun e he=>hs.ro e (by simp [he]))) (h1 _ (fun e he=>hs.ro e (by simp [he])))) (k:=?_)
     rintro v w' ⟨h2,ho⟩;replace hs:=hs.AK ho;obtain ⟨ad2,xB,rfl,_⟩:=id h2;obtain ⟨R2,hs,h2⟩:=(h2).read hs rfl
     refine Jb ?_
     refine dn (k:=?_)
     refine tks 17 2 ?_
     refine dt 19 hX (k:=?_)
     repeat' (first|refine Nx.h ?_|(refine st hs (k:=?_);intro w hs)|fail)
     refine dn (k:=?_)
     refine en (k:=?_)
     refine Je ?_
     refine dr [19] hs (k:=?_);intro hX w hs
     refine tks 0 16 ?_
     refine dt 16 hX (k:=?_)
     refine cl (h:=by exact Ms _ _ _ _ (by simp) (by simp [RB.list]) (by simp only [RB.list,List.length_append,List.length_cons,List.length_nil] at hlen ⊢;omega) _ (h2 _ (fun e he=>hs.ro e (by simp [he]))) (hrav _ (fun e he=>hs.ro e (by simp [he])))) (k:=?_)
     rintro v w' ⟨h3,ho⟩;replace hs:=hs.AK ho;obtain ⟨vZ,qQ,rfl,_⟩:=id h3;obtain ⟨R3,hs,h3⟩:=(h3).read hs rfl
     refine Jb ?_
     refine dn (k:=?_)
     refine tks 17 2 ?_
     refine dt 19 hX (k:=?_)
     repeat' (first|refine Nx.h ?_|(refine st hs (k:=?_);intro w hs)|fail)
     refine dn (k:=?_)
     refine en (k:=?_)
     skip
     refine JG ?_
     have Ci:=(h3 _ (fun e he=>hs.ro e (by simp [he])))
     refine fin _ _ (hs.get (At.tail (At.tail At.head))) (by simpa [RB.list] using Ci) (hs.AB [b] (by simp [hT,hlb,hrb]) (by simp [D0]))
theorem perm_turn (b u:Nat) (A B C:List Nat):(u :: ((b :: (A ++ B)) ++ C)).Perm (b :: (A ++ (u :: (B ++ C)))):=by
 have h1:(u :: b :: (A ++ (B ++ C))).Perm (b :: u :: (A ++ (B ++ C))):=List.Perm.swap _ _ _
 have h2:(b :: u :: (A ++ (B ++ C))).Perm (b :: (A ++ (u :: (B ++ C)))):=List.Perm.cons _ List.perm_middle.symm
 have:=h1.trans h2
 simpa using this
theorem AL.lt {w:World} {F:List Nat} (h:AL w F):∀ k∈F,k < w.heap.size:=fun k hk=>by
 obtain ⟨cs,fz,h⟩:=h k hk
 exact lt_of_block h
def Cb (w0:World) (fp:List Nat) (t':RB Int) (v:Value) (w':World):Prop :=
 ∃ p' Ca,v = .pointer p'∧Ad w' t' p' Ca∧Ca.Nodup∧(∀ k∈Ca,k∈fp∨w0.heap.size≤k)∧AA fp w0 w'
theorem Kc (tb:Nat) (p0:Option Addr) (n0:Int) (l:RB Int) (x:Int) (rl:RB Int) (y:Int) (rr:RB Int) (c c2:Bool) (p:Option Addr) (fp:List Nat) (w0:World) (hT:w0.heap[tb]?=some (C0 p0 n0)) (h:C8 w0 l x (.node rl y rr c2) c p fp) (hnd:fp.Nodup) (hlen:(l.list ++ x :: (rl.list ++ y :: rr.list)).length≤1000000) :
 AM Tryz.prog 315 #[.pointer (some ⟨tb,0,none⟩),.pointer p] w0 fun v w'=>Cb w0 fp (.node (.node l x rl true) y rr c) v w':=by
 obtain ⟨b,av,pl,pr,fl,fr,rfl,rfl,hb,hl,u,JM,fZ,uT,frl,KM,rfl,rfl,hu,_,hrl,Ux⟩:=h
 have hp:=perm_turn b u fl frl KM
 have QX:=hp.nodup_iff.2 hnd
 have hNb:AL w0 [u,b]:=AL.cons hu (AL.cons hb (AL.nil w0))
 simp only [List.length_append,List.length_cons] at hlen
 obtain ⟨d1,d2,d3,d4,d5,d6,d7,d8⟩:u≠b∧(∀ k∈fl,k∉[u,b])∧(∀ k∈frl,k∉[u,b])∧(∀ k∈KM,k∉[u,b])∧(b :: (fl ++ frl)).Nodup∧u∉b :: (fl ++ frl)∧(∀ k∈KM,k∉b :: (fl ++ frl))∧(u :: ((b :: (fl ++ frl)) ++ KM)).Nodup:=by
  simp only [List.cons_append,List.append_assoc,List.nodup_cons,List.nodup_append,List.mem_append,List.mem_cons,List.not_mem_nil,or_false] at QX ⊢
  grind
 have hs:=St.nil w0
 replace hs:=hs.AG hb (by simp)
 replace hs:=hs.AG hu (by simpa using d1)
 refine AQ Tryz.func315 Tryz.ntmps315 (k:=?_)
 repeat' (first|refine Sa ?_|(refine st hs (k:=?_);intro w hs)|fail)
 have AJ:AA [u,b] w0 _:=hs.AB [u,b] (by simp) (by simp [D0])
 have Bv:=hs.get (At.tail At.head)
 have VV:=hs.get At.head
 have Ec:=hl.keep AJ hNb d2
 have Us:=hrl.keep AJ hNb d3
 have nJ:=Ux.keep AJ hNb d4
 have CI:=head_keep hT AJ hNb
 clear hs
 refine cl (h:=by exact EI tb p0 n0 l x rl true _ _ _ CI ⟨b,av,pl,fZ,fl,frl,rfl,rfl,Bv,Ec,Us⟩ d5 (by simp only [List.length_append,List.length_cons];omega)) (k:=?_)
 rintro v w' ⟨Bj,AN⟩
 have MT:AL _ (b :: (fl ++ frl)):=C8.nodes ⟨b,av,pl,fZ,fl,frl,rfl,rfl,Bv,Ec,Us⟩
 have Gu:=AN.block VV d6
 have lH:=nJ.keep AN MT d7
 have L0:=head_keep CI AN MT
 have hs:=St.nil w'
 refine Ja ?_
 refine cl (h:=by exact EI tb p0 n0 (.node l x rl true) y rr c _ _ _ L0 ⟨u,JM,_,uT,_,KM,rfl,rfl,Gu,Bj,lH⟩ d8 (by simp only [RB.list,List.length_append,List.length_cons];omega)) (k:=?_)
 rintro v w'' ⟨Fj,AT⟩
 have hs:=St.nil w''
 refine Ja ?_
 refine AF ?_
 have e:∀ k,k∈u :: ((b :: (fl ++ frl)) ++ KM)→k∈b :: (fl ++ (u :: (frl ++ KM))):=fun k hk=>hp.mem_iff.1 hk
 have o1:AA (b :: (fl ++ (u :: (frl ++ KM)))) w0 _:=AJ.weaken (by simp)
 have o2:=o1.step AN (fun k hk => .inl (e k (List.mem_cons_of_mem _ (List.mem_append_left _ hk))))
 exact ⟨_,_,rfl,Fj,d8,fun k hk => .inl (e k hk),o2.step AT (fun k hk => .inl (e k hk))⟩
theorem GV (tb:Nat) (p0:Option Addr) (n0:Int) (ll:RB Int) (y:Int) (lr:RB Int) (x:Int) (r:RB Int) (c c2:Bool) (p:Option Addr) (fp:List Nat) (w0:World) (hT:w0.heap[tb]?=some (C0 p0 n0)) (h:C8 w0 (.node ll y lr c2) x r c p fp) (hnd:fp.Nodup) (hlen:(ll.list ++ y :: (lr.list ++ x :: r.list)).length≤1000000) :
 AM Tryz.prog 316 #[.pointer (some ⟨tb,0,none⟩),.pointer p] w0 fun v w'=>Cb w0 fp (.node ll y (.node lr x r true) c) v w':=by
 obtain ⟨b,av,pl,pr,fl,fr,rfl,rfl,hb,⟨u,JM,Ta,Po,fll,flr,rfl,rfl,hu,_,G9,hlr⟩,hr⟩:=h
 have hp:=(perm_turn u b fll flr fr).symm
 have QX:=hp.nodup_iff.2 hnd
 have hNb:AL w0 [u,b]:=AL.cons hu (AL.cons hb (AL.nil w0))
 simp only [List.length_append,List.length_cons] at hlen
 obtain ⟨d1,d2,d3,d4,d5,d6,d7,d8⟩:u≠b∧(∀ k∈fr,k∉[u,b])∧(∀ k∈flr,k∉[u,b])∧(∀ k∈fll,k∉[u,b])∧(b :: (flr ++ fr)).Nodup∧u∉b :: (flr ++ fr)∧(∀ k∈fll,k∉b :: (flr ++ fr))∧(u :: (fll ++ (b :: (flr ++ fr)))).Nodup:=by
  simp only [List.cons_append,List.append_assoc,List.nodup_cons,List.nodup_append,List.mem_append,List.mem_cons,List.not_mem_nil,or_false] at QX ⊢
  grind
 have hs:=St.nil w0
 replace hs:=hs.AG hb (by simp)
 replace hs:=hs.AG hu (by simpa using d1)
 refine AQ Tryz.func316 Tryz.ntmps316 (k:=?_)
 repeat' (first|refine Sa ?_|(refine st hs (k:=?_);intro w hs)|fail)
 have AJ:AA [u,b] w0 _:=hs.AB [u,b] (by simp) (by simp [D0])
 have Bv:=hs.get (At.tail At.head)
 have VV:=hs.get At.head
 have hrw:=hr.keep AJ hNb d2
 have W4:=hlr.keep AJ hNb d3
 have kT:=G9.keep AJ hNb d4
 have CI:=head_keep hT AJ hNb
 clear hs
 refine cl (h:=by exact EI tb p0 n0 lr x r true _ _ _ CI ⟨b,av,Po,pr,flr,fr,rfl,rfl,Bv,W4,hrw⟩ d5 (by simp only [List.length_append,List.length_cons];omega)) (k:=?_)
 rintro v w' ⟨Bj,AN⟩
 have MT:AL _ (b :: (flr ++ fr)):=C8.nodes ⟨b,av,Po,pr,flr,fr,rfl,rfl,Bv,W4,hrw⟩
 have Gu:=AN.block VV d6
 have mE:=kT.keep AN MT d7
 have L0:=head_keep CI AN MT
 have hs:=St.nil w'
 refine Ja ?_
 refine cl (h:=by exact EI tb p0 n0 ll y (.node lr x r true) c _ _ _ L0 ⟨u,JM,Ta,_,fll,_,rfl,rfl,Gu,mE,Bj⟩ d8 (by simp only [RB.list,List.length_append,List.length_cons];omega)) (k:=?_)
 rintro v w'' ⟨Fj,AT⟩
 have hs:=St.nil w''
 refine Ja ?_
 refine AF ?_
 have e:∀ k,k∈u :: (fll ++ (b :: (flr ++ fr)))→k∈b :: ((u :: (fll ++ flr)) ++ fr):=fun k hk=>hp.mem_iff.1 hk
 have o1:AA (b :: ((u :: (fll ++ flr)) ++ fr)) w0 _:=AJ.weaken (by simp)
 have o2:=o1.step AN (fun k hk => .inl (e k (List.mem_cons_of_mem _ (List.mem_append_right _ hk))))
 exact ⟨_,_,rfl,Fj,d8,fun k hk => .inl (e k hk),o2.step AT (fun k hk => .inl (e k hk))⟩
theorem GJ (a:RB Int) (x:Int) (b:RB Int) (c1:Bool) (y:Int) (d:RB Int) (z:Int) (e:RB Int) (c2 c:Bool) (p:Option Addr) (fp:List Nat) (w0:World) (h:Ad w0 (.node (.node a x b c1) y (.node d z e c2) c) p fp) (hnd:fp.Nodup) :
 AM Tryz.prog 317 #[.pointer p] w0 fun v w'=>Ad w' (.node (.node a x b !c1) y (.node d z e !c2) !c) p fp∧AA fp w0 w':=by
 obtain ⟨m,av,_,_,_,_,rfl,rfl,hm,Ci,⟨u,JM,pa,pb,fa,fb,rfl,rfl,hu,Mc,ha,hb⟩,⟨v,vT,pd,pe,fd,fe,rfl,rfl,hv,kW,hd,he⟩⟩:=h
 have hNb:AL w0 [v,u,m]:=AL.cons hv (AL.cons hu (AL.cons hm (AL.nil w0)))
 obtain ⟨d1,d2,d3,d4,d5,d6,d7⟩:u≠m∧v≠m∧v≠u∧(∀ k∈fa,k∉[v,u,m])∧(∀ k∈fb,k∉[v,u,m])∧(∀ k∈fd,k∉[v,u,m])∧(∀ k∈fe,k∉[v,u,m]):=by
  simp only [List.cons_append,List.append_assoc,List.nodup_cons,List.nodup_append,List.mem_append,List.mem_cons,List.not_mem_nil,or_false] at hnd ⊢
  grind
 have hs:=St.nil w0
 replace hs:=hs.AG hm (by simp)
 replace hs:=hs.AG hu (by simpa using d1)
 replace hs:=hs.AG hv (by simp [d2,d3])
 refine AQ Tryz.func317 Tryz.ntmps317 (k:=?_)
 repeat' (first|refine Sa ?_|(refine st hs (k:=?_);intro w hs)|fail)
 refine dr [14] hs (k:=?_);intro hX w hs
 refine tks 0 14 ?_
 refine dt 14 hX (k:=?_)
 repeat' (first|refine Nx.h ?_|(refine st hs (k:=?_);intro w hs)|fail)
 refine dn (k:=?_)
 refine en (k:=?_)
 refine Jb ?_
 refine dr [14] hs (k:=?_);intro hX w hs
 refine tks 0 14 ?_
 refine dt 14 hX (k:=?_)
 repeat' (first|refine Nx.h ?_|(refine st hs (k:=?_);intro w hs)|fail)
 refine dn (k:=?_)
 refine en (k:=?_)
 skip
 refine JG ?_
 have AJ:AA [v,u,m] w0 _:=hs.AB [v,u,m] (by simp) (by simp [D0])
 refine ⟨⟨m,av,_,_,_,_,rfl,rfl,hs.get (At.tail (At.tail At.head)),Ci.keep AJ hNb,⟨u,JM,pa,pb,fa,fb,rfl,rfl,hs.get (At.tail At.head),Mc.keep AJ hNb,ha.keep AJ hNb d4,hb.keep AJ hNb d5⟩,⟨v,vT,pd,pe,fd,fe,rfl,rfl,hs.get At.head,kW.keep AJ hNb,hd.keep AJ hNb d6,he.keep AJ hNb d7⟩⟩,AJ.weaken (by simp)⟩
structure Has (w0:World) (tb:Nat) (p0:Option Addr) (n0:Int) (fp:List Nat) (t:RB Int) (p:Option Addr) (w:World):Prop where
 tree:∃ Ca,Ad w t p Ca∧Ca.Nodup∧(∀ k∈Ca,k∈fp∨w0.heap.size≤k)∧AA fp w0 w
 head:w.heap[tb]?=some (C0 p0 n0)
theorem Has.only {w0 w w':World} {tb:Nat} {p0:Option Addr} {n0:Int} {fp:List Nat} {t:RB Int} {p:Option Addr} (h:Has w0 tb p0 n0 fp t p w) (ho:AA [] w w'):Has w0 tb p0 n0 fp t p w':=by
 obtain ⟨⟨Ca,h1,h2,h3,h4⟩,h5⟩:=h
 exact ⟨⟨Ca,h1.keep ho (AL.nil w) (fun k _=>by simp),h2,h3,h4.step ho (by simp)⟩,head_keep h5 ho (AL.nil w)⟩
theorem Has.next {w0 w w':World} {tb:Nat} {p0:Option Addr} {n0:Int} {fp DT:List Nat} {t t':RB Int} {p:Option Addr} {v:Value} (h1:Ad w t p DT) (h2:∀ k∈DT,k∈fp∨w0.heap.size≤k) (h3:AA fp w0 w) (h4:w.heap[tb]?=some (C0 p0 n0)) (k:Cb w DT t' v w') :
 ∃ p',v = .pointer p'∧Has w0 tb p0 n0 fp t' p' w':=by
 obtain ⟨p',Ca,rfl,k1,k2,k3,k4⟩:=k
 refine ⟨p',rfl,⟨Ca,k1,k2,fun i hi=>?_,h3.step k4 h2⟩,head_keep h4 k4 h1.nodes⟩
 have:=h3.size
 rcases k3 i hi with h | h
 ·exact h2 i h
 ·exact .inr om
theorem JJ (l:RB Int) (x:Int) (r:RB Int) (c:Bool):∃ l' x' r' c',RB.DU (.node l x r c) = .node l' x' r' c':=by
 unfold RB.DU
 cases r with
 | nil=>exact ⟨_,_,_,_,rfl⟩
 | node rl y rr d =>
   cases d <;> cases h:l.red <;> simp only [RB.Ay,RB.Ap,RB.BL,h,Bool.not_true,Bool.not_false,Bool.and_true,Bool.and_false,Bool.and_self,cond_true,cond_false,RB.GQ] <;> exact ⟨_,_,_,_,rfl⟩
theorem Iz (l:RB Int) (x:Int) (r:RB Int) (c:Bool):∃ l' x' r' c',RB.ED (.node l x r c) = .node l' x' r' c':=by
 unfold RB.ED
 cases l with
 | nil=>exact ⟨_,_,_,_,rfl⟩
 | node rl y rr d =>
   cases d <;> cases h:rl.red <;> simp only [RB.Ay,RB.Ap,RB.BL,h,Bool.not_true,Bool.not_false,Bool.and_true,Bool.and_false,Bool.and_self,cond_true,cond_false,RB.Cy] <;> exact ⟨_,_,_,_,rfl⟩
theorem GC (tb:Nat) (p0:Option Addr) (n0:Int) (l:RB Int) (x:Int) (r:RB Int) (c:Bool) (p:Option Addr) (fp:List Nat) (w0:World) (hT:w0.heap[tb]?=some (C0 p0 n0)) (h:C8 w0 l x r c p fp) (hnd:fp.Nodup) (hlen:(l.list ++ x :: r.list).length≤1000000) :
 AM Tryz.prog 310 #[.pointer (some ⟨tb,0,none⟩),.pointer p] w0 fun v w'=>Cb w0 fp (RB.mend (.node l x r c)) v w':=by
 have hs:=St.nil w0
 refine AQ Tryz.func310 Tryz.ntmps310 (k:=?_)
 refine Ja ?_
 clear hs
 refine cl (h:=by exact EI tb p0 n0 l x r c _ _ _ hT h hnd hlen) (k:=?_)
 rintro v w1 ⟨Bj,AJ⟩
 have hH:Has w0 tb p0 n0 fp (.node l x r c) p w1:=⟨⟨fp,Bj,hnd,fun k hk => .inl hk,AJ⟩,head_keep hT AJ h.nodes⟩
 clear Bj AJ
 refine XS.nil ?_
 refine Dw ?_
 refine Ag ?_
 refine Ag ?_
 refine B7 (fun _:Unit=>[(0,.pointer (some ⟨tb,0,none⟩)),(1,.pointer p),(4,.pointer none),(20,.bool (r.red && !l.red))]) (fun _ w=>Has w0 tb p0 n0 fp (.node l x r c) p w) ?_ ?_
 ·obtain ⟨⟨DT,⟨b,av,pl,pr,fl,fr,rfl,rfl,hb,Ci,hl,hr⟩,J2,hsub,ho⟩,hd⟩:=hH
  have hH:Has w0 tb p0 n0 fp (.node l x r c) (some ⟨b,0,none⟩) w1:=⟨⟨_,⟨b,av,pl,pr,fl,fr,rfl,rfl,hb,Ci,hl,hr⟩,J2,hsub,ho⟩,hd⟩
  have hs:=(St.nil w1).AG hb (by simp)
  refine Jk ?_
  have AN:AA [] w1 _:=hs.AB [] (by simp [hb]) (by simp [D0])
  refine AY hs (h:=by exact Bd r pr fr _ (hr.keep AN (AL.nil _) (by simp))) (k:=?_);intro w' ho hs
  generalize hq:r.red=q
  cases q
  ·refine Jj ?_
   exact AP () Ab (hH.only (hs.AB [] (by simp [hb]) (by simp [D0])))
  ·refine Jf ?_
   have AN:AA [] w1 _:=hs.AB [] (by simp [hb]) (by simp [D0])
   refine AY hs (h:=by exact Bd l pl fl _ (hl.keep AN (AL.nil _) (by simp))) (k:=?_);intro w' ho hs
   generalize Gj:l.red=q2
   refine Jc ?_
   exact AP () Ab (hH.only (hs.AB [] (by simp [hb]) (by simp [D0])))
 clear hH
 rintro _ env w hH
 refine B7 (fun s:Option Addr=>[(0,.pointer (some ⟨tb,0,none⟩)),(1,.pointer s),(4,.pointer none)]) (fun s w=>Has w0 tb p0 n0 fp (RB.DU (.node l x r c)) s w) ?_ ?_
 ·generalize hq:(r.red && !l.red)=q
  cases q
  ·refine Jg ?_
   refine AP p Ab ?_
   unfold RB.DU
   rw [RB.Ay,RB.Ap,hq]
   exact hH
  ·obtain ⟨⟨DT,h1,h2,h3,h4⟩,h5⟩:=hH
   simp only [Bool.and_eq_true,Bool.not_eq_true'] at hq
   obtain ⟨rl,y,rr,rfl⟩:=RB.Bo hq.1
   have hs:=St.nil w
   refine Ji ?_
   refine cl (h:=by exact Kc tb p0 n0 l x rl y rr c true _ _ _ h5 h1.Ld h2 hlen) (k:=?_)
   rintro v w' hv
   obtain ⟨p',rfl,hH⟩:=Has.next h1 h3 h4 h5 hv
   have hs:=St.nil w'
   refine Jc ?_
   refine AP p' Ab ?_
   unfold RB.DU
   rw [RB.Ay,RB.Ap,RB.BL,hq.2]
   exact hH
 obtain ⟨l1,x1,r1,c1,e1⟩:=JJ l x r c
 have Zw:(l1.list ++ x1 :: r1.list).length≤1000000:=by
  have h1:(RB.DU (.node l x r c)).list=l.list ++ x :: r.list:=by
   unfold RB.DU
   cases (RB.red _ && _) <;> simp only [cond_true,cond_false,RB.Jo,RB.list]
  rw [e1] at h1
  rw [← h1] at hlen
  exact hlen
 rintro p1 env w hH
 rw [e1] at hH
 refine Ag ?_
 refine Ag ?_
 refine B7 (fun _:Unit=>[(0,.pointer (some ⟨tb,0,none⟩)),(1,.pointer p1),(4,.pointer none),(38,.bool (l1.red && l1.left.red))]) (fun _ w=>Has w0 tb p0 n0 fp (.node l1 x1 r1 c1) p1 w) ?_ ?_
 ·obtain ⟨⟨DT,⟨b,av,pl,pr,fl,fr,rfl,rfl,hb,Ci,hl,hr⟩,J2,hsub,ho⟩,hd⟩:=hH
  have hH:Has w0 tb p0 n0 fp (.node l1 x1 r1 c1) (some ⟨b,0,none⟩) w:=⟨⟨_,⟨b,av,pl,pr,fl,fr,rfl,rfl,hb,Ci,hl,hr⟩,J2,hsub,ho⟩,hd⟩
  cases hq:l1.red
  ·have hs:=(St.nil w).AG hb (by simp)
   refine Jk ?_
   have AN:AA [] w _:=hs.AB [] (by simp [hb]) (by simp [D0])
   refine AY hs (h:=by exact Bd l1 pl fl _ (hl.keep AN (AL.nil _) (by simp))) (k:=?_);intro w' ho hs
   rw [hq]
   refine Jj ?_
   exact AP () Ab (hH.only (hs.AB [] (by simp [hb]) (by simp [D0])))
  ·obtain ⟨ll,y,lr,rfl⟩:=RB.Bo hq
   have hl0:=hl
   obtain ⟨u,JM,Ta,Po,fll,flr,rfl,rfl,hu,Mc,G9,hlr⟩:=hl
   have R5:u≠b:=fun e=>by
    subst e
    simp at J2
   have hs:=((St.nil w).AG hb (by simp)).AG hu (by simpa using R5)
   refine Jk ?_
   have AN:AA [] w _:=hs.AB [] (by simp [hb,hu]) (by simp [D0])
   refine AY hs (h:=by exact Bd _ _ _ _ (hl0.keep AN (AL.nil _) (by simp))) (k:=?_);intro w' ho hs
   rw [hq]
   refine Jf ?_
   have AN:AA [] w _:=hs.AB [] (by simp [hb,hu]) (by simp [D0])
   refine AY hs (h:=by exact Bd _ _ _ _ (G9.keep AN (AL.nil _) (by simp))) (k:=?_);intro w' ho hs
   rw [RB.Ap]
   generalize Gj:ll.red=q2
   refine Jc ?_
   exact AP () Ab (hH.only (hs.AB [] (by simp [hb,hu]) (by simp [D0])))
 clear hH
 rintro _ env w hH
 refine B7 (fun s:Option Addr=>[(0,.pointer (some ⟨tb,0,none⟩)),(1,.pointer s),(4,.pointer none)]) (fun s w=>Has w0 tb p0 n0 fp (RB.ED (.node l1 x1 r1 c1)) s w) ?_ ?_
 ·generalize hq:(l1.red && l1.left.red)=q
  cases q
  ·refine Jg ?_
   refine AP p1 Ab ?_
   unfold RB.ED
   rw [RB.Ap,hq]
   exact hH
  ·obtain ⟨⟨DT,h1,h2,h3,h4⟩,h5⟩:=hH
   simp only [Bool.and_eq_true] at hq
   obtain ⟨ll,y,lr,rfl⟩:=RB.Bo hq.1
   have hs:=St.nil w
   refine Ji ?_
   refine cl (h:=by exact GV tb p0 n0 ll y lr x1 r1 c1 true _ _ _ h5 h1.Ld h2 (by simpa [RB.list] using Zw)) (k:=?_)
   rintro v w' hv
   obtain ⟨p',rfl,hH⟩:=Has.next h1 h3 h4 h5 hv
   have hs:=St.nil w'
   refine Jc ?_
   refine AP p' Ab ?_
   unfold RB.ED
   rw [RB.Ap,RB.BL,hq.2]
   exact hH
 obtain ⟨l2,x2,r2,c2,e2⟩:=Iz l1 x1 r1 c1
 rintro p2 env w hH
 rw [e2] at hH
 refine Ag ?_
 refine Ag ?_
 refine B7 (fun _:Unit=>[(0,.pointer (some ⟨tb,0,none⟩)),(1,.pointer p2),(4,.pointer none),(53,.bool (l2.red && r2.red))]) (fun _ w=>Has w0 tb p0 n0 fp (.node l2 x2 r2 c2) p2 w) ?_ ?_
 ·obtain ⟨⟨DT,⟨b,av,pl,pr,fl,fr,rfl,rfl,hb,Ci,hl,hr⟩,J2,hsub,ho⟩,hd⟩:=hH
  have hH:Has w0 tb p0 n0 fp (.node l2 x2 r2 c2) (some ⟨b,0,none⟩) w:=⟨⟨_,⟨b,av,pl,pr,fl,fr,rfl,rfl,hb,Ci,hl,hr⟩,J2,hsub,ho⟩,hd⟩
  have hs:=(St.nil w).AG hb (by simp)
  refine Jk ?_
  have AN:AA [] w _:=hs.AB [] (by simp [hb]) (by simp [D0])
  refine AY hs (h:=by exact Bd l2 pl fl _ (hl.keep AN (AL.nil _) (by simp))) (k:=?_);intro w' ho hs
  generalize hq:l2.red=q
  cases q
  ·refine Jj ?_
   exact AP () Ab (hH.only (hs.AB [] (by simp [hb]) (by simp [D0])))
  ·refine Jf ?_
   have AN:AA [] w _:=hs.AB [] (by simp [hb]) (by simp [D0])
   refine AY hs (h:=by exact Bd r2 pr fr _ (hr.keep AN (AL.nil _) (by simp))) (k:=?_);intro w' ho hs
   generalize Gj:r2.red=q2
   refine Jc ?_
   exact AP () Ab (hH.only (hs.AB [] (by simp [hb]) (by simp [D0])))
 clear hH
 rintro _ env w hH
 refine B7 (fun _:Unit=>[(0,.pointer (some ⟨tb,0,none⟩)),(1,.pointer p2),(4,.pointer none)]) (fun _ w=>Has w0 tb p0 n0 fp (RB.EE (.node l2 x2 r2 c2)) p2 w) ?_ ?_
 ·generalize hq:(l2.red && r2.red)=q
  cases q
  ·refine Jg ?_
   refine AP () Ab ?_
   unfold RB.EE
   rw [RB.Ap,RB.Ay,hq]
   exact hH
  ·obtain ⟨⟨DT,h1,h2,h3,h4⟩,h5⟩:=hH
   simp only [Bool.and_eq_true] at hq
   obtain ⟨ll,y,lr,rfl⟩:=RB.Bo hq.1
   obtain ⟨rl,z,rr,rfl⟩:=RB.Bo hq.2
   have hs:=St.nil w
   refine Ji ?_
   refine cl (h:=by exact GJ ll y lr true x2 rl z rr true c2 p2 DT _ h1 h2) (k:=?_)
   rintro v w' ⟨k1,k2⟩
   have hs:=St.nil w'
   refine Jb ?_
   refine AP () Ab ⟨⟨DT,k1,h2,h3,h4.step k2 h3⟩,head_keep h5 k2 h1.nodes⟩
 rintro _ env w hH
 have e3:RB.EE (.node l2 x2 r2 c2)=RB.mend (.node l x r c):=by rw [← e2,← e1];rfl
 rw [e3] at hH
 have hs:=St.nil w
 obtain ⟨⟨DT,h1,h2,h3,h4⟩,h5⟩:=hH
 refine Ja ?_
 refine AF ?_
 exact ⟨_,DT,rfl,h1,h2,h3,h4.step (hs.AD rfl) (by simp)⟩
theorem Cb.up {w0 w2 w3:World} {fp EA:List Nat} {t:RB Int} {v:Value} (k:Cb w2 EA t v w3) (ho:AA fp w0 w2) (hs:∀ k∈EA,k∈fp∨w0.heap.size≤k):Cb w0 fp t v w3:=by
 obtain ⟨p',Ca,rfl,k1,k2,k3,k4⟩:=k
 refine ⟨p',Ca,rfl,k1,k2,fun i hi=>?_,ho.step k4 hs⟩
 have:=ho.size
 rcases k3 i hi with h | h
 ·exact hs i h
 ·exact .inr om
theorem Nl {w w' w2:World} {b:Nat} {y y2:Int} {av Oq:Value} {pl pr p':Option Addr} {c c2:Bool} {fl fr:List Nat} {r l':RB Int} (hb:w.heap[b]?=some (EO y av pl pr c)) (hl:AL w fl) (hr:Ad w r pr fr) (hnd:(b :: (fl ++ fr)).Nodup)
 (k:Cb w fl l' (.pointer p') w') (ho:AA [b] w' w2) (Dv:w2.heap[b]?=some (EO y2 Oq p' pr c2)) :
 ∃ EA,C8 w2 l' y2 r c2 (some ⟨b,0,none⟩) EA∧EA.Nodup∧(∀ i∈EA,i∈b :: (fl ++ fr)∨w.heap.size≤i)∧AA (b :: (fl ++ fr)) w w2:=by
 obtain ⟨p,Ca,e,k1,k2,k3,k4⟩:=k
 obtain rfl:p'=p:=by injection e
 have x5:=lt_of_block hb
 have uR:=hr.nodes.lt
 simp only [List.nodup_cons,List.nodup_append,List.mem_append] at hnd
 obtain ⟨d1,d2,d3,d4⟩:=hnd
 have e1:b∉Ca:=fun hm=>by
  rcases k3 b hm with h | h
  ·exact d1 (.inl h)
  ·omega
 have e2:∀ i∈fr,i∉fl:=fun i hi hm=>d4 i hm i hi rfl
 have CD:=k4.block hb (fun h=>d1 (.inl h))
 have hN:AL w' [b]:=AL.cons CD (AL.nil w')
 refine ⟨b :: (Ca ++ fr),⟨b,Oq,p',pr,Ca,fr,rfl,rfl,Dv,k1.keep ho hN (fun i hi hm=>?_),(hr.keep k4 hl e2).keep ho hN (fun i hi hm=>?_)⟩,?_,?_,?_⟩
 ·obtain rfl:=List.mem_singleton.1 hm;exact e1 hi
 ·obtain rfl:=List.mem_singleton.1 hm;exact d1 (.inr hi)
 ·simp only [List.nodup_cons,List.nodup_append,List.mem_append]
  refine ⟨fun h=>?_,k2,d3,fun i hi j hj hij=>?_⟩
  ·rcases h with h | h
   ·exact e1 h
   ·exact d1 (.inr h)
  ·subst hij
   rcases k3 i hi with h | h
   ·exact d4 i h i hj rfl
   ·have:=uR i hj;omega
 ·intro i hi
  rcases List.mem_cons.1 hi with rfl | hi
  ·exact .inl List.mem_cons_self
  ·rcases List.mem_append.1 hi with hi | hi
   ·rcases k3 i hi with h | h
    ·exact .inl (List.mem_cons_of_mem _ (List.mem_append_left _ h))
    ·exact .inr h
   ·exact .inl (List.mem_cons_of_mem _ (List.mem_append_right _ hi))
 ·exact (k4.weaken (fun i hi=>List.mem_cons_of_mem _ (List.mem_append_left _ hi))).step ho (fun i hi => .inl (by obtain rfl:=List.mem_singleton.1 hi;exact List.mem_cons_self))
theorem Ma {w w' w2:World} {b:Nat} {y y2:Int} {av Oq:Value} {pl pr p':Option Addr} {c c2:Bool} {fl fr:List Nat} {l r':RB Int} (hb:w.heap[b]?=some (EO y av pl pr c)) (hl:Ad w l pl fl) (hr:AL w fr) (hnd:(b :: (fl ++ fr)).Nodup)
 (k:Cb w fr r' (.pointer p') w') (ho:AA [b] w' w2) (Dv:w2.heap[b]?=some (EO y2 Oq pl p' c2)) :
 ∃ EA,C8 w2 l y2 r' c2 (some ⟨b,0,none⟩) EA∧EA.Nodup∧(∀ i∈EA,i∈b :: (fl ++ fr)∨w.heap.size≤i)∧AA (b :: (fl ++ fr)) w w2:=by
 obtain ⟨p,Ca,e,k1,k2,k3,k4⟩:=k
 obtain rfl:p'=p:=by injection e
 have x5:=lt_of_block hb
 have hls:=hl.nodes.lt
 simp only [List.nodup_cons,List.nodup_append,List.mem_append] at hnd
 obtain ⟨d1,d2,d3,d4⟩:=hnd
 have e1:b∉Ca:=fun hm=>by
  rcases k3 b hm with h | h
  ·exact d1 (.inr h)
  ·omega
 have e2:∀ i∈fl,i∉fr:=fun i hi hm=>d4 i hi i hm rfl
 have CD:=k4.block hb (fun h=>d1 (.inr h))
 have hN:AL w' [b]:=AL.cons CD (AL.nil w')
 refine ⟨b :: (fl ++ Ca),⟨b,Oq,pl,p',fl,Ca,rfl,rfl,Dv,(hl.keep k4 hr e2).keep ho hN (fun i hi hm=>?_),k1.keep ho hN (fun i hi hm=>?_)⟩,?_,?_,?_⟩
 ·obtain rfl:=List.mem_singleton.1 hm;exact d1 (.inl hi)
 ·obtain rfl:=List.mem_singleton.1 hm;exact e1 hi
 ·simp only [List.nodup_cons,List.nodup_append,List.mem_append]
  refine ⟨fun h=>?_,d2,k2,fun i hi j hj hij=>?_⟩
  ·rcases h with h | h
   ·exact d1 (.inl h)
   ·exact e1 h
  ·subst hij
   rcases k3 i hj with h | h
   ·exact d4 i hi i h rfl
   ·have:=hls i hi;omega
 ·intro i hi
  rcases List.mem_cons.1 hi with rfl | hi
  ·exact .inl List.mem_cons_self
  ·rcases List.mem_append.1 hi with hi | hi
   ·exact .inl (List.mem_cons_of_mem _ (List.mem_append_left _ hi))
   ·rcases k3 i hi with h | h
    ·exact .inl (List.mem_cons_of_mem _ (List.mem_append_right _ h))
    ·exact .inr h
 ·exact (k4.weaken (fun i hi=>List.mem_cons_of_mem _ (List.mem_append_right _ hi))).step ho (fun i hi => .inl (by obtain rfl:=List.mem_singleton.1 hi;exact List.mem_cons_self))
def HI (a b:Int):Bool:=decide (a < b)
theorem FA (x:Int):∀ t:RB Int,(RB.ins HI t x).list.length=t.list.length+1
 | .nil=>rfl
 | .node l y r c=>by
   simp only [RB.ins]
   cases HI x y
   ·rw [cond_false,RB.DC];simp only [RB.list,List.length_append,List.length_cons,FA x r];omega
   ·rw [cond_true,RB.DC];simp only [RB.list,List.length_append,List.length_cons,FA x l];omega
theorem GG (tb:Nat) (p0:Option Addr) (n0:Int) (x:Int):∀ (t:RB Int) (p:Option Addr) (fp:List Nat) (w0:World) (hT:w0.heap[tb]?=some (C0 p0 n0)) (h:Ad w0 t p fp) (hnd:fp.Nodup) (hlen:t.list.length+1≤1000000),
 AM Tryz.prog 303 #[.pointer (some ⟨tb,0,none⟩),.pointer p,.int .i64 x] w0 fun v w'=>Cb w0 fp (RB.ins HI t x) v w'
 | .nil,p,fp,w0,hT,⟨hp,hf⟩,hnd,hlen=>by
   subst hp hf
   have hs:=(St.nil w0).AG hT (by simp)
   refine AQ Tryz.func303 Tryz.ntmps303 (k:=?_)
   refine Je ?_
   refine cl (h:=by exact Md x _) (k:=?_)
   rintro v w' ⟨h1,ho⟩;replace hs:=hs.AK ho;obtain ⟨qH,o7,rfl,_⟩:=id h1;obtain ⟨R1,hs,h1⟩:=(h1).read hs rfl
   refine vs (k:=?_)
   refine bx hs (k:=?_);intro b w hz hs
   refine Jc ?_
   refine AF ?_
   have hd:=(h1 _ (fun e he=>hs.ro e (by simp [he])))
   have ho:AA [] w0 _:=hs.AB [] (by simp [hT]) (by simp [D0])
   have hnew:=hs.new (b,true) (by simp) rfl
   exact ⟨_,[b],rfl,⟨b,_,none,none,[],[],rfl,rfl,hs.get At.head,hd,⟨rfl,rfl⟩,⟨rfl,rfl⟩⟩,by simp,fun k hk => .inr (by obtain rfl:=List.mem_singleton.1 hk;exact hnew),ho⟩
 | .node l y r c,p,fp,w0,hT,⟨b,av,pl,pr,fl,fr,hp,hf,hb,Ci,hl,hr⟩,hnd,hlen=>by
   subst hp hf
   have Dz:=CZ hT hb
   have hs:=((St.nil w0).AG hT (by simp)).AG hb (by simpa using Dz)
   simp only [RB.list,List.length_append,List.length_cons] at hlen
   refine AQ Tryz.func303 Tryz.ntmps303 (k:=?_)
   refine Jd ?_
   refine dr [] hs (k:=?_);intro hX w hs
   refine tks 0 9 ?_
   refine dt 9 hX (k:=?_)
   refine AY hs (h:=by exact RA x y _) (k:=?_);intro w' ho hs
   refine Jb ?_
   refine dn (k:=?_)
   refine tk 10 hX (k:=?_)
   refine en (k:=?_)
   generalize hq:decide (x < y)=q
   cases q
   ·have e:RB.ins HI (.node l y r c) x=RB.mend (.node l y (RB.ins HI r x) c):=by simp [RB.ins,HI,hq]
    rw [e]
    refine Jd ?_
    have AJ:AA [] w0 _:=hs.AB [] (by simp [hT,hb]) (by simp [D0])
    have CI:=head_keep hT AJ (AL.nil _)
    have Ec:=hl.keep AJ (AL.nil _) (by simp)
    have hrw:=hr.keep AJ (AL.nil _) (by simp)
    have Bv:=hs.get At.head
    refine cl (h:=by exact GG tb p0 n0 x r pr fr _ CI hrw (by simp only [List.nodup_cons,List.nodup_append] at hnd;exact hnd.2.2.1) om) (k:=?_)
    rintro v w' hk
    obtain ⟨p',hv⟩:∃ p',v = .pointer p':=by obtain ⟨p',_,hv,_⟩:=hk;exact ⟨p',hv⟩
    subst hv
    obtain ⟨_,_,_,_,_,_,k4⟩:=id hk
    have Bj:=head_keep CI k4 hrw.nodes
    have CD:=k4.block Bv (fun h=>by simp [h] at hnd)
    clear hs
    have hs:=((St.nil w').AG Bj (by simp)).AG CD (by simpa using Dz)
    repeat' (first|refine Sa ?_|(refine st hs (k:=?_);intro w hs)|fail)
    have AT:AA [b] w' _:=hs.AB [b] (by simp [Bj]) (by simp [D0])
    obtain ⟨EA,s1,s2,s3,s4⟩:=Ma Bv Ec hrw.nodes hnd hk AT (hs.get At.head)
    refine cl (h:=by exact GC tb p0 n0 _ y _ c _ _ _ (head_keep Bj AT (AL.cons CD (AL.nil _))) s1 s2 (by simp only [List.length_append,List.length_cons,FA];omega)) (k:=?_)
    rintro v w3 hm
    have hsz:=AJ.size
    have hm2:=hm.up ((AJ.weaken (G:=b :: (fl ++ fr)) (by simp)).step s4 (fun k hk => .inl hk)) (fun k hk=>by rcases s3 k hk with h | h;exact .inl h;exact .inr om)
    have hs:=St.nil w3
    refine Jc ?_
    refine AF ?_
    exact hm2
   ·have e:RB.ins HI (.node l y r c) x=RB.mend (.node (RB.ins HI l x) y r c):=by simp [RB.ins,HI,hq]
    rw [e]
    refine Je ?_
    have AJ:AA [] w0 _:=hs.AB [] (by simp [hT,hb]) (by simp [D0])
    have CI:=head_keep hT AJ (AL.nil _)
    have Ec:=hl.keep AJ (AL.nil _) (by simp)
    have hrw:=hr.keep AJ (AL.nil _) (by simp)
    have Bv:=hs.get At.head
    refine cl (h:=by exact GG tb p0 n0 x l pl fl _ CI Ec (by simp only [List.nodup_cons,List.nodup_append] at hnd;exact hnd.2.1) om) (k:=?_)
    rintro v w' hk
    obtain ⟨p',hv⟩:∃ p',v = .pointer p':=by obtain ⟨p',_,hv,_⟩:=hk;exact ⟨p',hv⟩
    subst hv
    obtain ⟨_,_,_,_,_,_,k4⟩:=id hk
    have Bj:=head_keep CI k4 Ec.nodes
    have CD:=k4.block Bv (fun h=>by simp [h] at hnd)
    clear hs
    have hs:=((St.nil w').AG Bj (by simp)).AG CD (by simpa using Dz)
    repeat' (first|refine Sa ?_|(refine st hs (k:=?_);intro w hs)|fail)
    have AT:AA [b] w' _:=hs.AB [b] (by simp [Bj]) (by simp [D0])
    obtain ⟨EA,s1,s2,s3,s4⟩:=Nl Bv Ec.nodes hrw hnd hk AT (hs.get At.head)
    refine cl (h:=by exact GC tb p0 n0 _ y _ c _ _ _ (head_keep Bj AT (AL.cons CD (AL.nil _))) s1 s2 (by simp only [List.length_append,List.length_cons,FA];omega)) (k:=?_)
    rintro v w3 hm
    have hsz:=AJ.size
    have hm2:=hm.up ((AJ.weaken (G:=b :: (fl ++ fr)) (by simp)).step s4 (fun k hk => .inl hk)) (fun k hk=>by rcases s3 k hk with h | h;exact .inl h;exact .inr om)
    have hs:=St.nil w3
    refine Jc ?_
    refine AF ?_
    exact hm2
def RB.has {α:Type} (lt:α→α→Bool) (x:α):RB α→Bool
 | .nil=>false
 | .node l y r _=>bif lt x y then RB.has lt x l else bif lt y x then RB.has lt x r else true
theorem RB.PN {α:Type} {lt:α→α→Bool} {S:α→Prop} (ho:Cp lt S) {x:α} (hx:S x):∀ t:RB α,RB.K0 lt t.list→(∀ z∈t.list,S z)→(RB.has lt x t=true↔x∈t.list)
 | .nil,_,_=>by simp [RB.has,RB.list]
 | .node l y r c,hs,hS=>by
   obtain ⟨h1,h2,h3,h4,h5⟩:=RB.IK hs
   simp only [RB.list,List.mem_append,List.mem_cons] at hS
   have hl:=RB.PN ho hx l h1 fun z hz=>hS z (.inl hz)
   have hr:=RB.PN ho hx r h2 fun z hz=>hS z (.inr (.inr hz))
   have hy:=hS y (.inr (.inl rfl))
   simp only [RB.has,RB.list,List.mem_append,List.mem_cons]
   cases hxy:lt x y
   ·cases LM:lt y x
    ·simp only [cond_false,true_iff]
     exact .inr (.inl (ho.tri x y hx hy hxy LM))
    ·simp only [cond_false,cond_true,hr]
     constructor
     ·exact fun h => .inr (.inr h)
     ·rintro (h | rfl | h)
      ·have:=RB.asym ho hx hy (h3 x h);rw [LM] at this;cases this
      ·rw [ho.irr _ hx] at LM;cases LM
      ·exact h
   ·simp only [cond_true,hl]
    constructor
    ·exact .inl
    ·rintro (h | rfl | h)
     ·exact h
     ·rw [ho.irr _ hx] at hxy;cases hxy
     ·have:=RB.asym ho hy hx (h4 x h);rw [hxy] at this;cases this
theorem Ow (tb:Nat) (p:Option Addr) (n:Int) (t:RB Int) (fp:List Nat) (x:Int) (w0:World) (hT:w0.heap[tb]?=some (C0 p n)) (h:Ad w0 t p fp) :
 AM Tryz.prog 302 #[.pointer (some ⟨tb,0,none⟩),.int .i64 x] w0 fun v w'=>v = .bool (RB.has HI x t)∧AA [] w0 w':=by
 have hs:=(St.nil w0).AG hT (by simp)
 refine AQ Tryz.func302 Tryz.ntmps302 (k:=?_)
 refine Jd ?_
 have AJ:AA [] w0 _:=hs.AB [] (by simp [hT]) (by simp [D0])
 refine BN (fun _:Unit=>[]) (fun _ w=>RB.has HI x t=false∧AA [] w0 w) ?_ ?_
 ·refine BD (fun (s:RB Int × Option Addr)=>[(0,.pointer (some ⟨tb,0,none⟩)),(1,.int .i64 x),(5,.pointer s.2)])
   (fun s w=>RB.has HI x s.1=RB.has HI x t∧AA [] w0 w∧∃ fp,Ad w0 s.1 s.2 fp)
   (fun s=>s.1.list.length) (t,p) Ab ⟨rfl,AJ,fp,h⟩ fun s env w ⟨h1,h2,EA,h3⟩=>?_
  clear hs
  obtain ⟨s,ps⟩:=s
  dsimp only at h1 h3 ⊢
  have CI:=h2.block hT (by simp)
  cases s with
  | nil =>
    obtain ⟨rfl,rfl⟩:=h3
    have hs:=St.nil w
    refine Jd ?_
    exact Ar () Ab ⟨h1.symm,h2.step (hs.AD rfl) (by simp)⟩
  | node l y r c =>
    obtain ⟨b,av,pl,pr,fl,fr,rfl,rfl,hb,Ci,hl,hr⟩:=h3
    have Bv:=h2.block hb (by simp)
    have Dz:=CZ hT hb
    have hs:=((St.nil w).AG CI (by simp)).AG Bv (by simpa using Dz)
    refine Je ?_
    refine dr [] hs (k:=?_);intro hX w hs
    refine tks 0 9 ?_
    refine dt 9 hX (k:=?_)
    refine AY hs (h:=by exact RA x y _) (k:=?_);intro w' ho hs
    refine Jb ?_
    refine dn (k:=?_)
    refine tk 10 hX (k:=?_)
    refine en (k:=?_)
    generalize hq:decide (x < y)=q
    simp only [RB.has,HI,hq] at h1
    cases q
    ·refine Jg ?_
     refine dr [] hs (k:=?_);intro hX w hs
     refine tks 0 9 ?_
     refine dt 9 hX (k:=?_)
     refine AY hs (h:=by exact RA y x _) (k:=?_);intro w' ho hs
     refine Jb ?_
     refine dn (k:=?_)
     refine tk 10 hX (k:=?_)
     refine en (k:=?_)
     generalize Gj:decide (y < x)=q2
     simp only [Gj,cond_false] at h1
     cases q2
     ·refine Jd ?_
      refine AF ?_
      exact ⟨by rw [← h1];rfl,h2.step (hs.AB [] (by simp [CI,Bv]) (by simp [D0])) (by simp)⟩
     ·refine Je ?_
      exact A2 (r,pr) (by simp only [RB.list,List.length_append,List.length_cons];omega) Ab ⟨h1,h2.step (hs.AB [] (by simp [CI,Bv]) (by simp [D0])) (by simp),_,hr⟩
    ·refine Je ?_
     exact A2 (l,pl) (by simp only [RB.list,List.length_append,List.length_cons];omega) Ab ⟨h1,h2.step (hs.AB [] (by simp [CI,Bv]) (by simp [D0])) (by simp),_,hl⟩
 ·rintro _ env w ⟨h1,h2⟩
  clear hs
  have hs:=St.nil w
  refine Ja ?_
  refine AF ?_
  exact ⟨by rw [h1];rfl,h2.step (hs.AD rfl) (by simp)⟩
theorem NP (l:RB Int) (x:Int) (r:RB Int) (c:Bool):∃ l' x' r' c',RB.EE (.node l x r c) = .node l' x' r' c':=by
 unfold RB.EE
 cases l with
 | nil=>exact ⟨_,_,_,_,rfl⟩
 | node a y b d =>
   cases r with
   | nil=>cases d <;> exact ⟨_,_,_,_,rfl⟩
   | node u z v e=>cases d <;> cases e <;> exact ⟨_,_,_,_,rfl⟩
theorem KN (l:RB Int) (x:Int) (r:RB Int) (c:Bool):∃ l' x' r' c',RB.mend (.node l x r c) = .node l' x' r' c':=by
 unfold RB.mend
 obtain ⟨l1,x1,r1,c1,e1⟩:=JJ l x r c
 obtain ⟨l2,x2,r2,c2,e2⟩:=Iz l1 x1 r1 c1
 rw [e1,e2]
 exact NP l2 x2 r2 c2
theorem Qj (x:Int) (t:RB Int):∃ l' x' r' c',RB.ins HI t x = .node l' x' r' c':=by
 cases t with
 | nil=>exact ⟨_,_,_,_,rfl⟩
 | node l y r c =>
   simp only [RB.ins]
   cases HI x y
   ·exact KN _ _ _ _
   ·exact KN _ _ _ _
theorem Ad.aS {w w':World} {F:List Nat} (ho:AA F w w') (hF:∀ b∈F,∀ cs fz,w.heap[b]?≠some (.cells cs 3 fz)):∀ {t:RB Int} {p:Option Addr} {fp:List Nat},Ad w t p fp→(∀ b∈fp,b∉F)→Ad w' t p fp
 | .nil,p,fp,h,_=>h
 | .node l x r c,p,fp,⟨b,av,pl,pr,fl,fr,h1,h2,h3,h4,h5,h6⟩,hd=>by
   subst h2
   refine ⟨b,av,pl,pr,fl,fr,h1,rfl,ho.block h3 (hd b List.mem_cons_self),?_,Ad.aS ho hF h5 fun k hk=>hd k (List.mem_cons_of_mem _ (List.mem_append_left _ hk)),
    Ad.aS ho hF h6 fun k hk=>hd k (List.mem_cons_of_mem _ (List.mem_append_right _ hk))⟩
   obtain ⟨ad,cap,rfl,pM⟩:=h4
   refine ⟨ad,cap,rfl,fun hn=>?_⟩
   obtain ⟨bb,off,cs,fz,g1,g2,g3,g4⟩:=pM hn
   exact ⟨bb,off,cs,fz,g1,g2,ho.block g3 (fun hm=>hF bb hm _ _ g3),g4⟩
theorem GK {w w':World} {b tb:Nat} {t:RB Int} {p p0:Option Addr} {n0:Int} {fp:List Nat} {cs:Array Value} {fz:Nat × Nat} (h:Ad w t p fp) (ho:AA [b,tb] w w') (hb:w.heap[b]?=some (.cells cs 325 fz)) (hT:w.heap[tb]?=some (C0 p0 n0)) (h1:b∉fp) (h2:tb∉fp):Ad w' t p fp:=by
 refine h.aS ho (fun k hk cs fz e=>?_) (fun k hk hm=>?_)
 ·simp only [List.mem_cons,List.not_mem_nil,or_false] at hk
  rcases hk with rfl | rfl
  ·rw [hb] at e;cases e
  ·rw [hT] at e;cases e
 ·simp only [List.mem_cons,List.not_mem_nil,or_false] at hm
  rcases hm with rfl | rfl
  ·exact h1 hk
  ·exact h2 hk
def C6 (w:World) (tb:Nat) (t:RB Int) (F:List Nat):Prop:=∃ p fp,F=tb :: fp∧w.heap[tb]?=some (C0 p t.list.length)∧Ad w t p fp∧fp.Nodup
def RB.insert (t:RB Int) (x:Int):RB Int:=bif RB.has HI x t then t else RB.blacken (RB.ins HI t x)
theorem Fi (tb:Nat) (t:RB Int) (F:List Nat) (x:Int) (w0:World) (h:C6 w0 tb t F) (hlen:t.list.length+1≤1000000) :
 AM Tryz.prog 290 #[.pointer (some ⟨tb,0,none⟩),.int .i64 x] w0 fun v w'=>v = .bool (!RB.has HI x t)∧∃ F',C6 w' tb (RB.insert t x) F'∧(∀ k∈F',k∈F∨w0.heap.size≤k)∧AA F w0 w':=by
 obtain ⟨p,fp,rfl,hT,ht,hnd⟩:=h
 have hs:=(St.nil w0).AG hT (by simp)
 refine AQ Tryz.func290 Tryz.ntmps290 (k:=?_)
 refine Ja ?_
 have AJ:AA [] w0 _:=hs.AB [] (by simp [hT]) (by simp [D0])
 refine AY hs (h:=by exact Ow tb p _ t fp x _ (hs.get At.head) (ht.keep AJ (AL.nil _) (by simp))) (k:=?_);intro w' ho hs
 unfold RB.insert
 generalize hq:RB.has HI x t=q
 cases q
 ·refine Jd ?_
  have AJ:AA [] w0 _:=hs.AB [] (by simp [hT]) (by simp [D0])
  have CI:=hs.get At.head
  refine cl (h:=by exact GG tb p _ x t p fp _ CI (ht.keep AJ (AL.nil _) (by simp)) hnd hlen) (k:=?_)
  rintro v w1 ⟨p',Ca,rfl,k1,k2,k3,k4⟩
  have Bj:=head_keep CI k4 (ht.keep AJ (AL.nil _) (by simp)).nodes
  obtain ⟨l',y,r',c,e⟩:=Qj x t
  have hl':=FA x t
  rw [e] at k1 hl' ⊢
  obtain ⟨b,av,pl,pr,fl,fr,rfl,rfl,hb,Ci,hl,hr⟩:=k1
  have Dz:=CZ Bj hb
  clear hs
  have hs:=((St.nil w1).AG Bj (by simp)).AG hb (by simpa using Dz)
  repeat' (first|refine Sa ?_|(refine st hs (k:=?_);intro w hs)|fail)
  have en:IntKind.i64.wrap ((t.list.length:Nat)+1)=((l'.list ++ y :: r'.list).length:Nat):=by
   have h1:(l'.list ++ y :: r'.list).length=t.list.length+1:=hl'
   rw [h1]
   exact KB om om
  rw [en] at hs
  refine AF ?_
  have AT:AA [b,tb] w1 _:=hs.AB [b,tb] (by simp) (by simp [D0])
  have hsz:=AJ.size
  have N6:b∉fl∧b∉fr:=by
   simp only [List.nodup_cons,List.mem_append,not_or] at k2
   exact k2.1
  have U5:tb∉fl∧tb∉fr:=⟨(fun h=>by obtain ⟨_,_,h⟩:=hl.nodes tb h;rw [Bj] at h;cases h),(fun h=>by obtain ⟨_,_,h⟩:=hr.nodes tb h;rw [Bj] at h;cases h)⟩
  have h2:=hs.get At.head
  have h3:=hs.get (At.tail At.head)
  have o1:AA (tb :: fp) w0 w1:=(AJ.weaken (by simp)).step k4 (fun k hk => .inl (List.mem_cons_of_mem _ hk))
  refine ⟨rfl,tb :: (b :: (fl ++ fr)),⟨_,_,rfl,h3,⟨b,av,pl,pr,fl,fr,rfl,rfl,h2,?_,?_,?_⟩,k2⟩,?_,?_⟩
  ·obtain ⟨ad,cap,rfl,hd⟩:=Ci
   refine ⟨ad,cap,rfl,fun hn=>?_⟩
   obtain ⟨bb,off,cs,fz,g1,g2,g3,g4⟩:=hd hn
   refine ⟨bb,off,cs,fz,g1,g2,AT.block g3 (fun hm=>?_),g4⟩
   simp only [List.mem_cons,List.not_mem_nil,or_false] at hm
   rcases hm with rfl | rfl
   ·rw [hb] at g3;cases g3
   ·rw [Bj] at g3;cases g3
  ·exact GK hl AT hb Bj N6.1 U5.1
  ·exact GK hr AT hb Bj N6.2 U5.2
  ·intro k hk
   rcases List.mem_cons.1 hk with rfl | hk
   ·exact .inl List.mem_cons_self
   ·rcases k3 k hk with h | h
    ·exact .inl (List.mem_cons_of_mem _ h)
    ·exact .inr om
  ·refine o1.step AT (fun k hk=>?_)
   simp only [List.mem_cons,List.not_mem_nil,or_false] at hk
   rcases hk with rfl | rfl
   ·rcases k3 k List.mem_cons_self with h | h
    ·exact .inl (List.mem_cons_of_mem _ h)
    ·exact .inr om
   ·exact .inl List.mem_cons_self
 ·refine Je ?_
  refine AF ?_
  have AJ:AA [] w0 _:=hs.AB [] (by simp [hT]) (by simp [D0])
  exact ⟨rfl,_,⟨p,fp,rfl,hs.get At.head,ht.keep AJ (AL.nil _) (by simp),hnd⟩,fun k hk => .inl hk,AJ.weaken (by simp)⟩
def places (l:List It):List Pt:=l.map It.p
def D8 (l:List It):List Pt:=l.flatMap fun a=>[a.p,a.d]
def spr (base:Int) (l:List It):Int:=(IP (sinces base (D8 l)) - IC (sinces base (places l))) % 18446744073709551616
def Iu (ps:List Pt):List Value:=(ps.map Pt.cells).flatten
theorem OH (a b:List Pt):Iu (a ++ b)=Iu a ++ Iu b:=by simp [Iu]
def qO (w0 w:World) (v1 v2:Value) (a b:List Pt):Prop:=∃ G1 G2,Ba w 62 3 v1 a.length (Iu a) G1∧Ba w 62 3 v2 b.length (Iu b) G2∧(∀ k∈G1,w0.heap.size≤k∧k∉G2)∧(∀ k∈G2,w0.heap.size≤k)
theorem Ni (a:List Pt):∀ x∈a.map Pt.cells,x.length=3:=fun x hx=>by obtain ⟨p,_,rfl⟩:=List.mem_map.1 hx;rfl
theorem Q4:∀ l:List It,(D8 l).length=2*l.length
 | []=>rfl
 | a :: l=>by have:=Q4 l;simp only [D8,List.flatMap_cons,List.length_append,List.length_cons,List.length_nil] at *;omega
theorem Rv (base:Int) (l:List It) (sl:Value) (hm:l.length≤1000000) (w0:World) (hP:Iw w0 sl l) :
 AM Tryz.prog 219 #[.int .u64 base,sl] w0 fun v w'=>v = .int .u64 (spr base l)∧AA [] w0 w':=by
 obtain ⟨ad,cap,rfl,hD⟩:=hP
 rw [List.length_map] at *
 have hs:=St.nil w0
 refine AQ Tryz.func219 Tryz.ntmps219 (k:=?_)
 refine Ja ?_
 refine BN (fun (s:Value × Value)=>[(0,.int .u64 base),(5,s.1),(6,s.2)]) (fun s w=>AA [] w0 w∧qO w0 w s.1 s.2 (places l) (D8 l)) ?_ ?_
 ·refine BD (fun (s:Nat × Value × Value)=>[(0,.int .u64 base),(5,s.2.1),(6,s.2.2),(13,.slice ad l.length cap),(14,.int .i64 (l.length:Nat)),(15,.int .i64 (s.1:Nat))])
   (fun s w=>s.1≤l.length∧AA [] w0 w∧qO w0 w s.2.1 s.2.2 (places (l.take s.1)) (D8 (l.take s.1))) (fun s=>l.length - s.1) (0,.slice none 0 0,.slice none 0 0) Ab ⟨Nat.zero_le _,hs.AD rfl,[],[],.inl ⟨rfl,rfl,rfl,rfl⟩,.inl ⟨rfl,rfl,rfl,rfl⟩,by simp,by simp⟩ fun s env wl ⟨hi,BS,hT⟩=>?_
  obtain ⟨i,v5,v6⟩:=s
  simp only at hi hT
  clear hs
  have hs:=St.nil wl
  repeat' (first|refine Sa ?_|refine Au rfl (fun hc=>?_) fun hc=>?_|fail)
  ·have hlt:i < l.length:=by omega
   obtain ⟨b,off,cs,fz,rfl,_,hb,hcs⟩:=hD (fun h=>by simp at h;subst h;cases hlt)
   have hpk:=hcs i (It.cells l[i]) (by rw [List.getElem?_map,List.getElem?_eq_getElem hlt];rfl)
   have ei:=D2 (m:=l.length) hlt om
   have e1:places (l.take (i+1))=places (l.take i) ++ [l[i].p]:=by rw [C4 hlt];unfold places;rw [List.map_append];rfl
   have e2:D8 (l.take (i+1))=D8 (l.take i) ++ [l[i].p,l[i].d]:=by rw [C4 hlt];unfold D8;rw [List.flatMap_append];rfl
   have n1:(places (l.take i)).length=i:=by simp [places];omega
   have n2:(D8 (l.take i)).length=2*i:=by rw [Q4];simp;omega
   generalize l[i]=q at *
   generalize places (l.take i)=A at *
   generalize D8 (l.take i)=B at *
   refine ix (h0:=(by omega)) (h1:=(by omega)) (k:=?_)
   refine KH (BS.block hb (by simp)) hpk (k:=?_)
   refine al hs (k:=?_);intro b8 w8 hz hs
   repeat' (first|refine Nx.h ?_|(refine AU hs (k:=?_);intro w hs)|fail)
   obtain ⟨G1,G2,h1,h2,hd,hn⟩:=hT
   have LR:=h1.lt
   have hl2:=h2.lt
   refine dr [] hs (k:=?_);intro hX w hs
   refine tks 0 3 ?_
   refine tks 5 5 ?_
   refine kF 10 29 (q.p.cells ++ q.d.cells) hs (k:=?_);intro f X w hp;have hs:=hp.st
   apply BH 3 10 (f:=f) (X:=X) hX hp;exact rfl;exact rfl;(first | (apply AR AI;exact rfl) | (apply EG AI;exact rfl;exact rfl;exact rfl;exact rfl;exact rfl;(intro X;((repeat (first | exact CU.nil | (apply CU.one;exact rfl;(conv=>lhs;whnf);exact rfl;(repeat (first | exact Ai.nil | apply Ai.skip | apply Ai.cons))) | (apply CU.agg;exact rfl;exact rfl;exact rfl;(repeat (first | exact Ai.nil | apply Ai.skip | apply Ai.cons)))))))));kernel_rfl;kernel_rfl;kernel_rfl;kernel_rfl;(intro X Y;(repeat (first | exact A4 | refine A3 ?_ (by exact rfl))));(intro w' hs;first|exact AH hs.hold|exact AH hs.hold.tail|exact A6 rfl);intro f X w hp;have hs:=hp.st
   refine vI hp (k:=?_);intro b3 w3 _ hp;replace hs:=hp.st
   refine Jb ?_
   refine dn (k:=?_)
   apply BH 4 10 (f:=f) (X:=X) hX hp;exact rfl;exact rfl;(first | (apply AR AI;exact rfl) | (apply EG AI;exact rfl;exact rfl;exact rfl;exact rfl;exact rfl;(intro X;((repeat (first | exact CU.nil | (apply CU.one;exact rfl;(conv=>lhs;whnf);exact rfl;(repeat (first | exact Ai.nil | apply Ai.skip | apply Ai.cons))) | (apply CU.agg;exact rfl;exact rfl;exact rfl;(repeat (first | exact Ai.nil | apply Ai.skip | apply Ai.cons)))))))));kernel_rfl;kernel_rfl;kernel_rfl;kernel_rfl;(intro X Y;(repeat (first | exact A4 | refine A3 ?_ (by exact rfl))));(intro w' hs;first|exact AH hs.hold|exact AH hs.hold.tail|exact A6 rfl);intro f X w hp;have hs:=hp.st
   have GR:=hs.get At.head
   have k1:=h1.keep hs.only (by simp [olds,D0])
   refine CM AI rfl rfl rfl rfl rfl rfl rfl (by decide) (lit_cells (news:=q.p.cells) GR) (by simp [Value.oneCell']) k1 om om ?_
   intro Og w4 ⟨G1',h3,QJ⟩ Ao
   have N2:=hs.size
   have hp:=hp.bI Ao LR rfl rfl (J:=fun w=>Ba w 62 3 Og (A.length+1) (Iu A ++ q.p.cells) G1') h3 (fun _ _ ho h=>h.keep ho (by simp))
   replace hs:=hp.st
   refine Jb ?_
   refine dn (k:=?_)
   apply B9 10 (f:=f) (X:=X) hX hp;exact rfl;(first | (apply AR AI;exact rfl) | (apply EG AI;exact rfl;exact rfl;exact rfl;exact rfl;exact rfl;(intro X;((repeat (first | exact CU.nil | (apply CU.one;exact rfl;(conv=>lhs;whnf);exact rfl;(repeat (first | exact Ai.nil | apply Ai.skip | apply Ai.cons))) | (apply CU.agg;exact rfl;exact rfl;exact rfl;(repeat (first | exact Ai.nil | apply Ai.skip | apply Ai.cons)))))))));kernel_rfl;kernel_rfl;(intro X Y;(repeat (first | exact A4 | refine A3 ?_ (by exact rfl))));(intro w' hs;first|exact AH hs.hold|exact AH hs.hold.tail|exact A6 rfl);intro b w hI hs
   refine dt 11 hX (k:=?_)
   have aAs:=hs.get At.head
   have k2:=h2.keep hs.only (fun k hk hm=>by simp [olds,D0] at hm;exact (hd k hm).2 hk)
   refine CM AI rfl rfl rfl rfl rfl rfl rfl (by decide) (lit_cells (news:=q.p.cells ++ q.d.cells) aAs) (by simp [Value.oneCell']) k2 om om ?_
   intro v6' w6 ⟨G2',h4,Qc⟩ Ak
   have hz5:=hs.size
   have h5:=hI.keep Ak (fun k hk hm=>by
    rcases QJ k hk with h | h
    ·exact (hd k h).2 hm
    ·have:=hl2 k hm;omega)
   have XO:=hI.lt
   replace hs:=hs.bI Ak hl2 rfl rfl
   refine Jb ?_
   refine dn (k:=?_)
   refine tks 12 2 ?_
   refine en (k:=?_)
   refine Ja ?_
   have jC:=hs.size
   have Pj:=BS.size
   refine A2 (i+1,Og,v6') (by show l.length - (i+1) < l.length - i;omega) (by (repeat (first | exact Ac | (apply A5;first | exact rfl | exact congrArg (Value.int .i64) ei)))) ⟨by show i+1≤l.length;omega,BS.step (hs.Bt.Bt.Bt.only) ?_,G1',G2',?_,?_,?_,?_⟩
   ·intro k hk
    simp [olds,D0] at hk
    rcases hk with hk | hk
    ·exact .inr (hn k hk)
    ·exact .inr (hd k hk).1
   ·simp only [e1];rw [OH,List.length_append];exact h5
   ·simp only [e2];rw [OH,List.length_append];exact h4
   ·intro k hk
    have h7:=XO k hk
    refine ⟨?_,fun hm=>?_⟩
    ·rcases QJ k hk with h | h
     ·exact (hd k h).1
     ·omega
    ·rcases Qc k hm with h | h
     ·rcases QJ k hk with h' | h'
      ·exact (hd k h').2 h
      ·have:=hl2 k h;omega
     ·omega
   ·intro k hk
    rcases Qc k hk with h | h
    ·exact hn k h
    ·omega
  ·have M0:¬ ((i:Int) < l.length):=hc
   have e:i=l.length:=by omega
   subst e
   rw [List.take_length] at hT
   exact Ar (v5,v6) Ab ⟨BS,hT⟩
 ·rintro ⟨v5,v6⟩ env w ⟨BS,G1,G2,h1,h2,hd,hn⟩
  simp only at h1 h2
  clear hs
  have hs:=St.nil w
  have nP:(places l).length≤1000000:=by simp [places];exact hm
  have nB:(D8 l).length≤2000000:=by rw [Q4];omega
  have l1:=h1.ls rfl (by simp) (Ni _)
  have l2:=h2.ls rfl (by simp) (Ni _)
  have m1:=sG (l:=sinces base (places l)) (fun d hd=>by obtain ⟨p,_,rfl⟩:=List.mem_map.1 hd;exact qG _ _)
  have m2:=rF (l:=sinces base (D8 l)) (fun d hd=>by obtain ⟨p,_,rfl⟩:=List.mem_map.1 hd;exact qG _ _)
  refine Ja ?_
  refine AY hs (h:=by exact RW base (places l) v5 om _ l1) (k:=?_);intro w' ho hs;refine Ja ?_
  refine AY hs (h:=by exact RW base (D8 l) v6 om _ (l2.only (hs.AD rfl))) (k:=?_);intro w' ho hs;refine Ja ?_
  refine AF ?_
  refine ⟨?_,BS.trans (hs.AD rfl)⟩
  refine Mt ?_
  unfold spr
  obtain ⟨a1,a2⟩:=m1
  obtain ⟨a3,a4⟩:=m2
  simp only [wrap_u64]
  omega
end Go.Proofs.Q0
namespace Go.Proofs.Q0
open Go Go.RowKit
def Fl (w:World):RB Int→Option Addr→Prop
 | .nil,p=>p=none
 | .node l x r c,p=>∃ b av pl pr,p=some ⟨b,0,none⟩∧w.heap[b]?=some (EO x av pl pr c)∧Fl w l pl∧Fl w r pr
theorem Ad.shape {w:World}:∀ {t:RB Int} {p:Option Addr} {fp:List Nat},Ad w t p fp→Fl w t p
 | .nil,_,_,⟨h,_⟩=>h
 | .node l x r c,_,_,⟨b,av,pl,pr,fl,fr,h1,h2,h3,h4,h5,h6⟩=>⟨b,av,pl,pr,h1,h3,h5.shape,h6.shape⟩
def gZ (w:World) (F:List Nat):Prop:=∀ b∈F,∀ cs fz,w.heap[b]?≠some (.cells cs 325 fz)
theorem Fl.keep {w w':World} {F:List Nat} (ho:AA F w w') (hF:gZ w F):∀ {t:RB Int} {p:Option Addr},Fl w t p→Fl w' t p
 | .nil,_,h=>h
 | .node l x r c,_,⟨b,av,pl,pr,h1,h3,h5,h6⟩=>⟨b,av,pl,pr,h1,ho.block h3 (fun hm=>hF b hm _ _ h3),Fl.keep ho hF h5,Fl.keep ho hF h6⟩
theorem Ba.Nh {w:World} {v:Value} {n:Nat} {xs:List Value} {G:List Nat} (h:Ba w 3 1 v n xs G):gZ w G:=by
 rcases h with ⟨_,_,_,rfl⟩ | ⟨g,cap,cur,_,rfl,_,_,_,_,hg⟩
 ·intro b hb;cases hb
 ·intro b hb cs fz e
  obtain rfl:=List.mem_singleton.1 hb
  rw [hg] at e;cases e
theorem Ba.dat {w:World} {v:Value} {xs:List Int} {G:List Nat} (h:Ba w 3 1 v xs.length (ints xs) G):HC w v xs:=by
 rcases h with ⟨rfl,h2,h3,h4⟩ | ⟨g,cap,cur,rfl,rfl,h3,h4,h5,h6,hg⟩
 ·obtain rfl:=List.length_eq_zero_iff.1 h2
  exact ⟨none,0,rfl,fun h=>absurd rfl h⟩
 ·refine ⟨_,cap,rfl,fun _=>⟨g,0,cur,(0,0),rfl,h3,hg,fun i d hi=>?_⟩⟩
  have h7:(ints xs)[i]?=some (.int .i64 d):=by simp [ints,hi]
  rw [← h6,List.getElem?_take] at h7
  rw [Nat.zero_add]
  split at h7
  ·exact h7
  ·cases h7
end Go.Proofs.Q0
namespace Go.Proofs.Q0
open Go Go.RowKit
attribute [local irreducible] XS XC XA AX AO A7 A0 AZ A8 Aa AV SE
theorem RB.NI {α:Type}:∀ t:RB α,t.depth≤t.list.length
 | .nil=>Nat.le_refl _
 | .node l x r c=>by
   have:=RB.NI l
   have:=RB.NI r
   simp only [RB.depth,RB.list,List.length_append,List.length_cons]
   omega
theorem Ol:∀ (t:RB Int) (p:Option Addr) (w0:World) (h:Fl w0 t p) (hlen:t.list.length≤1000000),AM Tryz.prog 305 #[.pointer p] w0 fun v w'=>v = .int .i64 (t.depth:Nat)∧AA [] w0 w'
 | .nil,p,w0,h,hlen=>by
   have hp:p=none:=h
   subst hp
   have hs:=St.nil w0
   refine AQ Tryz.func305 Tryz.ntmps305 (k:=?_)
   refine Je ?_
   refine AF ?_
   exact ⟨rfl,hs.AD rfl⟩
 | .node l x r c,p,w0,⟨b,av,pl,pr,hp,hb,hl,hr⟩,hlen=>by
   subst hp
   simp only [RB.list,List.length_append,List.length_cons] at hlen
   have hs:=(St.nil w0).AG hb (by simp)
   refine AQ Tryz.func305 Tryz.ntmps305 (k:=?_)
   refine Jd ?_
   refine dr [] hs (k:=?_);intro hX w hs
   refine tks 0 4 ?_
   refine tks 5 4 ?_
   refine dt 4 hX (k:=?_)
   refine AY hs (h:=by exact Ol l pl _ (hl.keep (hs.AB [] (by simp [hb]) (by simp [D0])) (fun b h=>by cases h)) om) (k:=?_);intro w' ho hs
   refine Jb ?_
   refine dn (k:=?_)
   refine dt 9 hX (k:=?_)
   refine AY hs (h:=by exact Ol r pr _ (hr.keep (hs.AB [] (by simp [hb]) (by simp [D0])) (fun b h=>by cases h)) om) (k:=?_);intro w' ho hs
   refine Jb ?_
   refine dn (k:=?_)
   refine tks 10 3 ?_
   refine en (k:=?_)
   refine Jb ?_
   refine AF ?_
   refine ⟨?_,hs.AB [] (by simp [hb]) (by simp [D0])⟩
   have h1:=RB.NI l
   have h2:=RB.NI r
   refine congrArg (Value.int .i64) ?_
   have e:(if (r.depth:Int) > (l.depth:Int) then (r.depth:Int) else (l.depth:Int))=((max l.depth r.depth:Nat):Int):=by split <;> omega
   show IntKind.i64.wrap (1+(if (r.depth:Int) > (l.depth:Int) then (r.depth:Int) else (l.depth:Int)))=((1+max l.depth r.depth:Nat):Int)
   rw [e]
   rw [KB om om]
   omega
theorem X6 (tb:Nat) (t:RB Int) (F:List Nat) (w0:World) (h:C6 w0 tb t F) (hlen:t.list.length≤1000000) :
 AM Tryz.prog 292 #[.pointer (some ⟨tb,0,none⟩)] w0 fun v w'=>v = .int .i64 (t.depth:Nat)∧AA [] w0 w':=by
 obtain ⟨p,fp,rfl,hT,ht,hnd⟩:=h
 have hs:=(St.nil w0).AG hT (by simp)
 refine AQ Tryz.func292 Tryz.ntmps292 (k:=?_)
 refine Jd ?_
 refine AY hs (h:=by exact Ol t p _ (ht.shape.keep (hs.AB [] (by simp [hT]) (by simp [D0])) (fun b h=>by cases h)) hlen) (k:=?_);intro w' ho hs;refine Jc ?_
 refine AF ?_
 exact ⟨rfl,hs.AB [] (by simp [hT]) (by simp [D0])⟩
theorem ME (w0:World):AM Tryz.prog 298 #[.func (.func 299) #[] #[],.func (.func 300) #[] #[],.func (.func 301) #[] #[]] w0 fun v w'=>∃ tb F,v = .pointer (some ⟨tb,0,none⟩)∧C6 w' tb .nil F∧(∀ k∈F,w0.heap.size≤k)∧AA [] w0 w':=by
 have hs:=St.nil w0
 refine AQ Tryz.func298 Tryz.ntmps298 (k:=?_)
 refine Ag ?_
 refine Al ?_
 refine vs (k:=?_)
 refine XS.nil ?_
 refine Dw ?_
 refine Ag ?_
 refine Al ?_
 refine vs (k:=?_)
 refine vs (k:=?_)
 refine vs (k:=?_)
 refine vs (k:=?_)
 refine bx hs (k:=?_);intro b w hz hs
 refine Jc ?_
 refine AF ?_
 have hnew:=hs.new (b,true) (by simp) rfl
 exact ⟨b,[b],rfl,⟨none,[],rfl,hs.get At.head,⟨rfl,rfl⟩,List.nodup_nil⟩,fun k hk=>by obtain rfl:=List.mem_singleton.1 hk;exact hnew,hs.AD rfl⟩
theorem gR (w0:World):AM Tryz.prog 289 #[] w0 fun v w'=>∃ tb F,v = .pointer (some ⟨tb,0,none⟩)∧C6 w' tb .nil F∧(∀ k∈F,w0.heap.size≤k)∧AA [] w0 w':=by
 have hs:=St.nil w0
 refine AQ Tryz.func289 Tryz.ntmps289 (k:=?_)
 refine Ja ?_
 refine cl (h:=by exact ME _) (k:=?_)
 rintro v w' ⟨tb,F,rfl,h1,h2,h3⟩
 replace hs:=hs.AK h3
 refine Jc ?_
 refine AF ?_
 exact ⟨tb,F,rfl,h1,h2,hs.AD rfl⟩
end Go.Proofs.Q0
