import Derived.Test.YtjdkpogkhecijaaSl
set_option linter.unusedVariables false
namespace Go.Proofs.Ytjdkpogkhecijaa
section
variable {w0 w : World} {P A B C D E F G I J K : HP} {R : List HP} {h : Hp}
theorem Sep.at8 (H : Sep (A :: B :: C :: D :: E :: F :: G :: I :: P :: R) h) : Sep (P :: A :: B :: C :: D :: E :: F :: G :: I :: R) h := Sep.swap (Sep.cons (fun _ => Sep.at7) H)
theorem Sep.at9 (H : Sep (A :: B :: C :: D :: E :: F :: G :: I :: J :: P :: R) h) : Sep (P :: A :: B :: C :: D :: E :: F :: G :: I :: J :: R) h := Sep.swap (Sep.cons (fun _ => Sep.at8) H)
theorem Sep.at10 (H : Sep (A :: B :: C :: D :: E :: F :: G :: I :: J :: K :: P :: R) h) : Sep (P :: A :: B :: C :: D :: E :: F :: G :: I :: J :: K :: R) h := Sep.swap (Sep.cons (fun _ => Sep.at9) H)
theorem Hs.at8 (H : Hs w0 w (A :: B :: C :: D :: E :: F :: G :: I :: P :: R)) : Hs w0 w (P :: A :: B :: C :: D :: E :: F :: G :: I :: R) := H.conseq fun _ => Sep.at8
theorem Hs.at9 (H : Hs w0 w (A :: B :: C :: D :: E :: F :: G :: I :: J :: P :: R)) : Hs w0 w (P :: A :: B :: C :: D :: E :: F :: G :: I :: J :: R) := H.conseq fun _ => Sep.at9
theorem Hs.at10 (H : Hs w0 w (A :: B :: C :: D :: E :: F :: G :: I :: J :: K :: P :: R)) : Hs w0 w (P :: A :: B :: C :: D :: E :: F :: G :: I :: J :: K :: R) := H.conseq fun _ => Sep.at10
end
end Go.Proofs.Ytjdkpogkhecijaa
