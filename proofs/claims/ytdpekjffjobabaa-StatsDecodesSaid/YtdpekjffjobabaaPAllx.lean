/- The Go functions that the laws reach, as Lean functions, and that each call comes to what its function says. Written by a program of this session (a turned copy of the kit's print). No condition beyond those that each theorem states. -/
import Derived.Test.YtdpekjffjobabaaPAllx0
import Derived.Test.YtdpekjffjobabaaPAllx1
import Derived.Test.YtdpekjffjobabaaPAllx2
import Derived.Test.YtdpekjffjobabaaPAllx3
import Derived.Test.YtdpekjffjobabaaPAllx4
import Derived.Test.YtdpekjffjobabaaPAllx5
import Derived.Test.YtdpekjffjobabaaPAllx6
import Derived.Test.YtdpekjffjobabaaPAllx7
import Derived.Test.YtdpekjffjobabaaPAllx8
import Derived.Test.YtdpekjffjobabaaPAllx9
import Derived.Test.YtdpekjffjobabaaPAllx10
import Derived.Test.YtdpekjffjobabaaPAllx11
import Derived.Test.YtdpekjffjobabaaPAllx12
import Derived.Test.YtdpekjffjobabaaPAllx13
namespace Go.Proofs.Ytdpekjffjobabaa.PAll
open Go.RowKit Go.Proofs.YtdpekjffjobabaaW.PrintWords Go.Proofs.YtdpekjffjobabaaW.PrintLast Go.Proofs.YtdpekjffjobabaaW.PrintMore
attribute [local go_sem] max2_int min2_int max_two min_two max_three min_three max_four min_four   -- for this text's walks alone
set_option linter.unusedVariables false
set_option linter.unusedSimpArgs false

end Go.Proofs.Ytdpekjffjobabaa.PAll
